import Derived.Test.YtaiemagmkfjklaaPool5
namespace Go.Proofs.Ytaiemagmkfjklaa
open Go.RowKit Go.Shelf
set_option linter.unusedVariables false
set_option linter.unusedSimpArgs false
/-! pools: the methods that turn nothing -/
theorem eq_key (a b c d : Int) (w : World) : (binOp .eql 54 (.agg #[.int .i64 a, .int .i64 b]) (.agg #[.int .i64 c, .int .i64 d])).run Try.prog w = .ok (.bool (a == c && b == d)) w := by
  go_simp
  by_cases h1 : a = c <;> by_cases h2 : b = d <;> simp [h1, h2]
set_option maxHeartbeats 1000000 in
theorem hasPred (w : World) (S : List Nat) (kb : Nat) (c s : Int) (hb : Blk w kb #[.int .i64 c, .int .i64 s] 54) (hk : kb ∉ S) :
    PredOn w S 26 #[.pointer (some ⟨kb, 0, none⟩)] (fun r => r.c == c && r.s == s) := by
  intro w1 x k1 hx
  obtain ⟨xc, xs, xb⟩ := x
  have hb1 := hb.keep k1 hk
  have hlt := hb1.lt
  have bn := Blk.new w1 #[.int .i64 xc, .int .i64 xs, .string xb] 24
  have hb2 : Blk (w1.alloc (.cells #[.int .i64 xc, .int .i64 xs, .string xb] 24)) kb _ _ := hb1.alloc (.cells #[.int .i64 xc, .int .i64 xs, .string xb] 24)
  have q0 := hb2.cell 0
  have q1 := hb2.cell 1
  simp only [List.getElem?_toArray, List.getElem?_cons_zero, List.getElem?_cons_succ] at q0 q1
  show Calls Try.prog _ #[.agg #[.int .i64 xc, .int .i64 xs, .string xb], .pointer (some ⟨kb, 0, none⟩)] w1 _
  dsimp only
  go_enter Try.func26, Try.ntmps26
  go_wp2_with fail
  refine wp_region_class (C := fun w' => Keep [] w1 w' ∧ w'.cell? ⟨w1.heap.size, 0, none⟩ = some (.int .i64 xc) ∧ w'.cell? ⟨w1.heap.size, 1, none⟩ = some (.int .i64 xs) ∧ w'.cell? ⟨w1.heap.size, 2, none⟩ = some (.string xb) ∧ w'.cell? ⟨kb, 0, none⟩ = some (.int .i64 c) ∧ w'.cell? ⟨kb, 1, none⟩ = some (.int .i64 s)) (by kernel_rfl) (by kernel_rfl) ⟨((Keep.refl _ _).alloc _).drew, bn.cell 0, bn.cell 1, bn.cell 2, q0, q1⟩ ?_
  iterate 3 (first
    | go_big_quiet_skip
    | (go_big_quiet_want; first
      | (go_big_quiet_op; go_big_quiet_on)
      | (refine quiet_run (v := ?_) ?_ ?_; (rotate_left; (intro w' hC; (try dsimp only at hC); go_split_ands; go_simp; with_reducible rfl); simp only [Act.put, List.setIfInBounds_toArray, List.set_cons_zero, List.set_cons_succ]; go_big_quiet_on))
      | (refine quiet_call (v := ?_) (f := ?_) (args := ?_) ?_ ?_ ?_; (rotate_left; rotate_left; rotate_left; (intro w' hC; (try dsimp only at hC); go_split_ands; go_simp; (refine ⟨?_, ?_⟩ <;> with_reducible rfl)); (intro w' hC; first | (go_at_call 21; refine (keyOf_call ⟨xc, xs, xb⟩ _).mono ?_; rintro e w8 ⟨rfl, kq⟩; refine ⟨?_, Keep.trans hC.1 kq, kq.cell (by simp) hC.2.1, kq.cell (by simp) hC.2.2.1, kq.cell (by simp) hC.2.2.2.1, kq.cell (by simp) hC.2.2.2.2.1, kq.cell (by simp) hC.2.2.2.2.2⟩; with_reducible rfl)); simp only [Act.put, List.setIfInBounds_toArray, List.set_cons_zero, List.set_cons_succ]; go_big_quiet_on))))
  go_big_quiet_want
  refine quiet_run (v := .bool (xc == c && xs == s)) ?_ ?_
  · intro w' hC
    go_simp
    by_cases h1 : xc = c <;> by_cases h2 : xs = s <;> simp [h1, h2]
  simp only [Act.put, List.setIfInBounds_toArray, List.set_cons_zero, List.set_cons_succ]
  go_big_quiet_on
  iterate 1 (first
    | go_big_quiet_skip
    | (go_big_quiet_want; first
      | (go_big_quiet_op; go_big_quiet_on)
      | (refine quiet_run (v := ?_) ?_ ?_; (rotate_left; (intro w' hC; (try dsimp only at hC); go_split_ands; go_simp; with_reducible rfl); simp only [Act.put, List.setIfInBounds_toArray, List.set_cons_zero, List.set_cons_succ]; go_big_quiet_on))
      | (refine quiet_call (v := ?_) (f := ?_) (args := ?_) ?_ ?_ ?_; (rotate_left; rotate_left; rotate_left; (intro w' hC; (try dsimp only at hC); go_split_ands; go_simp; (refine ⟨?_, ?_⟩ <;> with_reducible rfl)); (intro w' hC; fail); simp only [Act.put, List.setIfInBounds_toArray, List.set_cons_zero, List.set_cons_succ]; go_big_quiet_on))))
  refine wpQuiet_nil ?_
  intro w2 hC2
  have kk := hC2.1
  clear hC2
  go_wp2
  go_ret
  exact ⟨rfl, kk⟩
theorem sliceOf_keep {w w' : World} {S : List Nat} {F : Nat → Prop} {v : Value} {xs : List Req} (h : SliceOf Rep.req w F v xs) (k : Keep S w w') (hF : ∀ i, i ∈ S → ¬ F i) : SliceOf Rep.req w' F v xs := h.keep (k.at F hF)
def hasP (c s : Int) (r : Req) : Bool := r.c == c && r.s == s
set_option maxHeartbeats 1000000 in
theorem has_call (w : World) (F : Nat → Prop) (p n : Nat) (ws dn : List Req) (c s : Int) (hp : PoolAt w F p n ws dn) (hl : ws.length ≤ 1000000) :
    Calls Try.prog 13 #[.pointer (some ⟨p, 0, none⟩), .int .i64 c, .int .i64 s] w fun e w' => e = .returned (.bool (hasR ws c s)) ∧ Keep [] w w' := by
  obtain ⟨V, mb, hb, ho, -⟩ := hp
  obtain ⟨A, cap, rfl, hl'⟩ := ho.form
  have hs := ho.slice (by rw [M47_eq]; omega)
  have kn : Keep [] w (w.alloc (.cells #[.int .i64 c, .int .i64 s] 54)) := (Keep.refl _ _).alloc _
  have bk := Blk.new w #[.int .i64 c, .int .i64 s] 54
  have eg : ∀ args w, (callFunc 26 args).run Try.prog w = .ok (.enter 26 args) w := enters_of Try.func26 (by kernel_rfl) rfl
  have hC := containsFunc_call A ws cap _ 26 #[.pointer (some ⟨w.heap.size, 0, none⟩)] (fun r => r.c == c && r.s == s) _ (sliceOf_keep hs kn (by simp)) (hasPred _ [] w.heap.size c s bk (by simp)) eg
  have hmf : ∀ (fn : Fn) (first cap : Array Value) (w : World), (Instr.makeFunc fn first cap).run Try.prog w = .ok (.func fn first cap) w := fun _ _ _ _ => rfl
  have hb2 := hb.alloc (.cells #[.int .i64 c, .int .i64 s] 54)
  have q0 := hb2.cell 0
  have q1 := hb2.cell 1
  simp only [List.getElem?_toArray, List.getElem?_cons_zero, List.getElem?_cons_succ] at q0 q1
  clear bk hs ho eg
  unfold hasR
  go_enter Try.func13, Try.ntmps13
  go_wp2_with (go_at_call 25; refine hC.mono ?_; rintro e w' ⟨rfl, kq⟩)
  go_ret
  exact ⟨rfl, kn.trans kq⟩
theorem len_call (w : World) (F : Nat → Prop) (p n : Nat) (ws dn : List Req) (hp : PoolAt w F p n ws dn) :
    Calls Try.prog 14 #[.pointer (some ⟨p, 0, none⟩)] w fun e w' => e = .returned (.int .i64 ws.length) ∧ Keep [] w w' := by
  obtain ⟨V, mb, hb, ho, -⟩ := hp
  obtain ⟨A, cap, rfl, hl'⟩ := ho.form
  have q0 := hb.cell 0
  have q1 := hb.cell 1
  simp only [List.getElem?_toArray, List.getElem?_cons_zero, List.getElem?_cons_succ] at q0 q1
  clear ho
  go_enter Try.func14, Try.ntmps14
  go_wp2
  go_ret
  exact ⟨rfl, Keep.refl _ _⟩
theorem all_call (w : World) (F : Nat → Prop) (p n : Nat) (ws dn : List Req) (hp : PoolAt w F p n ws dn) (hl : ws.length ≤ 1000000) :
    Calls Try.prog 18 #[.pointer (some ⟨p, 0, none⟩)] w fun e w' => ∃ B m cap, e = .returned (.slice B m cap) ∧ Own Rep.req 24 w' 0 (.slice B m cap) ws ∧ Keep [] w w' ∧ ∀ i, (Value.slice B m cap).ownBlock = some i → w.heap.size ≤ i := by
  obtain ⟨V, mb, hb, ho, -⟩ := hp
  obtain ⟨A, cap, rfl, hl'⟩ := ho.form
  have hC := clone_call A ws cap _ w (ho.slice (by rw [M47_eq]; omega)) hl
  have q0 := hb.cell 0
  have q1 := hb.cell 1
  simp only [List.getElem?_toArray, List.getElem?_cons_zero, List.getElem?_cons_succ] at q0 q1
  clear ho
  go_enter Try.func18, Try.ntmps18
  go_wp2_with (go_at_call 28; refine hC.mono ?_; rintro e w' ⟨B, m, cap', rfl, h1, h2, h3⟩)
  go_ret
  exact ⟨B, m, cap', rfl, h1, h2, h3⟩
def rightReq (r : Req) : Bool := decide (0 ≤ r.c) && decide (r.c < 4) && decide (1 ≤ r.s) && decide (r.s ≤ 2147483647) && decide ((r.b.size : Int) ≤ 40)
set_option maxHeartbeats 400000 in
theorem rightRef_call (r : Req) (w : World) :
    Calls Try.prog 27 #[.agg #[.int .i64 r.c, .int .i64 r.s, .string r.b]] w fun e w' => e = .returned (.bool (rightReq r)) ∧ Keep [] w w' := by
  obtain ⟨c, s, b⟩ := r
  dsimp only
  have HE : Hid (rightReq ⟨c, s, b⟩ = (decide (0 ≤ c) && decide (c < 4) && decide (1 ≤ s) && decide (s ≤ 2147483647) && decide ((b.size : Int) ≤ 40))) := Lib.hid rfl
  generalize rightReq ⟨c, s, b⟩ = out at *
  go_enter Try.func27, Try.ntmps27
  go_wp2
  all_goals
    go_ret
    refine ⟨?_, (Keep.refl _ _).alloc _⟩
    rw [HE.out]
    (simp [*]; try omega)
set_option maxHeartbeats 400000 in
theorem right_call (r : Req) (w : World) :
    Calls Try.prog 24 #[.agg #[.int .i64 r.c, .int .i64 r.s, .string r.b]] w fun e w' => e = .returned (.bool (rightReq r)) ∧ Keep [] w w' := by
  obtain ⟨c, s, b⟩ := r
  dsimp only
  have HE : Hid (rightReq ⟨c, s, b⟩ = (decide (0 ≤ c) && decide (c < 4) && decide (1 ≤ s) && decide (s ≤ 2147483647) && decide ((b.size : Int) ≤ 40))) := Lib.hid rfl
  generalize rightReq ⟨c, s, b⟩ = out at *
  go_enter Try.func24, Try.ntmps24
  go_wp2
  all_goals
    go_ret
    refine ⟨?_, (Keep.refl _ _).alloc _⟩
    rw [HE.out]
    (simp [*]; try omega)
theorem new_call (w : World) : Calls Try.prog 9 #[] w fun e w' => ∃ p, e = .returned (.pointer (some ⟨p, 0, none⟩)) ∧ PoolAt w' (fun k => w.heap.size ≤ k) p 0 [] [] ∧ Keep [] w w' := by
  have hmm := @run_makeMap Try.prog
  have hm := MapAt.made w
  have hb := Blk.new (w.alloc (.map #[] 0)) #[.slice none 0 0, .map (some w.heap.size)] 52
  simp only [World.size_alloc] at hb
  go_enter Try.func9, Try.ntmps9
  go_wp2
  go_ret
  refine ⟨_, rfl, ⟨_, _, hb, Own.nil _ _ _ _, hm.same (Below.heap_alloc _ _ _ (by simp)), by simp, Nat.le_refl _, by simp, by simp [Value.ownBlock]⟩, ((Keep.refl _ _).alloc _).alloc _⟩
end Go.Proofs.Ytaiemagmkfjklaa
