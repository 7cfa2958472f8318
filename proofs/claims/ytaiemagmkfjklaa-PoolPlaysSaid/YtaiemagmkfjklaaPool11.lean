import Derived.Test.YtaiemagmkfjklaaPool10
namespace Go.Proofs.Ytaiemagmkfjklaa
open Go.RowKit Go.Shelf
set_option linter.unusedVariables false
set_option linter.unusedSimpArgs false
/-! pools: Take -/
theorem own_sliceF {w : World} {A : Option Addr} {n c : Nat} {xs : List Req} {F : Nat → Prop} (h : Own Rep.req 24 w 0 (.slice A n c) xs) (hb : xs.length ≤ 1000000) (hF : ∀ i, (Value.slice A n c).ownBlock = some i → F i) :
    n = xs.length ∧ n ≤ c ∧ SliceOf Rep.req w F (.slice A n c) xs := by
  have hc : n ≤ c := by
    obtain ⟨css, h1, _⟩ := h
    rcases h1.2 with ⟨e, h0⟩ | ⟨g, cap, cur, e, _, _, h3, _⟩
    · cases e; omega
    · cases e; exact h3
  obtain ⟨A', c', e, l, h3⟩ := h.slice (by rw [M47_eq]; omega)
  cases e
  refine ⟨rfl, hc, _, _, rfl, l, fun hp => ?_⟩
  obtain ⟨g, o, rfl, -, hg, h3⟩ := h3 hp
  refine ⟨g, o, rfl, hF g rfl, hg, fun i hi => ?_⟩
  obtain ⟨cs, hr, hc⟩ := h3 i hi
  exact ⟨cs, hr, hc⟩
set_option maxHeartbeats 1000000 in
theorem takePred1 (w : World) (S : List Nat) (rb : Nat) (c s : Int) (b : ByteArray) (hb : Blk w rb #[.int .i64 c, .int .i64 s, .string b] 24) (hk : rb ∉ S) :
    PredOn w S 30 #[.pointer (some ⟨rb, 0, none⟩)] (fun x => x.c == c && x.s == s) := by
  intro w1 x k1 hx
  obtain ⟨xc, xs, xb⟩ := x
  have hb1 := hb.keep k1 hk
  have bn := (Blk.new w1 #[.int .i64 xc, .int .i64 xs, .string xb] 24).three
  have hb2 := (hb1.alloc (.cells #[.int .i64 xc, .int .i64 xs, .string xb] 24)).three
  have hlt := hb1.lt
  show Calls Try.prog _ #[.agg #[.int .i64 xc, .int .i64 xs, .string xb], .pointer (some ⟨rb, 0, none⟩)] w1 _
  dsimp only
  go_enter Try.func30, Try.ntmps30
  go_wp2_with fail
  refine wp_region_class (C := fun w' => Keep [] w1 w' ∧ w'.cell? ⟨w1.heap.size, 0, none⟩ = some (.int .i64 xc) ∧ w'.cell? ⟨w1.heap.size, 1, none⟩ = some (.int .i64 xs) ∧ w'.cell? ⟨w1.heap.size, 2, none⟩ = some (.string xb) ∧ w'.cell? ⟨rb, 0, none⟩ = some (.int .i64 c) ∧ w'.cell? ⟨rb, 1, none⟩ = some (.int .i64 s) ∧ w'.cell? ⟨rb, 2, none⟩ = some (.string b)) (by kernel_rfl) (by kernel_rfl) ⟨((Keep.refl _ _).alloc _).drew, bn.1, bn.2.1, bn.2.2, hb2.1, hb2.2.1, hb2.2.2⟩ ?_
  iterate 4 (first
    | go_big_quiet_skip
    | (go_big_quiet_want; first
      | (go_big_quiet_op; go_big_quiet_on)
      | (refine quiet_run (v := ?_) ?_ ?_; (rotate_left; (intro w' hC; (try dsimp only at hC); go_split_ands; go_simp; with_reducible rfl); simp only [Act.put, List.setIfInBounds_toArray, List.set_cons_zero, List.set_cons_succ]; go_big_quiet_on))
      | (refine quiet_call (v := ?_) (f := ?_) (args := ?_) ?_ ?_ ?_; (rotate_left; rotate_left; rotate_left; (intro w' hC; (try dsimp only at hC); go_split_ands; go_simp; (refine ⟨?_, ?_⟩ <;> with_reducible rfl)); (intro w' hC; first | (go_at_call 21; (first | (with_reducible refine (keyOf_call ⟨xc, xs, xb⟩ _).mono ?_) | (with_reducible refine (keyOf_call ⟨c, s, b⟩ _).mono ?_)); rintro e w8 ⟨rfl, kq⟩; refine ⟨?_, Keep.trans hC.1 kq, kq.cell (by simp) hC.2.1, kq.cell (by simp) hC.2.2.1, kq.cell (by simp) hC.2.2.2.1, kq.cell (by simp) hC.2.2.2.2.1, kq.cell (by simp) hC.2.2.2.2.2.1, kq.cell (by simp) hC.2.2.2.2.2.2⟩; with_reducible rfl)); simp only [Act.put, List.setIfInBounds_toArray, List.set_cons_zero, List.set_cons_succ]; go_big_quiet_on))))
  go_big_quiet_want
  refine quiet_run (v := .bool (xc == c && xs == s)) ?_ ?_
  · intro w' hC
    go_simp
    by_cases h1 : xc = c <;> by_cases h2 : xs = s <;> simp [h1, h2]
  simp only [Act.put, List.setIfInBounds_toArray, List.set_cons_zero, List.set_cons_succ]
  go_big_quiet_on
  iterate 1 (first
    | go_big_quiet_skip
    | (go_big_quiet_want; first
      | (go_big_quiet_op; go_big_quiet_on)
      | (refine quiet_run (v := ?_) ?_ ?_; (rotate_left; (intro w' hC; (try dsimp only at hC); go_split_ands; go_simp; with_reducible rfl); simp only [Act.put, List.setIfInBounds_toArray, List.set_cons_zero, List.set_cons_succ]; go_big_quiet_on))
      | (refine quiet_call (v := ?_) (f := ?_) (args := ?_) ?_ ?_ ?_; (rotate_left; rotate_left; rotate_left; (intro w' hC; (try dsimp only at hC); go_split_ands; go_simp; (refine ⟨?_, ?_⟩ <;> with_reducible rfl)); (intro w' hC; fail); simp only [Act.put, List.setIfInBounds_toArray, List.set_cons_zero, List.set_cons_succ]; go_big_quiet_on))))
  refine wpQuiet_nil ?_
  intro w2 hC2
  have kk := hC2.1
  clear hC2
  go_wp2
  go_ret
  exact ⟨rfl, kk⟩
set_option maxHeartbeats 1000000 in
theorem takePred (w : World) (S : List Nat) (bb : Nat) (B : Option Addr) (but : List Req) (cq : Nat) (G : Nat → Prop) (hb : Blk w bb #[.slice B but.length cq] 31) (hs : SliceOf Rep.req w G (.slice B but.length cq) but) (hk : bb ∉ S) (hG : ∀ i, i ∈ S → ¬ G i) :
    PredOn w S 29 #[.pointer (some ⟨bb, 0, none⟩)] (fun r => hasR but r.c r.s) := by
  intro w1 x k1 hx
  obtain ⟨xc, xs, xb⟩ := x
  have ka : Keep [] w1 (w1.alloc (.cells #[.int .i64 xc, .int .i64 xs, .string xb] 24)) := (Keep.refl _ _).alloc _
  have hb1 := hb.keep k1 hk
  have bn := Blk.new w1 #[.int .i64 xc, .int .i64 xs, .string xb] 24
  have hb2 := (hb1.keep ka (by simp)).one
  have hs2 := (hs.keep (k1.at G hG)).keep (ka.at G (by simp))
  have hlt := hb1.lt
  have eg : ∀ args w, (callFunc 30 args).run Try.prog w = .ok (.enter 30 args) w := enters_of Try.func30 (by kernel_rfl) rfl
  have hmf : ∀ (fn : Fn) (first cap : Array Value) (w : World), (Instr.makeFunc fn first cap).run Try.prog w = .ok (.func fn first cap) w := fun _ _ _ _ => rfl
  have hC := containsFunc_call B but cq G 30 #[.pointer (some ⟨w1.heap.size, 0, none⟩)] (fun x => x.c == xc && x.s == xs) _ hs2 (takePred1 _ [] w1.heap.size xc xs xb bn (by simp)) eg
  show Calls Try.prog _ #[.agg #[.int .i64 xc, .int .i64 xs, .string xb], .pointer (some ⟨bb, 0, none⟩)] w1 _
  dsimp only
  unfold hasR
  clear hb hs hb1 hs2 bn eg
  go_enter Try.func29, Try.ntmps29
  go_wp2_with (go_at_call 25; refine hC.mono ?_; rintro e w' ⟨rfl, kq⟩)
  go_ret
  exact ⟨rfl, ka.trans kq⟩
/-- The first ones, as many as n says. -/
def firstR (n : Int) (l : List Req) : List Req := l.take (min (max n 0) l.length).toNat
theorem slice_take {w : World} {F : Nat → Prop} {A : Option Addr} {c : Nat} {xs : List Req} (h : SliceOf Rep.req w F (.slice A xs.length c) xs) (m : Nat) (hm : m ≤ xs.length) : SliceOf Rep.req w F (.slice A m c) (xs.take m) := by
  obtain ⟨A', c', e, hl, h⟩ := h
  cases e
  refine ⟨A, c, by simp [hm], by simp; omega, fun hp => ?_⟩
  simp at hp
  obtain ⟨g, o, rfl, hF, hg, h⟩ := h (by omega)
  refine ⟨g, o, rfl, hF, hg, fun i hi => ?_⟩
  simp at hi
  obtain ⟨cs, hr, hc⟩ := h i (by omega)
  exact ⟨cs, by simpa using hr, hc⟩
set_option maxHeartbeats 2000000 in
theorem take_call (w : World) (F : Nat → Prop) (p n : Nat) (ws dn : List Req) (t : Int) (B : Option Addr) (but : List Req) (cq : Nat) (G : Nat → Prop) (hp : PoolAt w F p n ws dn) (hl : ws.length ≤ 1000000) (ht : I64 t) (hs : SliceOf Rep.req w G (.slice B but.length cq) but)
    (hG : ∀ i, G i → i < w.heap.size) :
    Calls Try.prog 20 #[.pointer (some ⟨p, 0, none⟩), .int .i64 t, .slice B but.length cq] w fun e w' => ∃ C m c', e = .returned (.slice C m c') ∧ SliceOf Rep.req w' (fun k => w.heap.size ≤ k) (.slice C m c') (firstR t (butR but ws)) ∧ Keep [] w w' := by
  have ka : Keep [] w (w.alloc (.cells #[.slice B but.length cq] 31)) := (Keep.refl _ _).alloc _
  have bn := Blk.new w #[.slice B but.length cq] 31
  have hs2 := hs.keep (ka.at G (by simp))
  have hp2 := hp.turn (ka.turn (F := fun _ => False) (by simp)) (by simp)
  have hA := all_call _ F p n ws dn hp2 hl
  have eg : ∀ args w, (callFunc 29 args).run Try.prog w = .ok (.enter 29 args) w := enters_of Try.func29 (by kernel_rfl) rfl
  have hmf : ∀ (fn : Fn) (first cap : Array Value) (w : World), (Instr.makeFunc fn first cap).run Try.prog w = .ok (.func fn first cap) w := fun _ _ _ _ => rfl
  have hD : ∀ w1 C m c', Keep [] (w.alloc (.cells #[.slice B but.length cq] 31)) w1 → Own Rep.req 24 w1 0 (.slice C m c') ws → (∀ i, (Value.slice C m c').ownBlock = some i → (w.alloc (.cells #[.slice B but.length cq] 31)).heap.size ≤ i) →
      Calls Try.prog 22 #[.slice C m c', .func (.func 29) #[] #[.pointer (some ⟨w.heap.size, 0, none⟩)]] w1 fun e w' =>
      ∃ q, e = .returned (.slice C q c') ∧ SliceOf Rep.req w' (fun k => w.heap.size ≤ k) (.slice C q c') (butR but ws) ∧ q = (butR but ws).length ∧ q ≤ c' ∧ Keep [] w w' := by
    intro w1 C m c' k1 ho hn
    have bn1 := bn.keep k1 (by simp)
    have hs3 := hs2.keep (k1.at G (by simp))
    refine (deleteFunc_call C m c' ws 29 #[.pointer (some ⟨w.heap.size, 0, none⟩)] (fun r => hasR but r.c r.s) w1 ho (by omega) (fun g hg => takePred w1 [g] w.heap.size B but cq G bn1 hs3 ?_ ?_) (takePred w1 [] w.heap.size B but cq G bn1 hs3 (by simp) (by simp)) eg).mono ?_
    · have := hn g (by rw [hg]; rfl)
      simp only [World.size_alloc] at this
      simp only [List.mem_singleton]
      omega
    · intro i hi hGi
      have h4 := hn g (by rw [hg]; rfl)
      have h5 := hG i hGi
      simp only [World.size_alloc] at h4
      simp only [List.mem_singleton] at hi
      omega
    · rintro e w' ⟨q, rfl, ho', kt⟩
      have h2 := butR_le but ws
      have h3 := own_sliceF (F := fun k => w.heap.size ≤ k) ho' (by unfold butR at h2; omega) (fun i hi => by
        have := hn i (by cases C <;> exact hi)
        simp only [World.size_alloc] at this
        show w.heap.size ≤ i
        omega)
      obtain ⟨rfl, hqc, h3⟩ := h3
      refine ⟨_, rfl, h3, rfl, hqc, ?_⟩
      exact ((ka.trans k1).turn (F := fun i => w.heap.size ≤ i) (by simp)).then kt (fun i hi h => by have := hn i h; simp only [World.size_alloc] at this; omega) |>.keep (fun k hk => by omega)
  have hD := Lib.hid hD
  generalize butR but ws = ys at *
  clear bn hs2 hp2 eg hs hp
  go_enter Try.func20, Try.ntmps20
  go_wp2_with (first | (go_at_call 18; refine hA.mono ?_; rintro e w1 ⟨C, m, c', rfl, ho1, k1, hn1⟩) | (go_at_call 22; refine (hD.out w1 C m c' k1 ho1 hn1).mono ?_; rintro e w2 ⟨q, rfl, hs2, rfl, hqc, k2⟩) | go_in)
  all_goals
    go_ret
    have e := slice_take hs2 (min (max t 0) (ys.length : Int)).toNat (by omega)
    refine ⟨C, (min (max t 0) (ys.length : Int)).toNat, c', ?_, e, k2⟩
    rename_i q1 q2
    first
      | (rw [show (min (max t 0) (ys.length : Int)).toNat = ys.length by (try split at q1) <;> (try split at q2) <;> omega]; rfl)
      | (rw [show (min (max t 0) (ys.length : Int)).toNat = 0 by (try split at q1) <;> (try split at q2) <;> omega]; rfl)
      | (rw [show (min (max t 0) (ys.length : Int)).toNat = t.toNat by (try split at q1) <;> (try split at q2) <;> omega]; rfl)
      | trace_state
end Go.Proofs.Ytaiemagmkfjklaa
