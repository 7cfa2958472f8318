import Derived.Test.YtdhhibppcckbkaaRead
namespace Go.Proofs.Ytdhhibppcckbkaa
open Go.RowKit
set_option linter.unusedVariables false
set_option linter.unusedSimpArgs false
theorem I64.zero : I64 0 := by unfold I64; omega
theorem numR_bound (lo hi : Int) (s : St) : (numR lo hi s).1 = 0 ∨ lo ≤ (numR lo hi s).1 ∧ (numR lo hi s).1 ≤ hi := by
  unfold numR
  dsimp only
  split
  · rename_i h; exact .inr h.2
  · exact .inl rfl
set_option maxHeartbeats 400000 in
theorem textR_call (g : Nat) (s : St) (most : Int) (w : World) (h : Rd w g s.b s.bad) (h1 : I64 most) :
    Calls Try.prog 80 #[.pointer (some ⟨g, 0, none⟩), .int .i64 most] w fun e w' => e = .returned (.string (textR most s).1) ∧ Rd w' g (textR most s).2.b (textR most s).2.bad ∧ Keep [g] w w' := by
  have HE : Hid (textR most s = cutF (numR 0 most s).1 (numR 0 most s).2) := Lib.hid rfl
  generalize textR most s = out at *
  go_enter Try.func80, Try.ntmps80
  go_wp2_with fail
  refine (numR_call g s 0 most _ h I64.zero h1).mono ?_
  rintro e w1 ⟨rfl, r1, k1⟩
  generalize numR 0 most s = a at *
  obtain ⟨n, s1⟩ := a
  dsimp only at *
  go_wp2_with fail
  refine (cut_call g s1 n _ r1).mono ?_
  rintro e w2 ⟨rfl, r2, k2⟩
  go_wp2
  go_ret
  rw [HE.out]
  exact ⟨rfl, r2, k1.trans k2⟩
set_option maxHeartbeats 400000 in
theorem reqR_call (g : Nat) (s : St) (w : World) (h : Rd w g s.b s.bad) :
    Calls Try.prog 75 #[.pointer (some ⟨g, 0, none⟩)] w fun e w' => e = .returned (.agg #[.int .i64 (reqR s).1.c, .int .i64 (reqR s).1.s, .string (reqR s).1.b]) ∧ Rd w' g (reqR s).2.b (reqR s).2.bad ∧ Keep [g] w w' := by
  have HE : Hid (reqR s = (⟨(numR 0 3 s).1, (numR 1 2147483647 (numR 0 3 s).2).1, (textR 40 (numR 1 2147483647 (numR 0 3 s).2).2).1⟩, (textR 40 (numR 1 2147483647 (numR 0 3 s).2).2).2)) := Lib.hid rfl
  generalize reqR s = out at *
  have hg := h.lt
  go_enter Try.func75, Try.ntmps75
  go_wp2_with fail
  refine (numR_call g s 0 3 _ (Blk.alloc h _) (by unfold I64; omega) (by unfold I64; omega)).mono ?_
  rintro e w1 ⟨rfl, r1, k1⟩
  generalize numR 0 3 s = a at *
  obtain ⟨n, s1⟩ := a
  dsimp only at *
  go_wp2_with fail
  refine (numR_call g s1 1 2147483647 _ r1 (by unfold I64; omega) (by unfold I64; omega)).mono ?_
  rintro e w2 ⟨rfl, r2, k2⟩
  generalize numR 1 2147483647 s1 = a at *
  obtain ⟨m, s2⟩ := a
  dsimp only at *
  go_wp2_with fail
  refine (textR_call g s2 40 _ r2 (by unfold I64; omega)).mono ?_
  rintro e w3 ⟨rfl, r3, k3⟩
  generalize textR 40 s2 = a at *
  obtain ⟨t, s3⟩ := a
  dsimp only at *
  have kk := (k1.trans k2).trans k3
  have b := (Blk.new w #[.int .i64 0, .int .i64 0, .string ⟨#[]⟩] 61).keep kk (by simp; omega)
  have f0 := b.frozen 0
  have f1 := b.frozen 1
  have f2 := b.frozen 2
  have c0 := b.cell 0
  have c1 := b.cell 1
  have c2 := b.cell 2
  simp only [List.getElem?_toArray, List.getElem?_cons_zero, List.getElem?_cons_succ] at c0 c1 c2
  go_wp2
  have b3 := ((b.set 0 (.int .i64 n)).set 1 (.int .i64 m)).set 2 (.string t)
  have q0 := b3.cell 0
  have q1 := b3.cell 1
  have q2 := b3.cell 2
  simp only [List.setIfInBounds_toArray, List.set_cons_zero, List.set_cons_succ, List.getElem?_toArray, List.getElem?_cons_zero, List.getElem?_cons_succ] at q0 q1 q2
  refine bodyPost_ret (v := .agg #[.int .i64 n, .int .i64 m, .string t]) (by simp [results, Try.results75, go_sem, q0, q1, q2]) rfl ?_
  rw [HE.out]
  have hne : g ≠ w.heap.size := by omega
  exact ⟨rfl, ((Blk.other r3 _ _ hne).other _ _ hne).other _ _ hne, ((((Keep.refl _ w).alloc _).trans kk |>.setCell _ _ (by simp)).setCell _ _ (by simp)).setCell _ _ (by simp)⟩
set_option maxHeartbeats 400000 in
theorem done_call (g : Nat) (s : St) (w : World) (h : Rd w g s.b s.bad) :
    Calls Try.prog 57 #[.pointer (some ⟨g, 0, none⟩)] w fun e w' => e = .returned (.bool (!s.bad && s.b.toList.isEmpty)) ∧ w = w' := by
  obtain ⟨b, bad⟩ := s
  have c0 := h.c0
  have c1 := h.c1
  dsimp only at c0 c1 ⊢
  cases bad
  all_goals
    go_enter Try.func57, Try.ntmps57
    go_wp2
    go_ret
    exact ⟨by simp, rfl⟩
def St.ok (s : St) : Bool := !s.bad && s.b.toList.isEmpty
def readReqF (b : ByteArray) : Req × Int := if (reqR ⟨b, false⟩).2.ok = true then ((reqR ⟨b, false⟩).1, 0) else (⟨0, 0, ⟨#[]⟩⟩, 2)
end Go.Proofs.Ytdhhibppcckbkaa
