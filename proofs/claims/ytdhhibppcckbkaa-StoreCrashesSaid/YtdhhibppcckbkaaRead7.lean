import Derived.Test.YtdhhibppcckbkaaRead6
namespace Go.Proofs.Ytdhhibppcckbkaa
open Go.RowKit
set_option linter.unusedVariables false
set_option linter.unusedSimpArgs false
def readBlockF (b : ByteArray) : Bk × Int := if (blockR ⟨b, false⟩).2.ok = true then ((blockR ⟨b, false⟩).1, 0) else (⟨0, 0, ⟨0, ⟨#[]⟩, []⟩, []⟩, 2)
set_option maxHeartbeats 1000000 in
theorem readBlock_call (b : ByteArray) (w : World) :
    Calls Try.prog 37 #[.string b] w fun e w' => ∃ v u, e = .returned (.tuple #[.agg #[.int .i64 (readBlockF b).1.v, .int .i64 (readBlockF b).1.p, .int .i64 (readBlockF b).1.j.v, .string (readBlockF b).1.j.h, v, u], .int .i64 (readBlockF b).2]) ∧ SliceOf Rep.sg w' (New w) v (readBlockF b).1.j.sg ∧ SliceOf Rep.req w' (New w) u (readBlockF b).1.q ∧ Keep [] w w' := by
  have HE : Hid (readBlockF b = if (blockR ⟨b, false⟩).2.ok = true then ((blockR ⟨b, false⟩).1, 0) else (⟨0, 0, ⟨0, ⟨#[]⟩, []⟩, []⟩, 2)) := Lib.hid rfl
  generalize readBlockF b = out at *
  go_enter Try.func37, Try.ntmps37
  go_wp2_with fail
  have bb := (Blk.new (w.alloc (.cells #[.int .i64 0, .int .i64 0, .int .i64 0, .string ⟨#[]⟩, .slice none 0 0, .slice none 0 0] 29)) #[.string b, .bool false] 91)
  simp only [World.size_alloc] at bb
  refine (blockR_call (w.heap.size + 1) ⟨b, false⟩ _ bb).mono ?_
  rintro e w1 ⟨v, u, rfl, hsl, hsq, hv, hp, hjv, hjh, r1, k1⟩
  generalize blockR ⟨b, false⟩ = a at *
  obtain ⟨x, s1⟩ := a
  dsimp only at *
  obtain ⟨A, c, rfl, hd⟩ := hsl.form
  obtain ⟨B, d, rfl, hd2⟩ := hsq.form
  have b0 := (((Blk.new w #[.int .i64 0, .int .i64 0, .int .i64 0, .string ⟨#[]⟩, .slice none 0 0, .slice none 0 0] 29).alloc (.cells #[.string b, .bool false] 91)).keep k1 (by simp))
  have hlt := k1.size
  simp only [World.size_alloc] at hlt
  go_wp2_with fail
  have b1 := b0.alloc (.cells #[.int .i64 x.v, .int .i64 x.p, .int .i64 x.j.v, .string x.j.h, .slice A x.j.sg.length c, .slice B x.q.length d] 29)
  refine (done_call (w.heap.size + 1) s1 _ (Blk.alloc r1 _)).mono ?_
  rintro e w2 ⟨rfl, rfl⟩
  have f0 := b1.frozen 0
  have f1 := b1.frozen 1
  have f2 := b1.frozen 2
  have f3 := b1.frozen 3
  have f4 := b1.frozen 4
  have f5 := b1.frozen 5
  have c0 := b1.cell 0
  have c1 := b1.cell 1
  have c2 := b1.cell 2
  have c3 := b1.cell 3
  have c4 := b1.cell 4
  have c5 := b1.cell 5
  simp only [List.getElem?_toArray, List.getElem?_cons_zero, List.getElem?_cons_succ] at c0 c1 c2 c3 c4 c5
  have kk : Keep [] w (w1.alloc (.cells #[.int .i64 x.v, .int .i64 x.p, .int .i64 x.j.v, .string x.j.h, .slice A x.j.sg.length c, .slice B x.q.length d] 29)) := (((((Keep.refl _ w).alloc _).alloc _).new k1 (by simp))).alloc _
  have HO : Hid ((!s1.bad && s1.b.toList.isEmpty) = s1.ok) := Lib.hid rfl
  rw [HO.out]
  generalize s1.ok = ok at *
  cases ok
  · have HE2 := Lib.hid (HE.out.trans (if_neg (by simp)))
    go_wp2
    have b3 := b1.set6 (.int .i64 0) (.int .i64 0) (.int .i64 0) (.string ⟨#[]⟩) (.slice none 0 0) (.slice none 0 0)
    have q0 := b3.cell 0
    have q1 := b3.cell 1
    have q2 := b3.cell 2
    have q3 := b3.cell 3
    have q4 := b3.cell 4
    have q5 := b3.cell 5
    simp only [List.getElem?_toArray, List.getElem?_cons_zero, List.getElem?_cons_succ] at q0 q1 q2 q3 q4 q5
    refine bodyPost_ret (v := .tuple #[.agg #[.int .i64 0, .int .i64 0, .int .i64 0, .string ⟨#[]⟩, .slice none 0 0, .slice none 0 0], .int .i64 2]) (by simp [results, Try.results37, go_sem, q0, q1, q2, q3, q4, q5]) rfl ?_
    rw [HE2.out]
    exact ⟨_, _, rfl, SliceOf.nil _ _ _ _ _, SliceOf.nil _ _ _ _ _, kk.set6 _ _ _ _ _ _ _ (.inr (Nat.le_refl _))⟩
  · have HE2 := Lib.hid (HE.out.trans (if_pos rfl))
    go_wp2
    have b3 := b1.set6 (.int .i64 x.v) (.int .i64 x.p) (.int .i64 x.j.v) (.string x.j.h) (.slice A x.j.sg.length c) (.slice B x.q.length d)
    have q0 := b3.cell 0
    have q1 := b3.cell 1
    have q2 := b3.cell 2
    have q3 := b3.cell 3
    have q4 := b3.cell 4
    have q5 := b3.cell 5
    simp only [List.getElem?_toArray, List.getElem?_cons_zero, List.getElem?_cons_succ] at q0 q1 q2 q3 q4 q5
    refine bodyPost_ret (v := .tuple #[.agg #[.int .i64 x.v, .int .i64 x.p, .int .i64 x.j.v, .string x.j.h, .slice A x.j.sg.length c, .slice B x.q.length d], .int .i64 0]) (by simp [results, Try.results37, go_sem, q0, q1, q2, q3, q4, q5]) rfl ?_
    rw [HE2.out]
    have k6 : ∀ j, w.heap.size + 2 ≤ j → j < w1.heap.size → _ = _ := fun j hj hl => ((((Keep.refl [w.heap.size] w1).alloc (.cells #[.int .i64 x.v, .int .i64 x.p, .int .i64 x.j.v, .string x.j.h, .slice A x.j.sg.length c, .slice B x.q.length d] 29)).set6 w.heap.size (.int .i64 x.v) (.int .i64 x.p) (.int .i64 x.j.v) (.string x.j.h) (.slice A x.j.sg.length c) (.slice B x.q.length d) (.inl (by simp)))).block j hl (by simp; omega)
    refine ⟨_, _, rfl, SliceOf.mono (SliceOf.keep hsl fun j hj hl => k6 j (by simpa [New] using hj) hl) (fun j hj _ => ?_), SliceOf.mono (SliceOf.keep hsq fun j hj hl => k6 j (by simpa [New] using hj) hl) (fun j hj _ => ?_), kk.set6 _ _ _ _ _ _ _ (.inr (Nat.le_refl _))⟩
    all_goals
      have hj : w.heap.size + 2 ≤ j := by simpa [New] using hj
      show w.heap.size ≤ j
      omega
end Go.Proofs.Ytdhhibppcckbkaa
