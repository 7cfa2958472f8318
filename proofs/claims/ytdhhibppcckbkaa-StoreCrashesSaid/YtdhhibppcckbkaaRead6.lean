import Derived.Test.YtdhhibppcckbkaaRead5
namespace Go.Proofs.Ytdhhibppcckbkaa
open Go.RowKit
set_option linter.unusedVariables false
set_option linter.unusedSimpArgs false
set_option maxHeartbeats 4000000 in
set_option maxRecDepth 100000 in
theorem blockR_call (g : Nat) (s : St) (w : World) (h : Rd w g s.b s.bad) :
    Calls Try.prog 56 #[.pointer (some ⟨g, 0, none⟩)] w fun e w' => ∃ v u, e = .returned (.agg #[.int .i64 (blockR s).1.v, .int .i64 (blockR s).1.p, .int .i64 (blockR s).1.j.v, .string (blockR s).1.j.h, v, u]) ∧
      SliceOf Rep.sg w' (New w) v (blockR s).1.j.sg ∧ SliceOf Rep.req w' (New w) u (blockR s).1.q ∧ I64 (blockR s).1.v ∧ I64 (blockR s).1.p ∧ I64 (blockR s).1.j.v ∧ (blockR s).1.j.h.size ≤ M47 ∧ Rd w' g (blockR s).2.b (blockR s).2.bad ∧ Keep [g] w w' := by
  have HE : Hid (blockR s = (⟨(numR 1 1000000 s).1, (numR 0 6 (numR 1 1000000 s).2).1, (certR (numR 0 6 (numR 1 1000000 s).2).2).1,
    (reqsR (numR 0 3 ((certR (numR 0 6 (numR 1 1000000 s).2).2).2.check (decide ((certR (numR 0 6 (numR 1 1000000 s).2).2).1.v < (numR 1 1000000 s).1)))).1.toNat (numR 0 3 ((certR (numR 0 6 (numR 1 1000000 s).2).2).2.check (decide ((certR (numR 0 6 (numR 1 1000000 s).2).2).1.v < (numR 1 1000000 s).1)))).2).1⟩,
    (reqsR (numR 0 3 ((certR (numR 0 6 (numR 1 1000000 s).2).2).2.check (decide ((certR (numR 0 6 (numR 1 1000000 s).2).2).1.v < (numR 1 1000000 s).1)))).1.toNat (numR 0 3 ((certR (numR 0 6 (numR 1 1000000 s).2).2).2.check (decide ((certR (numR 0 6 (numR 1 1000000 s).2).2).1.v < (numR 1 1000000 s).1)))).2).2)) := Lib.hid rfl
  generalize blockR s = out at *
  have hg := h.lt
  have nb := numR_bound 1 1000000 s
  go_enter Try.func56, Try.ntmps56
  go_wp2_with fail
  refine (numR_call g s 1 1000000 _ (Blk.alloc h _) (by unfold I64; omega) (by unfold I64; omega)).mono ?_
  rintro e w1 ⟨rfl, r1, k1⟩
  generalize numR 1 1000000 s = a at *
  obtain ⟨vw, s1⟩ := a
  dsimp only at *
  have hs1 := k1.size
  simp only [World.size_alloc] at hs1
  have nb1 := numR_bound 0 6 s1
  go_wp2_with fail
  refine (numR_call g s1 0 6 _ r1 (by unfold I64; omega) (by unfold I64; omega)).mono ?_
  rintro e w2 ⟨rfl, r2, k2⟩
  generalize numR 0 6 s1 = a at *
  obtain ⟨pr, s2⟩ := a
  dsimp only at *
  have hs2 := k2.size
  go_wp2_with fail
  refine (certR_call g s2 _ r2).mono ?_
  rintro e w3 ⟨sv, rfl, hsl, hjv, hjh, r3, k3⟩
  generalize certR s2 = a at *
  obtain ⟨j, s3⟩ := a
  dsimp only at *
  obtain ⟨SA, sc, rfl, hsd⟩ := hsl.form
  have hs3 := k3.size
  have bs0 := Blk.new w3 #[.int .i64 vw, .int .i64 pr, .int .i64 j.v, .string j.h, .slice SA j.sg.length sc, .slice none 0 0] 29
  have e0 := bs0.cell 0
  have e2 := bs0.cell 2
  simp only [List.getElem?_toArray, List.getElem?_cons_zero, List.getElem?_cons_succ] at e0 e2
  go_wp2_with fail
  refine (check_call g s3 (decide (j.v < vw)) _ (Blk.alloc r3 _)).mono ?_
  rintro e w4 ⟨rfl, r4, k4⟩
  generalize s3.check (decide (j.v < vw)) = s4 at *
  have hs4 := k4.size
  simp only [World.size_alloc] at hs4
  have nb4 := numR_bound 0 3 s4
  clear e0 e2
  go_wp2_with fail
  refine (numR_call g s4 0 3 _ r4 (by unfold I64; omega) (by unfold I64; omega)).mono ?_
  rintro e w5 ⟨rfl, r5, k5⟩
  generalize numR 0 3 s4 = a at *
  obtain ⟨n, s5⟩ := a
  dsimp only at *
  have hn : 0 ≤ n ∧ n ≤ 3 := by omega
  obtain ⟨n, rfl⟩ := Int.eq_ofNat_of_zero_le hn.1
  simp only [Int.toNat_natCast] at HE
  have hs5 := k5.size
  have bs := (bs0.keep k4 (by simp; omega)).keep k5 (by simp; omega)
  have br := (((((Blk.new w #[.int .i64 0, .int .i64 0, .int .i64 0, .string ⟨#[]⟩, .slice none 0 0, .slice none 0 0] 29).keep k1 (by simp; omega)).keep k2 (by simp; omega)).keep k3 (by simp; omega)).alloc (.cells #[.int .i64 vw, .int .i64 pr, .int .i64 j.v, .string j.h, .slice SA j.sg.length sc, .slice none 0 0] 29)).keep k4 (by simp; omega) |>.keep k5 (by simp; omega)
  have k03 : Keep [g] w w3 := (((Keep.refl _ w).alloc _).trans k1).trans k2 |>.trans k3
  have k35 : Keep [g] w3 w5 := (((Keep.refl _ w3).alloc _).trans k4).trans k5
  have kk : Keep [g] w w5 := k03.trans k35
  have hS5 : SliceOf Rep.sg w5 (fun i => New w2 i ∧ i < w3.heap.size) (.slice SA j.sg.length sc) j.sg :=
    SliceOf.keep (hsl.mono fun i hi hl => ⟨hi, hl⟩) fun i hi hl => k35.block i hl (by have : w2.heap.size ≤ i := hi.1; simp; omega)
  clear bs0 hsl
  go_wp2
  go_loopw [21] (fun i wr => ∃ k : Nat, k ≤ n ∧ i = .int .i64 k ∧ ∃ tv, Blk wr w3.heap.size #[.int .i64 vw, .int .i64 pr, .int .i64 j.v, .string j.h, .slice SA j.sg.length sc, tv] 29 ∧ Own Rep.req 61 wr (w3.heap.size + 1) tv (reqsR k s5).1 ∧
      Blk wr w.heap.size #[.int .i64 0, .int .i64 0, .int .i64 0, .string ⟨#[]⟩, .slice none 0 0, .slice none 0 0] 29 ∧ Rd wr g (reqsR k s5).2.b (reqsR k s5).2.bad ∧ Keep [g] w wr ∧ SliceOf Rep.sg wr (fun i => New w2 i ∧ i < w3.heap.size) (.slice SA j.sg.length sc) j.sg ∧ w3.heap.size + 1 ≤ wr.heap.size) (fun i _ => n - (intOf i).toNat)
  case atStart => exact ⟨0, Nat.zero_le _, rfl, _, bs, Own.nil _ _ _ _, br, r5, kk, hS5, by omega⟩
  case round =>
    obtain ⟨k, hk, rfl, tv, hbs, hown, hbr, hrd, hkk, hS, hsz⟩ := hrel
    obtain ⟨A, c, rfl, _⟩ := hown.form
    rw [reqsR_len] at hbs hown
    by_cases hlt : k < n
    · have c5 := hbs.cell 5
      have f5 := hbs.frozen 5
      simp only [List.getElem?_toArray, List.getElem?_cons_zero, List.getElem?_cons_succ] at c5
      go_wp2_with fail
      have hl7 : (reqsR k s5).1.length + 1 ≤ 8 := by rw [reqsR_len]; omega
      have hne : some w3.heap.size ≠ (Value.slice A k c).ownBlock := fun he => by have := hown.lt w3.heap.size he.symm; omega
      have hw : ∀ w6, Keep [g] wr.drew w6 → w6.cell? ⟨w3.heap.size, 5, none⟩ = some (.slice A k c) ∧ Own Rep.req 61 w6 (w3.heap.size + 1) (.slice A k c) (reqsR k s5).1 ∧ w3.heap.size + 1 ≤ w6.heap.size ∧
          Blk w6 w3.heap.size #[.int .i64 vw, .int .i64 pr, .int .i64 j.v, .string j.h, .slice SA j.sg.length sc, .slice A k c] 29 ∧ Blk w6 w.heap.size #[.int .i64 0, .int .i64 0, .int .i64 0, .string ⟨#[]⟩, .slice none 0 0, .slice none 0 0] 29 := by
        intro w6 k6
        have b6 : Blk w6 w3.heap.size #[.int .i64 vw, .int .i64 pr, .int .i64 j.v, .string j.h, .slice SA j.sg.length sc, .slice A k c] 29 := Blk.keep (w := wr.drew) hbs k6 (by simp; omega)
        refine ⟨(b6.cell 5).trans rfl, Own.keep (w := wr.drew) hown k6 (by simp; omega), ?_, b6, Blk.keep (w := wr.drew) hbr k6 (by simp; omega)⟩
        have h5 : wr.heap.size ≤ w6.heap.size := k6.size
        omega
      have hrep := fun w => reqR_rep (reqsR k s5).2 w (Off (w3.heap.size + 1) (.slice A k c))
      go_region_law (first
        | (refine step_app Rep.req rfl (.tmp 24) (.tmp 27) 27 61 _ 32 (w3.heap.size + 1) rfl Try.underlying27 infoReq rfl (by decide) (by decide) _ (.slice A k c) (reqsR k s5).1 (reqR (reqsR k s5).2).1 _ (by simp [Act.eval, Act.put]) (by simp [Act.eval, Act.put]) (by assumption) (hrep _) (by simp [Value.oneCell']) (by omega) (by assumption) ?_; rw [reqsR_len]; intro gg cap w7 ho7 hg7 hat7 hlt7 hlo7; have b17 : Blk w7 w3.heap.size #[.int .i64 vw, .int .i64 pr, .int .i64 j.v, .string j.h, .slice SA j.sg.length sc, .slice A k c] 29 := (hg7.block _ (Blk.lt ‹Blk _ w3.heap.size _ _›) hne).trans ‹Blk _ w3.heap.size _ _›; have c17 : w7.cell? ⟨w3.heap.size, 5, none⟩ = some (.slice A k c) := (b17.cell 5).trans rfl; have f17 := b17.frozen 5)
        | (go_simp; go_at_call 75; refine (reqR_call g (reqsR k s5).2 _ (by exact hrd)).mono ?_; rintro e w6 ⟨rfl, r6, k6⟩; obtain ⟨c16, o16, z16, b16, b26⟩ := hw _ k6; have d16 : ∀ o, (w6.alloc o).cell? ⟨w3.heap.size, 5, none⟩ = some (.slice A k c) := fun o => ((b16.alloc o).cell 5).trans rfl))
      all_goals
        have k7 : Keep [g] wr.drew w7 → True := fun _ => trivial
        have kw7 : Keep [g] w w7 := (hkk.trans ((Keep.refl _ wr).drew.trans k6)).grown hg7 (fun i hi => .inr (by have := hown.lt i hi; omega))
        have r7 : Rd w7 g (reqsR (k + 1) s5).2.b (reqsR (k + 1) s5).2.bad := (hg7.block _ r6.lt (fun he => by have := hown.lt g he.symm; omega)).trans r6
        have b27 : Blk w7 w.heap.size #[.int .i64 0, .int .i64 0, .int .i64 0, .string ⟨#[]⟩, .slice none 0 0, .slice none 0 0] 29 := (hg7.block _ b26.lt (fun he => by have := hown.lt _ he.symm; omega)).trans b26
        have z7 := hg7.size
        have hS7 : SliceOf Rep.sg (w7.setCell ⟨w3.heap.size, 5, none⟩ (.slice (some ⟨gg, 0, none⟩) (k + 1) cap)) (fun i => New w2 i ∧ i < w3.heap.size) (.slice SA j.sg.length sc) j.sg := by
          refine hS.keep fun i hi hl => ?_
          have h1 : w2.heap.size ≤ i := hi.1
          have h2 := hi.2
          rw [Below.heap_setCell _ _ _ _ (by simp; omega), hg7.block i (by omega) (fun he => by have := hown.lt i he.symm; omega)]
          exact k6.block i hl (by simp; omega)
        go_wp2
        go_roundw
        case rel => exact ⟨k + 1, by omega, by go_num, _, by simpa using b17.set 5 (.slice (some ⟨gg, 0, none⟩) (k + 1) cap), ho7.kept (fun i hi hl => Below.heap_setCell _ _ _ _ (by simp; omega)) (by simp [World.setCell]), b27.other _ _ (by simp; omega), Blk.other r7 _ _ (by simp; omega), kw7.setCell _ _ (.inr (by simp; omega)), hS7, by simp [World.setCell]; omega⟩
        case measure => simp [intOf]; omega
    · have hk' : k = n := by omega
      subst hk'
      have c0 := hbs.cell 0
      have c1 := hbs.cell 1
      have c2 := hbs.cell 2
      have c3 := hbs.cell 3
      have c4 := hbs.cell 4
      have c5 := hbs.cell 5
      have q0 := hbr.frozen 0
      have q1 := hbr.frozen 1
      have q2 := hbr.frozen 2
      have q3 := hbr.frozen 3
      have q4 := hbr.frozen 4
      have q5 := hbr.frozen 5
      have p0 := hbr.cell 0
      have p1 := hbr.cell 1
      have p2 := hbr.cell 2
      have p3 := hbr.cell 3
      have p4 := hbr.cell 4
      have p5 := hbr.cell 5
      simp only [List.getElem?_toArray, List.getElem?_cons_zero, List.getElem?_cons_succ] at c0 c1 c2 c3 c4 c5 p0 p1 p2 p3 p4 p5
      go_wp2
      clear q0 q1 q2 q3 q4 q5 p0 p1 p2 p3 p4 p5
      have b3 := hbr.set6 (.int .i64 vw) (.int .i64 pr) (.int .i64 j.v) (.string j.h) (.slice SA j.sg.length sc) (.slice A k c)
      have q0 := b3.cell 0
      have q1 := b3.cell 1
      have q2 := b3.cell 2
      have q3 := b3.cell 3
      have q4 := b3.cell 4
      have q5 := b3.cell 5
      simp only [List.getElem?_toArray, List.getElem?_cons_zero, List.getElem?_cons_succ] at q0 q1 q2 q3 q4 q5
      refine bodyPost_ret (v := .agg #[.int .i64 vw, .int .i64 pr, .int .i64 j.v, .string j.h, .slice SA j.sg.length sc, .slice A k c]) (by simp [results, Try.results56, go_sem, q0, q1, q2, q3, q4, q5]) rfl ?_
      rw [HE.out]
      have hsl := hown.slice (by rw [reqsR_len, M47_eq]; omega)
      have k6 := (Keep.refl [w.heap.size] wr).set6 w.heap.size (.int .i64 vw) (.int .i64 pr) (.int .i64 j.v) (.string j.h) (.slice SA j.sg.length sc) (.slice A k c) (.inl (by simp))
      refine ⟨_, _, rfl, ?_, ?_, by show I64 vw; unfold I64; omega, by show I64 pr; unfold I64; omega, hjv, hjh, Blk.keep hrd k6 (by simp; omega), hkk.set6 _ _ _ _ _ _ _ (.inr (Nat.le_refl _))⟩
      · exact SliceOf.mono (SliceOf.keep hS fun i hi hl => k6.block i hl (by have : w2.heap.size ≤ i := hi.1; simp; omega)) fun i hi _ => by have : w2.heap.size ≤ i := hi.1; show w.heap.size ≤ i; omega
      · exact SliceOf.mono (F := fun i => w3.heap.size + 1 ≤ i) (SliceOf.keep hsl fun i hi hl => k6.block i hl (by have hi : w3.heap.size + 1 ≤ i := hi; simp; omega)) fun i hi _ => by have hi : w3.heap.size + 1 ≤ i := hi; show w.heap.size ≤ i; omega
end Go.Proofs.Ytdhhibppcckbkaa
