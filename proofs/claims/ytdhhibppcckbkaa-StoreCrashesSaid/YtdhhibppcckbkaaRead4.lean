import Derived.Test.YtdhhibppcckbkaaRead3
namespace Go.Proofs.Ytdhhibppcckbkaa
open Go.RowKit
set_option linter.unusedVariables false
set_option linter.unusedSimpArgs false
/-- signatures, the last From, what is left -/
def sigsR : Nat → St → List Sg × Int × St
  | 0, s => ([], -1, s)
  | k + 1, s =>
    let r := sigsR k s
    let x := sigR r.2.2
    (r.1 ++ [x.1], x.1.f, x.2.check (decide (r.2.1 < x.1.f)))
theorem sigsR_len (k : Nat) (s : St) : (sigsR k s).1.length = k := by
  induction k with
  | zero => rfl
  | succ k ih => simp [sigsR, ih]
theorem sigR_f (s : St) : I64 (sigR s).1.f := by
  have := numR_bound 0 6 s
  show I64 (numR 0 6 s).1
  unfold I64; omega
theorem sigsR_last (k : Nat) (s : St) : I64 (sigsR k s).2.1 := by
  cases k with
  | zero => show I64 (-1); unfold I64; omega
  | succ k => exact sigR_f _
def certR (s : St) : Ct × St :=
  let a := numR 0 1000000 s
  let b := cutF 32 a.2
  let c := numR 0 7 b.2
  let d := sigsR c.1.toNat c.2
  (⟨a.1, b.1, d.1⟩, d.2.2)
theorem infoSig : (Try.prog.info? 84).map (fun i => (i.zero, i.size, i.bytes)) = some (some (.agg #[.int .i64 0, .slice none 0 0]), Rep.sg.sz, 32) := by kernel_rfl
set_option maxHeartbeats 4000000 in
set_option maxRecDepth 100000 in
theorem certR_call (g : Nat) (s : St) (w : World) (h : Rd w g s.b s.bad) :
    Calls Try.prog 73 #[.pointer (some ⟨g, 0, none⟩)] w fun e w' => ∃ v, e = .returned (.agg #[.int .i64 (certR s).1.v, .string (certR s).1.h, v]) ∧ SliceOf Rep.sg w' (New w) v (certR s).1.sg ∧ I64 (certR s).1.v ∧ (certR s).1.h.size ≤ M47 ∧ Rd w' g (certR s).2.b (certR s).2.bad ∧ Keep [g] w w' := by
  have HE : Hid (certR s = (⟨(numR 0 1000000 s).1, (cutF 32 (numR 0 1000000 s).2).1, (sigsR (numR 0 7 (cutF 32 (numR 0 1000000 s).2).2).1.toNat (numR 0 7 (cutF 32 (numR 0 1000000 s).2).2).2).1⟩, (sigsR (numR 0 7 (cutF 32 (numR 0 1000000 s).2).2).1.toNat (numR 0 7 (cutF 32 (numR 0 1000000 s).2).2).2).2.2)) := Lib.hid rfl
  generalize certR s = out at *
  have hg := h.lt
  have nb := numR_bound 0 1000000 s
  go_enter Try.func73, Try.ntmps73
  go_wp2_with fail
  refine (numR_call g s 0 1000000 _ (Blk.alloc h _) (by unfold I64; omega) (by unfold I64; omega)).mono ?_
  rintro e w1 ⟨rfl, r1, k1⟩
  generalize numR 0 1000000 s = a at *
  obtain ⟨f, s1⟩ := a
  dsimp only at *
  have hs1 := k1.size
  simp only [World.size_alloc] at hs1
  go_wp2_with fail
  refine (cut_call g s1 32 _ r1).mono ?_
  rintro e w2 ⟨rfl, r2, k2⟩
  have hcl := cutF_len 32 s1
  simp only [Int.cast_ofNat_Int] at hcl
  generalize cutF 32 s1 = a at *
  obtain ⟨hh, s2⟩ := a
  dsimp only at *
  have hs2 := k2.size
  have n1 := numR_bound 0 7 s2
  go_wp2_with fail
  refine (numR_call g s2 0 7 _ (Blk.alloc r2 _) (by unfold I64; omega) (by unfold I64; omega)).mono ?_
  rintro e w3 ⟨rfl, r3, k3⟩
  generalize numR 0 7 s2 = a at *
  obtain ⟨n, s3⟩ := a
  dsimp only at *
  have hn : 0 ≤ n ∧ n ≤ 7 := by omega
  obtain ⟨n, rfl⟩ := Int.eq_ofNat_of_zero_le hn.1
  simp only [Int.toNat_natCast] at HE
  have hs3 := k3.size
  simp only [World.size_alloc] at hs3
  have bs := (Blk.new w2 #[.int .i64 f, .string hh, .slice none 0 0] 26).keep k3 (by simp; omega)
  have br := ((((Blk.new w #[.int .i64 0, .string ⟨#[]⟩, .slice none 0 0] 26).keep k1 (by simp; omega)).keep k2 (by simp; omega)).alloc (.cells #[.int .i64 f, .string hh, .slice none 0 0] 26)).keep k3 (by simp; omega)
  have kk : Keep [g] w w3 := ((((Keep.refl _ w).alloc _).trans k1).trans k2 |>.alloc _).trans k3
  go_wp2
  go_loopw [4, 13] (fun last i wr => ∃ k : Nat, k ≤ n ∧ i = .int .i64 k ∧ last = .int .i64 (sigsR k s3).2.1 ∧ ∃ tv, Blk wr w2.heap.size #[.int .i64 f, .string hh, tv] 26 ∧ Own Rep.sg 84 wr (w2.heap.size + 1) tv (sigsR k s3).1 ∧
      Blk wr w.heap.size #[.int .i64 0, .string ⟨#[]⟩, .slice none 0 0] 26 ∧ Rd wr g (sigsR k s3).2.2.b (sigsR k s3).2.2.bad ∧ Keep [g] w wr ∧ w2.heap.size + 1 ≤ wr.heap.size) (fun _ i _ => n - (intOf i).toNat)
  case atStart => exact ⟨0, Nat.zero_le _, rfl, rfl, _, bs, Own.nil _ _ _ _, br, r3, kk, hs3⟩
  case round =>
    obtain ⟨k, hk, rfl, rfl, tv, hbs, hown, hbr, hrd, hkk, hsz⟩ := hrel
    obtain ⟨A, c, rfl, _⟩ := hown.form
    rw [sigsR_len] at hbs hown
    by_cases hlt : k < n
    · go_wp2_with fail
      refine (sigR_call g (sigsR k s3).2.2 _ hrd).mono ?_
      rintro e w4 ⟨v, rfl, hsl, hf, r4, k4⟩
      obtain ⟨B, d, rfl, hd⟩ := hsl.form
      have hs4 := k4.size
      have HN : Hid (sigsR (k + 1) s3 = ((sigsR k s3).1 ++ [(sigR (sigsR k s3).2.2).1], (sigR (sigsR k s3).2.2).1.f, (sigR (sigsR k s3).2.2).2.check (decide ((sigsR k s3).2.1 < (sigR (sigsR k s3).2.2).1.f)))) := Lib.hid rfl
      have hl2 := sigsR_last k s3
      generalize sigR (sigsR k s3).2.2 = a at *
      obtain ⟨x, s4⟩ := a
      dsimp only at *
      have bx := Blk.new w4 #[.int .i64 x.f, .slice B x.ts.length d] 84
      have e0 := bx.cell 0
      simp only [List.getElem?_toArray, List.getElem?_cons_zero, List.getElem?_cons_succ] at e0
      go_wp2_with fail
      refine (check_call g s4 (decide ((sigsR k s3).2.1 < x.f)) _ (Blk.alloc r4 _)).mono ?_
      rintro e w5 ⟨rfl, r5, k5⟩
      have kk5 : Keep [g] wr w5 := (k4.alloc _).trans k5
      have hs5 := k5.size
      simp only [World.size_alloc] at hs5
      have b5 := hbs.keep kk5 (by simp; omega)
      have br5 := hbr.keep kk5 (by simp; omega)
      have ho5 := hown.keep kk5 (by simp; omega)
      have bx5 := bx.keep k5 (by simp; omega)
      have hblk : ∀ j, (Value.slice A k c).ownBlock = some j → w2.heap.size + 1 ≤ j ∧ j < wr.heap.size := hown.lt
      have ht5 : SliceOf Rep.str w5 (Off (w2.heap.size + 1) (.slice A k c)) (.slice B x.ts.length d) x.ts := by
        refine SliceOf.mono (F := fun j => New wr j ∧ j < w4.heap.size) (SliceOf.keep (hsl.mono fun j hj hl => ⟨hj, hl⟩) fun j hj hl => ?_) fun j hj _ => ?_
        · exact (((Keep.refl [g] w4).alloc _).trans k5).block j hl (by have h1 : wr.heap.size ≤ j := hj.1; simp; omega)
        · have h1 : wr.heap.size ≤ j := hj.1
          exact ⟨by omega, fun he => by have := hblk j he.symm; omega⟩
      clear e0
      have e0 := bx5.cell 0
      have e1 := bx5.cell 1
      have c2 := b5.cell 2
      simp only [List.getElem?_toArray, List.getElem?_cons_zero, List.getElem?_cons_succ] at e0 e1 c2
      have d2 : ∀ o, (w5.alloc o).cell? ⟨w2.heap.size, 2, none⟩ = some (.slice A k c) := fun o => ((b5.alloc o).cell 2).trans rfl
      go_wp2_with (at_builtin; refine wpList_app Rep.sg rfl _ _ 24 84 _ 32 (w2.heap.size + 1) rfl Try.underlying24 infoSig rfl (by decide) (by decide) _ (.slice A k c) (sigsR k s3).1 x #[.int .i64 x.f, .slice B x.ts.length d] rfl rfl ho5 ⟨_, rfl, hf, ht5⟩ (by simp [Value.oneCell']) (by rw [sigsR_len]; omega) (by omega) ?_; rw [sigsR_len]; intro gg cap w6 ho6 hg6 hat6 hlt6 hlo6; have b6 : Blk w6 w2.heap.size #[.int .i64 f, .string hh, .slice A k c] 26 := (hg6.block _ b5.lt (fun he => by have := hblk _ he.symm; omega)).trans b5; have c6 := b6.cell 2; have f6 := b6.frozen 2; simp only [List.getElem?_toArray, List.getElem?_cons_zero, List.getElem?_cons_succ] at c6)
      have k6 : Keep [g] w w6 := (hkk.trans kk5).grown hg6 (fun i hi => .inr (by have := hblk i hi; omega))
      have r6 : Rd w6 g (s4.check (decide ((sigsR k s3).2.1 < x.f))).b (s4.check (decide ((sigsR k s3).2.1 < x.f))).bad := (hg6.block _ r5.lt (fun he => by have := hblk _ he.symm; omega)).trans r5
      have br6 : Blk w6 w.heap.size #[.int .i64 0, .string ⟨#[]⟩, .slice none 0 0] 26 := (hg6.block _ br5.lt (fun he => by have := hblk _ he.symm; omega)).trans br5
      have z6 := hg6.size
      refine ⟨⟨k + 1, by omega, by go_num, by rw [HN.out], _, by simpa using b6.set 2 (.slice (some ⟨gg, 0, none⟩) (k + 1) cap), ?_, br6.other _ _ (by simp; omega), ?_, k6.setCell _ _ (.inr (by simp; omega)), by simp [World.setCell]; omega⟩, by simp [intOf]; omega⟩
      · rw [HN.out]
        exact ho6.kept (fun j hj hl => Below.heap_setCell _ _ _ _ (by simp; omega)) (by simp [World.setCell])
      · rw [HN.out]
        exact Blk.other r6 _ _ (by simp; omega)
    · have hk' : k = n := by omega
      subst hk'
      have c0 := hbs.cell 0
      have c1 := hbs.cell 1
      have c2 := hbs.cell 2
      have q0 := hbr.frozen 0
      have q1 := hbr.frozen 1
      have q2 := hbr.frozen 2
      have q3 := hbr.cell 0
      have q4 := hbr.cell 1
      have q5 := hbr.cell 2
      simp only [List.getElem?_toArray, List.getElem?_cons_zero, List.getElem?_cons_succ] at c0 c1 c2 q3 q4 q5
      go_wp2
      clear q0 q1 q2 q3 q4 q5
      have b3 := hbr.set3 (.int .i64 f) (.string hh) (.slice A k c)
      have q0 := b3.cell 0
      have q1 := b3.cell 1
      have q2 := b3.cell 2
      simp only [List.getElem?_toArray, List.getElem?_cons_zero, List.getElem?_cons_succ] at q0 q1 q2
      refine bodyPost_ret (v := .agg #[.int .i64 f, .string hh, .slice A k c]) (by simp [results, Try.results73, go_sem, q0, q1, q2]) rfl ?_
      rw [HE.out]
      have hsl := hown.slice (by rw [sigsR_len, M47_eq]; omega)
      refine ⟨_, rfl, ?_, by show I64 f; unfold I64; omega, by show hh.size ≤ M47; rw [M47_eq]; omega, Blk.other (Blk.other (Blk.other hrd _ _ (by simp; omega)) _ _ (by simp; omega)) _ _ (by simp; omega), hkk.set3 _ _ _ _ (.inr (Nat.le_refl _))⟩
      refine SliceOf.mono (F := fun j => w2.heap.size + 1 ≤ j) (SliceOf.keep hsl (fun j hj hl => ?_)) (fun j hj _ => by have hj : w2.heap.size + 1 ≤ j := hj; show w.heap.size ≤ j; omega)
      have hj : w2.heap.size + 1 ≤ j := hj
      rw [Below.heap_setCell _ _ _ _ (by simp; omega), Below.heap_setCell _ _ _ _ (by simp; omega), Below.heap_setCell _ _ _ _ (by simp; omega)]
end Go.Proofs.Ytdhhibppcckbkaa
