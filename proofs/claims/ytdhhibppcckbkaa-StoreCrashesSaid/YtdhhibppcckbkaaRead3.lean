import Derived.Test.YtdhhibppcckbkaaRead2
import Derived.Test.YtdhhibppcckbkaaOwn
import Derived.Deep.RegionLaw
namespace Go.Proofs.Ytdhhibppcckbkaa
open Go.RowKit
set_option linter.unusedVariables false
set_option linter.unusedSimpArgs false
def tagsR : Nat → St → List ByteArray × St
  | 0, s => ([], s)
  | k + 1, s => ((tagsR k s).1 ++ [(cutF 16 (tagsR k s).2).1], (cutF 16 (tagsR k s).2).2)
theorem tagsR_len (k : Nat) (s : St) : (tagsR k s).1.length = k := by
  induction k with
  | zero => rfl
  | succ k ih => simp [tagsR, ih]
def sigR (s : St) : Sg × St :=
  let a := numR 0 6 s
  let b := numR 0 7 a.2
  let c := tagsR b.1.toNat b.2
  (⟨a.1, c.1⟩, c.2)
theorem infoStr : (Try.prog.info? 9).map (fun i => (i.zero, i.size, i.bytes)) = some (some (.string ⟨#[]⟩), Rep.str.sz, 16) := by kernel_rfl
set_option maxHeartbeats 2000000 in
set_option maxRecDepth 100000 in
theorem sigR_call (g : Nat) (s : St) (w : World) (h : Rd w g s.b s.bad) :
    Calls Try.prog 79 #[.pointer (some ⟨g, 0, none⟩)] w fun e w' => ∃ v, e = .returned (.agg #[.int .i64 (sigR s).1.f, v]) ∧ SliceOf Rep.str w' (New w) v (sigR s).1.ts ∧ I64 (sigR s).1.f ∧ Rd w' g (sigR s).2.b (sigR s).2.bad ∧ Keep [g] w w' := by
  have HE : Hid (sigR s = (⟨(numR 0 6 s).1, (tagsR (numR 0 7 (numR 0 6 s).2).1.toNat (numR 0 7 (numR 0 6 s).2).2).1⟩, (tagsR (numR 0 7 (numR 0 6 s).2).1.toNat (numR 0 7 (numR 0 6 s).2).2).2)) := Lib.hid rfl
  generalize sigR s = out at *
  have hg := h.lt
  have nb := numR_bound 0 6 s
  go_enter Try.func79, Try.ntmps79
  go_wp2_with fail
  refine (numR_call g s 0 6 _ (Blk.alloc h _) (by unfold I64; omega) (by unfold I64; omega)).mono ?_
  rintro e w1 ⟨rfl, r1, k1⟩
  generalize numR 0 6 s = a at *
  obtain ⟨f, s1⟩ := a
  dsimp only at *
  have hs1 := k1.size
  simp only [World.size_alloc] at hs1
  have n1 := numR_bound 0 7 s1
  go_wp2_with fail
  refine (numR_call g s1 0 7 _ (Blk.alloc r1 _) (by unfold I64; omega) (by unfold I64; omega)).mono ?_
  rintro e w2 ⟨rfl, r2, k2⟩
  generalize numR 0 7 s1 = a at *
  obtain ⟨n, s2⟩ := a
  dsimp only at *
  have hn : 0 ≤ n ∧ n ≤ 7 := by omega
  obtain ⟨n, rfl⟩ := Int.eq_ofNat_of_zero_le hn.1
  simp only [Int.toNat_natCast] at HE
  have hs2 := k2.size
  simp only [World.size_alloc] at hs2
  have bs := (Blk.new w1 #[.int .i64 f, .slice none 0 0] 84).keep k2 (by simp; omega)
  have br := (((Blk.new w #[.int .i64 0, .slice none 0 0] 84).keep k1 (by simp; omega)).alloc (.cells #[.int .i64 f, .slice none 0 0] 84)).keep k2 (by simp; omega)
  have kk : Keep [g] w w2 := (((Keep.refl _ w).alloc _).trans k1 |>.alloc _).trans k2
  go_wp2
  go_loopw [9] (fun i wr => ∃ k : Nat, k ≤ n ∧ i = .int .i64 k ∧ ∃ tv, Blk wr w1.heap.size #[.int .i64 f, tv] 84 ∧ Own Rep.str 9 wr (w1.heap.size + 1) tv (tagsR k s2).1 ∧
      Blk wr w.heap.size #[.int .i64 0, .slice none 0 0] 84 ∧ Rd wr g (tagsR k s2).2.b (tagsR k s2).2.bad ∧ Keep [g] w wr ∧ w1.heap.size + 1 ≤ wr.heap.size) (fun i _ => n - (intOf i).toNat)
  case atStart => exact ⟨0, Nat.zero_le _, rfl, _, bs, Own.nil _ _ _ _, br, r2, kk, hs2⟩
  case round =>
    obtain ⟨k, hk, rfl, tv, hbs, hown, hbr, hrd, hkk, hsz⟩ := hrel
    obtain ⟨A, c, rfl, _⟩ := hown.form
    rw [tagsR_len] at *
    by_cases hlt : k < n
    · have c1 := hbs.cell 1
      have f1 := hbs.frozen 1
      simp only [List.getElem?_toArray, List.getElem?_cons_zero, List.getElem?_cons_succ] at c1
      go_wp2_with fail
      have hl7 : (tagsR k s2).1.length + 1 ≤ 8 := by rw [tagsR_len]; omega
      have hne : some w1.heap.size ≠ (Value.slice A k c).ownBlock := fun he => by have := hown.lt w1.heap.size he.symm; omega
      have hw : ∀ w3, Keep [g] wr.drew w3 → w3.cell? ⟨w1.heap.size, 1, none⟩ = some (.slice A k c) ∧ Own Rep.str 9 w3 (w1.heap.size + 1) (.slice A k c) (tagsR k s2).1 ∧ w1.heap.size + 1 ≤ w3.heap.size ∧
          Blk w3 w1.heap.size #[.int .i64 f, .slice A k c] 84 ∧ Blk w3 w.heap.size #[.int .i64 0, .slice none 0 0] 84 := by
        intro w3 k3
        have b3 : Blk w3 w1.heap.size #[.int .i64 f, .slice A k c] 84 := Blk.keep (w := wr.drew) hbs k3 (by simp; omega)
        refine ⟨(b3.cell 1).trans rfl, Own.keep (w := wr.drew) hown k3 (by simp; omega), ?_, b3, Blk.keep (w := wr.drew) hbr k3 (by simp; omega)⟩
        have h5 : wr.heap.size ≤ w3.heap.size := k3.size
        omega
      have hcut : (cutF 16 (tagsR k s2).2).1.size ≤ M47 := by have := cutF_len 16 (tagsR k s2).2; simp only [Int.cast_ofNat_Int] at this; rw [M47_eq]; omega
      go_region_law (first
        | (refine step_app Rep.str rfl (.tmp 12) (.tmp 15) 35 9 _ 16 (w1.heap.size + 1) rfl Try.underlying35 infoStr rfl (by decide) (by decide) _ (.slice A k c) (tagsR k s2).1 (cutF 16 (tagsR k s2).2).1 _ (by simp [Act.eval, Act.put]) (by simp [Act.eval, Act.put]) (by assumption) ⟨rfl, hcut⟩ (by simp [Value.oneCell']) (by omega) (by assumption) ?_; rw [tagsR_len]; intro gg cap w4 ho4 hg4 hat4 hlt4 hlo4; have b14 : Blk w4 w1.heap.size #[.int .i64 f, .slice A k c] 84 := (hg4.block _ (Blk.lt ‹Blk _ w1.heap.size _ _›) hne).trans ‹Blk _ w1.heap.size _ _›; have c14 : w4.cell? ⟨w1.heap.size, 1, none⟩ = some (.slice A k c) := (b14.cell 1).trans rfl; have f14 := b14.frozen 1)
        | (go_simp; go_at_call 78; refine (cut_call g (tagsR k s2).2 16 _ (by exact hrd)).mono ?_; rintro e w3 ⟨rfl, r3, k3⟩; obtain ⟨c13, o13, z13, b13, b23⟩ := hw _ k3; have d13 : ∀ o, (w3.alloc o).cell? ⟨w1.heap.size, 1, none⟩ = some (.slice A k c) := fun o => ((b13.alloc o).cell 1).trans rfl))
      all_goals
        have k4 : Keep [g] w w4 := (hkk.trans ((Keep.refl _ wr).drew.trans k3)).grown hg4 (fun i hi => .inr (by have := hown.lt i hi; omega))
        have r4 : Rd w4 g (tagsR (k + 1) s2).2.b (tagsR (k + 1) s2).2.bad := (hg4.block _ r3.lt (fun he => by have := hown.lt g he.symm; omega)).trans r3
        have b24 : Blk w4 w.heap.size #[.int .i64 0, .slice none 0 0] 84 := (hg4.block _ b23.lt (fun he => by have := hown.lt _ he.symm; omega)).trans b23
        have z4 := hg4.size
        go_wp2
        go_roundw
        case rel => exact ⟨k + 1, by omega, by go_num, _, by simpa using b14.set 1 (.slice (some ⟨gg, 0, none⟩) (k + 1) cap), ho4.kept (fun j hj hl => Below.heap_setCell _ _ _ _ (by simp; omega)) (by simp [World.setCell]), b24.other _ _ (by simp; omega), Blk.other r4 _ _ (by simp; omega), k4.setCell _ _ (.inr (by simp; omega)), by simp [World.setCell]; omega⟩
        case measure => simp [intOf]; omega
    · have hk' : k = n := by omega
      subst hk'
      have c0 := hbs.cell 0
      have c1 := hbs.cell 1
      have q0 := hbr.frozen 0
      have q1 := hbr.frozen 1
      have q2 := hbr.cell 0
      have q3 := hbr.cell 1
      simp only [List.getElem?_toArray, List.getElem?_cons_zero, List.getElem?_cons_succ] at c0 c1 q2 q3
      go_wp2
      clear q0 q1 q2 q3
      have b3 := hbr.set2 (.int .i64 f) (.slice A k c)
      have q0 := b3.cell 0
      have q1 := b3.cell 1
      simp only [List.getElem?_toArray, List.getElem?_cons_zero, List.getElem?_cons_succ] at q0 q1
      refine bodyPost_ret (v := .agg #[.int .i64 f, .slice A k c]) (by simp [results, Try.results79, go_sem, q0, q1]) rfl ?_
      rw [HE.out]
      have hsl := hown.slice (by rw [tagsR_len, M47_eq]; omega)
      refine ⟨_, rfl, ?_, by show I64 f; unfold I64; omega, Blk.other (Blk.other hrd _ _ (by simp; omega)) _ _ (by simp; omega), (hkk.setCell _ _ (.inr (Nat.le_refl _))).setCell _ _ (.inr (Nat.le_refl _))⟩
      refine SliceOf.mono (F := fun j => w1.heap.size + 1 ≤ j) (SliceOf.keep hsl (fun j hj hl => ?_)) (fun j hj _ => by have hj : w1.heap.size + 1 ≤ j := hj; show w.heap.size ≤ j; omega)
      have hj : w1.heap.size + 1 ≤ j := hj
      rw [Below.heap_setCell _ _ _ _ (by simp; omega), Below.heap_setCell _ _ _ _ (by simp; omega)]
end Go.Proofs.Ytdhhibppcckbkaa
