import Derived.Test.YtdhhibppcckbkaaSafe2
import Derived.BigRegionIn
namespace Go.Proofs.Ytdhhibppcckbkaa
open Go.RowKit Go.Shelf
set_option linter.unusedVariables false
set_option linter.unusedSimpArgs false
attribute [local go_sem] Oper.semAt_some
/-! logs: Cut -/
def endOf (l : List (Nat × ByteArray)) : Nat := match l.getLast? with | some x => x.1 | none => 0
theorem endOf_snoc (l : List (Nat × ByteArray)) (x : Nat × ByteArray) : endOf (l ++ [x]) = x.1 := by simp [endOf]
/-- Where the records end. -/
def endR (b : ByteArray) : Nat := endOf (recsAt b 0)
theorem endR_le (b : ByteArray) : endR b ≤ b.size := by
  unfold endR endOf
  cases h : (recsAt b 0).getLast? with
  | none => exact Nat.zero_le _
  | some x => exact (recsN_mem b _ _ x (List.mem_of_getLast? h)).2
set_option maxRecDepth 100000 in
set_option maxHeartbeats 2000000 in
theorem Cut_in (p : Nat) (x : Lg) (w : World) (hp : LogAt w p x) (hg : x.g = false) (hb : x.b.size ≤ 1000000) (hs : x.s ≤ 1000000) :
    CallsIn Fence.wide 5 Try.prog 39 #[.pointer (some ⟨p, 0, none⟩)] w fun e W' => e = .returned (.int .i64 0) ∧ LogAt W' p ⟨x.b.extract 0 (endR x.b), min x.s (endR x.b), x.f, false⟩ ∧ Keep [p] w W' := by
  obtain ⟨b, s, f, g⟩ := x
  dsimp only at hg hb hs ⊢
  subst hg
  obtain ⟨c0, c1, c2, c3⟩ := hp.cells
  have hpl := Blk.lt hp
  dsimp only at c0 c1 c2 c3
  have he := endR_le b
  generalize hm : endR b = m at he ⊢
  have HM := Lib.hid hm
  clear hm
  refine callsIn_of_wp_marks Try.func39 rfl trivial ?_ rfl
  simp only [Try.ntmps39, List.size_toArray, List.length_cons, List.length_nil, Nat.reduceAdd, Nat.reduceSub, Array.replicate_succ, Array.replicate_zero, List.push_toArray, List.append_toArray, List.nil_append, List.cons_append]
  gi_wp2_with (refine ⟨trivial, ?_⟩; gi_at_call 58; refine (records_in Fence.wide 4 trivial rfl _ _).mono ?_; rintro e w' ⟨rfl, rfl⟩)
  have bO := Boxed.new w 3 (.int .i64 0)
  have bN := Boxed.new (w.alloc (.cells #[.int .i64 0] 3)) 44 (.pointer (some ⟨p, 0, none⟩))
  rw [World.size_alloc] at bN
  have hB0 : Below w.heap.size w ((w.alloc (.cells #[.int .i64 0] 3)).alloc (.cells #[.pointer (some ⟨p, 0, none⟩)] 44)) := ((Below.refl _ w).alloc (Nat.le_refl _) _).alloc (by simp) _
  have c0' := cell_of_heap (hB0.block p hpl) c0
  refine wpIn_rangeFunc_ownF (F := Fence.wide) (n := 5) rfl (by omega) (gf := 76) (lb := #[.pointer (some ⟨w.heap.size + 1, 0, none⟩)]) rfl trivial (enters_of Try.func76 (by kernel_rfl) rfl)
    (records_stops Fence.wide 4 trivial rfl (by omega) p (w.heap.size + 1) b (by omega) _ (by simp; omega) (by simp) bN.cell c0') (fun h k => ⟨k.1.trans h.1, k.2.trans h.2⟩) (kpL_b (by simp; omega) (by simp)) (Below.refl _ _) (fun _ => rfl)
    (fun pre W => (Boxed W w.heap.size 3 (.int .i64 (endOf pre : Nat)) ∧ Boxed W (w.heap.size + 1) 44 (.pointer (some ⟨p, 0, none⟩))) ∧ Below w.heap.size w W)
    (fun _ _ _ => False)
    (OwnFrom.and (OwnFrom.and (Own.from (boxed_own _ _ (fun pre => .int .i64 (endOf pre : Nat))) _) (Own.from (boxed_own _ _ _) _)) (ownFrom_below (Nat.le_refl _) (by simp; omega)))
    (fun _ _ _ _ _ hs _ _ => hs)
    ⟨⟨bO.alloc _, bN⟩, hB0⟩
    (fun x => { tmps := #[.pointer (some ⟨p, 0, none⟩), undef, .int .i64 0, .pointer (some ⟨w.heap.size, 0, none⟩), .int .i64 (x.1 : Nat), .pointer (some ⟨p, 0, none⟩), .pointer (some ⟨p, 0, none⟩), .pointer (some ⟨p, 3, none⟩), .bool false, .pointer (some ⟨p, 0, none⟩), .func (.func 76) #[] #[.pointer (some ⟨w.heap.size + 1, 0, none⟩)], .int .i64 (x.1 : Nat), .string x.2, undef, undef, undef, undef, undef, undef, undef, undef, undef, undef, undef, undef, undef, undef, undef, undef, undef, undef, undef], defers := [] }) ?assign ?body ?done ?stop
  case assign =>
    intro l x W K hK
    gi_wp2
    exact hK
  case body =>
    rintro l pre x W ⟨⟨hv, hbx⟩, hB⟩ hlt
    have hc := hv.cell
    have hf := hv.frozen
    obtain ⟨x1, x2⟩ := x
    dsimp only
    gi_wp2
    have hb3 := hbx.other (show w.heap.size + 1 ≠ w.heap.size by omega) (.int .i64 (x1 : Nat))
    refine ⟨KeepsOthers.setCell _ _ _, ⟨?_, Eq.trans hb3 hbx.symm⟩, ⟨by rw [endOf_snoc]; exact hv.set _, hb3⟩, hB.setCell (p := ⟨w.heap.size, 0, none⟩) (Nat.le_refl _) _⟩
    exact Below.heap_setCell _ _ _ _ (by simp; omega)
  case done =>
    rintro D ys W hD rfl ⟨⟨hv, hbx⟩, hB⟩ hK
    have hc := hv.cell
    have hLW : LogAt W p ⟨b, s, f, false⟩ := (hB.block p hpl).trans hp
    obtain ⟨c0, c1, c2, c3⟩ := hLW.cells
    dsimp only at c0 c1 c2 c3
    have f0 := Blk.frozen hLW 0
    have f1 := Blk.frozen hLW 1
    rw [show endOf (recsAt b 0) = m from HM.out] at hc hv
    have HV := Lib.hid hv
    have HL := Lib.hid hLW
    clear hv hLW c0'
    have hez : (m : Int) ≤ (b.size : Int) := by omega
    have hpB : p ≠ w.heap.size := by omega
    gi_wp2_with fail
    gi_region
    gi_wp2_with fail
    have hL1 : LogAt (W.setCell ⟨p, 0, none⟩ (.string (b.extract 0 m))) p ⟨b.extract 0 m, s, f, false⟩ := by have := Blk.set HL.out 0 (.string (b.extract 0 m)); simpa [LogAt] using this
    have hv1 : Boxed (W.setCell ⟨p, 0, none⟩ (.string (b.extract 0 m))) w.heap.size 3 (.int .i64 (m : Nat)) := Blk.other (w := W) HV.out _ _ (by simp; omega)
    have hk1 := (KeepsOthers.setCell W ⟨p, 0, none⟩ (.string (b.extract 0 m))).same D _ hK rfl
    have kB : Keep [p] w (W.setCell ⟨p, 0, none⟩ (.string (b.extract 0 m))) := (Keep.of_below hB [p]).setCell _ _ (.inl (by simp))
    have hD' : w.heap.size ≤ D := by simp at hD; omega
    generalize W.setCell ⟨p, 0, none⟩ (.string (b.extract 0 m)) = W1 at *
    obtain ⟨a0, a1, a2, a3⟩ := hL1.cells
    dsimp only at a0 a1 a2 a3
    have g1 := Blk.frozen hL1 1
    have hcb := hv1.cell
    have HL1 := Lib.hid hL1
    clear hc c0 c1 c2 c3 f0 f1 hK hB HV HL hbx hL1 hv1
    have fin : ∀ v : Nat, v = min s m → LogAt (W1.setCell ⟨p, 1, none⟩ (.int .i64 (v : Nat))) p ⟨b.extract 0 m, min s m, f, false⟩ ∧ (W1.setCell ⟨p, 1, none⟩ (.int .i64 (v : Nat))).heap[D]? = some (.deferred (some [])) ∧ Keep [p] w (W1.setCell ⟨p, 1, none⟩ (.int .i64 (v : Nat))) := by
      rintro v rfl
      have hb' : LogAt (W1.setCell ⟨p, 1, none⟩ (.int .i64 (min s m : Nat))) p ⟨b.extract 0 m, min s m, f, false⟩ := by
        have := Blk.set HL1.out 1 (.int .i64 (min s m : Nat)); simpa [LogAt] using this
      exact ⟨hb', (KeepsOthers.setCell W1 ⟨p, 1, none⟩ (.int .i64 (min s m : Nat))).same D _ hk1 rfl, kB.setCell _ _ (.inl (by simp))⟩
    have fin := Lib.hid fin
    have DN : ∀ W2 : World, LogAt W2 p ⟨b.extract 0 m, min s m, f, false⟩ → W2.heap[D]? = some (.deferred (some [])) → Keep [p] w W2 → LogAt (W2.putObj D (.deferred none)) p ⟨b.extract 0 m, min s m, f, false⟩ ∧ Keep [p] w (W2.putObj D (.deferred none)) := by
      intro W2 h1 h2 h3
      refine ⟨(World.putObj_heap_other (by omega)).trans h1, h3.grown (grownBy_putObj' W2 D (.deferred none)) (fun i hi => by cases hi; exact .inr hD')⟩
    have DN := Lib.hid DN
    by_cases hms : s ≤ m
    · have hmz : (s : Int) ≤ (m : Int) := by omega
      gi_region
      gi_wp2
      obtain ⟨q1, q2, q3⟩ := fin.out s (by omega)
      obtain ⟨r1, r2⟩ := DN.out _ q1 q2 q3
      refine ⟨by simp, .inl ⟨_, _, rfl, run_takeDeferred q2, ?_⟩⟩
      exact ⟨_, results_tmp rfl _ _ _, rfl, r1, ⟨r2.os, r2.tape, r2.output, r2.size, r2.block⟩⟩
    · have hmz : ¬ (s : Int) ≤ (m : Int) := by omega
      gi_region
      gi_wp2
      obtain ⟨q1, q2, q3⟩ := fin.out m (by omega)
      obtain ⟨r1, r2⟩ := DN.out _ q1 q2 q3
      refine ⟨by simp, .inl ⟨_, _, rfl, run_takeDeferred q2, ?_⟩⟩
      exact ⟨_, results_tmp rfl _ _ _, rfl, r1, ⟨r2.os, r2.tape, r2.output, r2.size, r2.block⟩⟩
  case stop =>
    rintro D c pre W _ _ h _
    exact h.elim
theorem Cut_call (p : Nat) (x : Lg) (w : World) (hp : LogAt w p x) (hg : x.g = false) (hb : x.b.size ≤ 1000000) (hs : x.s ≤ 1000000) :
    Calls Try.prog 39 #[.pointer (some ⟨p, 0, none⟩)] w fun e W' => e = .returned (.int .i64 0) ∧ LogAt W' p ⟨x.b.extract 0 (endR x.b), min x.s (endR x.b), x.f, false⟩ ∧ Keep [p] w W' :=
  (callsIn_wide (n := 5)).1 (Cut_in p x w hp hg hb hs)
theorem Cut_gone (p : Nat) (x : Lg) (w : World) (hp : LogAt w p x) (hg : x.g = true) :
    Calls Try.prog 39 #[.pointer (some ⟨p, 0, none⟩)] w fun e w' => e = .returned (.int .i64 8) ∧ Keep [] w w' := by
  obtain ⟨b, s, f, g⟩ := x
  dsimp only at hg
  subst hg
  obtain ⟨c0, c1, c2, c3⟩ := hp.cells
  dsimp only at c0 c1 c2 c3
  go_enter Try.func39, Try.ntmps39
  go_wp2
  go_ret
  exact ⟨rfl, Keep.refl _ _⟩
end Go.Proofs.Ytdhhibppcckbkaa
