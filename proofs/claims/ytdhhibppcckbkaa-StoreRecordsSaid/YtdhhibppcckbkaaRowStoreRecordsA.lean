/- Of all states, and of all blocks of a size that is looked at, the records are the chapter's: the law StoreRecords returns true for every state and every block. -/
import Derived.Test.YtdhhibppcckbkaaStore5
import Derived.Test.YtdhhibppcckbkaaLawBlock
import Derived.Test.YtdhhibppcckbkaaOpen2
import Derived.Test.YtdhhibppcckbkaaStore1
import Derived.Test.YtdhhibppcckbkaaRows
import Derived.WalkKit
import Derived.ProofKit
import Derived.OpenShut
import Derived.ShutString
import Derived.ChangeOld
import Derived.Below
import Derived.SizedLaws
namespace Go.Proofs.Ytdhhibppcckbkaa
open Go.RowKit
set_option linter.unusedVariables false
set_option linter.unusedSimpArgs false
/-! the store: awake; StoreRecords -/
theorem recs_empty : recs ⟨#[]⟩ = [] := (recs_none (b := ⟨#[]⟩) (by decide +kernel)).1
set_option maxRecDepth 100000 in
set_option maxHeartbeats 2000000 in
theorem awake10_call (w : World) : Calls Try.prog 8 #[] w fun e w' => e = .returned (.bool true) ∧ Keep [] w w' := by
  go_enter Try.func8, Try.ntmps8
  go_wp2_with fail
  refine (new_call _).mono ?_
  rintro e w1 ⟨p, rfl, hp, h1, k1⟩
  go_wp2_with fail
  refine (open_call p _ _ h1 rfl (by show (0 : Nat) ≤ _; omega) (by show (0 : Nat) ≤ _; omega)).mono ?_
  dsimp only
  rw [recs_empty]
  rintro e w2 ⟨m, rfl, hm, h2, k2, v, G, hst, -, -, hv⟩
  obtain rfl := hv rfl
  have hpl := Blk.lt h1
  have hmp : m ≠ p := by omega
  have e0 : endR ⟨#[]⟩ = 0 := (recs_none (b := ⟨#[]⟩) (by decide +kernel)).2
  rw [e0] at h2
  replace h2 : LogAt w2 p ⟨⟨#[]⟩, 0, -1, false⟩ := h2
  replace hst : StAt w2 m p s0 (.slice none 0 0) := hst
  have kk2 : Keep [] w w2 := k1.new k2 (fun i hi => .inr (by simp at hi; omega))
  have l2 := k1.size
  replace hst := Lib.hid hst
  replace h2 := Lib.hid h2
  clear hv e0
  go_wp2_with fail
  refine (save_one m p _ hst.out h2.out hmp).mono ?_
  rintro e w3 ⟨rfl, h3, k3⟩
  have kk3 : Keep [] w w3 := kk2.new k3 (fun i hi => .inr (by simp at hi; omega))
  replace h3 := Lib.hid h3
  go_wp2_with fail
  refine (state_call m p s1 _ _ h3.out).mono ?_
  rintro e w4 ⟨he, k4⟩
  replace he : e = .returned (.agg #[.int .i64 1, .int .i64 0]) := he
  subst he
  have hfd : ∀ w : World, (Instr.field 23 (.agg #[.int .i64 1, .int .i64 0]) 0).run Try.prog w = .ok (.int .i64 1) w := fun _ => by kernel_rfl
  go_wp2
  go_ret
  exact ⟨rfl, kk3.trans k4⟩
theorem quiet_loadW {P : Program} {C : World → Prop} {a : Act} {o : Oper} {K : Act → Prop} (ty : TypeId) (x : Operand) (ho : o.op = .load ty x) (g : Nat) (D : Array Value) (t : Nat) (d : TypeDesc) (n : Nat) (hx : a.eval x = .pointer (some ⟨g, 0, none⟩)) (hb : ∀ w, C w → Blk w g D t)
    (hu : P.underlying ty = some d) (hd : d.isRow = true) (hi : (P.info? ty).map (·.size) = some n) (hn : D.size = n) (hk : K (a.put o.dst (.agg D))) : o.quiet P a C K :=
  quiet_run (fun w hw => by
    unfold execOp
    simp only [ho, hx, Sem.run_bind, run_loadW w g ty D t d n (hb w hw) hu hd hi hn, Result.andThen_ok]
    rfl) hk
set_option maxHeartbeats 8000000 in
theorem storeRecords_call (s : Stt) (x : Bk) (v u : Value) (F : Nat → Prop) (w : World) (h : SliceOf Rep.sg w F v x.j.sg) (h2 : SliceOf Rep.req w F u x.q) (sv : I64 s.v) (sl : I64 s.l) (hv : I64 x.v) (hp : I64 x.p) (hj : I64 x.j.v) :
    Calls Try.prog 3 #[.agg (stV s), .agg (bkV x v u)] w fun e w' => e = .returned (.bool true) ∧ Keep [] w w' := by
  obtain ⟨A, c, rfl, -⟩ := h.form
  obtain ⟨B, d, rfl, -⟩ := h2.form
  replace h := Lib.hid h
  replace h2 := Lib.hid h2
  replace sv := Lib.hid sv
  replace sl := Lib.hid sl
  replace hv := Lib.hid hv
  replace hp := Lib.hid hp
  replace hj := Lib.hid hj
  go_enter Try.func3, Try.ntmps3
  go_upto_region 1 with (first
    | ((with_reducible refine wl_box 23 (.tmp 0) ?_ ?_); (with_reducible rfl); refine sx_box rfl 23 (.tmp 0) rfl (stV s) rfl ?_; intro w1 b1 k1 z1; clear z1; (try simp only [Act.put, List.setIfInBounds_toArray, List.set_cons_zero, List.set_cons_succ]))
    | ((with_reducible refine wl_box 29 (.tmp 1) ?_ ?_); (with_reducible rfl); refine sx_box rfl 29 (.tmp 1) rfl (bkV x (.slice A x.j.sg.length c) (.slice B x.q.length d)) rfl ?_; intro w2 b2 k2 z2; clear z2; (try simp only [Act.put, List.setIfInBounds_toArray, List.set_cons_zero, List.set_cons_succ])))
  have d1 := b1.keep k2 (by simp)
  have kk2 := k1.trans k2
  clear b1 k1 k2
  go_wp2_with fail
  refine (awake10_call _).mono ?_
  rintro e w3 ⟨rfl, k3⟩
  have d3 := d1.keep k3 (by simp)
  have b3 := b2.keep k3 (by simp)
  have kk3 := kk2.trans k3
  clear d1 b2 kk2 k3
  go_wp2_with (first
    | ((with_reducible refine wl_load 29 (.tmp 3) ?_ ?_); (with_reducible rfl); refine sv_loadW 29 (.tmp 3) rfl rfl w1.heap.size (bkV x (.slice A x.j.sg.length c) (.slice B x.q.length d)) _ _ 6 rfl b3 Try.underlying29 rfl zBk_size rfl ?_; (try simp only [Act.put, List.setIfInBounds_toArray, List.set_cons_zero, List.set_cons_succ])))
  refine (fewBlock_call x _ _ F _ (h.out.keep (kk3.at F (by simp))) (h2.out.keep (kk3.at F (by simp)))).mono ?_
  rintro e w4 ⟨rfl, k4⟩
  have d4 := d3.keep k4 (by simp)
  have b4 := b3.keep k4 (by simp)
  have kk4 := kk3.trans k4
  clear d3 b3 kk3 k4
  cases hfew : fewBlock x with
  | false =>
    clear hfew
    go_wp2_with fail
    refine (awake10_call _).mono ?_
    rintro e w5 ⟨rfl, k5⟩
    go_wp2
    go_ret
    exact ⟨rfl, kk4.trans k5⟩
  | true =>
    have hsz := (fewBlock_size x hfew).1
    replace hsz := Lib.hid hsz
    clear hfew
    go_wp2_with fail
    have hA := Lib.hid (fun w' (kq : Keep [] w4 w') => record_call s w')
    have hB := Lib.hid (fun w' (kq : Keep [] w4 w') => rrecord_call s w' sv.out sl.out)
    have hC1 := Lib.hid (fun w' (kq : Keep [] w4 w') => brecord_call x _ _ F w' (h.out.keep ((kk4.trans kq).at F (by simp))) (h2.out.keep ((kk4.trans kq).at F (by simp))) (by have := hsz.out; omega))
    have hD1 := Lib.hid (fun w' (kq : Keep [] w4 w') => rbrecord_call x _ _ F w' (h.out.keep ((kk4.trans kq).at F (by simp))) (h2.out.keep ((kk4.trans kq).at F (by simp))) hv.out hp.out hj.out (by have := hsz.out; omega))
    replace d4 := Lib.hid d4
    replace b4 := Lib.hid b4
    refine wp_region_class (C := fun w' => Keep [] w4 w') (by kernel_rfl) (by kernel_rfl) ((Keep.refl _ _).drew) ?_
    iterate 13 (first
      | go_big_quiet_skip
      | (go_big_quiet_want; first
        | (refine quiet_loadW 23 (.tmp 2) rfl w.heap.size (stV s) _ _ 2 rfl (fun w' hw => d4.out.keep hw (by simp)) Try.underlying23 rfl zSt_size rfl ?_; simp only [Act.put, List.setIfInBounds_toArray, List.set_cons_zero, List.set_cons_succ]; go_big_quiet_on)
        | (refine quiet_loadW 29 (.tmp 3) rfl w1.heap.size (bkV x (.slice A x.j.sg.length c) (.slice B x.q.length d)) _ _ 6 rfl (fun w' hw => b4.out.keep hw (by simp)) Try.underlying29 rfl zBk_size rfl ?_; simp only [Act.put, List.setIfInBounds_toArray, List.set_cons_zero, List.set_cons_succ]; go_big_quiet_on)
        | (go_big_quiet_op; go_big_quiet_on)
        | (refine quiet_run (v := ?_) ?_ ?_; (rotate_left; (intro w' hC; (try dsimp only at hC); go_split_ands; go_simp; with_reducible rfl); simp only [Act.put, List.setIfInBounds_toArray, List.set_cons_zero, List.set_cons_succ]; go_big_quiet_on))
        | (refine quiet_call (v := ?_) (f := ?_) (args := ?_) ?_ ?_ ?_; (rotate_left; rotate_left; rotate_left; (intro w' hC; (try dsimp only at hC); go_split_ands; go_simp; (refine ⟨?_, ?_⟩ <;> with_reducible rfl)); (intro w' hC; first | (go_at_call 10; (with_reducible refine (hA.out _ hC).mono ?_); rintro e w28 ⟨rfl, kq⟩; refine ⟨?_, Keep.trans hC kq⟩; with_reducible rfl) | (go_at_call 11; (with_reducible refine (hB.out _ hC).mono ?_); rintro e w28 ⟨rfl, kq⟩; refine ⟨?_, Keep.trans hC kq⟩; with_reducible rfl) | (go_at_call 12; (with_reducible refine (hC1.out _ hC).mono ?_); rintro e w28 ⟨rfl, kq⟩; refine ⟨?_, Keep.trans hC kq⟩; with_reducible rfl) | (go_at_call 13; (with_reducible refine (hD1.out _ hC).mono ?_); rintro e w28 ⟨rfl, kq⟩; refine ⟨?_, Keep.trans hC kq⟩; with_reducible rfl)); simp only [Act.put, List.setIfInBounds_toArray, List.set_cons_zero, List.set_cons_succ]; go_big_quiet_on))))
    refine wpQuiet_nil ?_
    intro w9 k9
    go_wp2
    go_ret
    exact ⟨rfl, kk4.trans k9⟩
end Go.Proofs.Ytdhhibppcckbkaa
namespace Go.Proofs.Ytdhhibppcckbkaa
open Go.RowKit Go.ChangeShapes Go.WideShapes Go.ChangeAt
set_option linter.unusedVariables false
set_option linter.unusedSimpArgs false
def Rep.st : Rep Stt where
  sz := 2
  R := fun _ _ x cs => cs = [.int .i64 x.v, .int .i64 x.l] ∧ I64 x.v ∧ I64 x.l
  len := by rintro _ _ _ _ ⟨rfl, _⟩; rfl
  keep := fun h _ => h
  mono := fun h _ => h
section
variable {H : Type} {enc : TypeId × Value → H} {W : World}
theorem open_st : Opens enc Try.prog W Rep.st 23 := by
  intro fuel cs x h hw
  obtain ⟨xs, n, rfl, rfl, hl, hxl, hf⟩ := DataW.trod_struct Try.underlying23 h
  rw [show Try.prog.cellsOf 23 = 2 by kernel_rfl] at hl
  obtain ⟨c0, c1, rfl⟩ := li2 cs hl
  obtain ⟨x0, x1, rfl⟩ := li2 xs hxl
  have f0 : DataW.trod enc Try.prog W 0 (fun _ => true) true n 3 (([c0, c1].drop 0).take (Try.prog.cellsOf 3)) = some x0 := hf 0 _ rfl
  rw [show Try.prog.cellsOf 3 = 1 by kernel_rfl] at f0
  replace f0 : DataW.trod enc Try.prog W 0 (fun _ => true) true n 3 [c0] = some x0 := f0
  have f1 : DataW.trod enc Try.prog W 0 (fun _ => true) true n 3 (([c0, c1].drop 1).take (Try.prog.cellsOf 3)) = some x1 := hf 1 _ rfl
  rw [show Try.prog.cellsOf 3 = 1 by kernel_rfl] at f1
  replace f1 : DataW.trod enc Try.prog W 0 (fun _ => true) true n 3 [c1] = some x1 := f1
  have hw' : ∀ k, k ∈ x0.1.weights Try.prog 3 ++ (x1.1.weights Try.prog 3 ++ ([])) → k ≤ reachBytes := by
    intro k hk
    refine hw k ?_
    simp only [DataW.weights, Try.underlying23, List.map_cons, List.map_nil, DataW.weightsEach]
    exact hk
  simp only [List.mem_append] at hw'
  obtain ⟨y0, h0⟩ := opens_int Try.underlying3 n _ _ f0 (fun k hk => hw' k (.inl hk))
  obtain ⟨y1, h1⟩ := opens_int Try.underlying3 n _ _ f1 (fun k hk => hw' k (.inr (.inl hk)))
  obtain ⟨e0, b0⟩ := h0
  obtain ⟨e1, b1⟩ := h1
  simp only [List.cons.injEq, and_true] at e0 e1
  subst e0 e1
  exact ⟨⟨y0, y1⟩, rfl, b0, b1⟩
end
end Go.Proofs.Ytdhhibppcckbkaa
namespace Go.Proofs.Ytdhhibppcckbkaa.storeRecords
open Go.ChangeShapes Go.WideShapes Go.ChangeAt Go.RowKit
open Go.ChangeMaps (open_string shut_string)
set_option linter.unusedVariables false
set_option linter.unusedSimpArgs false
theorem own : ownKnob Try.prog.godebug = none := by kernel_rfl
theorem laidOut : laidOutB Try.prog = true := by kernel_rfl
set_option maxRecDepth 100000 in
theorem lifted (os : Os) (started : os.Started) (H : Type) (enc : TypeId × Value → H) :
    ReturnsInHanded {} Try.checked os 3 .any (Rows.storeRecordsSpec.pre6 enc Try.prog Try.f3 Rows.storeRecordsRow.domain false) (Rows.storeRecordsSpec.post enc Try.prog Try.f3 false true false false) := by
  refine returnsInHanded_of_change_sized (C := Try.checked) own started (by kernel_rfl) Try.func3
    (ChangeSpec.witness6 (enc := enc) (C := Try.checked) false ⟨#[], #[.agg #[.int .i64 0, .int .i64 0], .agg #[.int .i64 0, .int .i64 0, .int .i64 0, .string ByteArray.empty, .slice none 0 0, .slice none 0 0]], []⟩ 8 (by kernel_rfl) (by kernel_rfl) (by kernel_rfl) (by kernel_rfl)) ?_
  intro W base args ds gs before hval0 hW hcnd hsz0 _
  have hsz : (DataW.weightsEach Try.prog (Try.f3.params.toList ++ Rows.storeRecordsSpec.plain.varTypes Try.prog) (ds ++ gs)).all (· ≤ reachBytes) = true := hsz0
  have hval : ∀ (j : Nat) t v, Try.f3.params[j]? = some t → args[j]? = some v → Value.okWide Try.prog W .any base t v := hval0
  have hW' := hW
  obtain ⟨p, q, hA0, hV, rfl, hfz, hnd⟩ := hW
  have hA : DataW.TrodAll enc Try.prog W 0 (fun _ => true) true Try.f3.params.toList args.toList ds p := hA0
  rw [Try.params3] at hA hval hsz
  obtain ⟨v0, vs0, d0, ds0, p0, q0, hargs, rfl, rfl, h0, r0⟩ := trodAll_cons hA
  obtain ⟨v1, vs1, d1, ds1, p1, q1, rfl, rfl, rfl, h1, r1⟩ := trodAll_cons r0
  obtain ⟨rfl, rfl, rfl⟩ := trodAll_nil r1
  obtain rfl : args = #[v0, v1] := by cases args; simp_all
  obtain ⟨rfl, rfl⟩ := trodVars_none hV
  have k0 := h0
  have lt0 : ∀ x ∈ p0, x.block < W.heap.size := by obtain ⟨m, hm⟩ := k0; exact DataW.trod_lt m _ _ _ hm
  obtain ⟨cs0, rfl, _⟩ := okWide_struct Try.underlying23 (hval 0 23 v0 rfl rfl)
  obtain ⟨fuel0, hf0⟩ := id h0
  obtain ⟨y0, hr0⟩ := open_st fuel0 _ _ hf0 (fun n hn => of_decide_eq_true (List.all_eq_true.1 hsz n (DataW.weights_mem_each (j := 0) (t := 23) rfl rfl n hn)))
  have k1 := h1
  have lt1 : ∀ x ∈ p1, x.block < W.heap.size := by obtain ⟨m, hm⟩ := k1; exact DataW.trod_lt m _ _ _ hm
  obtain ⟨cs1, rfl, _⟩ := okWide_struct Try.underlying29 (hval 1 29 v1 rfl rfl)
  obtain ⟨fuel1, hf1⟩ := id h1
  obtain ⟨y1, hr1⟩ := open_bk fuel1 _ _ hf1 (fun n hn => of_decide_eq_true (List.all_eq_true.1 hsz n (DataW.weights_mem_each (j := 1) (t := 29) rfl rfl n hn)))
  clear hA0 hval0 hsz0
  obtain ⟨hcs, a1, a2⟩ := hr0
  obtain rfl : cs0 = #[.int .i64 y0.v, .int .i64 y0.l] := by rw [← Array.toList_inj]; exact hcs
  obtain ⟨v1', u1, hcs1, b1, b2, b3, b4, b5, b6⟩ := hr1
  obtain rfl : cs1 = #[.int .i64 y1.v, .int .i64 y1.p, .int .i64 y1.j.v, .string y1.j.h, v1', u1] := by rw [← Array.toList_inj]; exact hcs1
  refine (storeRecords_call y0 y1 v1' u1 (Inn W) W b5 b6 a1 a2 b1 b2 b3).mono fun e W' ⟨he, kept⟩ => ?_
  subst he
  have bel := kept.below
  exact ⟨_, rfl, _, _, _, [], _, [], hW', trodAll_mk1 (shut_bool Try.underlying4 _), (trodAll_cons_mk (Below.trod laidOut (by kernel_rfl) (of_decide_eq_true (by kernel_rfl)) k0 bel lt0) (trodAll_cons_mk (Below.trod laidOut (by kernel_rfl) (of_decide_eq_true (by kernel_rfl)) k1 bel lt1) trodAll_mk0)), rfl, bel.frame _, fun h => by cases h⟩
theorem over : Rows.storeRecordsRow.holds Try.pinned (OpenSpec.ofChange Rows.storeRecordsSpec) :=
  OpenClaim.holds_of_wide 3 Try.f3 rfl rfl rfl rfl rfl rfl rfl ⟨rfl, rfl, rfl, rfl, rfl⟩ rfl rfl rfl rfl rfl (by kernel_rfl) Try.func3 (by kernel_rfl)
    (of_decide_eq_true (by kernel_rfl)) (by unfold Func.isWrapper; first | (rw [if_pos (by decide +kernel)]; kernel_rfl) | (rw [if_neg (by decide +kernel)]; exact ⟨rfl, rfl⟩))
    (fun os started H enc _ => lifted os started H enc)
end Go.Proofs.Ytdhhibppcckbkaa.storeRecords
namespace Go.Proofs.Ytdhhibppcckbkaa
theorem storeRecords_holds : Rows.StoreRecordsSaid := storeRecords.over
#print axioms storeRecords_holds
end Go.Proofs.Ytdhhibppcckbkaa
