import Derived.Test.YtdhhibppcckbkaaStore4
import Derived.Deep.DeepCutAuto
import Derived.Test.YtdhhibppcckbkaaBase
import Derived.Test.YtdhhibppcckbkaaEqReq
import Derived.Test.YtdhhibppcckbkaaStore5
import Derived.Test.YtdhhibppcckbkaaLawBlock
import Derived.Test.YtdhhibppcckbkaaSafeThy
import Derived.StillTailTactics
namespace Go.Proofs.Ytdhhibppcckbkaa
open Go.RowKit
set_option linter.unusedVariables false
set_option linter.unusedSimpArgs false
/-! the reference's one: what a record is -/
theorem ret_tcc {P : Program} {fn : Func} {R : Ending → World → Prop} {a : Act} {w : World} {p q u : Tmp} {ty sy : TypeId} {g k : Nat} {C D : Array Value} {t s : Nat} {d f : TypeDesc} (hr : fn.results = #[.tmp u, .cell p ty, .cell q sy]) (hd : a.defers = [])
    (hp : a.tmps.getD p undef = .pointer (some ⟨g, 0, none⟩)) (hb : Blk w g C t) (hu : P.underlying ty = some d) (hrow : d.isRow = true) (hi : (P.info? ty).map (·.size) = some C.size)
    (hq : a.tmps.getD q undef = .pointer (some ⟨k, 0, none⟩)) (hb2 : Blk w k D s) (hu2 : P.underlying sy = some f) (hrow2 : f.isRow = true) (hi2 : (P.info? sy).map (·.size) = some D.size)
    (v : Value) (hv : a.tmps.getD u undef = v) (hR : R (.returned (.tuple #[v, .agg C, .agg D])) w) : bodyPost P fn R .ret a w :=
  bodyPost_ret (v := .tuple #[v, .agg C, .agg D]) (by
    have h := run_loadPart (P := P) w g 0 ty C C t d hb hu hrow hi (by rw [List.drop_zero, List.take_length])
    have h2 := run_loadPart (P := P) w k 0 sy D D s f hb2 hu2 hrow2 hi2 (by rw [List.drop_zero, List.take_length])
    have hp' : a.tmps[p]?.getD undef = .pointer (some ⟨g, 0, none⟩) := by simpa using hp
    have hq' : a.tmps[q]?.getD undef = .pointer (some ⟨k, 0, none⟩) := by simpa using hq
    have hv' : a.tmps[u]?.getD undef = v := by simpa using hv
    simp only [results, hr]
    simp [Sem.run_bind, Result.andThen, hp', hq', asAddr, h, h2, hv']) hd hR
def zBlk : Bk := ⟨0, 0, ⟨0, ⟨#[]⟩, []⟩, []⟩
theorem stp_build {P : Program} {o : Oper} {act : Act} {K : Act → World → Prop} {Q : Exit → Act → World → Prop} {ops : Array Oper} {E : Prop} {W : World} (hgd : o.guard = none) (t : TypeId) (parts : Array (Nat × Operand)) (ho : o.op = .build t parts) (C : Array Value)
    (hf : P.built t (parts.map fun (i, x) => (i, act.eval x)).toList = some C) (h : K (act.put o.dst (.agg C)) W) : Stp P o ops act W K Q E := by
  refine ⟨?_⟩
  have hw : Region.wanted o (yielded ops act.tmps) = true := by simp [Region.wanted, hgd]
  rw [if_pos hw]
  exact wp_build t parts ho (by rw [hf]; rfl) (by rw [hf]; exact h)
def oneF (r : ByteArray) : Int × Stt × Bk := match rcF r with
  | .no => (0, ⟨0, 0⟩, zBlk)
  | .st t => (1, t, zBlk)
  | .bk b => (2, ⟨0, 0⟩, b)
theorem readSt_size {b : ByteArray} (h : (readStF b).2 = 0) : b.size = 8 := by
  unfold readStF at h
  by_cases h8 : b.size = 8
  · exact h8
  · rw [if_neg h8] at h
    exact absurd h (by simp)
theorem readBk_none : (readBlockF ⟨#[]⟩).2 ≠ 0 := by
  intro h
  rcases B3_holds ⟨#[]⟩ with e | ⟨x, e, h1, h2⟩
  · rw [e] at h; exact absurd h (by simp)
  · have h3 := congrArg ByteArray.size h2
    unfold blockF at h3
    simp only [ByteArray.size_append, numF_size] at h3
    have : (⟨#[]⟩ : ByteArray).size = 0 := rfl
    omega
theorem rc_st {r : ByteArray} (h : 0 < r.size) (c : r[0].toNat = 83) (er : (readStF (r.extract 1 r.size)).2 = 0) : rcF r = .st (readStF (r.extract 1 r.size)).1 := by
  unfold rcF; rw [dif_pos h]; show (if r[0].toNat = 83 then _ else _) = _; rw [if_pos c, if_pos er]
theorem rc_st_bad {r : ByteArray} (h : 0 < r.size) (c : r[0].toNat = 83) (er : (readStF (r.extract 1 r.size)).2 ≠ 0) : rcF r = .no := by
  unfold rcF; rw [dif_pos h]; show (if r[0].toNat = 83 then _ else _) = _; rw [if_pos c, if_neg er]
theorem rc_bk {r : ByteArray} (h : 0 < r.size) (c : r[0].toNat = 66) (er : (readBlockF (r.extract 1 r.size)).2 = 0) : rcF r = .bk (readBlockF (r.extract 1 r.size)).1 := by
  unfold rcF; rw [dif_pos h]; show (if r[0].toNat = 83 then _ else if r[0].toNat = 66 then _ else _) = _; rw [if_neg (by omega), if_pos c, if_pos er]
theorem rc_bk_bad {r : ByteArray} (h : 0 < r.size) (c : r[0].toNat = 66) (er : (readBlockF (r.extract 1 r.size)).2 ≠ 0) : rcF r = .no := by
  unfold rcF; rw [dif_pos h]; show (if r[0].toNat = 83 then _ else if r[0].toNat = 66 then _ else _) = _; rw [if_neg (by omega), if_pos c, if_neg er]
theorem rc_other {r : ByteArray} (h : 0 < r.size) (c : r[0].toNat ≠ 83) (c' : r[0].toNat ≠ 66) : rcF r = .no := by
  unfold rcF; rw [dif_pos h]; show (if r[0].toNat = 83 then _ else if r[0].toNat = 66 then _ else _) = _; rw [if_neg c, if_neg c']
theorem rc_not9 {r : ByteArray} (h : 0 < r.size) (h9 : r.size ≠ 9) (c : r[0].toNat = 83) : rcF r = .no := by
  refine rc_st_bad h c fun e => ?_
  have := readSt_size e
  rw [ByteArray.size_extract] at this
  omega
theorem rc_one {r : ByteArray} (h : r.size ≤ 1) : rcF r = .no := by
  by_cases h0 : 0 < r.size
  · by_cases c : r[0].toNat = 83
    · exact rc_not9 h0 (by omega) c
    · by_cases c' : r[0].toNat = 66
      · refine rc_bk_bad h0 c' ?_
        have e : r.extract 1 r.size = ⟨#[]⟩ := nil_of_size _ (by rw [ByteArray.size_extract]; omega)
        rw [e]
        exact readBk_none
      · exact rc_other h0 c c'
  · unfold rcF; rw [dif_neg h0]
set_option maxRecDepth 100000 in
set_option maxHeartbeats 4000000 in
theorem one_small (r : ByteArray) (w : World) (hr : r.size ≤ M47) (h : r.size ≤ 1) : Calls Try.prog 38 #[.string r] w fun e w' => e = .returned (.tuple #[.int .i64 0, .agg zSt, .agg zBv]) ∧ Keep [] w w' := by
  have z9 : ((r.size : Int) == 9) = false := by rw [beq_eq_false_iff_ne]; omega
  have y9 : ¬ ((r.size : Int) = 9) := by omega
  have zg : ¬ (1 : Int) < (r.size : Int) := by omega
  clear h
  have hr2 : r.size < 9223372036854775808 := by unfold M47 at hr; omega
  replace hr := Lib.hid hr
  go_enter Try.func38, Try.ntmps38
  go_upto_region 1 with (first | ((with_reducible refine wl_alloc 23 ?_ ?_); (with_reducible rfl); refine sx_alloc rfl 23 rfl _ 2 zSt zSt_info rfl ?_; intro w1 bw1 kw1 zw1; clear zw1; (try simp only [Act.put, List.setIfInBounds_toArray, List.set_cons_zero, List.set_cons_succ])) | ((with_reducible refine wl_alloc 29 ?_ ?_); (with_reducible rfl); refine sx_alloc rfl 29 rfl _ 6 zBv zBk_info rfl ?_; intro w2 bw2 kw2 zw2; clear zw2; (try simp only [Act.put, List.setIfInBounds_toArray, List.set_cons_zero, List.set_cons_succ])))
  have d1 := bw1.keep kw2 (by simp)
  have kk2 := kw1.trans kw2
  have l1 := bw1.lt
  have l2 := bw2.lt
  clear bw1 kw1 kw2
  go_wp2_with (first | ((with_reducible refine wl_build 23 _ ?_ ?_); (with_reducible rfl); refine sx_build rfl 23 _ rfl zSt (by kernel_rfl) ?_; (try simp only [Act.put, List.setIfInBounds_toArray, List.set_cons_zero, List.set_cons_succ])) | ((with_reducible refine wl_build 29 _ ?_ ?_); (with_reducible rfl); refine sx_build rfl 29 _ rfl zBv (by kernel_rfl) ?_; (try simp only [Act.put, List.setIfInBounds_toArray, List.set_cons_zero, List.set_cons_succ])) | ((with_reducible refine wl_store 23 (.tmp 3) (.tmp 45) ?_ ?_); (with_reducible rfl); refine sx_storeW rfl 23 (.tmp 3) (.tmp 45) rfl w.heap.size zSt zSt _ 2 rfl rfl d1 zSt_size rfl rfl rfl ?_; intro wy bwy kwy zwy; clear zwy; (try simp only [Act.put, List.setIfInBounds_toArray, List.set_cons_zero, List.set_cons_succ])) | ((with_reducible refine wl_store 29 (.tmp 4) (.tmp 46) ?_ ?_); (with_reducible rfl); refine sx_storeW rfl 29 (.tmp 4) (.tmp 46) rfl w1.heap.size zBv zBv _ 6 rfl rfl (bw2.keep kwy (by simp; omega)) zBk_size rfl rfl rfl ?_; intro wz bwz kwz zwz; clear zwz; (try simp only [Act.put, List.setIfInBounds_toArray, List.set_cons_zero, List.set_cons_succ])))
  have by2 := bwy.keep kwz (by simp; omega)
  refine ret_tcc rfl rfl rfl by2 Try.underlying23 rfl zSt_size rfl bwz Try.underlying29 rfl zBk_size _ rfl ?_
  exact ⟨rfl, (kk2.new kwy (fun i hi => .inr (by simp at hi; omega))).new kwz (fun i hi => .inr (by simp at hi; omega))⟩
set_option maxRecDepth 100000 in
set_option maxHeartbeats 4000000 in
theorem one_other1 (r : ByteArray) (w : World) (hr : r.size ≤ M47) (h0 : 0 < r.size) (h1 : 1 < r.size) (h9 : r.size = 9) (c : (r[0]'h0).toNat ≠ 83) (c' : (r[0]'h0).toNat ≠ 66) : Calls Try.prog 38 #[.string r] w fun e w' => e = .returned (.tuple #[.int .i64 0, .agg zSt, .agg zBv]) ∧ Keep [] w w' := by
  have z9 : ((r.size : Int) == 9) = true := by rw [beq_iff_eq]; omega
  have y9 : ((r.size : Int) = 9) := by omega
  have zg : (1 : Int) < (r.size : Int) := by omega
  have z83 : (((r[0]'h0).toNat : Int) == 83) = false := by rw [beq_eq_false_iff_ne]; omega
  have y83 : ¬ (((r[0]'h0).toNat : Int) = 83) := by omega
  have z66 : (((r[0]'h0).toNat : Int) == 66) = false := by rw [beq_eq_false_iff_ne]; omega
  have y66 : ¬ (((r[0]'h0).toNat : Int) = 66) := by omega
  clear h9 c c'
  have hr2 : r.size < 9223372036854775808 := by unfold M47 at hr; omega
  replace hr := Lib.hid hr
  go_enter Try.func38, Try.ntmps38
  go_upto_region 1 with (first | ((with_reducible refine wl_alloc 23 ?_ ?_); (with_reducible rfl); refine sx_alloc rfl 23 rfl _ 2 zSt zSt_info rfl ?_; intro w1 bw1 kw1 zw1; clear zw1; (try simp only [Act.put, List.setIfInBounds_toArray, List.set_cons_zero, List.set_cons_succ])) | ((with_reducible refine wl_alloc 29 ?_ ?_); (with_reducible rfl); refine sx_alloc rfl 29 rfl _ 6 zBv zBk_info rfl ?_; intro w2 bw2 kw2 zw2; clear zw2; (try simp only [Act.put, List.setIfInBounds_toArray, List.set_cons_zero, List.set_cons_succ])))
  have d1 := bw1.keep kw2 (by simp)
  have kk2 := kw1.trans kw2
  have l1 := bw1.lt
  have l2 := bw2.lt
  clear bw1 kw1 kw2
  go_wp2_with (first | ((with_reducible refine wl_build 23 _ ?_ ?_); (with_reducible rfl); refine sx_build rfl 23 _ rfl zSt (by kernel_rfl) ?_; (try simp only [Act.put, List.setIfInBounds_toArray, List.set_cons_zero, List.set_cons_succ])) | ((with_reducible refine wl_build 29 _ ?_ ?_); (with_reducible rfl); refine sx_build rfl 29 _ rfl zBv (by kernel_rfl) ?_; (try simp only [Act.put, List.setIfInBounds_toArray, List.set_cons_zero, List.set_cons_succ])) | ((with_reducible refine wl_store 23 (.tmp 3) (.tmp 45) ?_ ?_); (with_reducible rfl); refine sx_storeW rfl 23 (.tmp 3) (.tmp 45) rfl w.heap.size zSt zSt _ 2 rfl rfl d1 zSt_size rfl rfl rfl ?_; intro wy bwy kwy zwy; clear zwy; (try simp only [Act.put, List.setIfInBounds_toArray, List.set_cons_zero, List.set_cons_succ])) | ((with_reducible refine wl_store 29 (.tmp 4) (.tmp 46) ?_ ?_); (with_reducible rfl); refine sx_storeW rfl 29 (.tmp 4) (.tmp 46) rfl w1.heap.size zBv zBv _ 6 rfl rfl (bw2.keep kwy (by simp; omega)) zBk_size rfl rfl rfl ?_; intro wz bwz kwz zwz; clear zwz; (try simp only [Act.put, List.setIfInBounds_toArray, List.set_cons_zero, List.set_cons_succ])))
  have by2 := bwy.keep kwz (by simp; omega)
  refine ret_tcc rfl rfl rfl by2 Try.underlying23 rfl zSt_size rfl bwz Try.underlying29 rfl zBk_size _ rfl ?_
  exact ⟨rfl, (kk2.new kwy (fun i hi => .inr (by simp at hi; omega))).new kwz (fun i hi => .inr (by simp at hi; omega))⟩
set_option maxRecDepth 100000 in
set_option maxHeartbeats 4000000 in
theorem one_other0 (r : ByteArray) (w : World) (hr : r.size ≤ M47) (h0 : 0 < r.size) (h1 : 1 < r.size) (h9 : r.size ≠ 9) (c' : (r[0]'h0).toNat ≠ 66) : Calls Try.prog 38 #[.string r] w fun e w' => e = .returned (.tuple #[.int .i64 0, .agg zSt, .agg zBv]) ∧ Keep [] w w' := by
  have z9 : ((r.size : Int) == 9) = false := by rw [beq_eq_false_iff_ne]; omega
  have y9 : ¬ ((r.size : Int) = 9) := by omega
  have zg : (1 : Int) < (r.size : Int) := by omega
  have z66 : (((r[0]'h0).toNat : Int) == 66) = false := by rw [beq_eq_false_iff_ne]; omega
  have y66 : ¬ (((r[0]'h0).toNat : Int) = 66) := by omega
  clear h9 c'
  have hr2 : r.size < 9223372036854775808 := by unfold M47 at hr; omega
  replace hr := Lib.hid hr
  go_enter Try.func38, Try.ntmps38
  go_upto_region 1 with (first | ((with_reducible refine wl_alloc 23 ?_ ?_); (with_reducible rfl); refine sx_alloc rfl 23 rfl _ 2 zSt zSt_info rfl ?_; intro w1 bw1 kw1 zw1; clear zw1; (try simp only [Act.put, List.setIfInBounds_toArray, List.set_cons_zero, List.set_cons_succ])) | ((with_reducible refine wl_alloc 29 ?_ ?_); (with_reducible rfl); refine sx_alloc rfl 29 rfl _ 6 zBv zBk_info rfl ?_; intro w2 bw2 kw2 zw2; clear zw2; (try simp only [Act.put, List.setIfInBounds_toArray, List.set_cons_zero, List.set_cons_succ])))
  have d1 := bw1.keep kw2 (by simp)
  have kk2 := kw1.trans kw2
  have l1 := bw1.lt
  have l2 := bw2.lt
  clear bw1 kw1 kw2
  go_wp2_with (first | ((with_reducible refine wl_build 23 _ ?_ ?_); (with_reducible rfl); refine sx_build rfl 23 _ rfl zSt (by kernel_rfl) ?_; (try simp only [Act.put, List.setIfInBounds_toArray, List.set_cons_zero, List.set_cons_succ])) | ((with_reducible refine wl_build 29 _ ?_ ?_); (with_reducible rfl); refine sx_build rfl 29 _ rfl zBv (by kernel_rfl) ?_; (try simp only [Act.put, List.setIfInBounds_toArray, List.set_cons_zero, List.set_cons_succ])) | ((with_reducible refine wl_store 23 (.tmp 3) (.tmp 45) ?_ ?_); (with_reducible rfl); refine sx_storeW rfl 23 (.tmp 3) (.tmp 45) rfl w.heap.size zSt zSt _ 2 rfl rfl d1 zSt_size rfl rfl rfl ?_; intro wy bwy kwy zwy; clear zwy; (try simp only [Act.put, List.setIfInBounds_toArray, List.set_cons_zero, List.set_cons_succ])) | ((with_reducible refine wl_store 29 (.tmp 4) (.tmp 46) ?_ ?_); (with_reducible rfl); refine sx_storeW rfl 29 (.tmp 4) (.tmp 46) rfl w1.heap.size zBv zBv _ 6 rfl rfl (bw2.keep kwy (by simp; omega)) zBk_size rfl rfl rfl ?_; intro wz bwz kwz zwz; clear zwz; (try simp only [Act.put, List.setIfInBounds_toArray, List.set_cons_zero, List.set_cons_succ])))
  have by2 := bwy.keep kwz (by simp; omega)
  refine ret_tcc rfl rfl rfl by2 Try.underlying23 rfl zSt_size rfl bwz Try.underlying29 rfl zBk_size _ rfl ?_
  exact ⟨rfl, (kk2.new kwy (fun i hi => .inr (by simp at hi; omega))).new kwz (fun i hi => .inr (by simp at hi; omega))⟩
set_option maxRecDepth 100000 in
set_option maxHeartbeats 4000000 in
theorem one_st (r : ByteArray) (w : World) (hr : r.size ≤ M47) (h0 : 0 < r.size) (h9 : r.size = 9) (c : (r[0]'h0).toNat = 83) (her : (readStF (r.extract 1 r.size)).2 = 0) : Calls Try.prog 38 #[.string r] w fun e w' => e = .returned (.tuple #[.int .i64 1, .agg (stV (readStF (r.extract 1 r.size)).1), .agg zBv]) ∧ Keep [] w w' := by
  have z9 : ((r.size : Int) == 9) = true := by rw [beq_iff_eq]; omega
  have y9 : ((r.size : Int) = 9) := by omega
  have z83 : (((r[0]'h0).toNat : Int) == 83) = true := by rw [beq_iff_eq]; omega
  have y83 : (((r[0]'h0).toNat : Int) = 83) := by omega
  have hbs : (r.extract 1 r.size).size ≤ M47 := by rw [ByteArray.size_extract]; omega
  have hRd := Lib.hid (fun w' => rread_call (r.extract 1 r.size) w' hbs)
  have hRb := Lib.hid (fun w' => readBlock_call (r.extract 1 r.size) w')
  clear hbs
  clear h9 c
  have hr2 : r.size < 9223372036854775808 := by unfold M47 at hr; omega
  replace hr := Lib.hid hr
  go_enter Try.func38, Try.ntmps38
  go_upto_region 1 with (first | ((with_reducible refine wl_alloc 23 ?_ ?_); (with_reducible rfl); refine sx_alloc rfl 23 rfl _ 2 zSt zSt_info rfl ?_; intro w1 bw1 kw1 zw1; clear zw1; (try simp only [Act.put, List.setIfInBounds_toArray, List.set_cons_zero, List.set_cons_succ])) | ((with_reducible refine wl_alloc 29 ?_ ?_); (with_reducible rfl); refine sx_alloc rfl 29 rfl _ 6 zBv zBk_info rfl ?_; intro w2 bw2 kw2 zw2; clear zw2; (try simp only [Act.put, List.setIfInBounds_toArray, List.set_cons_zero, List.set_cons_succ])))
  have d1 := bw1.keep kw2 (by simp)
  have kk2 := kw1.trans kw2
  have l1 := bw1.lt
  have l2 := bw2.lt
  clear bw1 kw1 kw2
  go_wp2_with fail
  refine (hRd.out _).mono ?_
  rintro e w3 ⟨rfl, k3⟩
  generalize hrd : readStF (r.extract 1 r.size) = rd at *
  obtain ⟨t, er⟩ := rd
  replace hrd := Lib.hid hrd
  dsimp only at *
  go_upto_region 3 with (first | ((with_reducible refine wl_alloc 23 ?_ ?_); (with_reducible rfl); refine sx_alloc rfl 23 rfl _ 2 zSt zSt_info rfl ?_; intro w4 bw4 kw4 zw4; clear zw4; (try simp only [Act.put, List.setIfInBounds_toArray, List.set_cons_zero, List.set_cons_succ])) | ((with_reducible refine wl_store 23 (.tmp 5) (.tmp 21) ?_ ?_); (with_reducible rfl); refine sx_storeW rfl 23 (.tmp 5) (.tmp 21) rfl w3.heap.size (stV t) zSt _ 2 rfl rfl bw4 zSt_size rfl rfl rfl ?_; intro w5 bw5 kw5 zw5; clear zw5; (try simp only [Act.put, List.setIfInBounds_toArray, List.set_cons_zero, List.set_cons_succ])))
  have k35 := kw4.new kw5 (S := []) (fun i hi => .inr (by simp at hi; omega))
  have k25 := k3.trans k35
  have d5 := d1.keep k25 (by simp)
  have e5 := bw2.keep k25 (by simp)
  have kk5 := kk2.trans k25
  have s3 := k3.size
  have s5 := k25.size
  clear bw4 kw4 kw5 k35
  subst her
  go_upto_region 4 with fail
  refine wp_region_any (by kernel_rfl) ?_
  (try (change wpAny _ _ _ _ _ _ _ (World.drew _)))
  have K0 : Keep [] w5 w5.drew := (Keep.refl [] w5).drew
  generalize World.drew w5 = u0 at *
  refine wpAny_take (i := 2) (v := ?_) rfl (by kernel_rfl) (by kernel_rfl) (by kernel_rfl) (fun _ _ _ h => h) (Or.inl ⟨by rfl, ?_⟩) ?_
  rotate_left
  · intro w9
    go_simp
    with_reducible rfl
  refine wpAny_take (i := 1) (v := ?_) rfl (by kernel_rfl) (by kernel_rfl) (by kernel_rfl) (fun _ _ _ h => h) (Or.inl ⟨by rfl, ?_⟩) ?_
  rotate_left
  · intro w9
    go_simp
    with_reducible rfl
  refine wpAny_ready (rs := [0]) (by kernel_rfl) (by simp) ?_
  refine AllReady.consS rfl (fun K hK => ?_) ?_
  · refine stp_load rfl 23 (.tmp 5) rfl w3.heap.size 0 (stV t) (stV t) _ _ 2 rfl (bw5.keep K0 (by simp)) rfl Try.underlying23 rfl zSt_size rfl ?_
    refine hK _ _ ?_
    clear hK K
    refine wpAny_ready (rs := [3]) (by kernel_rfl) (by simp) ?_
    refine AllReady.consS rfl (fun K hK => ?_) ?_
    · refine stp_store rfl 23 (.tmp 3) (.tmp 25) rfl w.heap.size 0 (stV t) zSt (stV t) _ rfl rfl (d5.keep K0 (by simp)) zSt_size (by simp) rfl rfl ?_
      intro u1 bN kN zN
      clear zN
      have KX : Keep [] w u1 := (kk5.trans K0).new kN (fun i hi => .inr (by simp at hi; omega))
      have D3 := bN
      have E3 := (e5.keep K0 (by simp)).keep kN (by simp; omega)
      clear bN kN
      refine hK _ _ ?_
      clear hK K
      refine wpAny_ready (rs := [4]) (by kernel_rfl) (by simp) ?_
      refine AllReady.consS rfl (fun K hK => ?_) ?_
      · refine stp_store rfl 29 (.tmp 4) (.tmp 26) rfl w1.heap.size 0 zBv zBv zBv _ rfl rfl E3 zBk_size (by simp) rfl rfl ?_
        intro u2 bN kN zN
        clear zN
        have KY : Keep [] w u2 := KX.new kN (fun i hi => .inr (by simp at hi; omega))
        have D4 := D3.keep kN (by simp; omega)
        have E4 := bN
        clear bN kN
        refine hK _ _ ?_
        clear hK K
        refine wpAny_done (by kernel_rfl) ?_ _
        go_wp2_with fail
        refine ret_tcc rfl rfl rfl D4 Try.underlying23 rfl zSt_size rfl E4 Try.underlying29 rfl zBk_size _ rfl ?_
        rw [hrd.out]
        exact ⟨rfl, KY⟩
      exact AllReady.nil
    exact AllReady.nil
  exact AllReady.nil
set_option maxRecDepth 100000 in
set_option maxHeartbeats 4000000 in
theorem one_stbad (r : ByteArray) (w : World) (hr : r.size ≤ M47) (h0 : 0 < r.size) (h9 : r.size = 9) (c : (r[0]'h0).toNat = 83) (her : (readStF (r.extract 1 r.size)).2 ≠ 0) : Calls Try.prog 38 #[.string r] w fun e w' => e = .returned (.tuple #[.int .i64 0, .agg zSt, .agg zBv]) ∧ Keep [] w w' := by
  have z9 : ((r.size : Int) == 9) = true := by rw [beq_iff_eq]; omega
  have y9 : ((r.size : Int) = 9) := by omega
  have zg : (1 : Int) < (r.size : Int) := by omega
  have z83 : (((r[0]'h0).toNat : Int) == 83) = true := by rw [beq_iff_eq]; omega
  have y83 : (((r[0]'h0).toNat : Int) = 83) := by omega
  have z66 : (((r[0]'h0).toNat : Int) == 66) = false := by rw [beq_eq_false_iff_ne]; omega
  have y66 : ¬ (((r[0]'h0).toNat : Int) = 66) := by omega
  have hbs : (r.extract 1 r.size).size ≤ M47 := by rw [ByteArray.size_extract]; omega
  have hRd := Lib.hid (fun w' => rread_call (r.extract 1 r.size) w' hbs)
  have hRb := Lib.hid (fun w' => readBlock_call (r.extract 1 r.size) w')
  clear hbs
  clear h9 c
  have hr2 : r.size < 9223372036854775808 := by unfold M47 at hr; omega
  replace hr := Lib.hid hr
  go_enter Try.func38, Try.ntmps38
  go_upto_region 1 with (first | ((with_reducible refine wl_alloc 23 ?_ ?_); (with_reducible rfl); refine sx_alloc rfl 23 rfl _ 2 zSt zSt_info rfl ?_; intro w1 bw1 kw1 zw1; clear zw1; (try simp only [Act.put, List.setIfInBounds_toArray, List.set_cons_zero, List.set_cons_succ])) | ((with_reducible refine wl_alloc 29 ?_ ?_); (with_reducible rfl); refine sx_alloc rfl 29 rfl _ 6 zBv zBk_info rfl ?_; intro w2 bw2 kw2 zw2; clear zw2; (try simp only [Act.put, List.setIfInBounds_toArray, List.set_cons_zero, List.set_cons_succ])))
  have d1 := bw1.keep kw2 (by simp)
  have kk2 := kw1.trans kw2
  have l1 := bw1.lt
  have l2 := bw2.lt
  clear bw1 kw1 kw2
  go_wp2_with fail
  refine (hRd.out _).mono ?_
  rintro e w3 ⟨rfl, k3⟩
  generalize hrd : readStF (r.extract 1 r.size) = rd at *
  obtain ⟨t, er⟩ := rd
  replace hrd := Lib.hid hrd
  dsimp only at *
  go_upto_region 3 with (first | ((with_reducible refine wl_alloc 23 ?_ ?_); (with_reducible rfl); refine sx_alloc rfl 23 rfl _ 2 zSt zSt_info rfl ?_; intro w4 bw4 kw4 zw4; clear zw4; (try simp only [Act.put, List.setIfInBounds_toArray, List.set_cons_zero, List.set_cons_succ])) | ((with_reducible refine wl_store 23 (.tmp 5) (.tmp 21) ?_ ?_); (with_reducible rfl); refine sx_storeW rfl 23 (.tmp 5) (.tmp 21) rfl w3.heap.size (stV t) zSt _ 2 rfl rfl bw4 zSt_size rfl rfl rfl ?_; intro w5 bw5 kw5 zw5; clear zw5; (try simp only [Act.put, List.setIfInBounds_toArray, List.set_cons_zero, List.set_cons_succ])))
  have k35 := kw4.new kw5 (S := []) (fun i hi => .inr (by simp at hi; omega))
  have k25 := k3.trans k35
  have d5 := d1.keep k25 (by simp)
  have e5 := bw2.keep k25 (by simp)
  have kk5 := kk2.trans k25
  have s3 := k3.size
  have s5 := k25.size
  clear bw4 kw4 kw5 k35
  have z0 : (er == 0) = false := by rw [beq_eq_false_iff_ne]; exact her
  go_wp2_with (first | ((with_reducible refine wl_build 23 _ ?_ ?_); (with_reducible rfl); refine sx_build rfl 23 _ rfl zSt (by kernel_rfl) ?_; (try simp only [Act.put, List.setIfInBounds_toArray, List.set_cons_zero, List.set_cons_succ])) | ((with_reducible refine wl_build 29 _ ?_ ?_); (with_reducible rfl); refine sx_build rfl 29 _ rfl zBv (by kernel_rfl) ?_; (try simp only [Act.put, List.setIfInBounds_toArray, List.set_cons_zero, List.set_cons_succ])) | ((with_reducible refine wl_store 23 (.tmp 3) (.tmp 45) ?_ ?_); (with_reducible rfl); refine sx_storeW rfl 23 (.tmp 3) (.tmp 45) rfl w.heap.size zSt zSt _ 2 rfl rfl d5 zSt_size rfl rfl rfl ?_; intro wy bwy kwy zwy; clear zwy; (try simp only [Act.put, List.setIfInBounds_toArray, List.set_cons_zero, List.set_cons_succ])) | ((with_reducible refine wl_store 29 (.tmp 4) (.tmp 46) ?_ ?_); (with_reducible rfl); refine sx_storeW rfl 29 (.tmp 4) (.tmp 46) rfl w1.heap.size zBv zBv _ 6 rfl rfl (e5.keep kwy (by simp; omega)) zBk_size rfl rfl rfl ?_; intro wz bwz kwz zwz; clear zwz; (try simp only [Act.put, List.setIfInBounds_toArray, List.set_cons_zero, List.set_cons_succ])))
  have by2 := bwy.keep kwz (by simp; omega)
  refine ret_tcc rfl rfl rfl by2 Try.underlying23 rfl zSt_size rfl bwz Try.underlying29 rfl zBk_size _ rfl ?_
  exact ⟨rfl, (kk5.new kwy (fun i hi => .inr (by simp at hi; omega))).new kwz (fun i hi => .inr (by simp at hi; omega))⟩
end Go.Proofs.Ytdhhibppcckbkaa
namespace Go.Proofs.Ytdhhibppcckbkaa
open Go.RowKit
set_option linter.unusedVariables false
set_option linter.unusedSimpArgs false
set_option maxRecDepth 100000 in
set_option maxHeartbeats 4000000 in
theorem one_bk1 (r : ByteArray) (w : World) (hr : r.size ≤ M47) (h0 : 0 < r.size) (h1 : 1 < r.size) (h9 : r.size = 9) (c : (r[0]'h0).toNat = 66) (her : (readBlockF (r.extract 1 r.size)).2 = 0) : Calls Try.prog 38 #[.string r] w fun e w' => ∃ v u, e = .returned (.tuple #[.int .i64 2, .agg zSt, .agg (bkV (readBlockF (r.extract 1 r.size)).1 v u)]) ∧ SliceOf Rep.sg w' (New w) v (readBlockF (r.extract 1 r.size)).1.j.sg ∧ SliceOf Rep.req w' (New w) u (readBlockF (r.extract 1 r.size)).1.q ∧ Keep [] w w' := by
  have z9 : ((r.size : Int) == 9) = true := by rw [beq_iff_eq]; omega
  have y9 : ((r.size : Int) = 9) := by omega
  have zg : (1 : Int) < (r.size : Int) := by omega
  have z83 : (((r[0]'h0).toNat : Int) == 83) = false := by rw [beq_eq_false_iff_ne]; omega
  have y83 : ¬ (((r[0]'h0).toNat : Int) = 83) := by omega
  have z66 : (((r[0]'h0).toNat : Int) == 66) = true := by rw [beq_iff_eq]; omega
  have y66 : (((r[0]'h0).toNat : Int) = 66) := by omega
  have hbs : (r.extract 1 r.size).size ≤ M47 := by rw [ByteArray.size_extract]; omega
  have hRd := Lib.hid (fun w' => rread_call (r.extract 1 r.size) w' hbs)
  have hRb := Lib.hid (fun w' => readBlock_call (r.extract 1 r.size) w')
  clear hbs
  clear h9 c
  have hr2 : r.size < 9223372036854775808 := by unfold M47 at hr; omega
  replace hr := Lib.hid hr
  go_enter Try.func38, Try.ntmps38
  go_upto_region 1 with (first | ((with_reducible refine wl_alloc 23 ?_ ?_); (with_reducible rfl); refine sx_alloc rfl 23 rfl _ 2 zSt zSt_info rfl ?_; intro w1 bw1 kw1 zw1; clear zw1; (try simp only [Act.put, List.setIfInBounds_toArray, List.set_cons_zero, List.set_cons_succ])) | ((with_reducible refine wl_alloc 29 ?_ ?_); (with_reducible rfl); refine sx_alloc rfl 29 rfl _ 6 zBv zBk_info rfl ?_; intro w2 bw2 kw2 zw2; clear zw2; (try simp only [Act.put, List.setIfInBounds_toArray, List.set_cons_zero, List.set_cons_succ])))
  have d1 := bw1.keep kw2 (by simp)
  have kk2 := kw1.trans kw2
  have l1 := bw1.lt
  have l2 := bw2.lt
  clear bw1 kw1 kw2
  go_wp2_with fail
  refine (hRb.out _).mono ?_
  rintro e w3 ⟨v, u, rfl, hv, hu, k3⟩
  generalize hrd : readBlockF (r.extract 1 r.size) = rd at *
  obtain ⟨b, er⟩ := rd
  replace hrd := Lib.hid hrd
  dsimp only at *
  obtain ⟨Av, cv, rfl, -⟩ := hv.form
  obtain ⟨Au, cu, rfl, -⟩ := hu.form
  go_upto_region 7 with (first | ((with_reducible refine wl_alloc 29 ?_ ?_); (with_reducible rfl); refine sx_alloc rfl 29 rfl _ 6 zBv zBk_info rfl ?_; intro w4 bw4 kw4 zw4; clear zw4; (try simp only [Act.put, List.setIfInBounds_toArray, List.set_cons_zero, List.set_cons_succ])) | ((with_reducible refine wl_store 29 (.tmp 7) (.tmp 39) ?_ ?_); (with_reducible rfl); refine sx_storeW rfl 29 (.tmp 7) (.tmp 39) rfl w3.heap.size (bkV b (.slice Av b.j.sg.length cv) (.slice Au b.q.length cu)) zBv _ 6 rfl rfl bw4 zBk_size rfl rfl rfl ?_; intro w5 bw5 kw5 zw5; clear zw5; (try simp only [Act.put, List.setIfInBounds_toArray, List.set_cons_zero, List.set_cons_succ])))
  have k35 := kw4.new kw5 (S := []) (fun i hi => .inr (by simp at hi; omega))
  have k25 := k3.trans k35
  have d5 := d1.keep k25 (by simp)
  have e5 := bw2.keep k25 (by simp)
  have kk5 := kk2.trans k25
  have s2 := kk2.size
  have s3 := k3.size
  have s5 := k25.size
  have hv5 := hv.keep (k35.at _ (by simp))
  have hu5 := hu.keep (k35.at _ (by simp))
  clear bw4 kw4 kw5 k35 hv hu
  subst her
  go_upto_region 8 with fail
  refine wp_region_any (by kernel_rfl) ?_
  (try (change wpAny _ _ _ _ _ _ _ (World.drew _)))
  have K0 : Keep [] w5 w5.drew := (Keep.refl [] w5).drew
  generalize World.drew w5 = u0 at *
  refine wpAny_take (i := 2) (v := ?_) rfl (by kernel_rfl) (by kernel_rfl) (by kernel_rfl) (fun _ _ _ h => h) (Or.inl ⟨by rfl, ?_⟩) ?_
  rotate_left
  · intro w9
    go_simp
    with_reducible rfl
  refine wpAny_take (i := 0) (v := ?_) rfl (by kernel_rfl) (by kernel_rfl) (by kernel_rfl) (fun _ _ _ h => h) (Or.inl ⟨by rfl, ?_⟩) ?_
  rotate_left
  · intro w9
    go_simp
    with_reducible rfl
  refine wpAny_ready (rs := [1, 3]) (by kernel_rfl) (by simp) ?_
  refine AllReady.consS rfl (fun K hK => ?_) ?_
  · refine stp_load rfl 29 (.tmp 7) rfl w3.heap.size 0 (bkV b (.slice Av b.j.sg.length cv) (.slice Au b.q.length cu)) (bkV b (.slice Av b.j.sg.length cv) (.slice Au b.q.length cu)) _ _ 6 rfl (bw5.keep K0 (by simp)) rfl Try.underlying29 rfl zBk_size rfl ?_
    refine hK _ _ ?_
    clear hK K
    refine wpAny_ready (rs := [3]) (by kernel_rfl) (by simp) ?_
    refine AllReady.consS rfl (fun K hK => ?_) ?_
    · refine stp_store rfl 23 (.tmp 3) (.tmp 43) rfl w.heap.size 0 zSt zSt zSt _ rfl rfl (d5.keep K0 (by simp)) zSt_size (by simp) rfl rfl ?_
      intro u1 bN kN zN
      clear zN
      have K1 : Keep [w.heap.size] w5 u1 := (K0.mono (by simp)).trans kN
      have D3 := bN
      clear bN kN
      refine hK _ _ ?_
      clear hK K
      refine wpAny_ready (rs := [4]) (by kernel_rfl) (by simp) ?_
      refine AllReady.consS rfl (fun K hK => ?_) ?_
      · refine stp_store rfl 29 (.tmp 4) (.tmp 44) rfl w1.heap.size 0 (bkV b (.slice Av b.j.sg.length cv) (.slice Au b.q.length cu)) zBv (bkV b (.slice Av b.j.sg.length cv) (.slice Au b.q.length cu)) _ rfl rfl (e5.keep K1 (by simp; omega)) zBk_size (by simp) rfl rfl ?_
        intro u2 bN kN zN
        clear zN
        have K2 : Keep [w.heap.size, w1.heap.size] w5 u2 := (K1.mono (fun i _ hi => by simp at hi ⊢; simp [hi])).trans (kN.mono (fun i _ hi => by simp at hi ⊢; simp [hi]))
        have D4 := D3.keep kN (by simp; omega)
        have E4 := bN
        clear bN kN
        refine hK _ _ ?_
        clear hK K
        refine wpAny_done (by kernel_rfl) ?_ _
        go_wp2_with fail
        refine ret_tcc rfl rfl rfl D4 Try.underlying23 rfl zSt_size rfl E4 Try.underlying29 rfl zBk_size _ rfl ?_
        have nn : ∀ i, i ∈ [w.heap.size, w1.heap.size] → ¬ New w2 i := fun i hi h => by have h : w2.heap.size ≤ i := h; simp at hi; omega
        rw [hrd.out]
        exact ⟨_, _, rfl, (hv5.keep (K2.at _ nn)).mono (fun i hi _ => Nat.le_trans s2 hi), (hu5.keep (K2.at _ nn)).mono (fun i hi _ => Nat.le_trans s2 hi), kk5.new K2 (fun i hi => .inr (by simp at hi; omega))⟩
      exact AllReady.nil
    exact AllReady.nil
  refine AllReady.consS rfl (fun K hK => ?_) ?_
  · refine stp_store rfl 23 (.tmp 3) (.tmp 43) rfl w.heap.size 0 zSt zSt zSt _ rfl rfl (d5.keep K0 (by simp)) zSt_size (by simp) rfl rfl ?_
    intro u1 bN kN zN
    clear zN
    have K1 : Keep [w.heap.size] w5 u1 := (K0.mono (by simp)).trans kN
    have D3 := bN
    clear bN kN
    refine hK _ _ ?_
    clear hK K
    refine wpAny_ready (rs := [1]) (by kernel_rfl) (by simp) ?_
    refine AllReady.consS rfl (fun K hK => ?_) ?_
    · refine stp_load rfl 29 (.tmp 7) rfl w3.heap.size 0 (bkV b (.slice Av b.j.sg.length cv) (.slice Au b.q.length cu)) (bkV b (.slice Av b.j.sg.length cv) (.slice Au b.q.length cu)) _ _ 6 rfl (bw5.keep K1 (by simp; omega)) rfl Try.underlying29 rfl zBk_size rfl ?_
      refine hK _ _ ?_
      clear hK K
      refine wpAny_ready (rs := [4]) (by kernel_rfl) (by simp) ?_
      refine AllReady.consS rfl (fun K hK => ?_) ?_
      · refine stp_store rfl 29 (.tmp 4) (.tmp 44) rfl w1.heap.size 0 (bkV b (.slice Av b.j.sg.length cv) (.slice Au b.q.length cu)) zBv (bkV b (.slice Av b.j.sg.length cv) (.slice Au b.q.length cu)) _ rfl rfl (e5.keep K1 (by simp; omega)) zBk_size (by simp) rfl rfl ?_
        intro u2 bN kN zN
        clear zN
        have K2 : Keep [w.heap.size, w1.heap.size] w5 u2 := (K1.mono (fun i _ hi => by simp at hi ⊢; simp [hi])).trans (kN.mono (fun i _ hi => by simp at hi ⊢; simp [hi]))
        have D4 := D3.keep kN (by simp; omega)
        have E4 := bN
        clear bN kN
        refine hK _ _ ?_
        clear hK K
        refine wpAny_done (by kernel_rfl) ?_ _
        go_wp2_with fail
        refine ret_tcc rfl rfl rfl D4 Try.underlying23 rfl zSt_size rfl E4 Try.underlying29 rfl zBk_size _ rfl ?_
        have nn : ∀ i, i ∈ [w.heap.size, w1.heap.size] → ¬ New w2 i := fun i hi h => by have h : w2.heap.size ≤ i := h; simp at hi; omega
        rw [hrd.out]
        exact ⟨_, _, rfl, (hv5.keep (K2.at _ nn)).mono (fun i hi _ => Nat.le_trans s2 hi), (hu5.keep (K2.at _ nn)).mono (fun i hi _ => Nat.le_trans s2 hi), kk5.new K2 (fun i hi => .inr (by simp at hi; omega))⟩
      exact AllReady.nil
    exact AllReady.nil
  exact AllReady.nil
set_option maxRecDepth 100000 in
set_option maxHeartbeats 4000000 in
theorem one_bkbad1 (r : ByteArray) (w : World) (hr : r.size ≤ M47) (h0 : 0 < r.size) (h1 : 1 < r.size) (h9 : r.size = 9) (c : (r[0]'h0).toNat = 66) (her : (readBlockF (r.extract 1 r.size)).2 ≠ 0) : Calls Try.prog 38 #[.string r] w fun e w' => e = .returned (.tuple #[.int .i64 0, .agg zSt, .agg zBv]) ∧ Keep [] w w' := by
  have z9 : ((r.size : Int) == 9) = true := by rw [beq_iff_eq]; omega
  have y9 : ((r.size : Int) = 9) := by omega
  have zg : (1 : Int) < (r.size : Int) := by omega
  have z83 : (((r[0]'h0).toNat : Int) == 83) = false := by rw [beq_eq_false_iff_ne]; omega
  have y83 : ¬ (((r[0]'h0).toNat : Int) = 83) := by omega
  have z66 : (((r[0]'h0).toNat : Int) == 66) = true := by rw [beq_iff_eq]; omega
  have y66 : (((r[0]'h0).toNat : Int) = 66) := by omega
  have hbs : (r.extract 1 r.size).size ≤ M47 := by rw [ByteArray.size_extract]; omega
  have hRd := Lib.hid (fun w' => rread_call (r.extract 1 r.size) w' hbs)
  have hRb := Lib.hid (fun w' => readBlock_call (r.extract 1 r.size) w')
  clear hbs
  clear h9 c
  have hr2 : r.size < 9223372036854775808 := by unfold M47 at hr; omega
  replace hr := Lib.hid hr
  go_enter Try.func38, Try.ntmps38
  go_upto_region 1 with (first | ((with_reducible refine wl_alloc 23 ?_ ?_); (with_reducible rfl); refine sx_alloc rfl 23 rfl _ 2 zSt zSt_info rfl ?_; intro w1 bw1 kw1 zw1; clear zw1; (try simp only [Act.put, List.setIfInBounds_toArray, List.set_cons_zero, List.set_cons_succ])) | ((with_reducible refine wl_alloc 29 ?_ ?_); (with_reducible rfl); refine sx_alloc rfl 29 rfl _ 6 zBv zBk_info rfl ?_; intro w2 bw2 kw2 zw2; clear zw2; (try simp only [Act.put, List.setIfInBounds_toArray, List.set_cons_zero, List.set_cons_succ])))
  have d1 := bw1.keep kw2 (by simp)
  have kk2 := kw1.trans kw2
  have l1 := bw1.lt
  have l2 := bw2.lt
  clear bw1 kw1 kw2
  go_wp2_with fail
  refine (hRb.out _).mono ?_
  rintro e w3 ⟨v, u, rfl, hv, hu, k3⟩
  generalize hrd : readBlockF (r.extract 1 r.size) = rd at *
  obtain ⟨b, er⟩ := rd
  replace hrd := Lib.hid hrd
  dsimp only at *
  obtain ⟨Av, cv, rfl, -⟩ := hv.form
  obtain ⟨Au, cu, rfl, -⟩ := hu.form
  go_upto_region 7 with (first | ((with_reducible refine wl_alloc 29 ?_ ?_); (with_reducible rfl); refine sx_alloc rfl 29 rfl _ 6 zBv zBk_info rfl ?_; intro w4 bw4 kw4 zw4; clear zw4; (try simp only [Act.put, List.setIfInBounds_toArray, List.set_cons_zero, List.set_cons_succ])) | ((with_reducible refine wl_store 29 (.tmp 7) (.tmp 39) ?_ ?_); (with_reducible rfl); refine sx_storeW rfl 29 (.tmp 7) (.tmp 39) rfl w3.heap.size (bkV b (.slice Av b.j.sg.length cv) (.slice Au b.q.length cu)) zBv _ 6 rfl rfl bw4 zBk_size rfl rfl rfl ?_; intro w5 bw5 kw5 zw5; clear zw5; (try simp only [Act.put, List.setIfInBounds_toArray, List.set_cons_zero, List.set_cons_succ])))
  have k35 := kw4.new kw5 (S := []) (fun i hi => .inr (by simp at hi; omega))
  have k25 := k3.trans k35
  have d5 := d1.keep k25 (by simp)
  have e5 := bw2.keep k25 (by simp)
  have kk5 := kk2.trans k25
  have s2 := kk2.size
  have s3 := k3.size
  have s5 := k25.size
  have hv5 := hv.keep (k35.at _ (by simp))
  have hu5 := hu.keep (k35.at _ (by simp))
  clear bw4 kw4 kw5 k35 hv hu
  have z0 : (er == 0) = false := by rw [beq_eq_false_iff_ne]; exact her
  go_wp2_with (first | ((with_reducible refine wl_build 23 _ ?_ ?_); (with_reducible rfl); refine sx_build rfl 23 _ rfl zSt (by kernel_rfl) ?_; (try simp only [Act.put, List.setIfInBounds_toArray, List.set_cons_zero, List.set_cons_succ])) | ((with_reducible refine wl_build 29 _ ?_ ?_); (with_reducible rfl); refine sx_build rfl 29 _ rfl zBv (by kernel_rfl) ?_; (try simp only [Act.put, List.setIfInBounds_toArray, List.set_cons_zero, List.set_cons_succ])) | ((with_reducible refine wl_store 23 (.tmp 3) (.tmp 45) ?_ ?_); (with_reducible rfl); refine sx_storeW rfl 23 (.tmp 3) (.tmp 45) rfl w.heap.size zSt zSt _ 2 rfl rfl d5 zSt_size rfl rfl rfl ?_; intro wy bwy kwy zwy; clear zwy; (try simp only [Act.put, List.setIfInBounds_toArray, List.set_cons_zero, List.set_cons_succ])) | ((with_reducible refine wl_store 29 (.tmp 4) (.tmp 46) ?_ ?_); (with_reducible rfl); refine sx_storeW rfl 29 (.tmp 4) (.tmp 46) rfl w1.heap.size zBv zBv _ 6 rfl rfl (e5.keep kwy (by simp; omega)) zBk_size rfl rfl rfl ?_; intro wz bwz kwz zwz; clear zwz; (try simp only [Act.put, List.setIfInBounds_toArray, List.set_cons_zero, List.set_cons_succ])))
  have by2 := bwy.keep kwz (by simp; omega)
  refine ret_tcc rfl rfl rfl by2 Try.underlying23 rfl zSt_size rfl bwz Try.underlying29 rfl zBk_size _ rfl ?_
  exact ⟨rfl, (kk5.new kwy (fun i hi => .inr (by simp at hi; omega))).new kwz (fun i hi => .inr (by simp at hi; omega))⟩
end Go.Proofs.Ytdhhibppcckbkaa
namespace Go.Proofs.Ytdhhibppcckbkaa
open Go.RowKit
set_option linter.unusedVariables false
set_option linter.unusedSimpArgs false
set_option maxRecDepth 100000 in
set_option maxHeartbeats 4000000 in
theorem one_bk0 (r : ByteArray) (w : World) (hr : r.size ≤ M47) (h0 : 0 < r.size) (h1 : 1 < r.size) (h9 : r.size ≠ 9) (c : (r[0]'h0).toNat = 66) (her : (readBlockF (r.extract 1 r.size)).2 = 0) : Calls Try.prog 38 #[.string r] w fun e w' => ∃ v u, e = .returned (.tuple #[.int .i64 2, .agg zSt, .agg (bkV (readBlockF (r.extract 1 r.size)).1 v u)]) ∧ SliceOf Rep.sg w' (New w) v (readBlockF (r.extract 1 r.size)).1.j.sg ∧ SliceOf Rep.req w' (New w) u (readBlockF (r.extract 1 r.size)).1.q ∧ Keep [] w w' := by
  have z9 : ((r.size : Int) == 9) = false := by rw [beq_eq_false_iff_ne]; omega
  have y9 : ¬ ((r.size : Int) = 9) := by omega
  have zg : (1 : Int) < (r.size : Int) := by omega
  have z66 : (((r[0]'h0).toNat : Int) == 66) = true := by rw [beq_iff_eq]; omega
  have y66 : (((r[0]'h0).toNat : Int) = 66) := by omega
  have hbs : (r.extract 1 r.size).size ≤ M47 := by rw [ByteArray.size_extract]; omega
  have hRd := Lib.hid (fun w' => rread_call (r.extract 1 r.size) w' hbs)
  have hRb := Lib.hid (fun w' => readBlock_call (r.extract 1 r.size) w')
  clear hbs
  clear h9 c
  have hr2 : r.size < 9223372036854775808 := by unfold M47 at hr; omega
  replace hr := Lib.hid hr
  go_enter Try.func38, Try.ntmps38
  go_upto_region 1 with (first | ((with_reducible refine wl_alloc 23 ?_ ?_); (with_reducible rfl); refine sx_alloc rfl 23 rfl _ 2 zSt zSt_info rfl ?_; intro w1 bw1 kw1 zw1; clear zw1; (try simp only [Act.put, List.setIfInBounds_toArray, List.set_cons_zero, List.set_cons_succ])) | ((with_reducible refine wl_alloc 29 ?_ ?_); (with_reducible rfl); refine sx_alloc rfl 29 rfl _ 6 zBv zBk_info rfl ?_; intro w2 bw2 kw2 zw2; clear zw2; (try simp only [Act.put, List.setIfInBounds_toArray, List.set_cons_zero, List.set_cons_succ])))
  have d1 := bw1.keep kw2 (by simp)
  have kk2 := kw1.trans kw2
  have l1 := bw1.lt
  have l2 := bw2.lt
  clear bw1 kw1 kw2
  go_wp2_with fail
  refine (hRb.out _).mono ?_
  rintro e w3 ⟨v, u, rfl, hv, hu, k3⟩
  generalize hrd : readBlockF (r.extract 1 r.size) = rd at *
  obtain ⟨b, er⟩ := rd
  replace hrd := Lib.hid hrd
  dsimp only at *
  obtain ⟨Av, cv, rfl, -⟩ := hv.form
  obtain ⟨Au, cu, rfl, -⟩ := hu.form
  go_upto_region 7 with (first | ((with_reducible refine wl_alloc 29 ?_ ?_); (with_reducible rfl); refine sx_alloc rfl 29 rfl _ 6 zBv zBk_info rfl ?_; intro w4 bw4 kw4 zw4; clear zw4; (try simp only [Act.put, List.setIfInBounds_toArray, List.set_cons_zero, List.set_cons_succ])) | ((with_reducible refine wl_store 29 (.tmp 7) (.tmp 39) ?_ ?_); (with_reducible rfl); refine sx_storeW rfl 29 (.tmp 7) (.tmp 39) rfl w3.heap.size (bkV b (.slice Av b.j.sg.length cv) (.slice Au b.q.length cu)) zBv _ 6 rfl rfl bw4 zBk_size rfl rfl rfl ?_; intro w5 bw5 kw5 zw5; clear zw5; (try simp only [Act.put, List.setIfInBounds_toArray, List.set_cons_zero, List.set_cons_succ])))
  have k35 := kw4.new kw5 (S := []) (fun i hi => .inr (by simp at hi; omega))
  have k25 := k3.trans k35
  have d5 := d1.keep k25 (by simp)
  have e5 := bw2.keep k25 (by simp)
  have kk5 := kk2.trans k25
  have s2 := kk2.size
  have s3 := k3.size
  have s5 := k25.size
  have hv5 := hv.keep (k35.at _ (by simp))
  have hu5 := hu.keep (k35.at _ (by simp))
  clear bw4 kw4 kw5 k35 hv hu
  subst her
  go_upto_region 8 with fail
  refine wp_region_any (by kernel_rfl) ?_
  (try (change wpAny _ _ _ _ _ _ _ (World.drew _)))
  have K0 : Keep [] w5 w5.drew := (Keep.refl [] w5).drew
  generalize World.drew w5 = u0 at *
  refine wpAny_take (i := 2) (v := ?_) rfl (by kernel_rfl) (by kernel_rfl) (by kernel_rfl) (fun _ _ _ h => h) (Or.inl ⟨by rfl, ?_⟩) ?_
  rotate_left
  · intro w9
    go_simp
    with_reducible rfl
  refine wpAny_take (i := 0) (v := ?_) rfl (by kernel_rfl) (by kernel_rfl) (by kernel_rfl) (fun _ _ _ h => h) (Or.inl ⟨by rfl, ?_⟩) ?_
  rotate_left
  · intro w9
    go_simp
    with_reducible rfl
  refine wpAny_ready (rs := [1, 3]) (by kernel_rfl) (by simp) ?_
  refine AllReady.consS rfl (fun K hK => ?_) ?_
  · refine stp_load rfl 29 (.tmp 7) rfl w3.heap.size 0 (bkV b (.slice Av b.j.sg.length cv) (.slice Au b.q.length cu)) (bkV b (.slice Av b.j.sg.length cv) (.slice Au b.q.length cu)) _ _ 6 rfl (bw5.keep K0 (by simp)) rfl Try.underlying29 rfl zBk_size rfl ?_
    refine hK _ _ ?_
    clear hK K
    refine wpAny_ready (rs := [3]) (by kernel_rfl) (by simp) ?_
    refine AllReady.consS rfl (fun K hK => ?_) ?_
    · refine stp_store rfl 23 (.tmp 3) (.tmp 43) rfl w.heap.size 0 zSt zSt zSt _ rfl rfl (d5.keep K0 (by simp)) zSt_size (by simp) rfl rfl ?_
      intro u1 bN kN zN
      clear zN
      have K1 : Keep [w.heap.size] w5 u1 := (K0.mono (by simp)).trans kN
      have D3 := bN
      clear bN kN
      refine hK _ _ ?_
      clear hK K
      refine wpAny_ready (rs := [4]) (by kernel_rfl) (by simp) ?_
      refine AllReady.consS rfl (fun K hK => ?_) ?_
      · refine stp_store rfl 29 (.tmp 4) (.tmp 44) rfl w1.heap.size 0 (bkV b (.slice Av b.j.sg.length cv) (.slice Au b.q.length cu)) zBv (bkV b (.slice Av b.j.sg.length cv) (.slice Au b.q.length cu)) _ rfl rfl (e5.keep K1 (by simp; omega)) zBk_size (by simp) rfl rfl ?_
        intro u2 bN kN zN
        clear zN
        have K2 : Keep [w.heap.size, w1.heap.size] w5 u2 := (K1.mono (fun i _ hi => by simp at hi ⊢; simp [hi])).trans (kN.mono (fun i _ hi => by simp at hi ⊢; simp [hi]))
        have D4 := D3.keep kN (by simp; omega)
        have E4 := bN
        clear bN kN
        refine hK _ _ ?_
        clear hK K
        refine wpAny_done (by kernel_rfl) ?_ _
        go_wp2_with fail
        refine ret_tcc rfl rfl rfl D4 Try.underlying23 rfl zSt_size rfl E4 Try.underlying29 rfl zBk_size _ rfl ?_
        have nn : ∀ i, i ∈ [w.heap.size, w1.heap.size] → ¬ New w2 i := fun i hi h => by have h : w2.heap.size ≤ i := h; simp at hi; omega
        rw [hrd.out]
        exact ⟨_, _, rfl, (hv5.keep (K2.at _ nn)).mono (fun i hi _ => Nat.le_trans s2 hi), (hu5.keep (K2.at _ nn)).mono (fun i hi _ => Nat.le_trans s2 hi), kk5.new K2 (fun i hi => .inr (by simp at hi; omega))⟩
      exact AllReady.nil
    exact AllReady.nil
  refine AllReady.consS rfl (fun K hK => ?_) ?_
  · refine stp_store rfl 23 (.tmp 3) (.tmp 43) rfl w.heap.size 0 zSt zSt zSt _ rfl rfl (d5.keep K0 (by simp)) zSt_size (by simp) rfl rfl ?_
    intro u1 bN kN zN
    clear zN
    have K1 : Keep [w.heap.size] w5 u1 := (K0.mono (by simp)).trans kN
    have D3 := bN
    clear bN kN
    refine hK _ _ ?_
    clear hK K
    refine wpAny_ready (rs := [1]) (by kernel_rfl) (by simp) ?_
    refine AllReady.consS rfl (fun K hK => ?_) ?_
    · refine stp_load rfl 29 (.tmp 7) rfl w3.heap.size 0 (bkV b (.slice Av b.j.sg.length cv) (.slice Au b.q.length cu)) (bkV b (.slice Av b.j.sg.length cv) (.slice Au b.q.length cu)) _ _ 6 rfl (bw5.keep K1 (by simp; omega)) rfl Try.underlying29 rfl zBk_size rfl ?_
      refine hK _ _ ?_
      clear hK K
      refine wpAny_ready (rs := [4]) (by kernel_rfl) (by simp) ?_
      refine AllReady.consS rfl (fun K hK => ?_) ?_
      · refine stp_store rfl 29 (.tmp 4) (.tmp 44) rfl w1.heap.size 0 (bkV b (.slice Av b.j.sg.length cv) (.slice Au b.q.length cu)) zBv (bkV b (.slice Av b.j.sg.length cv) (.slice Au b.q.length cu)) _ rfl rfl (e5.keep K1 (by simp; omega)) zBk_size (by simp) rfl rfl ?_
        intro u2 bN kN zN
        clear zN
        have K2 : Keep [w.heap.size, w1.heap.size] w5 u2 := (K1.mono (fun i _ hi => by simp at hi ⊢; simp [hi])).trans (kN.mono (fun i _ hi => by simp at hi ⊢; simp [hi]))
        have D4 := D3.keep kN (by simp; omega)
        have E4 := bN
        clear bN kN
        refine hK _ _ ?_
        clear hK K
        refine wpAny_done (by kernel_rfl) ?_ _
        go_wp2_with fail
        refine ret_tcc rfl rfl rfl D4 Try.underlying23 rfl zSt_size rfl E4 Try.underlying29 rfl zBk_size _ rfl ?_
        have nn : ∀ i, i ∈ [w.heap.size, w1.heap.size] → ¬ New w2 i := fun i hi h => by have h : w2.heap.size ≤ i := h; simp at hi; omega
        rw [hrd.out]
        exact ⟨_, _, rfl, (hv5.keep (K2.at _ nn)).mono (fun i hi _ => Nat.le_trans s2 hi), (hu5.keep (K2.at _ nn)).mono (fun i hi _ => Nat.le_trans s2 hi), kk5.new K2 (fun i hi => .inr (by simp at hi; omega))⟩
      exact AllReady.nil
    exact AllReady.nil
  exact AllReady.nil
set_option maxRecDepth 100000 in
set_option maxHeartbeats 4000000 in
theorem one_bkbad0 (r : ByteArray) (w : World) (hr : r.size ≤ M47) (h0 : 0 < r.size) (h1 : 1 < r.size) (h9 : r.size ≠ 9) (c : (r[0]'h0).toNat = 66) (her : (readBlockF (r.extract 1 r.size)).2 ≠ 0) : Calls Try.prog 38 #[.string r] w fun e w' => e = .returned (.tuple #[.int .i64 0, .agg zSt, .agg zBv]) ∧ Keep [] w w' := by
  have z9 : ((r.size : Int) == 9) = false := by rw [beq_eq_false_iff_ne]; omega
  have y9 : ¬ ((r.size : Int) = 9) := by omega
  have zg : (1 : Int) < (r.size : Int) := by omega
  have z66 : (((r[0]'h0).toNat : Int) == 66) = true := by rw [beq_iff_eq]; omega
  have y66 : (((r[0]'h0).toNat : Int) = 66) := by omega
  have hbs : (r.extract 1 r.size).size ≤ M47 := by rw [ByteArray.size_extract]; omega
  have hRd := Lib.hid (fun w' => rread_call (r.extract 1 r.size) w' hbs)
  have hRb := Lib.hid (fun w' => readBlock_call (r.extract 1 r.size) w')
  clear hbs
  clear h9 c
  have hr2 : r.size < 9223372036854775808 := by unfold M47 at hr; omega
  replace hr := Lib.hid hr
  go_enter Try.func38, Try.ntmps38
  go_upto_region 1 with (first | ((with_reducible refine wl_alloc 23 ?_ ?_); (with_reducible rfl); refine sx_alloc rfl 23 rfl _ 2 zSt zSt_info rfl ?_; intro w1 bw1 kw1 zw1; clear zw1; (try simp only [Act.put, List.setIfInBounds_toArray, List.set_cons_zero, List.set_cons_succ])) | ((with_reducible refine wl_alloc 29 ?_ ?_); (with_reducible rfl); refine sx_alloc rfl 29 rfl _ 6 zBv zBk_info rfl ?_; intro w2 bw2 kw2 zw2; clear zw2; (try simp only [Act.put, List.setIfInBounds_toArray, List.set_cons_zero, List.set_cons_succ])))
  have d1 := bw1.keep kw2 (by simp)
  have kk2 := kw1.trans kw2
  have l1 := bw1.lt
  have l2 := bw2.lt
  clear bw1 kw1 kw2
  go_wp2_with fail
  refine (hRb.out _).mono ?_
  rintro e w3 ⟨v, u, rfl, hv, hu, k3⟩
  generalize hrd : readBlockF (r.extract 1 r.size) = rd at *
  obtain ⟨b, er⟩ := rd
  replace hrd := Lib.hid hrd
  dsimp only at *
  obtain ⟨Av, cv, rfl, -⟩ := hv.form
  obtain ⟨Au, cu, rfl, -⟩ := hu.form
  go_upto_region 7 with (first | ((with_reducible refine wl_alloc 29 ?_ ?_); (with_reducible rfl); refine sx_alloc rfl 29 rfl _ 6 zBv zBk_info rfl ?_; intro w4 bw4 kw4 zw4; clear zw4; (try simp only [Act.put, List.setIfInBounds_toArray, List.set_cons_zero, List.set_cons_succ])) | ((with_reducible refine wl_store 29 (.tmp 7) (.tmp 39) ?_ ?_); (with_reducible rfl); refine sx_storeW rfl 29 (.tmp 7) (.tmp 39) rfl w3.heap.size (bkV b (.slice Av b.j.sg.length cv) (.slice Au b.q.length cu)) zBv _ 6 rfl rfl bw4 zBk_size rfl rfl rfl ?_; intro w5 bw5 kw5 zw5; clear zw5; (try simp only [Act.put, List.setIfInBounds_toArray, List.set_cons_zero, List.set_cons_succ])))
  have k35 := kw4.new kw5 (S := []) (fun i hi => .inr (by simp at hi; omega))
  have k25 := k3.trans k35
  have d5 := d1.keep k25 (by simp)
  have e5 := bw2.keep k25 (by simp)
  have kk5 := kk2.trans k25
  have s2 := kk2.size
  have s3 := k3.size
  have s5 := k25.size
  have hv5 := hv.keep (k35.at _ (by simp))
  have hu5 := hu.keep (k35.at _ (by simp))
  clear bw4 kw4 kw5 k35 hv hu
  have z0 : (er == 0) = false := by rw [beq_eq_false_iff_ne]; exact her
  go_wp2_with (first | ((with_reducible refine wl_build 23 _ ?_ ?_); (with_reducible rfl); refine sx_build rfl 23 _ rfl zSt (by kernel_rfl) ?_; (try simp only [Act.put, List.setIfInBounds_toArray, List.set_cons_zero, List.set_cons_succ])) | ((with_reducible refine wl_build 29 _ ?_ ?_); (with_reducible rfl); refine sx_build rfl 29 _ rfl zBv (by kernel_rfl) ?_; (try simp only [Act.put, List.setIfInBounds_toArray, List.set_cons_zero, List.set_cons_succ])) | ((with_reducible refine wl_store 23 (.tmp 3) (.tmp 45) ?_ ?_); (with_reducible rfl); refine sx_storeW rfl 23 (.tmp 3) (.tmp 45) rfl w.heap.size zSt zSt _ 2 rfl rfl d5 zSt_size rfl rfl rfl ?_; intro wy bwy kwy zwy; clear zwy; (try simp only [Act.put, List.setIfInBounds_toArray, List.set_cons_zero, List.set_cons_succ])) | ((with_reducible refine wl_store 29 (.tmp 4) (.tmp 46) ?_ ?_); (with_reducible rfl); refine sx_storeW rfl 29 (.tmp 4) (.tmp 46) rfl w1.heap.size zBv zBv _ 6 rfl rfl (e5.keep kwy (by simp; omega)) zBk_size rfl rfl rfl ?_; intro wz bwz kwz zwz; clear zwz; (try simp only [Act.put, List.setIfInBounds_toArray, List.set_cons_zero, List.set_cons_succ])))
  have by2 := bwy.keep kwz (by simp; omega)
  refine ret_tcc rfl rfl rfl by2 Try.underlying23 rfl zSt_size rfl bwz Try.underlying29 rfl zBk_size _ rfl ?_
  exact ⟨rfl, (kk5.new kwy (fun i hi => .inr (by simp at hi; omega))).new kwz (fun i hi => .inr (by simp at hi; omega))⟩
end Go.Proofs.Ytdhhibppcckbkaa
namespace Go.Proofs.Ytdhhibppcckbkaa
open Go.RowKit
set_option linter.unusedVariables false
set_option linter.unusedSimpArgs false
theorem one_no (r : ByteArray) (w : World) (hr : r.size ≤ M47) (h : rcF r = .no) : Calls Try.prog 38 #[.string r] w fun e w' => e = .returned (.tuple #[.int .i64 0, .agg zSt, .agg zBv]) ∧ Keep [] w w' := by
  by_cases h1 : r.size ≤ 1
  · exact one_small r w hr h1
  · have h0 : 0 < r.size := by omega
    by_cases c : (r[0]'h0).toNat = 83
    · by_cases h9 : r.size = 9
      · exact one_stbad r w hr h0 h9 c (fun e => by rw [rc_st h0 c e] at h; cases h)
      · exact one_other0 r w hr h0 (by omega) h9 (by omega)
    · by_cases c' : (r[0]'h0).toNat = 66
      · have hb : (readBlockF (r.extract 1 r.size)).2 ≠ 0 := fun e => by rw [rc_bk h0 c' e] at h; cases h
        by_cases h9 : r.size = 9
        · exact one_bkbad1 r w hr h0 (by omega) h9 c' hb
        · exact one_bkbad0 r w hr h0 (by omega) h9 c' hb
      · by_cases h9 : r.size = 9
        · exact one_other1 r w hr h0 (by omega) h9 c c'
        · exact one_other0 r w hr h0 (by omega) h9 c'
theorem rc_pos {r : ByteArray} (h : rcF r ≠ .no) : 1 < r.size := by
  by_cases h1 : r.size ≤ 1
  · exact absurd (rc_one h1) h
  · omega
theorem one_stt (r : ByteArray) (t : Stt) (w : World) (hr : r.size ≤ M47) (h : rcF r = .st t) : Calls Try.prog 38 #[.string r] w fun e w' => e = .returned (.tuple #[.int .i64 1, .agg (stV t), .agg zBv]) ∧ Keep [] w w' := by
  have h1 := rc_pos (r := r) (by rw [h]; exact fun e => by cases e)
  have h0 : 0 < r.size := by omega
  by_cases c : (r[0]'h0).toNat = 83
  · by_cases he : (readStF (r.extract 1 r.size)).2 = 0
    · have h9 : r.size = 9 := by have := readSt_size he; rw [ByteArray.size_extract] at this; omega
      have e := rc_st h0 c he
      rw [h] at e
      injection e with e
      rw [e]
      exact one_st r w hr h0 h9 c he
    · rw [rc_st_bad h0 c he] at h; cases h
  · by_cases c' : (r[0]'h0).toNat = 66
    · by_cases he : (readBlockF (r.extract 1 r.size)).2 = 0
      · rw [rc_bk h0 c' he] at h; cases h
      · rw [rc_bk_bad h0 c' he] at h; cases h
    · rw [rc_other h0 c c'] at h; cases h
theorem one_bkk (r : ByteArray) (b : Bk) (w : World) (hr : r.size ≤ M47) (h : rcF r = .bk b) : Calls Try.prog 38 #[.string r] w fun e w' => ∃ v u, e = .returned (.tuple #[.int .i64 2, .agg zSt, .agg (bkV b v u)]) ∧ SliceOf Rep.sg w' (New w) v b.j.sg ∧ SliceOf Rep.req w' (New w) u b.q ∧ Keep [] w w' := by
  have h1 := rc_pos (r := r) (by rw [h]; exact fun e => by cases e)
  have h0 : 0 < r.size := by omega
  by_cases c : (r[0]'h0).toNat = 83
  · by_cases he : (readStF (r.extract 1 r.size)).2 = 0
    · rw [rc_st h0 c he] at h; cases h
    · rw [rc_st_bad h0 c he] at h; cases h
  · by_cases c' : (r[0]'h0).toNat = 66
    · by_cases he : (readBlockF (r.extract 1 r.size)).2 = 0
      · have e := rc_bk h0 c' he
        rw [h] at e
        injection e with e
        rw [e]
        by_cases h9 : r.size = 9
        · exact one_bk1 r w hr h0 h1 h9 c' he
        · exact one_bk0 r w hr h0 h1 h9 c' he
      · rw [rc_bk_bad h0 c' he] at h; cases h
    · rw [rc_other h0 c c'] at h; cases h
end Go.Proofs.Ytdhhibppcckbkaa
namespace Go.Proofs.Ytdhhibppcckbkaa
open Go.RowKit
set_option linter.unusedVariables false
set_option linter.unusedSimpArgs false
/-! rows of blocks -/
theorem bk_one {w : World} {G : Nat → Prop} {x : Bk} {cs : List Value} (h : Rep.bk.R w G x cs) : ∀ u ∈ cs, u.oneCell' = true := by
  obtain ⟨v, u, rfl, h1, h2, h3, h4, h5, h6⟩ := h
  obtain ⟨A1, c1, rfl, -⟩ := h5.form
  obtain ⟨A2, c2, rfl, -⟩ := h6.form
  intro y hy
  have h : (bkV x (.slice A1 x.j.sg.length c1) (.slice A2 x.q.length c2)).toList.all (fun u => u.oneCell') = true := by simp [Value.oneCell']
  exact List.all_eq_true.1 h y hy
theorem fill6 (z C : Array Value) (h : C.size = 6) (hz : z.size = 6) : Instr.fill (fun i => some (i * 6, 6)) z [(0, .agg C)] = some C := by
  obtain ⟨c⟩ := C
  obtain ⟨zz⟩ := z
  simp only [List.size_toArray] at h hz
  obtain ⟨a0, a1, a2, a3, a4, a5, rfl⟩ : ∃ a0 a1 a2 a3 a4 a5, c = [a0, a1, a2, a3, a4, a5] := by
    match c, h with
    | [a0, a1, a2, a3, a4, a5], _ => exact ⟨a0, a1, a2, a3, a4, a5, rfl⟩
  obtain ⟨b0, b1, b2, b3, b4, b5, rfl⟩ : ∃ a0 a1 a2 a3 a4 a5, zz = [a0, a1, a2, a3, a4, a5] := by
    match zz, hz with
    | [a0, a1, a2, a3, a4, a5], _ => exact ⟨a0, a1, a2, a3, a4, a5, rfl⟩
  simp [Instr.fill, Value.cells]
theorem rc_bounds {r : ByteArray} {b : Bk} (h : rcF r = .bk b) : I64 b.v ∧ I64 b.p ∧ I64 b.j.v ∧ b.j.h.size ≤ M47 := by
  have h1 := rc_pos (r := r) (by rw [h]; exact fun e => by cases e)
  have h0 : 0 < r.size := by omega
  by_cases c : (r[0]'h0).toNat = 83
  · by_cases he : (readStF (r.extract 1 r.size)).2 = 0
    · rw [rc_st h0 c he] at h; cases h
    · rw [rc_st_bad h0 c he] at h; cases h
  · by_cases c' : (r[0]'h0).toNat = 66
    · by_cases he : (readBlockF (r.extract 1 r.size)).2 = 0
      · rw [rc_bk h0 c' he] at h
        injection h with h
        have hB := B3_holds (r.extract 1 r.size)
        have e : readBlockF (r.extract 1 r.size) = (b, 0) := by rw [← h, ← he]
        rw [e] at hB
        exact bk_bounds hB
      · rw [rc_bk_bad h0 c' he] at h; cases h
    · rw [rc_other h0 c c'] at h; cases h
section
variable {o : Oper} {act : Act} {K : Act → World → Prop} {Q : Exit → Act → World → Prop} {ops : Array Oper} {E : Prop} {W : World}
theorem stp_noneB (hgd : o.guard = none) (ho : o.op = .buildSlice 37 0 #[])
    (h : ∀ w', Blk w' W.heap.size #[] 29 → Keep [] W w' → w'.heap.size = W.heap.size + 1 → K (act.put o.dst (.slice (some ⟨W.heap.size, 0, none⟩) 0 0)) w') : Stp Try.prog o ops act W K Q E :=
  ⟨step_none hgd 37 29 ho (.agg zBv) 6 88 Try.underlying37 infoBk h⟩
theorem stp_oneB (hgd : o.guard = none) (x : Operand) (ho : o.op = .buildSlice 37 1 #[(0, x)]) (C : Array Value) (hx : act.eval x = .agg C) (hC : C.size = 6)
    (h : ∀ w', Blk w' W.heap.size C 29 → Keep [] W w' → w'.heap.size = W.heap.size + 1 → K (act.put o.dst (.slice (some ⟨W.heap.size, 0, none⟩) 1 1)) w') : Stp Try.prog o ops act W K Q E := by
  refine ⟨?_⟩
  have hw : Region.wanted o (yielded ops act.tmps) = true := by simp [Region.wanted, hgd]
  rw [if_pos hw]
  obtain ⟨i0, hi0, hzz⟩ := Option.map_eq_some_iff.1 infoBk
  simp only [Prod.mk.injEq] at hzz
  obtain ⟨hz0, hz1, hz2⟩ := hzz
  exact wp_buildSlice 37 29 1 #[(0, x)] ho C i0 (.agg zBv) Try.underlying37 hi0 hz0 (by rw [hz1]; decide) (by rw [hz1]; decide)
    (by rw [hz1]; simp only [List.map_toArray, List.map_cons, List.map_nil, hx]; exact fill6 _ C hC (by simp))
    (h _ (Blk.new W C _) ((Keep.refl [] W).alloc _) (by simp))
theorem stp_appB (hgd : o.guard = none) (s x : Operand) (ho : o.op = .call { callee := .builtin .append, args := #[s, x], argTypes := #[37, 37] }) (lo : Nat) (G : Nat → Prop) (v : Value) (xs ys : List Bk) (A : Option Addr) (c : Nat) (hs : act.eval s = v) (hx : act.eval x = .slice A ys.length c)
    (hown : RowG Rep.bk 29 W lo G v xs) (hy : ReadsG Rep.bk W G A ys) (hG : ∀ k, G k → k < lo) (hl : (xs.length + ys.length) * 88 ≤ 140737488355328) (hbase : lo ≤ W.heap.size)
    (h : ∀ B cap w', RowG Rep.bk 29 w' lo G (.slice B (xs.length + ys.length) cap) (xs ++ ys) → Keep v.ownBlock.toList W w' → K (act.put o.dst (.slice B (xs.length + ys.length) cap)) w') : Stp Try.prog o ops act W K Q E := by
  refine ⟨?_⟩
  have hw : Region.wanted o (yielded ops act.tmps) = true := by simp [Region.wanted, hgd]
  rw [if_pos hw]
  have hA0 : A = none → ys = [] := by
    intro e
    cases ys with
    | nil => rfl
    | cons y l => obtain ⟨g, o, e1, _⟩ := hy (by simp); rw [e] at e1; exact absurd e1 (by simp)
  obtain ⟨v', w', r1, r2, r3, r4⟩ := run_appG Rep.bk 37 o.type 29 (.agg zBv) 88 lo G Try.underlying37 infoBk rfl (by decide) (by decide) (fun w x cs h => bk_one h) W v xs ys A c hown hy hG hl hbase hA0
  obtain ⟨B, cap, rfl⟩ := r2.form
  rw [List.length_append] at *
  unfold Oper.wp execOp
  simp only [ho, resolve, invoke, builtin, Sem.run_bind, Sem.run_pure, Result.andThen_ok, List.map_toArray, List.map_cons, List.map_nil, hs, hx, r1]
  exact h B cap w' r2 ((Keep.refl _ W).grown r3 (fun i hi => .inl (by rw [hi]; simp)))
end
end Go.Proofs.Ytdhhibppcckbkaa
namespace Go.Proofs.Ytdhhibppcckbkaa
open Go.RowKit
set_option linter.unusedVariables false
set_option linter.unusedSimpArgs false
/-! the reference's Recall -/
set_option maxRecDepth 100000 in
set_option maxHeartbeats 16000000 in
theorem rrecall_call (A : Option Addr) (l : List ByteArray) (c : Nat) (F : Nat → Prop) (w : World) (hs : SliceOf Rep.str w F (.slice A l.length c) l) (hF : ∀ i, F i → i < w.heap.size) (hl : l.length ≤ 1000000) :
    Calls Try.prog 16 #[.slice A l.length c] w fun e w' => ∃ v, e = .returned (.tuple #[.agg (stV (recallF l ⟨0, 0⟩ []).1), v]) ∧ ∃ G, SliceOf Rep.bk w' G v (recallF l ⟨0, 0⟩ []).2 ∧ (∀ i, G i → w.heap.size ≤ i ∧ i < w'.heap.size) ∧ Keep [] w w' := by
  have HS := Lib.hid hs
  have HF := Lib.hid hF
  clear hs hF
  go_enter Try.func16, Try.ntmps16
  go_upto_region 1 with (first | ((with_reducible refine wl_alloc 23 ?_ ?_); (with_reducible rfl); refine sx_alloc rfl 23 rfl _ 2 zSt zSt_info rfl ?_; intro w1 bw1 kw1 zw1; clear zw1; (try simp only [Act.put, List.setIfInBounds_toArray, List.set_cons_zero, List.set_cons_succ])))
  go_upto_region 3 with (first | ((with_reducible refine wl_alloc 23 ?_ ?_); (with_reducible rfl); refine sx_alloc rfl 23 rfl _ 2 zSt zSt_info rfl ?_; intro w2 bw2 kw2 zw2; clear zw2; (try simp only [Act.put, List.setIfInBounds_toArray, List.set_cons_zero, List.set_cons_succ])))
  have d1 := bw1.keep kw2 (by simp)
  have kk2 := kw1.trans kw2
  have l1 := bw1.lt
  have l2 := bw2.lt
  clear bw1 kw1 kw2
  go_wp2_with fail
  go_loopw [5, 6] (fun ov i wr => ∃ k : Nat, k ≤ l.length ∧ i = .int .i64 k ∧ ∃ s xs, Hid (recallF l ⟨0, 0⟩ [] = recallF (l.drop k) s xs) ∧ xs.length ≤ k ∧ Hid (∃ G, SliceOf Rep.bk wr G ov xs ∧ (∀ i, G i → w2.heap.size ≤ i ∧ i < wr.heap.size) ∧ Blk wr w.heap.size zSt 23 ∧ Blk wr w1.heap.size (stV s) 23 ∧ Keep [] w wr ∧ w2.heap.size ≤ wr.heap.size)) (fun _ i _ => l.length - (intOf i).toNat)
  case atStart => exact ⟨0, Nat.zero_le _, rfl, ⟨0, 0⟩, [], Lib.hid rfl, Nat.le_refl _, Lib.hid ⟨fun _ => False, SliceOf.nil _ _ _ _ _, fun i h => h.elim, d1, bw2, kk2, Nat.le_refl _⟩⟩
  case round =>
    obtain ⟨k, hk, rfl, s, xs, hrec, hxl, hw⟩ := hrel
    clear d1 bw2 kk2
    obtain ⟨G, hsl, hGb, hb0, hb1, kk, hsz2⟩ := hw.out
    clear hw
    obtain ⟨A5, c5, rfl, -⟩ := hsl.form
    replace hsl := Lib.hid hsl
    replace hGb := Lib.hid hGb
    by_cases hlt : k < l.length
    · have hltz : (k : Int) < (l.length : Int) := by omega
      obtain ⟨g, o, rfl, hc, hsz⟩ := (HS.out.keep (kk.at F (by simp))).str_at hlt
      have hdr : l.drop k = l[k] :: l.drop (k + 1) := List.drop_eq_getElem_cons hlt
      rw [hdr] at hrec
      clear hdr
      generalize l[k] = r at *
      have hN : recallF (r :: l.drop (k + 1)) s xs = (match rcF r with | .no => (s, xs) | .st t => recallF (l.drop (k + 1)) (gtF s t) xs | .bk b => recallF (l.drop (k + 1)) s (xs ++ [b])) := rfl
      replace hN := Lib.hid hN
      replace hsz : Hid (r.size ≤ M47) := Lib.hid (by unfold M47; exact hsz)
      go_upto_block 1 with fail
      go_cut [5] (fun v wx => ∃ s xs, Hid (recallF l ⟨0, 0⟩ [] = recallF (l.drop (k + 1)) s xs) ∧ xs.length ≤ k + 1 ∧ Hid (∃ G, SliceOf Rep.bk wx G v xs ∧ (∀ i, G i → w2.heap.size ≤ i ∧ i < wx.heap.size) ∧ Blk wx w.heap.size zSt 23 ∧ Blk wx w1.heap.size (stV s) 23 ∧ Keep [] w wx ∧ w2.heap.size ≤ wx.heap.size))
      case rest =>
        go_wp2
        go_roundw
        case rel => exact ⟨k + 1, by omega, by go_num, hcut⟩
        case measure => simp [intOf]; omega
      case first =>
        cases hrc : rcF r with
        | no =>
          replace hrc := Lib.hid hrc
          go_wp2_with fail
          refine (one_no r _ hsz.out hrc.out).mono ?_
          rintro e w3 ⟨rfl, k3⟩
          go_upto_region 7 with (first | ((with_reducible refine wl_alloc 23 ?_ ?_); (with_reducible rfl); refine sx_alloc rfl 23 rfl _ 2 zSt zSt_info rfl ?_; intro w4 bw4 kw4 zw4; clear zw4; (try simp only [Act.put, List.setIfInBounds_toArray, List.set_cons_zero, List.set_cons_succ])) | ((with_reducible refine wl_alloc 29 ?_ ?_); (with_reducible rfl); refine sx_alloc rfl 29 rfl _ 6 zBv zBk_info rfl ?_; intro w5 bw5 kw5 zw5; clear zw5; (try simp only [Act.put, List.setIfInBounds_toArray, List.set_cons_zero, List.set_cons_succ])) | ((with_reducible refine wl_store 23 (.tmp 8) (.tmp 23) ?_ ?_); (with_reducible rfl); refine sx_storeW rfl 23 (.tmp 8) (.tmp 23) rfl w3.heap.size zSt zSt _ 2 rfl rfl (bw4.keep kw5 (by simp)) zSt_size rfl rfl rfl ?_; intro w6 bw6 kw6 zw6; clear zw6; (try simp only [Act.put, List.setIfInBounds_toArray, List.set_cons_zero, List.set_cons_succ])) | ((with_reducible refine wl_store 29 (.tmp 9) (.tmp 24) ?_ ?_); (with_reducible rfl); refine sx_storeW rfl 29 (.tmp 9) (.tmp 24) rfl w4.heap.size zBv zBv _ 6 rfl rfl (bw5.keep kw6 (by have := bw4.lt; simp; omega)) zBk_size rfl rfl rfl ?_; intro w7 bw7 kw7 zw7; clear zw7; (try simp only [Act.put, List.setIfInBounds_toArray, List.set_cons_zero, List.set_cons_succ])))
          have l4 := bw4.lt
          have k37 : Keep [] w3 w7 := ((kw4.trans kw5).new kw6 (fun i hi => .inr (by simp at hi; omega))).new kw7 (fun i hi => .inr (by have := kw4.size; simp at hi; omega))
          have k27 := k3.trans k37
          have s3 := k3.size
          have s7 := k27.size
          have e8 := bw6.keep kw7 (by simp; omega)
          have hb0 := hb0.keep k27 (by simp)
          have hb1 := hb1.keep k27 (by simp)
          have hsl := Lib.hid (hsl.out.keep (k27.at G (by simp)))
          have kk := kk.trans k27
          have s37 := k37.size
          have hGb : Hid (∀ i, G i → w2.heap.size ≤ i ∧ i < w7.heap.size) := Lib.hid (fun i hi => by have := hGb.out i hi; omega)
          clear bw4 bw5 kw4 kw5 kw6 kw7 bw6 k27
          have hst : Hid (recallF l ⟨0, 0⟩ [] = (s, xs)) := Lib.hid (by rw [hrec.out, hN.out, hrc.out])
          go_wp2_with (first | ((with_reducible refine wl_load 23 (.tmp 4) ?_ ?_); (with_reducible rfl); refine sx_loadW rfl 23 (.tmp 4) rfl w1.heap.size (stV s) _ _ 2 rfl hb1 Try.underlying23 rfl zSt_size rfl ?_; (try simp only [Act.put, List.setIfInBounds_toArray, List.set_cons_zero, List.set_cons_succ])) | ((with_reducible refine wl_store 23 (.tmp 2) (.tmp 27) ?_ ?_); (with_reducible rfl); refine sx_storeW rfl 23 (.tmp 2) (.tmp 27) rfl w.heap.size (stV s) zSt _ 2 rfl rfl hb0 zSt_size rfl rfl rfl ?_; intro wz bwz kwz zwz; clear zwz; (try simp only [Act.put, List.setIfInBounds_toArray, List.set_cons_zero, List.set_cons_succ])))
          refine ret_cell2 rfl rfl rfl bwz Try.underlying23 rfl zSt_size _ rfl ?_
          rw [hst.out]
          have sz := kwz.size
          exact ⟨_, rfl, G, hsl.out.keep (kwz.at G (fun i hi hg => by have := (hGb.out i hg).1; simp at hi; omega)), fun i hi => by have := hGb.out i hi; omega, kk.new kwz (fun i hi => .inr (by simp at hi; omega))⟩
        | st t =>
          replace hrc := Lib.hid hrc
          go_wp2_with fail
          refine (one_stt r t _ hsz.out hrc.out).mono ?_
          rintro e w3 ⟨rfl, k3⟩
          go_upto_region 7 with (first | ((with_reducible refine wl_alloc 23 ?_ ?_); (with_reducible rfl); refine sx_alloc rfl 23 rfl _ 2 zSt zSt_info rfl ?_; intro w4 bw4 kw4 zw4; clear zw4; (try simp only [Act.put, List.setIfInBounds_toArray, List.set_cons_zero, List.set_cons_succ])) | ((with_reducible refine wl_alloc 29 ?_ ?_); (with_reducible rfl); refine sx_alloc rfl 29 rfl _ 6 zBv zBk_info rfl ?_; intro w5 bw5 kw5 zw5; clear zw5; (try simp only [Act.put, List.setIfInBounds_toArray, List.set_cons_zero, List.set_cons_succ])) | ((with_reducible refine wl_store 23 (.tmp 8) (.tmp 23) ?_ ?_); (with_reducible rfl); refine sx_storeW rfl 23 (.tmp 8) (.tmp 23) rfl w3.heap.size (stV t) zSt _ 2 rfl rfl (bw4.keep kw5 (by simp)) zSt_size rfl rfl rfl ?_; intro w6 bw6 kw6 zw6; clear zw6; (try simp only [Act.put, List.setIfInBounds_toArray, List.set_cons_zero, List.set_cons_succ])) | ((with_reducible refine wl_store 29 (.tmp 9) (.tmp 24) ?_ ?_); (with_reducible rfl); refine sx_storeW rfl 29 (.tmp 9) (.tmp 24) rfl w4.heap.size zBv zBv _ 6 rfl rfl (bw5.keep kw6 (by have := bw4.lt; simp; omega)) zBk_size rfl rfl rfl ?_; intro w7 bw7 kw7 zw7; clear zw7; (try simp only [Act.put, List.setIfInBounds_toArray, List.set_cons_zero, List.set_cons_succ])))
          have l4 := bw4.lt
          have k37 : Keep [] w3 w7 := ((kw4.trans kw5).new kw6 (fun i hi => .inr (by simp at hi; omega))).new kw7 (fun i hi => .inr (by have := kw4.size; simp at hi; omega))
          have k27 := k3.trans k37
          have s3 := k3.size
          have s7 := k27.size
          have e8 := bw6.keep kw7 (by simp; omega)
          have hb0 := hb0.keep k27 (by simp)
          have hb1 := hb1.keep k27 (by simp)
          have hsl := Lib.hid (hsl.out.keep (k27.at G (by simp)))
          have kk := kk.trans k27
          have s37 := k37.size
          have hGb : Hid (∀ i, G i → w2.heap.size ≤ i ∧ i < w7.heap.size) := Lib.hid (fun i hi => by have := hGb.out i hi; omega)
          clear bw4 bw5 kw4 kw5 kw6 kw7 bw6 k27
          have x0 : w7.cell? ⟨w1.heap.size, 0, none⟩ = some (.int .i64 s.v) := hb1.cell 0
          have x1 : w7.cell? ⟨w1.heap.size, 1, none⟩ = some (.int .i64 s.l) := hb1.cell 1
          have y0 : w7.cell? ⟨w3.heap.size, 0, none⟩ = some (.int .i64 t.v) := e8.cell 0
          have y1 : w7.cell? ⟨w3.heap.size, 1, none⟩ = some (.int .i64 t.l) := e8.cell 1
          have hgt : ∀ p q : Int, (p = if s.v < t.v then t.v else s.v) → (q = if s.l < t.l then t.l else s.l) → gtF s t = ⟨p, q⟩ := fun p q hp hq => by rw [hp, hq]; unfold gtF; rw [maxIf, maxIf]
          replace hgt := Lib.hid hgt
          have hN2 : Hid (recallF l ⟨0, 0⟩ [] = recallF (l.drop (k + 1)) (gtF s t) xs) := Lib.hid (by rw [hrec.out, hN.out, hrc.out])
          generalize gtF s t = gs at *
          obtain ⟨s1, s2⟩ := s
          obtain ⟨t1, t2⟩ := t
          dsimp only at *
          by_cases h1 : s1 < t1 <;> by_cases h2 : s2 < t2
          · obtain rfl := hgt.out t1 t2 (by simp [h1]) (by simp [h2])
            go_wp2_with (first | ((with_reducible refine wl_store 23 (.tmp 4) (.tmp 41) ?_ ?_); (with_reducible rfl); refine sx_storeW rfl 23 (.tmp 4) (.tmp 41) rfl w1.heap.size (stV ⟨t1, t2⟩) (stV ⟨s1, s2⟩) _ 2 rfl rfl hb1 zSt_size rfl rfl rfl ?_; intro w8 bw8 kw8 zw8; clear zw8; (try simp only [Act.put, List.setIfInBounds_toArray, List.set_cons_zero, List.set_cons_succ])))
            have s8 := kw8.size
            have hb08 := hb0.keep kw8 (by simp; omega)
            have hs8 := hsl.out.keep (kw8.at G (fun i hi hg => by have := (hGb.out i hg).1; simp at hi; omega))
            have kk8 := kk.new kw8 (fun i hi => .inr (by simp at hi; omega))
            go_meet
            exact ⟨_, xs, hN2, by omega, Lib.hid ⟨G, hs8, fun i hi => by have := hGb.out i hi; omega, hb08, bw8, kk8, by omega⟩⟩
          · obtain rfl := hgt.out t1 s2 (by simp [h1]) (by simp [h2])
            replace h2 := Int.not_lt.1 h2
            go_wp2_with (first | ((with_reducible refine wl_store 23 (.tmp 4) (.tmp 41) ?_ ?_); (with_reducible rfl); refine sx_storeW rfl 23 (.tmp 4) (.tmp 41) rfl w1.heap.size (stV ⟨t1, s2⟩) (stV ⟨s1, s2⟩) _ 2 rfl rfl hb1 zSt_size rfl rfl rfl ?_; intro w8 bw8 kw8 zw8; clear zw8; (try simp only [Act.put, List.setIfInBounds_toArray, List.set_cons_zero, List.set_cons_succ])))
            have s8 := kw8.size
            have hb08 := hb0.keep kw8 (by simp; omega)
            have hs8 := hsl.out.keep (kw8.at G (fun i hi hg => by have := (hGb.out i hg).1; simp at hi; omega))
            have kk8 := kk.new kw8 (fun i hi => .inr (by simp at hi; omega))
            go_meet
            exact ⟨_, xs, hN2, by omega, Lib.hid ⟨G, hs8, fun i hi => by have := hGb.out i hi; omega, hb08, bw8, kk8, by omega⟩⟩
          · obtain rfl := hgt.out s1 t2 (by simp [h1]) (by simp [h2])
            replace h1 := Int.not_lt.1 h1
            go_wp2_with (first | ((with_reducible refine wl_store 23 (.tmp 4) (.tmp 41) ?_ ?_); (with_reducible rfl); refine sx_storeW rfl 23 (.tmp 4) (.tmp 41) rfl w1.heap.size (stV ⟨s1, t2⟩) (stV ⟨s1, s2⟩) _ 2 rfl rfl hb1 zSt_size rfl rfl rfl ?_; intro w8 bw8 kw8 zw8; clear zw8; (try simp only [Act.put, List.setIfInBounds_toArray, List.set_cons_zero, List.set_cons_succ])))
            have s8 := kw8.size
            have hb08 := hb0.keep kw8 (by simp; omega)
            have hs8 := hsl.out.keep (kw8.at G (fun i hi hg => by have := (hGb.out i hg).1; simp at hi; omega))
            have kk8 := kk.new kw8 (fun i hi => .inr (by simp at hi; omega))
            go_meet
            exact ⟨_, xs, hN2, by omega, Lib.hid ⟨G, hs8, fun i hi => by have := hGb.out i hi; omega, hb08, bw8, kk8, by omega⟩⟩
          · obtain rfl := hgt.out s1 s2 (by simp [h1]) (by simp [h2])
            replace h1 := Int.not_lt.1 h1
            replace h2 := Int.not_lt.1 h2
            go_wp2_with (first | ((with_reducible refine wl_store 23 (.tmp 4) (.tmp 41) ?_ ?_); (with_reducible rfl); refine sx_storeW rfl 23 (.tmp 4) (.tmp 41) rfl w1.heap.size (stV ⟨s1, s2⟩) (stV ⟨s1, s2⟩) _ 2 rfl rfl hb1 zSt_size rfl rfl rfl ?_; intro w8 bw8 kw8 zw8; clear zw8; (try simp only [Act.put, List.setIfInBounds_toArray, List.set_cons_zero, List.set_cons_succ])))
            have s8 := kw8.size
            have hb08 := hb0.keep kw8 (by simp; omega)
            have hs8 := hsl.out.keep (kw8.at G (fun i hi hg => by have := (hGb.out i hg).1; simp at hi; omega))
            have kk8 := kk.new kw8 (fun i hi => .inr (by simp at hi; omega))
            go_meet
            exact ⟨_, xs, hN2, by omega, Lib.hid ⟨G, hs8, fun i hi => by have := hGb.out i hi; omega, hb08, bw8, kk8, by omega⟩⟩
        | bk b =>
          replace hrc := Lib.hid hrc
          go_wp2_with fail
          refine (one_bkk r b _ hsz.out hrc.out).mono ?_
          rintro e w3 ⟨v, u, rfl, hv, hu, k3⟩
          obtain ⟨Av, cv, rfl, -⟩ := hv.form
          obtain ⟨Au, cu, rfl, -⟩ := hu.form
          go_upto_region 7 with (first | ((with_reducible refine wl_alloc 23 ?_ ?_); (with_reducible rfl); refine sx_alloc rfl 23 rfl _ 2 zSt zSt_info rfl ?_; intro w4 bw4 kw4 zw4; clear zw4; (try simp only [Act.put, List.setIfInBounds_toArray, List.set_cons_zero, List.set_cons_succ])) | ((with_reducible refine wl_alloc 29 ?_ ?_); (with_reducible rfl); refine sx_alloc rfl 29 rfl _ 6 zBv zBk_info rfl ?_; intro w5 bw5 kw5 zw5; clear zw5; (try simp only [Act.put, List.setIfInBounds_toArray, List.set_cons_zero, List.set_cons_succ])) | ((with_reducible refine wl_store 23 (.tmp 8) (.tmp 23) ?_ ?_); (with_reducible rfl); refine sx_storeW rfl 23 (.tmp 8) (.tmp 23) rfl w3.heap.size zSt zSt _ 2 rfl rfl (bw4.keep kw5 (by simp)) zSt_size rfl rfl rfl ?_; intro w6 bw6 kw6 zw6; clear zw6; (try simp only [Act.put, List.setIfInBounds_toArray, List.set_cons_zero, List.set_cons_succ])) | ((with_reducible refine wl_store 29 (.tmp 9) (.tmp 24) ?_ ?_); (with_reducible rfl); refine sx_storeW rfl 29 (.tmp 9) (.tmp 24) rfl w4.heap.size (bkV b (.slice Av b.j.sg.length cv) (.slice Au b.q.length cu)) zBv _ 6 rfl rfl (bw5.keep kw6 (by have := bw4.lt; simp; omega)) zBk_size rfl rfl rfl ?_; intro w7 bw7 kw7 zw7; clear zw7; (try simp only [Act.put, List.setIfInBounds_toArray, List.set_cons_zero, List.set_cons_succ])))
          have l4 := bw4.lt
          have k37 : Keep [] w3 w7 := ((kw4.trans kw5).new kw6 (fun i hi => .inr (by simp at hi; omega))).new kw7 (fun i hi => .inr (by have := kw4.size; simp at hi; omega))
          have k27 := k3.trans k37
          have s3 := k3.size
          have s7 := k27.size
          have e8 := bw6.keep kw7 (by simp; omega)
          have hb0 := hb0.keep k27 (by simp)
          have hb1 := hb1.keep k27 (by simp)
          have hsl := Lib.hid (hsl.out.keep (k27.at G (by simp)))
          have kk := kk.trans k27
          have s37 := k37.size
          have hGb : Hid (∀ i, G i → w2.heap.size ≤ i ∧ i < w7.heap.size) := Lib.hid (fun i hi => by have := hGb.out i hi; omega)
          clear bw4 bw5 kw4 kw5 kw6 kw7 bw6 k27
          have hN2 : Hid (recallF l ⟨0, 0⟩ [] = recallF (l.drop (k + 1)) s (xs ++ [b])) := Lib.hid (by rw [hrec.out, hN.out, hrc.out])
          have hv7 := (hv.mono (G := (fun i => w2.heap.size ≤ i ∧ i < w7.heap.size)) (fun i hi hl => by have h : wr.heap.size ≤ i := hi; omega)).keep (k37.at _ (by simp))
          have hu7 := (hu.mono (G := (fun i => w2.heap.size ≤ i ∧ i < w7.heap.size)) (fun i hi hl => by have h : wr.heap.size ≤ i := hi; omega)).keep (k37.at _ (by simp))
          have hsl7 := hsl.out.mono (G := (fun i => w2.heap.size ≤ i ∧ i < w7.heap.size)) (fun i hi _ => hGb.out i hi)
          have hbd := rc_bounds hrc.out
          have hR : Hid (Rep.bk.R w7 (fun i => w2.heap.size ≤ i ∧ i < w7.heap.size) b (bkV b (.slice Av b.j.sg.length cv) (.slice Au b.q.length cu)).toList) := Lib.hid ⟨_, _, rfl, hbd.1, hbd.2.1, hbd.2.2.1, hbd.2.2.2, hv7, hu7⟩
          replace hsl7 := Lib.hid hsl7
          have hG7 : Hid (∀ i, (fun i => w2.heap.size ≤ i ∧ i < w7.heap.size) i → i < w7.heap.size) := Lib.hid (fun i hi => hi.2)
          clear hv hu hv7 hu7 hbd k37
          go_upto_region 12 with fail
          refine wp_region_any (by kernel_rfl) ?_
          (try (change wpAny _ _ _ _ _ _ _ (World.drew _)))
          have K0 : Keep [] w7 w7.drew := (Keep.refl [] w7).drew
          generalize World.drew w7 = u0 at *
          refine wpAny_take (i := 1) (v := ?_) rfl (by kernel_rfl) (by kernel_rfl) (by kernel_rfl) (fun _ _ _ h => h) (Or.inl ⟨by rfl, ?_⟩) ?_
          rotate_left
          · intro w9
            go_simp
            with_reducible rfl
          refine wpAny_ready (rs := [0, 3]) (by kernel_rfl) (by simp) ?_
          refine AllReady.consS rfl (fun K hK => ?_) ?_
          · refine stp_noneB rfl rfl ?_
            intro u1 bN kN zN
            clear zN
            have K1 := K0.trans kN
            have R1 : RowG Rep.bk 29 u1 w7.heap.size (fun i => w2.heap.size ≤ i ∧ i < w7.heap.size) (.slice (some ⟨u0.heap.size, 0, none⟩) 0 0) [] := RowG.empty _ _ _ _ _ _ bN K0.size
            replace R1 := Lib.hid R1
            clear bN kN
            refine hK _ _ ?_
            clear hK K
            refine wpAny_ready (rs := [2, 3]) (by kernel_rfl) (by simp) ?_
            refine AllReady.consS rfl (fun K hK => ?_) ?_
            · refine stp_appB rfl (.tmp 44) (.tmp 45) rfl w7.heap.size (fun i => w2.heap.size ≤ i ∧ i < w7.heap.size) (.slice (some ⟨u0.heap.size, 0, none⟩) 0 0) [] xs A5 c5 rfl rfl R1.out (SliceOf.reads (hsl7.out.keep (K1.at _ (by simp)))) hG7.out (by simp; omega) K1.size ?_
              simp only [List.length_nil, Nat.zero_add, List.nil_append]
              intro B1 p1 u2 rN kN
              have K2 : Keep [] w7 u2 := K1.new kN (fun i hi => .inr (R1.out.lt i (by simpa using hi)).1)
              have R2 := Lib.hid rN
              clear rN kN
              refine hK _ _ ?_
              clear hK K
              refine wpAny_ready (rs := [3]) (by kernel_rfl) (by simp) ?_
              refine AllReady.consS rfl (fun K hK => ?_) ?_
              · refine stp_load rfl 29 (.tmp 9) rfl w4.heap.size 0 (bkV b (.slice Av b.j.sg.length cv) (.slice Au b.q.length cu)) (bkV b (.slice Av b.j.sg.length cv) (.slice Au b.q.length cu)) _ _ 6 rfl (bw7.keep K2 (by simp)) rfl Try.underlying29 rfl zBk_size rfl ?_
                refine hK _ _ ?_
                clear hK K
                refine wpAny_ready (rs := [4]) (by kernel_rfl) (by simp) ?_
                refine AllReady.consS rfl (fun K hK => ?_) ?_
                · refine stp_oneB rfl (.tmp 47) rfl (bkV b (.slice Av b.j.sg.length cv) (.slice Au b.q.length cu)) rfl rfl ?_
                  intro u3 bN kN zN
                  clear zN
                  have K3 := K2.trans kN
                  have O3 := bN
                  have R3 := Lib.hid (R2.out.keep (fun k _ hl => kN.block k hl (by simp)))
                  clear bN kN
                  refine hK _ _ ?_
                  clear hK K
                  refine wpAny_ready (rs := [5]) (by kernel_rfl) (by simp) ?_
                  refine AllReady.consS rfl (fun K hK => ?_) ?_
                  · refine stp_appB rfl (.tmp 46) (.tmp 48) rfl w7.heap.size (fun i => w2.heap.size ≤ i ∧ i < w7.heap.size) (.slice B1 xs.length p1) xs [b] (some ⟨u2.heap.size, 0, none⟩) 1 rfl rfl R3.out (reads_one O3 (Rep.bk.keep hR.out (K3.at _ (by simp)))) hG7.out (by simp; omega) K3.size ?_
                    simp only [List.length_singleton]
                    intro B2 p2 u4 rN kN
                    have K4 : Keep [] w7 u4 := K3.new kN (fun i hi => .inr (R3.out.lt i (by simpa using hi)).1)
                    have R4 := Lib.hid rN
                    clear rN kN
                    refine hK _ _ ?_
                    clear hK K
                    refine wpAny_take (i := 6) (v := ?_) rfl (by kernel_rfl) (by kernel_rfl) (by kernel_rfl) (fun _ _ _ h => h) (Or.inl ⟨by rfl, ?_⟩) ?_
                    rotate_left
                    · intro w9
                      go_simp
                      with_reducible rfl
                    refine wpAny_done (by kernel_rfl) ?_ _
                    have sf := K4.size
                    have ow := R4.out.lt
                    have Sf := Lib.hid (R4.out.slice (by simp; unfold M47; omega))
                    have hb0f := hb0.keep K4 (by simp)
                    have hb1f := hb1.keep K4 (by simp)
                    have kkf := kk.trans K4
                    replace ow := Lib.hid ow
                    go_wp2
                    go_meet
                    exact ⟨s, xs ++ [b], hN2, by simp; omega, Lib.hid ⟨_, Sf.out, fun i hi => hi.elim (fun h => ⟨h.1, by have := h.2; omega⟩) (fun h => by have := ow.out i h; omega), hb0f, hb1f, kkf, by omega⟩⟩
                  exact AllReady.nil
                exact AllReady.nil
              exact AllReady.nil
            refine AllReady.consS rfl (fun K hK => ?_) ?_
            · refine stp_load rfl 29 (.tmp 9) rfl w4.heap.size 0 (bkV b (.slice Av b.j.sg.length cv) (.slice Au b.q.length cu)) (bkV b (.slice Av b.j.sg.length cv) (.slice Au b.q.length cu)) _ _ 6 rfl (bw7.keep K1 (by simp)) rfl Try.underlying29 rfl zBk_size rfl ?_
              refine hK _ _ ?_
              clear hK K
              refine wpAny_ready (rs := [2, 4]) (by kernel_rfl) (by simp) ?_
              refine AllReady.consS rfl (fun K hK => ?_) ?_
              · refine stp_appB rfl (.tmp 44) (.tmp 45) rfl w7.heap.size (fun i => w2.heap.size ≤ i ∧ i < w7.heap.size) (.slice (some ⟨u0.heap.size, 0, none⟩) 0 0) [] xs A5 c5 rfl rfl R1.out (SliceOf.reads (hsl7.out.keep (K1.at _ (by simp)))) hG7.out (by simp; omega) K1.size ?_
                simp only [List.length_nil, Nat.zero_add, List.nil_append]
                intro B1 p1 u2 rN kN
                have K2 : Keep [] w7 u2 := K1.new kN (fun i hi => .inr (R1.out.lt i (by simpa using hi)).1)
                have R2 := Lib.hid rN
                clear rN kN
                refine hK _ _ ?_
                clear hK K
                refine wpAny_ready (rs := [4]) (by kernel_rfl) (by simp) ?_
                refine AllReady.consS rfl (fun K hK => ?_) ?_
                · refine stp_oneB rfl (.tmp 47) rfl (bkV b (.slice Av b.j.sg.length cv) (.slice Au b.q.length cu)) rfl rfl ?_
                  intro u3 bN kN zN
                  clear zN
                  have K3 := K2.trans kN
                  have O3 := bN
                  have R3 := Lib.hid (R2.out.keep (fun k _ hl => kN.block k hl (by simp)))
                  clear bN kN
                  refine hK _ _ ?_
                  clear hK K
                  refine wpAny_ready (rs := [5]) (by kernel_rfl) (by simp) ?_
                  refine AllReady.consS rfl (fun K hK => ?_) ?_
                  · refine stp_appB rfl (.tmp 46) (.tmp 48) rfl w7.heap.size (fun i => w2.heap.size ≤ i ∧ i < w7.heap.size) (.slice B1 xs.length p1) xs [b] (some ⟨u2.heap.size, 0, none⟩) 1 rfl rfl R3.out (reads_one O3 (Rep.bk.keep hR.out (K3.at _ (by simp)))) hG7.out (by simp; omega) K3.size ?_
                    simp only [List.length_singleton]
                    intro B2 p2 u4 rN kN
                    have K4 : Keep [] w7 u4 := K3.new kN (fun i hi => .inr (R3.out.lt i (by simpa using hi)).1)
                    have R4 := Lib.hid rN
                    clear rN kN
                    refine hK _ _ ?_
                    clear hK K
                    refine wpAny_take (i := 6) (v := ?_) rfl (by kernel_rfl) (by kernel_rfl) (by kernel_rfl) (fun _ _ _ h => h) (Or.inl ⟨by rfl, ?_⟩) ?_
                    rotate_left
                    · intro w9
                      go_simp
                      with_reducible rfl
                    refine wpAny_done (by kernel_rfl) ?_ _
                    have sf := K4.size
                    have ow := R4.out.lt
                    have Sf := Lib.hid (R4.out.slice (by simp; unfold M47; omega))
                    have hb0f := hb0.keep K4 (by simp)
                    have hb1f := hb1.keep K4 (by simp)
                    have kkf := kk.trans K4
                    replace ow := Lib.hid ow
                    go_wp2
                    go_meet
                    exact ⟨s, xs ++ [b], hN2, by simp; omega, Lib.hid ⟨_, Sf.out, fun i hi => hi.elim (fun h => ⟨h.1, by have := h.2; omega⟩) (fun h => by have := ow.out i h; omega), hb0f, hb1f, kkf, by omega⟩⟩
                  exact AllReady.nil
                exact AllReady.nil
              refine AllReady.consS rfl (fun K hK => ?_) ?_
              · refine stp_oneB rfl (.tmp 47) rfl (bkV b (.slice Av b.j.sg.length cv) (.slice Au b.q.length cu)) rfl rfl ?_
                intro u2 bN kN zN
                clear zN
                have K2 := K1.trans kN
                have O2 := bN
                have hne : u0.heap.size < u1.heap.size := (R1.out.lt _ rfl).2
                have R2 := Lib.hid (R1.out.keep (fun k _ hl => kN.block k hl (by simp)))
                clear bN kN
                refine hK _ _ ?_
                clear hK K
                refine wpAny_ready (rs := [2]) (by kernel_rfl) (by simp) ?_
                refine AllReady.consS rfl (fun K hK => ?_) ?_
                · refine stp_appB rfl (.tmp 44) (.tmp 45) rfl w7.heap.size (fun i => w2.heap.size ≤ i ∧ i < w7.heap.size) (.slice (some ⟨u0.heap.size, 0, none⟩) 0 0) [] xs A5 c5 rfl rfl R2.out (SliceOf.reads (hsl7.out.keep (K2.at _ (by simp)))) hG7.out (by simp; omega) K2.size ?_
                  simp only [List.length_nil, Nat.zero_add, List.nil_append]
                  intro B1 p1 u3 rN kN
                  have K3 : Keep [] w7 u3 := K2.new kN (fun i hi => .inr (R2.out.lt i (by simpa using hi)).1)
                  have O3 := O2.keep kN (by simp [Value.ownBlock]; omega)
                  have R3 := Lib.hid rN
                  clear rN kN
                  refine hK _ _ ?_
                  clear hK K
                  refine wpAny_ready (rs := [5]) (by kernel_rfl) (by simp) ?_
                  refine AllReady.consS rfl (fun K hK => ?_) ?_
                  · refine stp_appB rfl (.tmp 46) (.tmp 48) rfl w7.heap.size (fun i => w2.heap.size ≤ i ∧ i < w7.heap.size) (.slice B1 xs.length p1) xs [b] (some ⟨u1.heap.size, 0, none⟩) 1 rfl rfl R3.out (reads_one O3 (Rep.bk.keep hR.out (K3.at _ (by simp)))) hG7.out (by simp; omega) K3.size ?_
                    simp only [List.length_singleton]
                    intro B2 p2 u4 rN kN
                    have K4 : Keep [] w7 u4 := K3.new kN (fun i hi => .inr (R3.out.lt i (by simpa using hi)).1)
                    have R4 := Lib.hid rN
                    clear rN kN
                    refine hK _ _ ?_
                    clear hK K
                    refine wpAny_take (i := 6) (v := ?_) rfl (by kernel_rfl) (by kernel_rfl) (by kernel_rfl) (fun _ _ _ h => h) (Or.inl ⟨by rfl, ?_⟩) ?_
                    rotate_left
                    · intro w9
                      go_simp
                      with_reducible rfl
                    refine wpAny_done (by kernel_rfl) ?_ _
                    have sf := K4.size
                    have ow := R4.out.lt
                    have Sf := Lib.hid (R4.out.slice (by simp; unfold M47; omega))
                    have hb0f := hb0.keep K4 (by simp)
                    have hb1f := hb1.keep K4 (by simp)
                    have kkf := kk.trans K4
                    replace ow := Lib.hid ow
                    go_wp2
                    go_meet
                    exact ⟨s, xs ++ [b], hN2, by simp; omega, Lib.hid ⟨_, Sf.out, fun i hi => hi.elim (fun h => ⟨h.1, by have := h.2; omega⟩) (fun h => by have := ow.out i h; omega), hb0f, hb1f, kkf, by omega⟩⟩
                  exact AllReady.nil
                exact AllReady.nil
              exact AllReady.nil
            exact AllReady.nil
          refine AllReady.consS rfl (fun K hK => ?_) ?_
          · refine stp_load rfl 29 (.tmp 9) rfl w4.heap.size 0 (bkV b (.slice Av b.j.sg.length cv) (.slice Au b.q.length cu)) (bkV b (.slice Av b.j.sg.length cv) (.slice Au b.q.length cu)) _ _ 6 rfl (bw7.keep K0 (by simp)) rfl Try.underlying29 rfl zBk_size rfl ?_
            refine hK _ _ ?_
            clear hK K
            refine wpAny_ready (rs := [0, 4]) (by kernel_rfl) (by simp) ?_
            refine AllReady.consS rfl (fun K hK => ?_) ?_
            · refine stp_noneB rfl rfl ?_
              intro u1 bN kN zN
              clear zN
              have K1 := K0.trans kN
              have R1 : RowG Rep.bk 29 u1 w7.heap.size (fun i => w2.heap.size ≤ i ∧ i < w7.heap.size) (.slice (some ⟨u0.heap.size, 0, none⟩) 0 0) [] := RowG.empty _ _ _ _ _ _ bN K0.size
              replace R1 := Lib.hid R1
              clear bN kN
              refine hK _ _ ?_
              clear hK K
              refine wpAny_ready (rs := [2, 4]) (by kernel_rfl) (by simp) ?_
              refine AllReady.consS rfl (fun K hK => ?_) ?_
              · refine stp_appB rfl (.tmp 44) (.tmp 45) rfl w7.heap.size (fun i => w2.heap.size ≤ i ∧ i < w7.heap.size) (.slice (some ⟨u0.heap.size, 0, none⟩) 0 0) [] xs A5 c5 rfl rfl R1.out (SliceOf.reads (hsl7.out.keep (K1.at _ (by simp)))) hG7.out (by simp; omega) K1.size ?_
                simp only [List.length_nil, Nat.zero_add, List.nil_append]
                intro B1 p1 u2 rN kN
                have K2 : Keep [] w7 u2 := K1.new kN (fun i hi => .inr (R1.out.lt i (by simpa using hi)).1)
                have R2 := Lib.hid rN
                clear rN kN
                refine hK _ _ ?_
                clear hK K
                refine wpAny_ready (rs := [4]) (by kernel_rfl) (by simp) ?_
                refine AllReady.consS rfl (fun K hK => ?_) ?_
                · refine stp_oneB rfl (.tmp 47) rfl (bkV b (.slice Av b.j.sg.length cv) (.slice Au b.q.length cu)) rfl rfl ?_
                  intro u3 bN kN zN
                  clear zN
                  have K3 := K2.trans kN
                  have O3 := bN
                  have R3 := Lib.hid (R2.out.keep (fun k _ hl => kN.block k hl (by simp)))
                  clear bN kN
                  refine hK _ _ ?_
                  clear hK K
                  refine wpAny_ready (rs := [5]) (by kernel_rfl) (by simp) ?_
                  refine AllReady.consS rfl (fun K hK => ?_) ?_
                  · refine stp_appB rfl (.tmp 46) (.tmp 48) rfl w7.heap.size (fun i => w2.heap.size ≤ i ∧ i < w7.heap.size) (.slice B1 xs.length p1) xs [b] (some ⟨u2.heap.size, 0, none⟩) 1 rfl rfl R3.out (reads_one O3 (Rep.bk.keep hR.out (K3.at _ (by simp)))) hG7.out (by simp; omega) K3.size ?_
                    simp only [List.length_singleton]
                    intro B2 p2 u4 rN kN
                    have K4 : Keep [] w7 u4 := K3.new kN (fun i hi => .inr (R3.out.lt i (by simpa using hi)).1)
                    have R4 := Lib.hid rN
                    clear rN kN
                    refine hK _ _ ?_
                    clear hK K
                    refine wpAny_take (i := 6) (v := ?_) rfl (by kernel_rfl) (by kernel_rfl) (by kernel_rfl) (fun _ _ _ h => h) (Or.inl ⟨by rfl, ?_⟩) ?_
                    rotate_left
                    · intro w9
                      go_simp
                      with_reducible rfl
                    refine wpAny_done (by kernel_rfl) ?_ _
                    have sf := K4.size
                    have ow := R4.out.lt
                    have Sf := Lib.hid (R4.out.slice (by simp; unfold M47; omega))
                    have hb0f := hb0.keep K4 (by simp)
                    have hb1f := hb1.keep K4 (by simp)
                    have kkf := kk.trans K4
                    replace ow := Lib.hid ow
                    go_wp2
                    go_meet
                    exact ⟨s, xs ++ [b], hN2, by simp; omega, Lib.hid ⟨_, Sf.out, fun i hi => hi.elim (fun h => ⟨h.1, by have := h.2; omega⟩) (fun h => by have := ow.out i h; omega), hb0f, hb1f, kkf, by omega⟩⟩
                  exact AllReady.nil
                exact AllReady.nil
              refine AllReady.consS rfl (fun K hK => ?_) ?_
              · refine stp_oneB rfl (.tmp 47) rfl (bkV b (.slice Av b.j.sg.length cv) (.slice Au b.q.length cu)) rfl rfl ?_
                intro u2 bN kN zN
                clear zN
                have K2 := K1.trans kN
                have O2 := bN
                have hne : u0.heap.size < u1.heap.size := (R1.out.lt _ rfl).2
                have R2 := Lib.hid (R1.out.keep (fun k _ hl => kN.block k hl (by simp)))
                clear bN kN
                refine hK _ _ ?_
                clear hK K
                refine wpAny_ready (rs := [2]) (by kernel_rfl) (by simp) ?_
                refine AllReady.consS rfl (fun K hK => ?_) ?_
                · refine stp_appB rfl (.tmp 44) (.tmp 45) rfl w7.heap.size (fun i => w2.heap.size ≤ i ∧ i < w7.heap.size) (.slice (some ⟨u0.heap.size, 0, none⟩) 0 0) [] xs A5 c5 rfl rfl R2.out (SliceOf.reads (hsl7.out.keep (K2.at _ (by simp)))) hG7.out (by simp; omega) K2.size ?_
                  simp only [List.length_nil, Nat.zero_add, List.nil_append]
                  intro B1 p1 u3 rN kN
                  have K3 : Keep [] w7 u3 := K2.new kN (fun i hi => .inr (R2.out.lt i (by simpa using hi)).1)
                  have O3 := O2.keep kN (by simp [Value.ownBlock]; omega)
                  have R3 := Lib.hid rN
                  clear rN kN
                  refine hK _ _ ?_
                  clear hK K
                  refine wpAny_ready (rs := [5]) (by kernel_rfl) (by simp) ?_
                  refine AllReady.consS rfl (fun K hK => ?_) ?_
                  · refine stp_appB rfl (.tmp 46) (.tmp 48) rfl w7.heap.size (fun i => w2.heap.size ≤ i ∧ i < w7.heap.size) (.slice B1 xs.length p1) xs [b] (some ⟨u1.heap.size, 0, none⟩) 1 rfl rfl R3.out (reads_one O3 (Rep.bk.keep hR.out (K3.at _ (by simp)))) hG7.out (by simp; omega) K3.size ?_
                    simp only [List.length_singleton]
                    intro B2 p2 u4 rN kN
                    have K4 : Keep [] w7 u4 := K3.new kN (fun i hi => .inr (R3.out.lt i (by simpa using hi)).1)
                    have R4 := Lib.hid rN
                    clear rN kN
                    refine hK _ _ ?_
                    clear hK K
                    refine wpAny_take (i := 6) (v := ?_) rfl (by kernel_rfl) (by kernel_rfl) (by kernel_rfl) (fun _ _ _ h => h) (Or.inl ⟨by rfl, ?_⟩) ?_
                    rotate_left
                    · intro w9
                      go_simp
                      with_reducible rfl
                    refine wpAny_done (by kernel_rfl) ?_ _
                    have sf := K4.size
                    have ow := R4.out.lt
                    have Sf := Lib.hid (R4.out.slice (by simp; unfold M47; omega))
                    have hb0f := hb0.keep K4 (by simp)
                    have hb1f := hb1.keep K4 (by simp)
                    have kkf := kk.trans K4
                    replace ow := Lib.hid ow
                    go_wp2
                    go_meet
                    exact ⟨s, xs ++ [b], hN2, by simp; omega, Lib.hid ⟨_, Sf.out, fun i hi => hi.elim (fun h => ⟨h.1, by have := h.2; omega⟩) (fun h => by have := ow.out i h; omega), hb0f, hb1f, kkf, by omega⟩⟩
                  exact AllReady.nil
                exact AllReady.nil
              exact AllReady.nil
            refine AllReady.consS rfl (fun K hK => ?_) ?_
            · refine stp_oneB rfl (.tmp 47) rfl (bkV b (.slice Av b.j.sg.length cv) (.slice Au b.q.length cu)) rfl rfl ?_
              intro u1 bN kN zN
              clear zN
              have K1 := K0.trans kN
              have O1 := bN
              clear bN kN
              refine hK _ _ ?_
              clear hK K
              refine wpAny_ready (rs := [0]) (by kernel_rfl) (by simp) ?_
              refine AllReady.consS rfl (fun K hK => ?_) ?_
              · refine stp_noneB rfl rfl ?_
                intro u2 bN kN zN
                clear zN
                have K2 := K1.trans kN
                have R2 : RowG Rep.bk 29 u2 w7.heap.size (fun i => w2.heap.size ≤ i ∧ i < w7.heap.size) (.slice (some ⟨u1.heap.size, 0, none⟩) 0 0) [] := RowG.empty _ _ _ _ _ _ bN K1.size
                have hne : u0.heap.size < u1.heap.size := O1.lt
                have O2 := O1.keep kN (by simp)
                replace R2 := Lib.hid R2
                clear bN kN
                refine hK _ _ ?_
                clear hK K
                refine wpAny_ready (rs := [2]) (by kernel_rfl) (by simp) ?_
                refine AllReady.consS rfl (fun K hK => ?_) ?_
                · refine stp_appB rfl (.tmp 44) (.tmp 45) rfl w7.heap.size (fun i => w2.heap.size ≤ i ∧ i < w7.heap.size) (.slice (some ⟨u1.heap.size, 0, none⟩) 0 0) [] xs A5 c5 rfl rfl R2.out (SliceOf.reads (hsl7.out.keep (K2.at _ (by simp)))) hG7.out (by simp; omega) K2.size ?_
                  simp only [List.length_nil, Nat.zero_add, List.nil_append]
                  intro B1 p1 u3 rN kN
                  have K3 : Keep [] w7 u3 := K2.new kN (fun i hi => .inr (R2.out.lt i (by simpa using hi)).1)
                  have O3 := O2.keep kN (by simp [Value.ownBlock]; omega)
                  have R3 := Lib.hid rN
                  clear rN kN
                  refine hK _ _ ?_
                  clear hK K
                  refine wpAny_ready (rs := [5]) (by kernel_rfl) (by simp) ?_
                  refine AllReady.consS rfl (fun K hK => ?_) ?_
                  · refine stp_appB rfl (.tmp 46) (.tmp 48) rfl w7.heap.size (fun i => w2.heap.size ≤ i ∧ i < w7.heap.size) (.slice B1 xs.length p1) xs [b] (some ⟨u0.heap.size, 0, none⟩) 1 rfl rfl R3.out (reads_one O3 (Rep.bk.keep hR.out (K3.at _ (by simp)))) hG7.out (by simp; omega) K3.size ?_
                    simp only [List.length_singleton]
                    intro B2 p2 u4 rN kN
                    have K4 : Keep [] w7 u4 := K3.new kN (fun i hi => .inr (R3.out.lt i (by simpa using hi)).1)
                    have R4 := Lib.hid rN
                    clear rN kN
                    refine hK _ _ ?_
                    clear hK K
                    refine wpAny_take (i := 6) (v := ?_) rfl (by kernel_rfl) (by kernel_rfl) (by kernel_rfl) (fun _ _ _ h => h) (Or.inl ⟨by rfl, ?_⟩) ?_
                    rotate_left
                    · intro w9
                      go_simp
                      with_reducible rfl
                    refine wpAny_done (by kernel_rfl) ?_ _
                    have sf := K4.size
                    have ow := R4.out.lt
                    have Sf := Lib.hid (R4.out.slice (by simp; unfold M47; omega))
                    have hb0f := hb0.keep K4 (by simp)
                    have hb1f := hb1.keep K4 (by simp)
                    have kkf := kk.trans K4
                    replace ow := Lib.hid ow
                    go_wp2
                    go_meet
                    exact ⟨s, xs ++ [b], hN2, by simp; omega, Lib.hid ⟨_, Sf.out, fun i hi => hi.elim (fun h => ⟨h.1, by have := h.2; omega⟩) (fun h => by have := ow.out i h; omega), hb0f, hb1f, kkf, by omega⟩⟩
                  exact AllReady.nil
                exact AllReady.nil
              exact AllReady.nil
            exact AllReady.nil
          exact AllReady.nil
    · have hltz : ¬ (k : Int) < (l.length : Int) := by omega
      have hst : Hid (recallF l ⟨0, 0⟩ [] = (s, xs)) := Lib.hid (by rw [hrec.out, List.drop_eq_nil_of_le (by omega)]; rfl)
      go_wp2_with (first | ((with_reducible refine wl_load 23 (.tmp 4) ?_ ?_); (with_reducible rfl); refine sx_loadW rfl 23 (.tmp 4) rfl w1.heap.size (stV s) _ _ 2 rfl hb1 Try.underlying23 rfl zSt_size rfl ?_; (try simp only [Act.put, List.setIfInBounds_toArray, List.set_cons_zero, List.set_cons_succ])) | ((with_reducible refine wl_store 23 (.tmp 2) (.tmp 50) ?_ ?_); (with_reducible rfl); refine sx_storeW rfl 23 (.tmp 2) (.tmp 50) rfl w.heap.size (stV s) zSt _ 2 rfl rfl hb0 zSt_size rfl rfl rfl ?_; intro wz bwz kwz zwz; clear zwz; (try simp only [Act.put, List.setIfInBounds_toArray, List.set_cons_zero, List.set_cons_succ])))
      refine ret_cell2 rfl rfl rfl bwz Try.underlying23 rfl zSt_size _ rfl ?_
      rw [hst.out]
      have sz := kwz.size
      exact ⟨_, rfl, G, hsl.out.keep (kwz.at G (fun i hi hg => by have := (hGb.out i hg).1; simp at hi; omega)), fun i hi => by have := hGb.out i hi; omega, kk.new kwz (fun i hi => .inr (by simp at hi; omega))⟩
end Go.Proofs.Ytdhhibppcckbkaa
namespace Go.Proofs.Ytdhhibppcckbkaa
open Go.RowKit
set_option linter.unusedVariables false
set_option linter.unusedSimpArgs false
/-! slices.Equal over strings and over requests -/
set_option maxHeartbeats 2000000 in
theorem eqStrs_call (A B : Option Addr) (xs ys : List ByteArray) (c d : Nat) (F G : Nat → Prop) (w : World) (ha : SliceOf Rep.str w F (.slice A xs.length c) xs) (hb : SliceOf Rep.str w G (.slice B ys.length d) ys) :
    Calls Try.prog 63 #[.slice A xs.length c, .slice B ys.length d] w fun e w' => ∃ r, e = .returned (.bool r) ∧ (r = true ↔ xs = ys) ∧ Keep [] w w' := by
  obtain ⟨_, _, e0, hl⟩ := ha.form
  obtain ⟨_, _, e1, hl1⟩ := hb.form
  clear e0 e1
  have HA := Lib.hid ha
  have HB := Lib.hid hb
  clear ha hb
  go_enter Try.func63, Try.ntmps63
  by_cases hlen : xs.length = ys.length
  · have e1 : ((xs.length : Int) == (ys.length : Int)) = true := by simp [hlen]
    have hlenz : (xs.length : Int) = (ys.length : Int) := by omega
    go_wp2_with fail
    go_loopw [13] (fun i wr => ∃ m : Nat, m ≤ xs.length ∧ i = .int .i64 m ∧ Keep [] w wr ∧ Hid (∀ j (hj : j < xs.length) (hj' : j < ys.length), j < m → xs[j] = ys[j])) (fun i _ => xs.length - (intOf i).toNat)
    case atStart => exact ⟨0, Nat.zero_le _, rfl, Keep.refl _ _, Lib.hid (fun j _ _ h => absurd h (Nat.not_lt_zero _))⟩
    case round =>
      obtain ⟨m, hm, rfl, kk, hi⟩ := hrel
      by_cases hlt : m < xs.length
      · have hltz : (m : Int) < (xs.length : Int) := by omega
        have hlt' : m < ys.length := by omega
        have hltz' : (m : Int) < (ys.length : Int) := by omega
        obtain ⟨g, o, rfl, c0, -⟩ := (HA.out.keep (fun i hF hi => kk.block i hi (by simp))).str_at hlt
        obtain ⟨g', o', rfl, d0, -⟩ := (HB.out.keep (fun i hF hi => kk.block i hi (by simp))).str_at hlt'
        by_cases he : xs[m] = ys[m]
        · have he' : Hid (∀ j (h1 : j < xs.length) (h2 : j < ys.length), j = m → xs[j] = ys[j]) := Lib.hid (fun j h1 h2 e => by subst e; exact he)
          rw [← he] at d0
          clear he
          generalize xs[m] = x at *
          skip
          go_wp2_with fail
          refine wp_region_class (C := fun w' => Keep [] wr w' ∧ w'.cell? ⟨g, o + m, none⟩ = some (.string x) ∧ w'.cell? ⟨g', o' + m, none⟩ = some (.string x)) (by kernel_rfl) (by kernel_rfl) ⟨(Keep.refl _ _).drew, c0, d0⟩ ?_
          iterate 9 (first
            | go_big_quiet_skip
            | (go_big_quiet_want; first
              | (go_big_quiet_op; go_big_quiet_on)
              | (refine quiet_run (v := ?_) ?_ ?_; (rotate_left; (intro w' hC; (try dsimp only at hC); go_split_ands; go_simp; with_reducible rfl); simp only [Act.put, List.setIfInBounds_toArray, List.set_cons_zero, List.set_cons_succ]; go_big_quiet_on))
              | (refine quiet_call (v := ?_) (f := ?_) (args := ?_) ?_ ?_ ?_; (rotate_left; rotate_left; rotate_left; (intro w' hC; (try dsimp only at hC); go_split_ands; go_simp; (refine ⟨?_, ?_⟩ <;> with_reducible rfl)); (intro w' hC; fail); simp only [Act.put, List.setIfInBounds_toArray, List.set_cons_zero, List.set_cons_succ]; go_big_quiet_on))))
          refine wpQuiet_nil ?_
          intro w2 hC2
          have kk2 := hC2.1
          clear hC2
          go_wp2
          go_roundw
          case rel => exact ⟨m + 1, by omega, by go_num, kk.trans kk2, Lib.hid (fun j hj hj' h => by
            by_cases e : j = m
            · exact he'.out j hj hj' e
            · exact hi.out j hj hj' (by omega))⟩
          case measure => simp [intOf]; omega
        · have hout : ¬ xs = ys := by
            intro h
            apply he
            simp only [h]
          have hout := Lib.hid hout
          generalize xs[m] = x at *
          generalize ys[m] = y at *
          have hne : (x.toList == y.toList) = false := by
            rw [beq_eq_false_iff_ne]
            intro h
            rw [ByteArray.toList_eq, ByteArray.toList_eq] at h
            exact he (ByteArray.ext (Array.toList_inj.1 h))
          have hne2 : ¬ x.toList = y.toList := by simpa using hne
          clear he
          go_wp2_with fail
          refine wp_region_class (C := fun w' => Keep [] wr w' ∧ w'.cell? ⟨g, o + m, none⟩ = some (.string x) ∧ w'.cell? ⟨g', o' + m, none⟩ = some (.string y)) (by kernel_rfl) (by kernel_rfl) ⟨(Keep.refl _ _).drew, c0, d0⟩ ?_
          iterate 9 (first
            | go_big_quiet_skip
            | (go_big_quiet_want; first
              | (go_big_quiet_op; go_big_quiet_on)
              | (refine quiet_run (v := ?_) ?_ ?_; (rotate_left; (intro w' hC; (try dsimp only at hC); go_split_ands; go_simp; with_reducible rfl); simp only [Act.put, List.setIfInBounds_toArray, List.set_cons_zero, List.set_cons_succ]; go_big_quiet_on))
              | (refine quiet_call (v := ?_) (f := ?_) (args := ?_) ?_ ?_ ?_; (rotate_left; rotate_left; rotate_left; (intro w' hC; (try dsimp only at hC); go_split_ands; go_simp; (refine ⟨?_, ?_⟩ <;> with_reducible rfl)); (intro w' hC; fail); simp only [Act.put, List.setIfInBounds_toArray, List.set_cons_zero, List.set_cons_succ]; go_big_quiet_on))))
          refine wpQuiet_nil ?_
          intro w2 hC2
          have kk2 := hC2.1
          clear hC2
          go_wp2
          go_ret
          exact ⟨false, rfl, by simp [hout.out], kk.trans kk2⟩
      · have hltz : ¬ (m : Int) < (xs.length : Int) := by omega
        obtain rfl : m = xs.length := by omega
        have hout : xs = ys := List.ext_getElem hlen (fun j h1 h2 => hi.out j h1 h2 h1)
        have hout := Lib.hid hout
        go_wp2
        go_ret
        exact ⟨rfl, kk⟩
  · have e1 : ((xs.length : Int) == (ys.length : Int)) = false := by rw [beq_eq_false_iff_ne]; omega
    have hlenz : ¬ (xs.length : Int) = (ys.length : Int) := by omega
    have hout : ¬ xs = ys := by
      intro h
      exact hlen (by rw [h])
    have hout := Lib.hid hout
    go_wp2
    go_ret
    exact ⟨false, rfl, by simp [hout.out], Keep.refl _ _⟩
theorem neqReq_t (x y : Req) (h : x ≠ y) (w : World) : (binOp .neq 61 (.agg #[.int .i64 x.c, .int .i64 x.s, .string x.b]) (.agg #[.int .i64 y.c, .int .i64 y.s, .string y.b])).run Try.prog w = .ok (.bool true) w := by
  have h0 : eqReq x y = false := by
    cases hq : eqReq x y
    · rfl
    · exact absurd ((eqReq_iff x y).1 hq) h
  unfold eqReq at h0
  go_simp
  by_cases h1 : x.c = y.c <;> by_cases h2 : x.s = y.s <;> by_cases h3 : x.b.toList = y.b.toList <;> simp_all
theorem neqReq_f (x : Req) (w : World) : (binOp .neq 61 (.agg #[.int .i64 x.c, .int .i64 x.s, .string x.b]) (.agg #[.int .i64 x.c, .int .i64 x.s, .string x.b])).run Try.prog w = .ok (.bool false) w := by
  go_simp
set_option maxHeartbeats 2000000 in
theorem eqReqs_call (A B : Option Addr) (xs ys : List Req) (c d : Nat) (F G : Nat → Prop) (w : World) (ha : SliceOf Rep.req w F (.slice A xs.length c) xs) (hb : SliceOf Rep.req w G (.slice B ys.length d) ys) :
    Calls Try.prog 60 #[.slice A xs.length c, .slice B ys.length d] w fun e w' => ∃ r, e = .returned (.bool r) ∧ (r = true ↔ xs = ys) ∧ Keep [] w w' := by
  obtain ⟨_, _, e0, hl⟩ := ha.form
  obtain ⟨_, _, e1, hl1⟩ := hb.form
  clear e0 e1
  have HA := Lib.hid ha
  have HB := Lib.hid hb
  clear ha hb
  go_enter Try.func60, Try.ntmps60
  by_cases hlen : xs.length = ys.length
  · have e1 : ((xs.length : Int) == (ys.length : Int)) = true := by simp [hlen]
    have hlenz : (xs.length : Int) = (ys.length : Int) := by omega
    go_wp2_with fail
    go_loopw [13] (fun i wr => ∃ m : Nat, m ≤ xs.length ∧ i = .int .i64 m ∧ Keep [] w wr ∧ Hid (∀ j (hj : j < xs.length) (hj' : j < ys.length), j < m → xs[j] = ys[j])) (fun i _ => xs.length - (intOf i).toNat)
    case atStart => exact ⟨0, Nat.zero_le _, rfl, Keep.refl _ _, Lib.hid (fun j _ _ h => absurd h (Nat.not_lt_zero _))⟩
    case round =>
      obtain ⟨m, hm, rfl, kk, hi⟩ := hrel
      by_cases hlt : m < xs.length
      · have hltz : (m : Int) < (xs.length : Int) := by omega
        have hlt' : m < ys.length := by omega
        have hltz' : (m : Int) < (ys.length : Int) := by omega
        obtain ⟨g, o, rfl, c0, c1, c2, -, -, -⟩ := (HA.out.keep (fun i hF hi => kk.block i hi (by simp))).req_at hlt
        obtain ⟨g', o', rfl, d0, d1, d2, -, -, -⟩ := (HB.out.keep (fun i hF hi => kk.block i hi (by simp))).req_at hlt'
        by_cases he : xs[m] = ys[m]
        · have he' : Hid (∀ j (h1 : j < xs.length) (h2 : j < ys.length), j = m → xs[j] = ys[j]) := Lib.hid (fun j h1 h2 e => by subst e; exact he)
          rw [← he] at d0 d1 d2
          clear he
          generalize xs[m] = x at *
          have hnq := neqReq_f x
          go_wp2_with fail
          refine wp_region_class (C := fun w' => Keep [] wr w' ∧ w'.cell? ⟨g, o + m * 3, none⟩ = some (.int .i64 x.c) ∧ w'.cell? ⟨g, o + m * 3 + 1, none⟩ = some (.int .i64 x.s) ∧ w'.cell? ⟨g, o + m * 3 + 2, none⟩ = some (.string x.b) ∧ w'.cell? ⟨g', o' + m * 3, none⟩ = some (.int .i64 x.c) ∧ w'.cell? ⟨g', o' + m * 3 + 1, none⟩ = some (.int .i64 x.s) ∧ w'.cell? ⟨g', o' + m * 3 + 2, none⟩ = some (.string x.b)) (by kernel_rfl) (by kernel_rfl) ⟨(Keep.refl _ _).drew, c0, c1, c2, d0, d1, d2⟩ ?_
          iterate 9 (first
            | go_big_quiet_skip
            | (go_big_quiet_want; first
              | (go_big_quiet_op; go_big_quiet_on)
              | (refine quiet_run (v := ?_) ?_ ?_; (rotate_left; (intro w' hC; (try dsimp only at hC); go_split_ands; go_simp; with_reducible rfl); simp only [Act.put, List.setIfInBounds_toArray, List.set_cons_zero, List.set_cons_succ]; go_big_quiet_on))
              | (refine quiet_call (v := ?_) (f := ?_) (args := ?_) ?_ ?_ ?_; (rotate_left; rotate_left; rotate_left; (intro w' hC; (try dsimp only at hC); go_split_ands; go_simp; (refine ⟨?_, ?_⟩ <;> with_reducible rfl)); (intro w' hC; fail); simp only [Act.put, List.setIfInBounds_toArray, List.set_cons_zero, List.set_cons_succ]; go_big_quiet_on))))
          refine wpQuiet_nil ?_
          intro w2 hC2
          have kk2 := hC2.1
          clear hC2
          go_wp2
          go_roundw
          case rel => exact ⟨m + 1, by omega, by go_num, kk.trans kk2, Lib.hid (fun j hj hj' h => by
            by_cases e : j = m
            · exact he'.out j hj hj' e
            · exact hi.out j hj hj' (by omega))⟩
          case measure => simp [intOf]; omega
        · have hout : ¬ xs = ys := by
            intro h
            apply he
            simp only [h]
          have hout := Lib.hid hout
          generalize xs[m] = x at *
          generalize ys[m] = y at *
          have hnq := neqReq_t x y he
          clear he
          go_wp2_with fail
          refine wp_region_class (C := fun w' => Keep [] wr w' ∧ w'.cell? ⟨g, o + m * 3, none⟩ = some (.int .i64 x.c) ∧ w'.cell? ⟨g, o + m * 3 + 1, none⟩ = some (.int .i64 x.s) ∧ w'.cell? ⟨g, o + m * 3 + 2, none⟩ = some (.string x.b) ∧ w'.cell? ⟨g', o' + m * 3, none⟩ = some (.int .i64 y.c) ∧ w'.cell? ⟨g', o' + m * 3 + 1, none⟩ = some (.int .i64 y.s) ∧ w'.cell? ⟨g', o' + m * 3 + 2, none⟩ = some (.string y.b)) (by kernel_rfl) (by kernel_rfl) ⟨(Keep.refl _ _).drew, c0, c1, c2, d0, d1, d2⟩ ?_
          iterate 9 (first
            | go_big_quiet_skip
            | (go_big_quiet_want; first
              | (go_big_quiet_op; go_big_quiet_on)
              | (refine quiet_run (v := ?_) ?_ ?_; (rotate_left; (intro w' hC; (try dsimp only at hC); go_split_ands; go_simp; with_reducible rfl); simp only [Act.put, List.setIfInBounds_toArray, List.set_cons_zero, List.set_cons_succ]; go_big_quiet_on))
              | (refine quiet_call (v := ?_) (f := ?_) (args := ?_) ?_ ?_ ?_; (rotate_left; rotate_left; rotate_left; (intro w' hC; (try dsimp only at hC); go_split_ands; go_simp; (refine ⟨?_, ?_⟩ <;> with_reducible rfl)); (intro w' hC; fail); simp only [Act.put, List.setIfInBounds_toArray, List.set_cons_zero, List.set_cons_succ]; go_big_quiet_on))))
          refine wpQuiet_nil ?_
          intro w2 hC2
          have kk2 := hC2.1
          clear hC2
          go_wp2
          go_ret
          exact ⟨false, rfl, by simp [hout.out], kk.trans kk2⟩
      · have hltz : ¬ (m : Int) < (xs.length : Int) := by omega
        obtain rfl : m = xs.length := by omega
        have hout : xs = ys := List.ext_getElem hlen (fun j h1 h2 => hi.out j h1 h2 h1)
        have hout := Lib.hid hout
        go_wp2
        go_ret
        exact ⟨rfl, kk⟩
  · have e1 : ((xs.length : Int) == (ys.length : Int)) = false := by rw [beq_eq_false_iff_ne]; omega
    have hlenz : ¬ (xs.length : Int) = (ys.length : Int) := by omega
    have hout : ¬ xs = ys := by
      intro h
      exact hlen (by rw [h])
    have hout := Lib.hid hout
    go_wp2
    go_ret
    exact ⟨false, rfl, by simp [hout.out], Keep.refl _ _⟩
end Go.Proofs.Ytdhhibppcckbkaa
namespace Go.Proofs.Ytdhhibppcckbkaa
open Go.RowKit
set_option linter.unusedVariables false
set_option linter.unusedSimpArgs false
/-! the store: blocks that are read as they are -/
set_option maxHeartbeats 2000000 in
theorem sigEqS_call (x y : Sg) (u v : Value) (F G : Nat → Prop) (w : World) (hx : SliceOf Rep.str w F u x.ts) (hy : SliceOf Rep.str w G v y.ts) :
    Calls Try.prog 62 #[.agg #[.int .i64 x.f, u], .agg #[.int .i64 y.f, v]] w fun e w' => ∃ r, e = .returned (.bool r) ∧ (r = true ↔ x = y) ∧ Keep [] w w' := by
  obtain ⟨xf, xs⟩ := x
  obtain ⟨yf, ys⟩ := y
  dsimp only at *
  obtain ⟨A, c, rfl, l1⟩ := hx.form
  obtain ⟨B, d, rfl, l2⟩ := hy.form
  have HX := Lib.hid hx
  have HY := Lib.hid hy
  clear hx hy
  go_enter Try.func62, Try.ntmps62
  go_upto_region 1 with (first
    | ((with_reducible refine wl_box 84 (.tmp 0) ?_ ?_); (with_reducible rfl); refine sx_box rfl 84 (.tmp 0) rfl #[.int .i64 xf, .slice A xs.length c] rfl ?_; intro w1 b1 k1 z1; (try simp only [Act.put, List.setIfInBounds_toArray, List.set_cons_zero, List.set_cons_succ]))
    | ((with_reducible refine wl_box 84 (.tmp 1) ?_ ?_); (with_reducible rfl); refine sx_box rfl 84 (.tmp 1) rfl #[.int .i64 yf, .slice B ys.length d] rfl ?_; intro w2 b2 k2 z2; (try simp only [Act.put, List.setIfInBounds_toArray, List.set_cons_zero, List.set_cons_succ])))
  have c1 := b1.keep k2 (by simp)
  have kk := k1.trans k2
  have e0 : w2.cell? ⟨w.heap.size, 0, none⟩ = some (.int .i64 xf) := c1.cell 0
  have e1 : w2.cell? ⟨w.heap.size, 1, none⟩ = some (.slice A xs.length c) := c1.cell 1
  have e2 : w2.cell? ⟨w1.heap.size, 0, none⟩ = some (.int .i64 yf) := b2.cell 0
  have e3 : w2.cell? ⟨w1.heap.size, 1, none⟩ = some (.slice B ys.length d) := b2.cell 1
  clear b1 b2 c1 z1 z2
  by_cases hf : xf = yf
  · have hfb : (xf == yf) = true := by simp [hf]
    have HF := Lib.hid hf
    subst hf
    go_wp2_with fail
    refine (eqStrs_call A B xs ys c d F G _ (HX.out.keep (kk.at _ (by simp))) (HY.out.keep (kk.at _ (by simp)))).mono ?_
    rintro e w3 ⟨r, rfl, hr, k3⟩
    have hr := Lib.hid hr
    cases r
    · go_wp2
      go_ret
      have := hr.out
      exact ⟨false, rfl, by simp at this ⊢; exact this, kk.trans k3⟩
    · go_wp2
      go_ret
      have := hr.out
      exact ⟨true, rfl, by simp at this ⊢; exact this, kk.trans k3⟩
  · have hfb : (xf == yf) = false := by simp [hf]
    have HF := Lib.hid hf
    go_wp2
    go_ret
    exact ⟨false, rfl, by simp [HF.out], kk⟩
theorem zSgS_info : (Try.prog.info? 84).map (fun i => (i.zero, i.size)) = some (some (.agg #[.int .i64 0, .slice none 0 0]), 2) := by kernel_rfl
theorem zSgS_size : (Try.prog.info? 84).map (·.size) = some 2 := by kernel_rfl
set_option maxHeartbeats 2000000 in
theorem equalFuncS_call (A B : Option Addr) (xs ys : List Sg) (c d : Nat) (F G : Nat → Prop) (w : World) (ha : SliceOf Rep.sg w F (.slice A xs.length c) xs) (hb : SliceOf Rep.sg w G (.slice B ys.length d) ys) :
    Calls Try.prog 61 #[.slice A xs.length c, .slice B ys.length d, .func (.func 62) #[] #[]] w fun e w' => ∃ r, e = .returned (.bool r) ∧ (r = true ↔ xs = ys) ∧ Keep [] w w' := by
  obtain ⟨_, _, e0, hl⟩ := ha.form
  obtain ⟨_, _, e1, hl1⟩ := hb.form
  clear e0 e1
  by_cases hlen : xs.length = ys.length
  · rw [← hlen] at hb ⊢
    have HA := Lib.hid ha
    have HB := Lib.hid hb
    have HL := Lib.hid hlen
    clear ha hb hlen hl1
    go_enter Try.func61, Try.ntmps61
    go_wp2_with fail
    go_loopw [17] (fun i wr => ∃ m : Nat, m ≤ xs.length ∧ i = .int .i64 m ∧ Keep [] w wr ∧ Hid (∀ j (hj : j < xs.length) (hj' : j < ys.length), j < m → xs[j] = ys[j])) (fun i _ => xs.length - (intOf i).toNat)
    case atStart => exact ⟨0, Nat.zero_le _, rfl, Keep.refl _ _, Lib.hid (fun j _ _ h => absurd h (Nat.not_lt_zero _))⟩
    case round =>
      obtain ⟨m, hm, rfl, kk, hi⟩ := hrel
      by_cases hlt : m < xs.length
      · have hltz : (m : Int) < (xs.length : Int) := by omega
        have hlt' : m < ys.length := by have := HL.out; omega
        obtain ⟨g, o, u, rfl, c0, c1, i1, t1⟩ := (HA.out.keep (fun i hF hi => kk.block i hi (by simp))).sg_at hlt
        obtain ⟨g', o', v, rfl, d0, d1, i2, t2⟩ := (HB.out.keep (fun i hF hi => kk.block i hi (by simp))).sg_at hlt'
        have HI : Hid (∀ r, (r = true ↔ xs[m] = ys[m]) → if r = true then (∀ j (hj : j < xs.length) (hj' : j < ys.length), j < m + 1 → xs[j] = ys[j]) else ¬ xs = ys) := Lib.hid (fun r h => by
          split
          · rename_i hr
            intro j hj hj' hjm
            by_cases e : j = m
            · subst e; exact h.1 hr
            · exact hi.out j hj hj' (by omega)
          · rename_i hr
            intro he
            exact hr (h.2 (by simp only [he])))
        generalize xs[m] = x at *
        generalize ys[m] = y at *
        obtain ⟨A1, n1, rfl, l1⟩ := t1.form
        obtain ⟨A2, n2, rfl, l2⟩ := t2.form
        have H1 := Lib.hid t1
        have H2 := Lib.hid t2
        clear t1 t2
        go_upto_region 6 with (first
          | ((with_reducible refine wl_alloc 84 ?_ ?_); (with_reducible rfl); refine sx_alloc rfl 84 rfl _ 2 #[.int .i64 0, .slice none 0 0] zSgS_info rfl ?_; intro w5 b5 k5 z5; clear z5; (try simp only [Act.put, List.setIfInBounds_toArray, List.set_cons_zero, List.set_cons_succ]))
          | ((with_reducible refine wl_store 84 (.tmp 8) (.tmp 21) ?_ ?_); (with_reducible rfl); refine sx_storeW rfl 84 (.tmp 8) (.tmp 21) rfl wr.heap.size #[.int .i64 x.f, .slice A1 x.ts.length n1] #[.int .i64 0, .slice none 0 0] _ 2 rfl rfl b5 zSgS_size rfl rfl rfl ?_; intro w6 b6 k6 z6; clear z6; (try simp only [Act.put, List.setIfInBounds_toArray, List.set_cons_zero, List.set_cons_succ])))
        have kk6 := k5.new k6 (fun i hi => .inr (by simp at hi; omega))
        replace d0 := kk6.cell (by simp) d0
        replace d1 := kk6.cell (by simp) d1
        clear b5 k5 k6
        go_upto_region 7 with (first
          | ((with_reducible refine wl_alloc 84 ?_ ?_); (with_reducible rfl); refine sx_alloc rfl 84 rfl _ 2 #[.int .i64 0, .slice none 0 0] zSgS_info rfl ?_; intro w7 b7 k7 z7; clear z7; (try simp only [Act.put, List.setIfInBounds_toArray, List.set_cons_zero, List.set_cons_succ]))
          | ((with_reducible refine wl_store 84 (.tmp 9) (.tmp 25) ?_ ?_); (with_reducible rfl); refine sx_storeW rfl 84 (.tmp 9) (.tmp 25) rfl w6.heap.size #[.int .i64 y.f, .slice A2 y.ts.length n2] #[.int .i64 0, .slice none 0 0] _ 2 rfl rfl b7 zSgS_size rfl rfl rfl ?_; intro w8 b8 k8 z8; clear z8; (try simp only [Act.put, List.setIfInBounds_toArray, List.set_cons_zero, List.set_cons_succ])))
        have kk8 : Keep [] w6 w8 := k7.new k8 (fun i hi => .inr (by simp at hi; omega))
        have q6 := b6.keep kk8 (by simp)
        have kk9 := kk6.trans kk8
        clear b7 k7 k8 kk8 kk6 b6
        go_wp2_with (first
          | ((with_reducible refine wl_load 84 (.tmp 8) ?_ ?_); (with_reducible rfl); refine sx_loadW rfl 84 (.tmp 8) rfl wr.heap.size #[.int .i64 x.f, .slice A1 x.ts.length n1] _ _ 2 rfl q6 Try.underlying84 rfl zSgS_size rfl ?_; (try simp only [Act.put, List.setIfInBounds_toArray, List.set_cons_zero, List.set_cons_succ]))
          | ((with_reducible refine wl_load 84 (.tmp 9) ?_ ?_); (with_reducible rfl); refine sx_loadW rfl 84 (.tmp 9) rfl w6.heap.size #[.int .i64 y.f, .slice A2 y.ts.length n2] _ _ 2 rfl b8 Try.underlying84 rfl zSgS_size rfl ?_; (try simp only [Act.put, List.setIfInBounds_toArray, List.set_cons_zero, List.set_cons_succ])))
        refine (sigEqS_call x y _ _ F G _ (H1.out.keep (kk9.at _ (by simp))) (H2.out.keep (kk9.at _ (by simp)))).mono ?_
        rintro e w9 ⟨r, rfl, hr, k9⟩
        have H5 := Lib.hid (HI.out r hr)
        clear hr
        cases r
        · go_wp2
          go_ret
          have := H5.out
          exact ⟨false, rfl, by simpa using this, (kk.trans kk9).trans k9⟩
        · go_wp2
          go_roundw
          case rel => exact ⟨m + 1, by omega, by go_num, (kk.trans kk9).trans k9, Lib.hid (by have := H5.out; simpa using this)⟩
          case measure => simp [intOf]; omega
      · have hltz : ¬ (m : Int) < (xs.length : Int) := by omega
        obtain rfl : m = xs.length := by omega
        have hout : xs = ys := List.ext_getElem HL.out (fun j h1 h2 => hi.out j h1 h2 h1)
        have hout := Lib.hid hout
        go_wp2
        go_ret
        first | exact ⟨true, rfl, by simp [hout.out], kk⟩ | exact ⟨rfl, kk⟩
  · have e1 : ((xs.length : Int) == (ys.length : Int)) = false := by rw [beq_eq_false_iff_ne]; omega
    have hlenz : ¬ (xs.length : Int) = (ys.length : Int) := by omega
    have HA := Lib.hid ha
    have HB := Lib.hid hb
    clear ha hb
    go_enter Try.func61, Try.ntmps61
    have hout : ¬ xs = ys := by
      intro h
      exact hlen (by rw [h])
    have hout := Lib.hid hout
    go_wp2
    go_ret
    exact ⟨false, rfl, by simp [hout.out], Keep.refl _ _⟩
theorem strNeS {a b : ByteArray} (h : ¬ a = b) : (a.toList == b.toList) = false ∧ ¬ a.toList = b.toList := by
  have h2 : ¬ a.toList = b.toList := by
    intro e
    rw [ByteArray.toList_eq, ByteArray.toList_eq] at e
    exact h (ByteArray.ext (Array.toList_inj.1 e))
  exact ⟨beq_eq_false_iff_ne.2 h2, h2⟩
theorem Bk.ext2 {x m : Bk} (h1 : x.v = m.v) (h2 : x.p = m.p) (h3 : x.j.v = m.j.v) (h4 : x.j.h = m.j.h) (h5 : x.j.sg = m.j.sg) (h6 : x.q = m.q) : x = m := by
  obtain ⟨_, _, ⟨_, _, _⟩, _⟩ := x
  obtain ⟨_, _, ⟨_, _, _⟩, _⟩ := m
  simp_all
set_option maxRecDepth 100000 in
set_option maxHeartbeats 16000000 in
theorem rightS_call (m : Bk) (v u : Value) (F : Nat → Prop) (w : World) (h : SliceOf Rep.sg w F v m.j.sg) (h2 : SliceOf Rep.req w F u m.q) (hs : (blockF m).size ≤ 1000000) :
    Calls Try.prog 44 #[.agg (bkV m v u)] w fun e w' => ∃ r, e = .returned (.bool r) ∧ (r = true ↔ readBlockF (blockF m) = (m, 0)) ∧ Keep [] w w' := by
  obtain ⟨A, c, rfl, -⟩ := h.form
  obtain ⟨B, d, rfl, -⟩ := h2.form
  have H := Lib.hid h
  have H2 := Lib.hid h2
  have HS := Lib.hid hs
  clear h h2 hs
  go_enter Try.func44, Try.ntmps44
  go_wp2_with (first
    | ((with_reducible refine wl_box 29 (.tmp 0) ?_ ?_); (with_reducible rfl); refine sx_box rfl 29 (.tmp 0) rfl (bkV m (.slice A m.j.sg.length c) (.slice B m.q.length d)) rfl ?_; intro w0 b0 k0 z0; clear z0; (try simp only [Act.put, List.setIfInBounds_toArray, List.set_cons_zero, List.set_cons_succ]))
    | ((with_reducible refine wl_load 29 (.tmp 1) ?_ ?_); (with_reducible rfl); refine sx_loadW rfl 29 (.tmp 1) rfl w.heap.size (bkV m (.slice A m.j.sg.length c) (.slice B m.q.length d)) _ _ 6 rfl b0 Try.underlying29 rfl zBk_size rfl ?_; (try simp only [Act.put, List.setIfInBounds_toArray, List.set_cons_zero, List.set_cons_succ])))
  refine (block_call m _ _ F _ (H.out.keep (k0.at F (by simp))) (H2.out.keep (k0.at F (by simp))) (by have := HS.out; omega)).mono ?_
  rintro e w1 ⟨rfl, k1⟩
  go_wp2_with fail
  refine (readBlock_call (blockF m) _).mono ?_
  generalize hrd : readBlockF (blockF m) = rd at *
  obtain ⟨x, er⟩ := rd
  rintro e w2 ⟨v2, u2, rfl, hx1, hx2, k2⟩
  dsimp only at *
  have HRD := Lib.hid hrd
  clear hrd
  obtain ⟨A2, c2, rfl, -⟩ := hx1.form
  obtain ⟨B2, d2, rfl, -⟩ := hx2.form
  have b02 := (b0.keep k1 (by simp)).keep k2 (by simp)
  have k02 := (k0.trans k1).trans k2
  have l02 := b02.lt
  clear b0 k0 k1 k2
  go_upto_region 2 with (first
    | ((with_reducible refine wl_alloc 29 ?_ ?_); (with_reducible rfl); refine sx_alloc rfl 29 rfl _ 6 zBv zBk_info rfl ?_; intro w3 b3 k3 z3; clear z3; (try simp only [Act.put, List.setIfInBounds_toArray, List.set_cons_zero, List.set_cons_succ]))
    | ((with_reducible refine wl_store 29 (.tmp 3) (.tmp 9) ?_ ?_); (with_reducible rfl); refine sx_storeW rfl 29 (.tmp 3) (.tmp 9) rfl w2.heap.size (bkV x (.slice A2 x.j.sg.length c2) (.slice B2 x.q.length d2)) zBv _ 6 rfl rfl b3 zBk_size rfl rfl rfl ?_; intro w4 b4 k4 z4; clear z4; (try simp only [Act.put, List.setIfInBounds_toArray, List.set_cons_zero, List.set_cons_succ])))
  have b04 := (b02.keep k3 (by simp)).keep k4 (by simp; omega)
  have k24 : Keep [] w2 w4 := k3.new k4 (fun i hi => .inr (by simp at hi; omega))
  have k03 : Keep [] w w4 := k02.trans k24
  have X1 := Lib.hid (hx1.keep (k24.at _ (by simp)))
  have X2 := Lib.hid (hx2.keep (k24.at _ (by simp)))
  have M1 := Lib.hid (H.out.keep (k03.at _ (by simp)))
  have M2 := Lib.hid (H2.out.keep (k03.at _ (by simp)))
  obtain ⟨x0, x1, x2, x3, x4, x5⟩ := Blk.sixC b4
  obtain ⟨m0, m1, m2, m3, m4, m5⟩ := Blk.sixC b04
  clear b02 b04 b3 b4 k3 k4 k24 k02 hx1 hx2 H H2 HS
  by_cases her : er = 0
  rotate_left
  · have her2 : (er == 0) = false := beq_eq_false_iff_ne.2 her
    have HER := Lib.hid her
    go_wp2
    go_ret
    exact ⟨false, rfl, by have := HER.out; simp [HRD.out, this], k03⟩
  subst her
  by_cases h1 : x.v = m.v
  rotate_left
  · have HN := Lib.hid h1
    have q1 : (x.v == m.v) = false := beq_eq_false_iff_ne.2 h1
    go_wp2
    go_ret
    exact ⟨false, rfl, by rw [HRD.out]; simp only [Prod.mk.injEq, and_true, Bool.false_eq_true, false_iff]; rintro rfl; exact HN.out rfl, k03⟩
  by_cases h2 : x.p = m.p
  rotate_left
  · have HN := Lib.hid h2
    have q1 : (x.p == m.p) = false := beq_eq_false_iff_ne.2 h2
    go_wp2
    go_ret
    exact ⟨false, rfl, by rw [HRD.out]; simp only [Prod.mk.injEq, and_true, Bool.false_eq_true, false_iff]; rintro rfl; exact HN.out rfl, k03⟩
  by_cases h3 : x.j.v = m.j.v
  rotate_left
  · have HN := Lib.hid h3
    have q1 : (x.j.v == m.j.v) = false := beq_eq_false_iff_ne.2 h3
    go_wp2
    go_ret
    exact ⟨false, rfl, by rw [HRD.out]; simp only [Prod.mk.injEq, and_true, Bool.false_eq_true, false_iff]; rintro rfl; exact HN.out rfl, k03⟩
  by_cases h4 : x.j.h = m.j.h
  rotate_left
  · have HN := Lib.hid h4
    obtain ⟨q1, q2⟩ := strNeS h4
    clear h4
    go_wp2
    go_ret
    exact ⟨false, rfl, by rw [HRD.out]; simp only [Prod.mk.injEq, and_true, Bool.false_eq_true, false_iff]; rintro rfl; exact HN.out rfl, k03⟩
  go_wp2_with fail
  refine (eqReqs_call B2 B x.q m.q d2 d _ _ _ X2.out M2.out).mono ?_
  rintro e w5 ⟨r, rfl, hr, k5⟩
  have k05 := k03.trans k5
  cases r
  · have HN : Hid (¬ x.q = m.q) := Lib.hid (by rw [← hr]; simp)
    clear hr
    go_wp2
    go_ret
    exact ⟨false, rfl, by rw [HRD.out]; simp only [Prod.mk.injEq, and_true, Bool.false_eq_true, false_iff]; rintro rfl; exact HN.out rfl, k05⟩
  have H12 : Hid (x.q = m.q) := Lib.hid (hr.1 rfl)
  clear hr
  replace x4 := k5.cell (by simp) x4
  replace m4 := k5.cell (by simp) m4
  have X3 := Lib.hid (X1.out.keep (k5.at _ (by simp)))
  have M3 := Lib.hid (M1.out.keep (k5.at _ (by simp)))
  clear x0 x1 x2 x3 x5 m0 m1 m2 m3 m5 X1 M1 X2 M2
  go_wp2_with fail
  refine (equalFuncS_call A2 A x.j.sg m.j.sg c2 c _ _ _ X3.out M3.out).mono ?_
  rintro e w6 ⟨r, rfl, hr, k6⟩
  have k06 := k05.trans k6
  cases r
  · have HN : Hid (¬ x.j.sg = m.j.sg) := Lib.hid (by rw [← hr]; simp)
    clear hr
    go_wp2
    go_ret
    exact ⟨false, rfl, by rw [HRD.out]; simp only [Prod.mk.injEq, and_true, Bool.false_eq_true, false_iff]; rintro rfl; exact HN.out rfl, k06⟩
  have H13 : Hid (x.j.sg = m.j.sg) := Lib.hid (hr.1 rfl)
  clear hr
  go_wp2
  go_ret
  exact ⟨true, rfl, by rw [HRD.out, Bk.ext2 h1 h2 h3 h4 H13.out H12.out]; simp, k06⟩
end Go.Proofs.Ytdhhibppcckbkaa
namespace Go.Proofs.Ytdhhibppcckbkaa
open Go.RowKit
set_option linter.unusedVariables false
set_option linter.unusedSimpArgs false
/-! slices.Clone of blocks; the store's Blocks -/
theorem wl_appB {ops : Array Oper} {rest : List Oper} {o : Oper} {act : Act} {Q : Exit → Act → World → Prop} {W : World} (hgd : o.guard = none) (s x : Operand) (ho : o.op = .call { callee := .builtin .append, args := #[s, x], argTypes := #[37, 37] }) (lo : Nat) (G : Nat → Prop) (v : Value) (xs ys : List Bk) (A : Option Addr) (c : Nat) (hs : act.eval s = v) (hx : act.eval x = .slice A ys.length c)
    (hown : RowG Rep.bk 29 W lo G v xs) (hy : ReadsG Rep.bk W G A ys) (hG : ∀ k, G k → k < lo) (hl : (xs.length + ys.length) * 88 ≤ 140737488355328) (hbase : lo ≤ W.heap.size)
    (h : ∀ B cap w', RowG Rep.bk 29 w' lo G (.slice B (xs.length + ys.length) cap) (xs ++ ys) → Keep v.ownBlock.toList W w' → wpList Try.prog ops Q rest (act.put o.dst (.slice B (xs.length + ys.length) cap)) w') : wpList Try.prog ops Q (o :: rest) act W :=
  wpList_plain hgd fun K hK => by
    have hA0 : A = none → ys = [] := by
      intro e
      cases ys with
      | nil => rfl
      | cons y l => obtain ⟨g, o, e1, _⟩ := hy (by simp); rw [e] at e1; exact absurd e1 (by simp)
    obtain ⟨v', w', r1, r2, r3, r4⟩ := run_appG Rep.bk 37 o.type 29 (.agg zBv) 88 lo G Try.underlying37 infoBk rfl (by decide) (by decide) (fun w x cs h => bk_one h) W v xs ys A c hown hy hG hl hbase hA0
    obtain ⟨B, cap, rfl⟩ := r2.form
    rw [List.length_append] at *
    unfold Oper.wp execOp
    simp only [ho, resolve, invoke, builtin, Sem.run_bind, Sem.run_pure, Result.andThen_ok, List.map_toArray, List.map_cons, List.map_nil, hs, hx, r1]
    exact hK _ _ (h B cap w' r2 ((Keep.refl _ W).grown r3 (fun i hi => .inl (by rw [hi]; simp))))
set_option maxHeartbeats 2000000 in
theorem cloneB_call (A : Option Addr) (xs : List Bk) (c : Nat) (G : Nat → Prop) (w : World) (hs : SliceOf Rep.bk w G (.slice A xs.length c) xs) (hG : ∀ k, G k → k < w.heap.size) (hl : xs.length ≤ 1000000) :
    Calls Try.prog 41 #[.slice A xs.length c] w fun e w' => ∃ B cap, e = .returned (.slice B xs.length cap) ∧ SliceOf Rep.bk w' (fun k => G k ∨ w.heap.size ≤ k) (.slice B xs.length cap) xs ∧ Keep [] w w' := by
  cases A with
  | none =>
    have h0 : xs = [] := by
      cases xs with
      | nil => rfl
      | cons y l =>
        obtain ⟨A', c', e, _, h⟩ := hs
        cases e
        obtain ⟨g, o, e, _⟩ := h (by simp)
        exact absurd e (by simp)
    subst h0
    clear hs
    have hne := Lib.run_eql_slice_nil (P := Try.prog) w 37 29 none 0 c 0 0 Try.underlying37
    go_enter Try.func41, Try.ntmps41
    go_wp2
    go_ret
    exact ⟨none, 0, rfl, SliceOf.nil _ _ _ _ _, Keep.refl _ _⟩
  | some ad =>
    have ho : RowG Rep.bk 29 (w.alloc (.cells #[] 29)) w.heap.size G (.slice (some ⟨w.heap.size, 0, none⟩) 0 0) [] := RowG.empty _ _ _ _ _ _ (Blk.new w #[] 29) (Nat.le_refl _)
    have hs' : ReadsG Rep.bk (w.alloc (.cells #[] 29)) G (some ad) xs := SliceOf.reads (hs.keep fun k _ hk => Below.heap_alloc w _ k hk)
    replace ho := Lib.hid ho
    replace hs' := Lib.hid hs'
    replace hG := Lib.hid hG
    clear hs
    have hne := Lib.run_eql_slice_nil (P := Try.prog) w 37 29 (some ad) xs.length c 0 0 Try.underlying37
    go_enter Try.func41, Try.ntmps41
    go_wp2_with (first | (at_builtin; refine wl_appB rfl (.tmp 5) (.tmp 6) rfl w.heap.size G (.slice (some ⟨w.heap.size, 0, none⟩) 0 0) [] xs (some ad) c rfl rfl ho.out hs'.out hG.out (by simp; omega) (by simp) ?_; simp only [List.length_nil, Nat.zero_add, List.nil_append]; intro B cap w' h1 h2) | go_in)
    go_ret
    have hk : Keep [] w w' := ((Keep.refl _ w).alloc _).new h2 (fun i hi => .inr (by simp [Value.ownBlock] at hi; omega))
    exact ⟨B, cap, rfl, (h1.slice (by unfold M47; omega)).mono (fun k hk _ => hk.imp id (fun h => (h1.lt k h).1)), hk⟩
set_option maxHeartbeats 2000000 in
theorem blocks_call (m p : Nat) (s : Stt) (v : Value) (xs : List Bk) (G : Nat → Prop) (w : World) (h : StAt w m p s v) (hs : SliceOf Rep.bk w G v xs) (hG : ∀ k, G k → k < w.heap.size) (hl : xs.length ≤ 1000000) :
    Calls Try.prog 21 #[.pointer (some ⟨m, 0, none⟩)] w fun e w' => ∃ B cap, e = .returned (.slice B xs.length cap) ∧ SliceOf Rep.bk w' (fun k => G k ∨ w.heap.size ≤ k) (.slice B xs.length cap) xs ∧ Keep [] w w' := by
  obtain ⟨A, c, rfl, -⟩ := hs.form
  have c3 : w.cell? ⟨m, 3, none⟩ = some (.slice A xs.length c) := Blk.cell h 3
  replace hs := Lib.hid hs
  replace hG := Lib.hid hG
  clear h
  go_enter Try.func21, Try.ntmps21
  go_wp2_with fail
  refine (cloneB_call A xs c G _ hs.out hG.out hl).mono ?_
  rintro e w' ⟨B, cap, rfl, h1, k⟩
  go_wp2
  go_ret
  exact ⟨B, cap, rfl, h1, k⟩
end Go.Proofs.Ytdhhibppcckbkaa
namespace Go.Proofs.Ytdhhibppcckbkaa
open Go.RowKit
set_option linter.unusedVariables false
set_option linter.unusedSimpArgs false
/-! the reference's Same, of one list told twice -/
theorem quiet_loadR {P : Program} {C : World → Prop} {a : Act} {o : Oper} {K : Act → Prop} (ty : TypeId) (x : Operand) (ho : o.op = .load ty x) (g off : Nat) (D : Array Value) (d : TypeDesc) (n : Nat) (hx : a.eval x = .pointer (some ⟨g, off, none⟩)) (hr : ∀ w, C w → ∀ j v, D[j]? = some v → w.cell? ⟨g, off + j, none⟩ = some v)
    (hu : P.underlying ty = some d) (hd : d.isRow = true) (hi : (P.info? ty).map (·.size) = some n) (hn : D.size = n) (hk : K (a.put o.dst (.agg D))) : o.quiet P a C K :=
  quiet_run (fun w hw => by
    have e : (Instr.loadAt ty (.pointer (some ⟨g, off, none⟩))).run P w = .ok (.agg D) w := by
      have h := run_loadAt_mid (P := P) w g off ty D.toList d (fun j v hj => hr w hw j v (by simpa using hj)) hu hd (by simpa [hn] using hi)
      simpa using h
    unfold execOp
    simp only [ho, hx, Sem.run_bind, e, Result.andThen_ok]
    rfl) hk
theorem SliceOf.bk_at {w : World} {F : Nat → Prop} {A : Option Addr} {n c : Nat} {xs : List Bk} (h : SliceOf Rep.bk w F (.slice A n c) xs) {i : Nat} (hi : i < xs.length) :
    ∃ g o v u, A = some ⟨g, o, none⟩ ∧ (∀ j y, (bkV xs[i] v u)[j]? = some y → w.cell? ⟨g, o + i * 6 + j, none⟩ = some y) ∧ (I64 xs[i].v ∧ I64 xs[i].p ∧ I64 xs[i].j.v) ∧ SliceOf Rep.sg w F v xs[i].j.sg ∧ SliceOf Rep.req w F u xs[i].q := by
  obtain ⟨g, o, cs, rfl, _, _, ⟨v, u, rfl, h1, h2, h3, _, h5, h6⟩, hc⟩ := h.at hi
  exact ⟨g, o, v, u, rfl, fun j y hj => by rw [Nat.add_assoc]; exact hc j y (by simpa using hj), ⟨h1, h2, h3⟩, h5, h6⟩
set_option maxRecDepth 100000 in
set_option maxHeartbeats 8000000 in
theorem sameB_call (A B : Option Addr) (xs : List Bk) (ca cb : Nat) (F G : Nat → Prop) (w : World) (ha : SliceOf Rep.bk w F (.slice A xs.length ca) xs) (hb : SliceOf Rep.bk w G (.slice B xs.length cb) xs) (hsz : ∀ x ∈ xs, (blockF x).size ≤ 1000000) (hl : xs.length ≤ 1000000) :
    Calls Try.prog 19 #[.slice A xs.length ca, .slice B xs.length cb] w fun e w' => e = .returned (.bool true) ∧ Keep [] w w' := by
  replace ha := Lib.hid ha
  replace hb := Lib.hid hb
  replace hsz := Lib.hid hsz
  go_enter Try.func19, Try.ntmps19
  go_wp2_with fail
  go_loopw [5] (fun i wr => ∃ k : Nat, k ≤ xs.length ∧ i = .int .i64 k ∧ Keep [] w wr) (fun i _ => xs.length - (intOf i).toNat)
  case atStart => exact ⟨0, Nat.zero_le _, rfl, Keep.refl _ _⟩
  case round =>
    obtain ⟨k, hk, rfl, kk⟩ := hrel
    by_cases hlt : k < xs.length
    · have hltz : (k : Int) < (xs.length : Int) := by omega
      obtain ⟨ga, oa, va, ua, rfl, hra, hbd, ha5, ha6⟩ := (ha.out.keep (kk.at F (by simp))).bk_at hlt
      obtain ⟨gb, ob, vb, ub, rfl, hrb, -, hb5, hb6⟩ := (hb.out.keep (kk.at G (by simp))).bk_at hlt
      have hz := hsz.out xs[k] (List.getElem_mem hlt)
      generalize xs[k] = x at *
      obtain ⟨A1, c1, rfl, -⟩ := ha5.form
      obtain ⟨A2, c2, rfl, -⟩ := ha6.form
      obtain ⟨B1, d1, rfl, -⟩ := hb5.form
      obtain ⟨B2, d2, rfl, -⟩ := hb6.form
      have hMa := Lib.hid (fun w' (kq : Keep [] wr w') => rblock_call x _ _ F w' (ha5.keep (kq.at F (by simp))) (ha6.keep (kq.at F (by simp))) hbd.1 hbd.2.1 hbd.2.2 (by omega))
      have hMb := Lib.hid (fun w' (kq : Keep [] wr w') => rblock_call x _ _ G w' (hb5.keep (kq.at G (by simp))) (hb6.keep (kq.at G (by simp))) hbd.1 hbd.2.1 hbd.2.2 (by omega))
      replace hra := Lib.hid (fun w' (kq : Keep [] wr w') j y (hj : (bkV x (.slice A1 x.j.sg.length c1) (.slice A2 x.q.length c2))[j]? = some y) => kq.cell (by simp) (hra j y hj))
      replace hrb := Lib.hid (fun w' (kq : Keep [] wr w') j y (hj : (bkV x (.slice B1 x.j.sg.length d1) (.slice B2 x.q.length d2))[j]? = some y) => kq.cell (by simp) (hrb j y hj))
      clear ha5 ha6 hb5 hb6 hbd hz
      go_wp2_with fail
      refine wp_region_class (C := fun w' => Keep [] wr w') (by kernel_rfl) (by kernel_rfl) ((Keep.refl _ _).drew) ?_
      iterate 11 (first
        | go_big_quiet_skip
        | (go_big_quiet_want; first
          | (refine quiet_loadR 29 (.tmp 19) rfl ga (oa + k * 6) (bkV x (.slice A1 x.j.sg.length c1) (.slice A2 x.q.length c2)) _ 6 rfl hra.out Try.underlying29 rfl zBk_size rfl ?_; simp only [Act.put, List.setIfInBounds_toArray, List.set_cons_zero, List.set_cons_succ]; go_big_quiet_on)
          | (refine quiet_loadR 29 (.tmp 24) rfl gb (ob + k * 6) (bkV x (.slice B1 x.j.sg.length d1) (.slice B2 x.q.length d2)) _ 6 rfl hrb.out Try.underlying29 rfl zBk_size rfl ?_; simp only [Act.put, List.setIfInBounds_toArray, List.set_cons_zero, List.set_cons_succ]; go_big_quiet_on)
          | (go_big_quiet_op; go_big_quiet_on)
          | (refine quiet_run (v := ?_) ?_ ?_; (rotate_left; (intro w' hC; (try dsimp only at hC); go_split_ands; go_simp; with_reducible rfl); simp only [Act.put, List.setIfInBounds_toArray, List.set_cons_zero, List.set_cons_succ]; go_big_quiet_on))
          | (refine quiet_call (v := ?_) (f := ?_) (args := ?_) ?_ ?_ ?_; (rotate_left; rotate_left; rotate_left; (intro w' hC; (try dsimp only at hC); go_split_ands; go_simp; (refine ⟨?_, ?_⟩ <;> with_reducible rfl)); (intro w' hC; first | (go_at_call 33; (with_reducible refine (hMa.out _ hC).mono ?_); rintro e w28 ⟨rfl, kq⟩; refine ⟨?_, Keep.trans hC kq⟩; with_reducible rfl) | (go_at_call 33; (with_reducible refine (hMb.out _ hC).mono ?_); rintro e w28 ⟨rfl, kq⟩; refine ⟨?_, Keep.trans hC kq⟩; with_reducible rfl)); simp only [Act.put, List.setIfInBounds_toArray, List.set_cons_zero, List.set_cons_succ]; go_big_quiet_on))))
      refine wpQuiet_nil ?_
      intro w9 k9
      go_wp2
      go_roundw
      case rel => exact ⟨k + 1, by omega, by go_num, kk.trans k9⟩
      case measure => simp [intOf]; omega
    · have hltz : ¬ (k : Int) < (xs.length : Int) := by omega
      go_wp2
      go_ret
      exact ⟨rfl, kk⟩
end Go.Proofs.Ytdhhibppcckbkaa
namespace Go.Proofs.Ytdhhibppcckbkaa
open Go.RowKit
set_option linter.unusedVariables false
set_option linter.unusedSimpArgs false
/-! the store: whether a list holds a block that is not read as it is -/
def okB (x : Bk) : Prop := readBlockF (blockF x) = (x, 0)
set_option maxHeartbeats 4000000 in
theorem saveC_call (m : Bk) (v u : Value) (F : Nat → Prop) (w : World) (h : SliceOf Rep.sg w F v m.j.sg) (h2 : SliceOf Rep.req w F u m.q) (hs : (blockF m).size ≤ 1000000) :
    Calls Try.prog 43 #[.agg (bkV m v u)] w fun e w' => ∃ r, e = .returned (.bool r) ∧ (r = false ↔ okB m) ∧ Keep [] w w' := by
  obtain ⟨A, c, rfl, -⟩ := h.form
  obtain ⟨B, d, rfl, -⟩ := h2.form
  have H := Lib.hid h
  have H2 := Lib.hid h2
  have HS := Lib.hid hs
  clear h h2 hs
  go_enter Try.func43, Try.ntmps43
  go_wp2_with (first
    | ((with_reducible refine wl_box 29 (.tmp 0) ?_ ?_); (with_reducible rfl); refine sx_box rfl 29 (.tmp 0) rfl (bkV m (.slice A m.j.sg.length c) (.slice B m.q.length d)) rfl ?_; intro w0 b0 k0 z0; clear z0; (try simp only [Act.put, List.setIfInBounds_toArray, List.set_cons_zero, List.set_cons_succ]))
    | ((with_reducible refine wl_load 29 (.tmp 1) ?_ ?_); (with_reducible rfl); refine sx_loadW rfl 29 (.tmp 1) rfl w.heap.size (bkV m (.slice A m.j.sg.length c) (.slice B m.q.length d)) _ _ 6 rfl b0 Try.underlying29 rfl zBk_size rfl ?_; (try simp only [Act.put, List.setIfInBounds_toArray, List.set_cons_zero, List.set_cons_succ])))
  refine (rightS_call m _ _ F _ (H.out.keep (k0.at F (by simp))) (H2.out.keep (k0.at F (by simp))) HS.out).mono ?_
  rintro e w1 ⟨r, rfl, hr, k1⟩
  have HR : Hid (r = true ↔ okB m) := Lib.hid hr
  clear hr
  cases r
  · go_wp2
    go_ret
    exact ⟨true, rfl, by have := HR.out; simp at this ⊢; exact this, k0.trans k1⟩
  · go_wp2
    go_ret
    exact ⟨false, rfl, by have := HR.out; simp at this ⊢; exact this, k0.trans k1⟩
set_option maxRecDepth 100000 in
set_option maxHeartbeats 4000000 in
theorem indexB_call (A : Option Addr) (xs : List Bk) (c : Nat) (F : Nat → Prop) (w : World) (hs : SliceOf Rep.bk w F (.slice A xs.length c) xs) (hsz : ∀ x ∈ xs, (blockF x).size ≤ 1000000) :
    Calls Try.prog 59 #[.slice A xs.length c, .func (.func 43) #[] #[]] w fun e w' => ∃ n : Int, e = .returned (.int .i64 n) ∧ ((n = -1 ∧ ∀ x ∈ xs, okB x) ∨ (∃ k : Nat, n = k ∧ k ≤ 140737488355328 ∧ ¬ ∀ x ∈ xs, okB x)) ∧ Keep [] w w' := by
  obtain ⟨_, _, e0, hl⟩ := hs.form
  clear e0
  have HS := Lib.hid hs
  have HZ := Lib.hid hsz
  clear hs hsz
  go_enter Try.func59, Try.ntmps59
  go_wp2_with fail
  go_loopw [5, 8] (fun _ i wr => ∃ m : Nat, m ≤ xs.length ∧ i = .int .i64 m ∧ Keep [] w wr ∧ Hid (∀ x ∈ xs.take m, okB x)) (fun _ i _ => xs.length - (intOf i).toNat)
  case atStart => exact ⟨0, Nat.zero_le _, rfl, Keep.refl _ _, Lib.hid (fun x h => by simp at h)⟩
  case round =>
    obtain ⟨m, hm, rfl, kk, ho⟩ := hrel
    by_cases hlt : m < xs.length
    · have hltz : (m : Int) < (xs.length : Int) := by omega
      obtain ⟨g, o, v, u, rfl, hr, hi3, hsg, hrq⟩ := (HS.out.keep (kk.at F (by simp))).bk_at hlt
      have hz := HZ.out _ (List.getElem_mem hlt)
      have HO : Hid (okB xs[m] → ∀ x ∈ xs.take (m + 1), okB x) := Lib.hid (fun h x hx => by
        rw [List.take_succ_eq_append_getElem hlt] at hx
        rcases List.mem_append.1 hx with hx | hx
        · exact ho.out x hx
        · obtain rfl : x = xs[m] := by simpa using hx
          exact h)
      have HN : Hid (¬ okB xs[m] → ¬ ∀ x ∈ xs, okB x) := Lib.hid (fun h hx => h (hx _ (List.getElem_mem hlt)))
      generalize xs[m] = x at *
      obtain ⟨B1, d1, rfl, -⟩ := hsg.form
      obtain ⟨B2, d2, rfl, -⟩ := hrq.form
      replace hr := Lib.hid hr
      replace hsg := Lib.hid hsg
      replace hrq := Lib.hid hrq
      replace hz := Lib.hid hz
      clear hi3
      go_wp2_with (first
        | ((with_reducible refine wl_load 29 (.tmp 14) ?_ ?_); (with_reducible rfl); refine sx_loadR rfl 29 (.tmp 14) rfl g (o + m * 6) (bkV x (.slice B1 x.j.sg.length d1) (.slice B2 x.q.length d2)) _ 6 rfl hr.out Try.underlying29 rfl zBk_size rfl ?_; (try simp only [Act.put, List.setIfInBounds_toArray, List.set_cons_zero, List.set_cons_succ])))
      refine (saveC_call x _ _ F _ hsg.out hrq.out hz.out).mono ?_
      rintro e w2 ⟨r, rfl, hq, k2⟩
      replace hq := Lib.hid hq
      cases r
      · have HO2 := Lib.hid (HO.out (hq.out.1 rfl))
        clear HO hq
        go_wp2
        go_roundw
        case rel => exact ⟨m + 1, by omega, by go_num, kk.trans k2, HO2⟩
        case measure => simp [intOf]; omega
      · have HN2 := Lib.hid (HN.out (fun h => by have := hq.out.2 h; simp at this))
        clear HO hq HN
        go_wp2
        go_ret
        exact ⟨m, rfl, .inr ⟨m, rfl, by omega, HN2.out⟩, kk.trans k2⟩
    · have hltz : ¬ (m : Int) < (xs.length : Int) := by omega
      obtain rfl : m = xs.length := by omega
      have HA : Hid (∀ x ∈ xs, okB x) := Lib.hid (by have := ho.out; rwa [List.take_length] at this)
      clear ho
      go_wp2
      go_ret
      exact ⟨-1, rfl, .inl ⟨rfl, HA.out⟩, kk⟩
theorem containsB_call (A : Option Addr) (xs : List Bk) (c : Nat) (F : Nat → Prop) (w : World) (hs : SliceOf Rep.bk w F (.slice A xs.length c) xs) (hsz : ∀ x ∈ xs, (blockF x).size ≤ 1000000) :
    Calls Try.prog 42 #[.slice A xs.length c, .func (.func 43) #[] #[]] w fun e w' => ∃ r, e = .returned (.bool r) ∧ (r = false ↔ ∀ x ∈ xs, okB x) ∧ Keep [] w w' := by
  have HI := Lib.hid (indexB_call A xs c F w hs hsz)
  clear hs hsz
  go_enter Try.func42, Try.ntmps42
  go_wp2_with fail
  refine HI.out.mono ?_
  rintro e w1 ⟨n, rfl, hn, k1⟩
  rcases hn with ⟨rfl, hn⟩ | ⟨k, rfl, hk, hn⟩
  · replace hn := Lib.hid hn
    go_wp2
    go_ret
    exact ⟨false, rfl, by simpa using hn.out, k1⟩
  · replace hn := Lib.hid hn
    have hz : (0 : Int) ≤ (k : Int) := by omega
    go_wp2
    go_ret
    exact ⟨true, rfl, by simpa using hn.out, k1⟩
end Go.Proofs.Ytdhhibppcckbkaa
namespace Go.Proofs.Ytdhhibppcckbkaa
open Go.RowKit
set_option linter.unusedVariables false
set_option linter.unusedSimpArgs false
/-! Save as a function; a row apart from its elements' blocks takes an append -/
def appsF : Lg → List ByteArray → Int × Lg
  | x, [] => (0, x)
  | x, r :: rs => if (appF x r).1 = 0 then appsF (appF x r).2 rs else appF x r
theorem appsF_snoc (r : ByteArray) : ∀ (rs : List ByteArray) (x : Lg), (appsF x rs).1 = 0 → appsF x (rs ++ [r]) = appF (appsF x rs).2 r
  | [], x, _ => by
    show (if (appF x r).1 = 0 then ((0 : Int), (appF x r).2) else appF x r) = appF x r
    by_cases h : (appF x r).1 = 0
    · rw [if_pos h]; exact Prod.ext h.symm rfl
    · rw [if_neg h]
  | a :: l, x, h => by
    show (if (appF x a).1 = 0 then appsF (appF x a).2 (l ++ [r]) else appF x a) = appF (if (appF x a).1 = 0 then appsF (appF x a).2 l else appF x a).2 r
    have h2 : (if (appF x a).1 = 0 then appsF (appF x a).2 l else appF x a).1 = 0 := h
    by_cases h1 : (appF x a).1 = 0
    · rw [if_pos h1] at h2 ⊢
      rw [if_pos h1]
      exact appsF_snoc r l _ h2
    · rw [if_neg h1] at h2
      exact absurd h2 h1
theorem appsF_fail (t : List ByteArray) : ∀ (rs : List ByteArray) (x : Lg), (appsF x rs).1 ≠ 0 → appsF x (rs ++ t) = appsF x rs
  | [], x, h => absurd rfl h
  | a :: l, x, h => by
    have h2 : (if (appF x a).1 = 0 then appsF (appF x a).2 l else appF x a).1 ≠ 0 := h
    show (if (appF x a).1 = 0 then appsF (appF x a).2 (l ++ t) else appF x a) = (if (appF x a).1 = 0 then appsF (appF x a).2 l else appF x a)
    by_cases h1 : (appF x a).1 = 0
    · rw [if_pos h1] at h2 ⊢
      rw [if_pos h1]
      exact appsF_fail t l _ h2
    · rw [if_neg h1, if_neg h1]
theorem appsF_at {x : Lg} {rs : List ByteArray} {k : Nat} (hk : k < rs.length) (h : (appsF x (rs.take k)).1 = 0) :
    appsF x (rs.take (k + 1)) = appF (appsF x (rs.take k)).2 rs[k] ∧ ((appF (appsF x (rs.take k)).2 rs[k]).1 ≠ 0 → appsF x rs = appF (appsF x (rs.take k)).2 rs[k]) := by
  have h1 : appsF x (rs.take (k + 1)) = appF (appsF x (rs.take k)).2 rs[k] := by rw [List.take_succ_eq_append_getElem hk]; exact appsF_snoc _ _ _ h
  refine ⟨h1, fun h2 => ?_⟩
  rw [← h1] at h2 ⊢
  have := appsF_fail (rs.drop (k + 1)) _ _ h2
  rwa [List.take_append_drop] at this
/-- what a log keeps to -/
def LgOk (x : Lg) : Prop := -1 ≤ x.f ∧ x.f ≤ 9223372036854775807
theorem appF_ok (x : Lg) (r : ByteArray) (h : LgOk x) : LgOk (appF x r).2 ∧ (appF x r).2.b.size ≤ x.b.size + 4004 ∧ (appF x r).2.s = x.s := by
  obtain ⟨h1, h2⟩ := h
  unfold appF
  by_cases c1 : x.g = true
  · rw [if_pos c1]; exact ⟨⟨h1, h2⟩, by show x.b.size ≤ _; omega, rfl⟩
  rw [if_neg c1]
  by_cases c2 : r.size < 1 ∨ 4000 < r.size
  · rw [if_pos c2]; exact ⟨⟨h1, h2⟩, by show x.b.size ≤ _; omega, rfl⟩
  rw [if_neg c2]
  by_cases c3 : (burnF x).g = true
  · rw [if_pos c3]; exact ⟨⟨by show -1 ≤ max (x.f - 1) (-1); omega, by show max (x.f - 1) (-1) ≤ _; omega⟩, by show x.b.size ≤ _; omega, rfl⟩
  · rw [if_neg c3]
    refine ⟨⟨by show -1 ≤ max (x.f - 1) (-1); omega, by show max (x.f - 1) (-1) ≤ _; omega⟩, ?_, rfl⟩
    show (x.b ++ textF r).size ≤ _
    rw [ByteArray.size_append, textF_size]
    omega
theorem appsF_ok : ∀ (rs : List ByteArray) (x : Lg), LgOk x → LgOk (appsF x rs).2 ∧ (appsF x rs).2.b.size ≤ x.b.size + 4004 * rs.length ∧ (appsF x rs).2.s = x.s
  | [], x, h => ⟨h, by show x.b.size ≤ _; omega, rfl⟩
  | r :: rs, x, h => by
    have h1 := appF_ok x r h
    show LgOk (if (appF x r).1 = 0 then appsF (appF x r).2 rs else appF x r).2 ∧ (if (appF x r).1 = 0 then appsF (appF x r).2 rs else appF x r).2.b.size ≤ _ ∧ (if (appF x r).1 = 0 then appsF (appF x r).2 rs else appF x r).2.s = _
    rw [List.length_cons]
    by_cases c : (appF x r).1 = 0
    · rw [if_pos c]
      have h2 := appsF_ok rs _ h1.1
      exact ⟨h2.1, by omega, h2.2.2.trans h1.2.2⟩
    · rw [if_neg c]
      exact ⟨h1.1, by omega, h1.2.2⟩
theorem syncF_ok (x : Lg) (h : LgOk x) : LgOk (syncF x).2 ∧ (syncF x).2.b = x.b ∧ (x.s ≤ x.b.size → (syncF x).2.s ≤ x.b.size) := by
  obtain ⟨h1, h2⟩ := h
  unfold syncF
  by_cases c1 : x.g = true
  · rw [if_pos c1]; exact ⟨⟨h1, h2⟩, rfl, id⟩
  rw [if_neg c1]
  by_cases c3 : (burnF x).g = true
  · rw [if_pos c3]; exact ⟨⟨by show -1 ≤ max (x.f - 1) (-1); omega, by show max (x.f - 1) (-1) ≤ _; omega⟩, rfl, id⟩
  · rw [if_neg c3]
    exact ⟨⟨by show -1 ≤ max (x.f - 1) (-1); omega, by show max (x.f - 1) (-1) ≤ _; omega⟩, rfl, fun _ => Nat.le_refl _⟩
def sameS (a b : Stt) : Bool := a.v == b.v && a.l == b.l
theorem sameS_iff (a b : Stt) : sameS a b = true ↔ a = b := by
  obtain ⟨a1, a2⟩ := a
  obtain ⟨b1, b2⟩ := b
  simp [sameS]
def rightS (s : Stt) : Bool := decide (0 ≤ s.v) && (decide (s.v ≤ 1000000) && (decide (0 ≤ s.l) && decide (s.l ≤ 1000000)))
theorem rightS_iff (s : Stt) : rightS s = true ↔ 0 ≤ s.v ∧ s.v ≤ 1000000 ∧ 0 ≤ s.l ∧ s.l ≤ 1000000 := by simp [rightS]
theorem be_nn (l : List UInt8) : 0 ≤ be l := by
  have : ∀ (l : List UInt8) (a : Int), 0 ≤ a → 0 ≤ l.foldl (fun a c => a * 256 + (c.toNat : Int)) a := by
    intro l
    induction l with
    | nil => intro a h; exact h
    | cons c l ih => intro a h; exact ih (a * 256 + (c.toNat : Int)) (by have : (0 : Int) ≤ (c.toNat : Int) := Int.natCast_nonneg _; omega)
  exact this l 0 (Int.le_refl 0)
theorem okS_iff (s : Stt) : readStF (stF s) = (s, 0) ↔ rightS s = true := by
  rw [rightS_iff]
  refine ⟨fun h => ?_, readSt_stF s⟩
  unfold readStF at h
  rw [if_pos (stF_size s)] at h
  split at h
  · rename_i hc
    have h1 := congrArg (fun p => p.1.v) h
    have h2 := congrArg (fun p => p.1.l) h
    dsimp only at h1 h2
    have n1 := be_nn ((stF s).extract 0 4).data.toList
    have n2 := be_nn ((stF s).extract 4 8).data.toList
    omega
  · have := congrArg Prod.snd h
    simp at this
theorem okB_iff (x : Bk) : okB x ↔ rightBlock x = true := by
  refine ⟨fun h => ?_, B2_holds x⟩
  rcases B3_holds (blockF x) with e | ⟨y, e, h1, h2⟩
  · unfold okB at h
    rw [h] at e
    have := congrArg Prod.snd e
    simp at this
  · unfold okB at h
    rw [h] at e
    have e2 : x = y := congrArg Prod.fst e
    rw [e2]
    exact h1
def okOp (s : Stt) (l : List Bk) : Bool := rightS s && l.all rightBlock
def recsOf (st s : Stt) (l : List Bk) : List ByteArray := l.map brecF ++ (if sameS s st = true then [] else [recF s])
def doneF (z : Int × Lg) (st : Stt) (bs : List Bk) (s : Stt) (l : List Bk) : Int × Lg × Stt × List Bk := if z.1 = 0 then (0, z.2, gtF st s, bs ++ l) else (z.1, z.2, st, bs)
def writeF (x : Lg) (rs : List ByteArray) : Int × Lg := if (appsF x rs).1 = 0 then (if rs = [] then appsF x rs else syncF (appsF x rs).2) else appsF x rs
def saveF (x : Lg) (st : Stt) (bs : List Bk) (s : Stt) (l : List Bk) : Int × Lg × Stt × List Bk :=
  if okOp s l = true then doneF (writeF x (recsOf st s l)) st bs s l else (2, x, st, bs)
theorem neqSt (a b : Stt) (w : World) : (binOp .neq 23 (.agg (stV a)) (.agg (stV b))).run Try.prog w = .ok (.bool !(sameS a b)) w := by
  unfold sameS
  go_simp
  by_cases h1 : a.v = b.v <;> by_cases h2 : a.l = b.l <;> simp [h1, h2]
/-! the row -/
theorem run_appX {α : Type} (a : Rep α) (t ty e : TypeId) (z : Value) (bytes : Nat) (G : Nat → Prop) (ht : Try.prog.underlying t = some (.slice e)) (hi : (Try.prog.info? e).map (fun i => (i.zero, i.size, i.bytes)) = some (some z, a.sz, bytes))
    (hz : z.cells.size = a.sz) (hs0 : 0 < a.sz) (hb0 : 0 < bytes) (hone : ∀ w x cs, a.R w G x cs → ∀ u ∈ cs, u.oneCell' = true) (W : World) (v : Value) (xs ys : List α) (A : Option Addr) (c : Nat) (hown : RowX a e W G v xs) (hy : ReadsG a W G A ys)
    (hG : ∀ k, G k → k < W.heap.size) (hbytes : (xs.length + ys.length) * bytes ≤ 140737488355328) (hA0 : A = none → ys = []) :
    ∃ v' w', (Builtin.append_ #[t, t] ty #[v, .slice A ys.length c]).run Try.prog W = .ok v' w' ∧ RowX a e w' G v' (xs ++ ys) ∧ W.grownBy w' v.ownBlock ∧ (v'.ownBlock = v.ownBlock ∨ v'.ownBlock = some W.heap.size) := by
  obtain ⟨⟨css, o1, o2, o3⟩, hX⟩ := hown
  obtain ⟨i0, hi0, hzz⟩ := Option.map_eq_some_iff.1 hi
  simp only [Prod.mk.injEq] at hzz
  obtain ⟨hz0, hz1, hz2⟩ := hzz
  have hlen : xs.length + ys.length ≤ 140737488355328 := Nat.le_trans (Nat.le_mul_of_pos_right _ hb0) hbytes
  cases A with
  | some ad =>
    have hex : ∃ cy : List (List Value), cy.length = ys.length ∧ (∀ (i : Nat) x cs, ys[i]? = some x → cy[i]? = some cs → a.R W G x cs) ∧ (∀ cs ∈ cy, cs.length = a.sz) ∧ (∀ (i : Nat) cs, cy[i]? = some cs → ∀ j v, cs[j]? = some v → W.cell? (ad.add (i * a.sz + j)) = some v) := by
      by_cases hp : 0 < ys.length
      · obtain ⟨g, o, e1, h⟩ := hy hp
        obtain rfl := Option.some.inj e1
        obtain ⟨cy, q1, q2, q3, q4⟩ := ReadsG.choose h
        exact ⟨cy, q1, q2, q3, fun i cs hc j v hj => by
          have hadd : (⟨g, o, none⟩ : Addr).add (i * a.sz + j) = ⟨g, o + (i * a.sz + j), none⟩ := by unfold Addr.add; split <;> simp_all
          rw [hadd]
          exact q4 i cs hc j v hj⟩
      · obtain rfl : ys = [] := List.eq_nil_of_length_eq_zero (by omega)
        exact ⟨[], rfl, fun i x cs h => by simp at h, fun cs h => by simp at h, fun i cs h => by simp at h⟩
    obtain ⟨cy, q1, q2, q3, q4⟩ := hex
    obtain ⟨v', w', r1, r2, r3, -, r5⟩ := run_append_own_at (P := Try.prog) W 0 t ty e i0 z a.sz bytes ht hi0 hz0 hz1 hz2 hz hs0 v xs.length css.flatten o1 ad ys.length c cy.flatten (by rw [flat_len cy q3, q1])
      (fun j u hu => by
        obtain ⟨i, k, cs, rfl, h1, h2⟩ := flat_read hs0 cy q3 j u hu
        exact q4 i cs h1 k u h2)
      (fun u hu => by
        obtain ⟨cs, hc, hu⟩ := List.mem_flatten.1 hu
        obtain ⟨i, hi, rfl⟩ := List.getElem_of_mem hc
        exact hone _ _ _ (q2 i ys[i] _ (List.getElem?_eq_getElem (by omega)) (List.getElem?_eq_getElem hi)) u hu)
      (by simp only [maxLen]; omega) hbytes (Nat.zero_le _)
    have mv : ∀ x cs, a.R W G x cs → a.R w' G x cs := fun x cs hr => a.keep hr fun k hk hl => r3.block k hl (fun he => hX k he.symm hk)
    refine ⟨v', w', r1, ⟨⟨css ++ cy, by simpa using r2, by simp [o2, q1], fun i x c hx hc => ?_⟩, fun k hk hg => ?_⟩, r3, r5⟩
    · by_cases hlt : i < xs.length
      · rw [List.getElem?_append_left hlt] at hx
        rw [List.getElem?_append_left (by omega)] at hc
        exact mv x c (o3 i x c hx hc)
      · rw [List.getElem?_append_right (by omega)] at hx
        rw [List.getElem?_append_right (by omega), o2] at hc
        exact mv x c (q2 _ x c hx hc)
    · rcases r5 with h | h
      · exact hX k (h ▸ hk) hg
      · rw [h] at hk
        have := hG k hg
        have : W.heap.size = k := by simpa using hk
        omega
  | none =>
    obtain rfl := hA0 rfl
    obtain ⟨hl0, hv⟩ := o1
    have hrun : ∀ B n cap, n ≤ cap → (Builtin.append_ #[t, t] ty #[.slice B n cap, .slice none 0 c]).run Try.prog W = .ok (.slice B n cap) W := by
      intro B n cap hc
      simp [Builtin.append_, run_underlying ht, Builtin.lenOf, Builtin.firstCells, sizeOf, typeInfo, hi0, hc]
      cases B <;> simp [storeCells]
    rcases hv with ⟨rfl, e0⟩ | ⟨g, cap, cur, rfl, hlo, hb, h3, h4, h5, h6⟩
    · exact ⟨_, W, hrun none 0 0 (Nat.le_refl _), ⟨⟨css, by rw [List.append_nil]; exact ⟨hl0, .inl ⟨rfl, e0⟩⟩, by simpa using o2, fun i x cs hx hc => o3 i x cs (by simpa using hx) hc⟩, hX⟩, World.grownBy.refl W _, .inl rfl⟩
    · exact ⟨_, W, hrun _ _ _ h3, ⟨⟨css, by rw [List.append_nil]; exact ⟨hl0, .inr ⟨g, cap, cur, rfl, hlo, hb, h3, h4, h5, h6⟩⟩, by simpa using o2, fun i x cs hx hc => o3 i x cs (by simpa using hx) hc⟩, hX⟩, World.grownBy.refl W _, .inl rfl⟩
theorem wl_appX {ops : Array Oper} {rest : List Oper} {o : Oper} {act : Act} {Q : Exit → Act → World → Prop} {W : World} (hgd : o.guard = none) (s x : Operand) (ho : o.op = .call { callee := .builtin .append, args := #[s, x], argTypes := #[37, 37] }) (G : Nat → Prop) (v : Value) (xs ys : List Bk) (A : Option Addr) (c : Nat) (hs : act.eval s = v) (hx : act.eval x = .slice A ys.length c)
    (hown : RowX Rep.bk 29 W G v xs) (hy : ReadsG Rep.bk W G A ys) (hG : ∀ k, G k → k < W.heap.size) (hl : (xs.length + ys.length) * 88 ≤ 140737488355328)
    (h : ∀ B cap w', RowX Rep.bk 29 w' G (.slice B (xs.length + ys.length) cap) (xs ++ ys) → Keep v.ownBlock.toList W w' → ((Value.slice B (xs.length + ys.length) cap).ownBlock = v.ownBlock ∨ (Value.slice B (xs.length + ys.length) cap).ownBlock = some W.heap.size) → wpList Try.prog ops Q rest (act.put o.dst (.slice B (xs.length + ys.length) cap)) w') : wpList Try.prog ops Q (o :: rest) act W :=
  wpList_plain hgd fun K hK => by
    have hA0 : A = none → ys = [] := by
      intro e
      cases ys with
      | nil => rfl
      | cons y l => obtain ⟨g, o, e1, _⟩ := hy (by simp); rw [e] at e1; exact absurd e1 (by simp)
    obtain ⟨v', w', r1, r2, r3, r4⟩ := run_appX Rep.bk 37 o.type 29 (.agg zBv) 88 G Try.underlying37 infoBk rfl (by decide) (by decide) (fun w x cs h => bk_one h) W v xs ys A c hown hy hG hl hA0
    obtain ⟨B, cap, rfl⟩ := r2.1.form
    rw [List.length_append] at *
    unfold Oper.wp execOp
    simp only [ho, resolve, invoke, builtin, Sem.run_bind, Sem.run_pure, Result.andThen_ok, List.map_toArray, List.map_cons, List.map_nil, hs, hx, r1]
    exact hK _ _ (h B cap w' r2 ((Keep.refl _ W).grown r3 (fun i hi => .inl (by rw [hi]; simp))) r4)
end Go.Proofs.Ytdhhibppcckbkaa
namespace Go.Proofs.Ytdhhibppcckbkaa
open Go.RowKit
set_option linter.unusedVariables false
set_option linter.unusedSimpArgs false
/-! Store.Save -/
structure Saved (w w' : World) (m p : Nat) (v : Value) (G : Nat → Prop) (y : Lg) (t : Stt) (cs : List Bk) : Prop where
  log : LogAt w' p y
  row : ∃ v', StAt w' m p t v' ∧ RowX Rep.bk 29 w' G v' cs ∧ (v'.ownBlock = v.ownBlock ∨ ∃ g, v'.ownBlock = some g ∧ w.heap.size ≤ g)
  keep : Keep (m :: p :: v.ownBlock.toList) w w'
theorem RowX.keepS {α : Type} {a : Rep α} {e : TypeId} {S : List Nat} {w w' : World} {G : Nat → Prop} {v : Value} {xs : List α} (h : RowX a e w G v xs) (k : Keep S w w') (hS : ∀ i ∈ S, v.ownBlock ≠ some i ∧ ¬ G i) : RowX a e w' G v xs :=
  h.keep (fun i hi hl => k.block i hl fun hm => hi.elim (hS i hm).1 (hS i hm).2)
theorem Saved.same {w w' : World} {m p : Nat} {v : Value} {G : Nat → Prop} {y : Lg} {t : Stt} {cs : List Bk} {x : Lg} (hm : StAt w m p t v) (hv : RowX Rep.bk 29 w G v cs) (hG : ∀ k, G k → k < w.heap.size ∧ k ≠ m ∧ k ≠ p) (hmp : m ≠ p) (hvm : ∀ k, v.ownBlock = some k → k ≠ m ∧ k ≠ p) (hp : LogAt w' p y) (k : Keep [p] w w') : Saved w w' m p v G y t cs :=
  ⟨hp, ⟨v, Blk.keep hm k (by simpa using hmp), hv.keepS k (fun i hi => ⟨fun e => (hvm i e).2 (by simpa using hi), fun g => (hG i g).2.2 (by simpa using hi)⟩), .inl rfl⟩, k.mono (fun i _ hi => by simp at hi; simp [hi])⟩
set_option maxRecDepth 100000 in
set_option maxHeartbeats 40000000 in
theorem save_call (m p : Nat) (x : Lg) (st : Stt) (v : Value) (bs : List Bk) (s : Stt) (A : Option Addr) (l : List Bk) (c : Nat) (G : Nat → Prop) (w : World) (out : Int × Lg × Stt × List Bk) (hout : saveF x st bs s l = out)
    (hm : StAt w m p st v) (hv : RowX Rep.bk 29 w G v bs) (hp : LogAt w p x) (hl : SliceOf Rep.bk w G (.slice A l.length c) l)
    (hG : ∀ k, G k → k < w.heap.size ∧ k ≠ m ∧ k ≠ p) (hmp : m ≠ p) (hvm : ∀ k, v.ownBlock = some k → k ≠ m ∧ k ≠ p)
    (hsz : ∀ b ∈ l, (blockF b).size ≤ 5000) (hll : l.length ≤ 1000) (hbl : bs.length ≤ 1000000) (hxb : x.b.size ≤ 10000000) (hf : LgOk x) :
    Calls Try.prog 24 #[.pointer (some ⟨m, 0, none⟩), .agg (stV s), .slice A l.length c] w fun e w' => e = .returned (.int .i64 out.1) ∧ Saved w w' m p v G out.2.1 out.2.2.1 out.2.2.2 := by
  obtain ⟨er0, lo0, so, bo⟩ := out
  dsimp only
  obtain ⟨V0, cv, rfl⟩ := hv.1.form
  have hml := Blk.lt hm
  have hpl := Blk.lt hp
  have hS0 := Lib.hid (fun w' y (k : Keep [p] w w') (hp' : LogAt w' p y) => Saved.same (x := x) hm hv hG hmp hvm hp' k)
  have hbad : Hid (okOp s l = false → er0 = 2 ∧ lo0 = x ∧ so = st ∧ bo = bs) := Lib.hid (fun h => by
    unfold saveF at hout
    rw [h] at hout
    simp only [Bool.false_eq_true, if_false, Prod.mk.injEq] at hout
    obtain ⟨h1, h2, h3, h4⟩ := hout
    exact ⟨h1.symm, h2.symm, h3.symm, h4.symm⟩)
  have hgood : Hid (okOp s l = true → (er0, lo0, so, bo) = doneF (writeF x (recsOf st s l)) st bs s l) := Lib.hid (fun h => by
    unfold saveF at hout
    rw [h] at hout
    exact hout.symm)
  have hbc := Lib.hid (fun w' (k : Keep [] w w') => containsB_call A l c G w' (hl.keep (k.at _ (by simp))) (fun b hb => by have := hsz b hb; omega))
  have hbr := Lib.hid (fun b (hb : b ∈ l) => hsz b hb)
  have hl47 := hl.form
  clear hout hsz
  replace hm := Lib.hid hm
  replace hp := Lib.hid hp
  replace hv := Lib.hid hv
  replace hl := Lib.hid hl
  replace hG := Lib.hid hG
  replace hmp := Lib.hid hmp
  replace hvm := Lib.hid hvm
  replace hf := Lib.hid hf
  clear hl47
  go_enter Try.func24, Try.ntmps24
  go_wp2_with (first | ((with_reducible refine wl_box 23 (.tmp 1) ?_ ?_); (with_reducible rfl); refine sx_box rfl 23 (.tmp 1) rfl (stV s) rfl ?_; intro w1 bw1 kw1 zw1; clear zw1; (try simp only [Act.put, List.setIfInBounds_toArray, List.set_cons_zero, List.set_cons_succ])) | ((with_reducible refine wl_load 23 (.tmp 4) ?_ ?_); (with_reducible rfl); refine sx_loadW rfl 23 (.tmp 4) rfl w.heap.size (stV s) _ _ 2 rfl bw1 Try.underlying23 rfl zSt_size rfl ?_; (try simp only [Act.put, List.setIfInBounds_toArray, List.set_cons_zero, List.set_cons_succ])))
  refine (rbytes_call s _).mono ?_
  rintro e w2 ⟨rfl, k2⟩
  go_wp2_with fail
  refine (rread_call (stF s) _ (by rw [stF_size]; unfold M47; omega)).mono ?_
  have hok := okS_iff s
  generalize readStF (stF s) = rd at *
  obtain ⟨y, er⟩ := rd
  dsimp only at *
  replace hok := Lib.hid hok
  rintro e w3 ⟨rfl, k3⟩
  have d1 := (bw1.keep k2 (by simp)).keep k3 (by simp)
  have kk3 := (kw1.trans k2).trans k3
  have l1 := d1.lt
  have l0 := kk3.size
  clear bw1 kw1 k2 k3
  go_upto_region 2 with (first | ((with_reducible refine wl_alloc 23 ?_ ?_); (with_reducible rfl); refine sx_alloc rfl 23 rfl _ 2 zSt zSt_info rfl ?_; intro w4 bw4 kw4 zw4; clear zw4; (try simp only [Act.put, List.setIfInBounds_toArray, List.set_cons_zero, List.set_cons_succ])) | ((with_reducible refine wl_store 23 (.tmp 7) (.tmp 20) ?_ ?_); (with_reducible rfl); refine sx_storeW rfl 23 (.tmp 7) (.tmp 20) rfl w3.heap.size (stV y) zSt _ 2 rfl rfl bw4 zSt_size rfl rfl rfl ?_; intro w5 bw5 kw5 zw5; clear zw5; (try simp only [Act.put, List.setIfInBounds_toArray, List.set_cons_zero, List.set_cons_succ])))
  have kk5 := (kk3.trans kw4).new kw5 (fun i hi => .inr (by simp at hi; omega))
  have d5 := (d1.keep kw4 (by simp)).keep kw5 (by simp; omega)
  clear bw4 kw4 kw5 d1 kk3
  by_cases her : er = 0
  rotate_left
  · have HN : Hid (okOp s l = false) := Lib.hid (by
      unfold okOp
      have h1 : rightS s = false := by
        cases h : rightS s with
        | false => rfl
        | true => exact absurd (congrArg Prod.snd (hok.out.2 h)) her
      rw [h1]; rfl)
    have q1 : (er != 0) = true := bne_iff_ne.2 her
    have q2 : (er == 0) = false := beq_eq_false_iff_ne.2 her
    go_wp2
    go_ret
    obtain ⟨rfl, rfl, rfl, rfl⟩ := hbad.out (HN.out)
    exact ⟨rfl, hS0.out _ _ (kk5.mono (by simp)) (hp.out.keepS kk5 (by simp))⟩
  subst her
  cases hys : sameS y s with
  | false =>
    have HN : Hid (okOp s l = false) := Lib.hid (by
      unfold okOp
      have h1 : rightS s = false := by
        cases h : rightS s with
        | false => rfl
        | true =>
          have e : y = s := congrArg Prod.fst (hok.out.2 h)
          rw [(sameS_iff y s).2 e] at hys
          exact absurd hys (by simp)
      rw [h1]; rfl)
    have hnq : ∀ w, (binOp .neq 23 (.agg (stV y)) (.agg (stV s))).run Try.prog w = .ok (.bool true) w := fun w => by rw [neqSt, hys]; rfl
    clear hys
    go_wp2_with (first | ((with_reducible refine wl_load 23 (.tmp 7) ?_ ?_); (with_reducible rfl); refine sv_loadW 23 (.tmp 7) rfl rfl w3.heap.size (stV y) _ _ 2 rfl bw5 Try.underlying23 rfl zSt_size rfl ?_; (try simp only [Act.put, List.setIfInBounds_toArray, List.set_cons_zero, List.set_cons_succ])) | ((with_reducible refine wl_load 23 (.tmp 4) ?_ ?_); (with_reducible rfl); refine sv_loadW 23 (.tmp 4) rfl rfl w.heap.size (stV s) _ _ 2 rfl d5 Try.underlying23 rfl zSt_size rfl ?_; (try simp only [Act.put, List.setIfInBounds_toArray, List.set_cons_zero, List.set_cons_succ])))
    go_ret
    obtain ⟨rfl, rfl, rfl, rfl⟩ := hbad.out (HN.out)
    exact ⟨rfl, hS0.out _ _ (kk5.mono (by simp)) (hp.out.keepS kk5 (by simp))⟩
  | true =>
    obtain rfl : y = s := (sameS_iff y s).1 hys
    have hrS : Hid (rightS y = true) := Lib.hid (hok.out.1 rfl)
    have hnq : ∀ w, (binOp .neq 23 (.agg (stV y)) (.agg (stV y))).run Try.prog w = .ok (.bool false) w := fun w => by rw [neqSt, hys]; rfl
    clear hys hok
    go_wp2_with (first | ((with_reducible refine wl_load 23 (.tmp 7) ?_ ?_); (with_reducible rfl); refine sv_loadW 23 (.tmp 7) rfl rfl w3.heap.size (stV y) _ _ 2 rfl bw5 Try.underlying23 rfl zSt_size rfl ?_; (try simp only [Act.put, List.setIfInBounds_toArray, List.set_cons_zero, List.set_cons_succ])) | ((with_reducible refine wl_load 23 (.tmp 4) ?_ ?_); (with_reducible rfl); refine sv_loadW 23 (.tmp 4) rfl rfl w.heap.size (stV y) _ _ 2 rfl d5 Try.underlying23 rfl zSt_size rfl ?_; (try simp only [Act.put, List.setIfInBounds_toArray, List.set_cons_zero, List.set_cons_succ])))
    refine (hbc.out _ kk5).mono ?_
    rintro e w6 ⟨r, rfl, hrb, k6⟩
    have d6 := Lib.hid (d5.keep k6 (by simp))
    have kk6 := kk5.trans k6
    clear d5 bw5 kk5 k6 hnq hbc
    replace hrb := Lib.hid hrb
    cases r
    rotate_left
    · have HN : Hid (okOp y l = false) := Lib.hid (by
        unfold okOp
        have h1 : l.all rightBlock = false := by
          cases h : l.all rightBlock with
          | false => rfl
          | true => exact absurd (hrb.out.2 (fun x hx => (okB_iff x).2 (List.all_eq_true.1 h x hx))) (by simp)
        rw [h1, Bool.and_false])
      go_wp2
      go_ret
      obtain ⟨rfl, rfl, rfl, rfl⟩ := hbad.out (HN.out)
      exact ⟨rfl, hS0.out _ _ (kk6.mono (by simp)) (hp.out.keepS kk6 (by simp))⟩
    have hok : Hid (okOp y l = true) := Lib.hid (by
      unfold okOp
      rw [hrS.out, List.all_eq_true.2 (fun x hx => (okB_iff x).1 (hrb.out.1 rfl x hx))]; rfl)
    replace hgood := Lib.hid (hgood.out hok.out)
    clear hok hrb hrS hbad
    have l6 := kk6.size
    have hl6 := Lib.hid (hl.out.keep (kk6.at _ (by simp)))
    go_wp2_with fail
    go_loopw [9, 35] (fun r i wr => ∃ k : Nat, k ≤ l.length ∧ i = .int .i64 k ∧ Keep [] w6 wr ∧ ∃ B ws d, r = .slice B ws.length d ∧ ws.length ≤ k ∧ Hid (Own Rep.str 9 wr w6.heap.size (.slice B ws.length d) ws) ∧ Hid (ws = (l.take k).map brecF)) (fun _ i _ => l.length - (intOf i).toNat)
    case atStart => exact ⟨0, Nat.zero_le _, rfl, Keep.refl _ _, none, [], 0, rfl, Nat.le_refl _, Lib.hid (Own.nil _ _ _ _), Lib.hid (by simp)⟩
    case round =>
      obtain ⟨k, hk, rfl, k7, B, ws, d, rfl, hwl, hown, hws⟩ := hrel
      by_cases hlt : k < l.length
      · have hltz : (k : Int) < (l.length : Int) := by omega
        obtain ⟨g, o, v1, v2, rfl, hr, hi3, hsg, hrq⟩ := (hl6.out.keep (k7.at _ (by simp))).bk_at hlt
        have hz := hbr.out _ (List.getElem_mem hlt)
        have hw2 : Hid (ws ++ [brecF l[k]] = (l.take (k + 1)).map brecF) := Lib.hid (by rw [List.take_succ_eq_append_getElem hlt, List.map_append, hws.out]; rfl)
        generalize l[k] = b at *
        obtain ⟨B1, d1, rfl, -⟩ := hsg.form
        obtain ⟨B2, d2, rfl, -⟩ := hrq.form
        replace hr := Lib.hid hr
        replace hsg := Lib.hid hsg
        replace hrq := Lib.hid hrq
        replace hz := Lib.hid hz
        clear hi3
        go_wp2_with (first | ((with_reducible refine wl_load 29 (.tmp 37) ?_ ?_); (with_reducible rfl); refine sx_loadR rfl 29 (.tmp 37) rfl g (o + k * 6) (bkV b (.slice B1 b.j.sg.length d1) (.slice B2 b.q.length d2)) _ 6 rfl hr.out Try.underlying29 rfl zBk_size rfl ?_; (try simp only [Act.put, List.setIfInBounds_toArray, List.set_cons_zero, List.set_cons_succ])) | ((with_reducible refine wl_alloc 29 ?_ ?_); (with_reducible rfl); refine sx_alloc rfl 29 rfl _ 6 zBv zBk_info rfl ?_; intro w8 bw8 kw8 zw8; clear zw8; (try simp only [Act.put, List.setIfInBounds_toArray, List.set_cons_zero, List.set_cons_succ])) | ((with_reducible refine wl_store 29 (.tmp 11) (.tmp 38) ?_ ?_); (with_reducible rfl); refine sx_storeW rfl 29 (.tmp 11) (.tmp 38) rfl wr.heap.size (bkV b (.slice B1 b.j.sg.length d1) (.slice B2 b.q.length d2)) zBv _ 6 rfl rfl bw8 zBk_size rfl rfl rfl ?_; intro w9 bw9 kw9 zw9; clear zw9; (try simp only [Act.put, List.setIfInBounds_toArray, List.set_cons_zero, List.set_cons_succ])) | ((with_reducible refine wl_load 29 (.tmp 11) ?_ ?_); (with_reducible rfl); refine sx_loadW rfl 29 (.tmp 11) rfl wr.heap.size (bkV b (.slice B1 b.j.sg.length d1) (.slice B2 b.q.length d2)) _ _ 6 rfl bw9 Try.underlying29 rfl zBk_size rfl ?_; (try simp only [Act.put, List.setIfInBounds_toArray, List.set_cons_zero, List.set_cons_succ])))
        have k79 : Keep [] wr w9 := kw8.new kw9 (fun i hi => .inr (by simp at hi; omega))
        refine (brecord_call b _ _ G _ (hsg.out.keep (k79.at _ (by simp))) (hrq.out.keep (k79.at _ (by simp))) (by have := hz.out; omega)).mono ?_
        rintro e wa ⟨rfl, ka⟩
        have k7a := k79.trans ka
        have kk7 := k7.trans k7a
        have sa := kk7.size
        have oa := Lib.hid (hown.out.keep k7a (by simp))
        have hbs : (brecF b).size ≤ 140737488355328 := by have := hz.out; unfold brecF; rw [ByteArray.size_append]; show 1 + _ ≤ _; omega
        generalize brecF b = rc at *
        replace hbs := Lib.hid hbs
        have hlt9 := oa.out.lt
        replace hlt9 := Lib.hid hlt9
        clear bw8 bw9 kw8 kw9 k79 ka k7a hown hr hsg hrq hz
        go_wp2_with (at_builtin; refine wpList_app Rep.str rfl (.tmp 39) (.tmp 42) 35 9 _ 16 w6.heap.size rfl Try.underlying35 infoStrS rfl (by decide) (by decide) _ (.slice B ws.length d) ws rc #[.string rc] rfl rfl oa.out ⟨rfl, by have := hbs.out; unfold M47; omega⟩ (by simp [Value.oneCell']) (by omega) (by omega) ?_; intro gg cap wb hob hgb hatb hltb hlob; have kb : Keep [] w6 wb := kk7.grown hgb (fun i hi => .inr (hlt9.out i hi).1); clear hgb hatb; replace hob := Lib.hid hob)
        go_roundw
        case rel => exact ⟨k + 1, by omega, by go_num, kb, some ⟨gg, 0, none⟩, ws ++ [rc], cap, by simp, by simp; omega, Lib.hid (by have := hob.out; simpa using this), hw2⟩
        case measure => simp [intOf]; omega
      · have hltz : ¬ (k : Int) < (l.length : Int) := by omega
        obtain rfl : k = l.length := by omega
        rw [List.take_length] at hws
        have d7 := d6.out.keep k7 (by simp)
        have kk7 := kk6.trans k7
        have h7 := Lib.hid (hm.out.keep kk7 (by simp))
        have l7 := k7.size
        clear hl6
        go_upto_region 10 with fail
        go_cut [50] (fun u wx => u = .bool !(sameS y st) ∧ Keep [] wr wx)
        case first =>
          have hnq : ∀ w, (binOp .neq 23 (.agg (stV y)) (.agg (stV st))).run Try.prog w = .ok (.bool !(sameS y st)) w := neqSt y st
          generalize sameS y st = sq at *
          refine wp_region_any (by kernel_rfl) ?_
          (try (change wpAny _ _ _ _ _ _ _ (World.drew _)))
          have K0 : Keep [] wr wr.drew := (Keep.refl [] wr).drew
          generalize World.drew wr = u0 at *
          refine wpAny_take (i := 1) (v := ?_) rfl (by kernel_rfl) (by kernel_rfl) (by kernel_rfl) (fun _ _ _ h => h) (Or.inl ⟨by rfl, ?_⟩) ?_
          rotate_left
          · intro w9
            go_simp
            with_reducible rfl
          refine wpAny_take (i := 2) (v := ?_) rfl (by kernel_rfl) (by kernel_rfl) (by kernel_rfl) (fun _ _ _ h => h) (Or.inl ⟨by rfl, ?_⟩) ?_
          rotate_left
          · intro w9
            go_simp
            with_reducible rfl
          refine wpAny_take (i := 3) (v := ?_) rfl (by kernel_rfl) (by kernel_rfl) (by kernel_rfl) (fun _ _ _ h => h) (Or.inl ⟨by rfl, ?_⟩) ?_
          rotate_left
          · intro w9
            go_simp
            with_reducible rfl
          refine wpAny_ready (rs := [0, 4]) (by kernel_rfl) (by simp) ?_
          refine AllReady.consS rfl (fun K hK => ?_) ?_
          · refine stp_load rfl 23 (.tmp 4) rfl w.heap.size 0 (stV y) (stV y) _ _ 2 rfl (d7.keep K0 (by simp)) rfl Try.underlying23 rfl zSt_size rfl ?_
            refine hK _ _ ?_
            clear hK K
            refine wpAny_ready (rs := [4]) (by kernel_rfl) (by simp) ?_
            refine AllReady.consS rfl (fun K hK => ?_) ?_
            · refine stp_load rfl 23 (.tmp 48) rfl m 1 (stoV p st (.slice V0 bs.length cv)) (stV st) _ _ 2 rfl (h7.out.keep K0 (by simp)) rfl Try.underlying23 rfl zSt_size rfl ?_
              refine hK _ _ ?_
              clear hK K
              refine wpAny_take (i := 5) (v := ?_) rfl (by kernel_rfl) (by kernel_rfl) (by kernel_rfl) (fun _ _ _ h => h) (Or.inl ⟨by rfl, ?_⟩) ?_
              rotate_left
              · intro w9
                go_simp
                with_reducible rfl
              refine wpAny_done (by kernel_rfl) ?_ _
              go_wp2
              go_meet
              exact ⟨rfl, K0⟩
            exact AllReady.nil
          refine AllReady.consS rfl (fun K hK => ?_) ?_
          · refine stp_load rfl 23 (.tmp 48) rfl m 1 (stoV p st (.slice V0 bs.length cv)) (stV st) _ _ 2 rfl (h7.out.keep K0 (by simp)) rfl Try.underlying23 rfl zSt_size rfl ?_
            refine hK _ _ ?_
            clear hK K
            refine wpAny_ready (rs := [0]) (by kernel_rfl) (by simp) ?_
            refine AllReady.consS rfl (fun K hK => ?_) ?_
            · refine stp_load rfl 23 (.tmp 4) rfl w.heap.size 0 (stV y) (stV y) _ _ 2 rfl (d7.keep K0 (by simp)) rfl Try.underlying23 rfl zSt_size rfl ?_
              refine hK _ _ ?_
              clear hK K
              refine wpAny_take (i := 5) (v := ?_) rfl (by kernel_rfl) (by kernel_rfl) (by kernel_rfl) (fun _ _ _ h => h) (Or.inl ⟨by rfl, ?_⟩) ?_
              rotate_left
              · intro w9
                go_simp
                with_reducible rfl
              refine wpAny_done (by kernel_rfl) ?_ _
              go_wp2
              go_meet
              exact ⟨rfl, K0⟩
            exact AllReady.nil
          exact AllReady.nil
        case rest =>
          rename World => w8
          obtain ⟨rfl, k8⟩ := hcut
          have d8 := d7.keep k8 (by simp)
          have kk8 := kk7.trans k8
          have k68 := k7.trans k8
          have l8 := k68.size
          have o8 := Lib.hid (hown.out.keep k8 (by simp))
          have hlt9 := Lib.hid o8.out.lt
          clear d7 kk7 k7 k8 h7 hown
          have hrec : Hid (recsOf st y l = ws ++ (if sameS y st = true then [] else [recF y])) := Lib.hid (by unfold recsOf; rw [hws.out])
          obtain ⟨RS, hRS⟩ : ∃ RS, RS = recsOf st y l := ⟨_, rfl⟩
          rw [← hRS] at hgood hrec
          have hRL : RS.length ≤ 1001 := by rw [hrec.out, List.length_append]; split <;> simp <;> omega
          replace hRS := Lib.hid hRS
          (try (go_upto_if 50 with fail))
          go_cut [9] (fun u wx => ∃ B9 d9, u = .slice B9 RS.length d9 ∧ Hid (Own Rep.str 9 wx w6.heap.size (.slice B9 RS.length d9) RS) ∧ Keep [] w6 wx)
          case first =>
            cases hsq : sameS y st with
            | false =>
              rw [hsq] at hrec
              clear hsq
              have hbs : (recF y).size ≤ 140737488355328 := by unfold recF; rw [ByteArray.size_append, stF_size]; show 1 + 8 ≤ _; omega
              go_wp2_with (first | ((with_reducible refine wl_load 23 (.tmp 4) ?_ ?_); (with_reducible rfl); refine sx_loadW rfl 23 (.tmp 4) rfl w.heap.size (stV y) _ _ 2 rfl d8 Try.underlying23 rfl zSt_size rfl ?_; (try simp only [Act.put, List.setIfInBounds_toArray, List.set_cons_zero, List.set_cons_succ])))
              refine (record_call y _).mono ?_
              rintro e w9 ⟨rfl, k9⟩
              have o9 := Lib.hid (o8.out.keep k9 (by simp))
              have k69 := k68.trans k9
              have s9 := k69.size
              have hre : Hid (RS = ws ++ [recF y]) := Lib.hid (by have := hrec.out; simpa using this)
              clear hrec o8
              generalize recF y = rc at *
              replace hbs := Lib.hid hbs
              go_wp2_with (at_builtin; refine wpList_app Rep.str rfl (.tmp 51) (.tmp 54) 35 9 _ 16 w6.heap.size rfl Try.underlying35 infoStrS rfl (by decide) (by decide) _ (.slice B ws.length d) ws rc #[.string rc] rfl rfl o9.out ⟨rfl, by have := hbs.out; unfold M47; omega⟩ (by simp [Value.oneCell']) (by omega) (by omega) ?_; intro gg cap wb hob hgb hatb hltb hlob; have kb : Keep [] w6 wb := k69.grown hgb (fun i hi => .inr (hlt9.out i hi).1); clear hgb hatb; replace hob := Lib.hid hob)
              go_meet
              exact ⟨some ⟨gg, 0, none⟩, cap, by rw [hre.out]; simp, Lib.hid (by have := hob.out; rw [hre.out]; simpa using this), kb⟩
            | true =>
              rw [hsq] at hrec
              clear hsq
              have hre : Hid (RS = ws) := Lib.hid (by have := hrec.out; simpa using this)
              clear hrec
              go_wp2
              go_meet
              exact ⟨B, d, by rw [hre.out], Lib.hid (by rw [hre.out]; exact o8.out), k68⟩
          case rest =>
            rename World => w9
            obtain ⟨B9, d9, rfl, ho9, k69⟩ := hcut
            clear o8 hrec hlt9 hws d8 kk8 k68
            have kk9 := kk6.trans k69
            have l9 := k69.size
            have p9 := Lib.hid (hp.out.keepS kk9 (by simp))
            have hrow := Lib.hid (ho9.out.slice (by unfold M47; omega))
            clear ho9
            go_wp2_with fail
            go_loopw [13, 58] (fun _ i wx => ∃ k : Nat, k ≤ RS.length ∧ i = .int .i64 k ∧ Keep [p] w9 wx ∧ Hid (LogAt wx p (appsF x (RS.take k)).2) ∧ Hid ((appsF x (RS.take k)).1 = 0)) (fun _ i _ => RS.length - (intOf i).toNat)
            case atStart => exact ⟨0, Nat.zero_le _, rfl, Keep.refl _ _, p9, Lib.hid rfl⟩
            case round =>
              rename World => wx
              obtain ⟨k, hk, rfl, kx, px, hz⟩ := hrel
              have kkx : Keep [p] w wx := (kk9.mono (by simp)).trans kx
              have hmx := Lib.hid (Blk.keep hm.out kkx (by simpa using hmp.out))
              have cm : wx.cell? ⟨m, 0, none⟩ = some (.pointer (some ⟨p, 0, none⟩)) := Blk.cell hmx.out 0
              by_cases hlt : k < RS.length
              · have hltz : (k : Int) < (RS.length : Int) := by omega
                obtain ⟨g, o, rfl, cs, hs47⟩ := (hrow.out.keep (kx.at _ (fun i hi hf => by simp at hi; have h : w6.heap.size ≤ i := hf; omega))).str_at hlt
                have hat := appsF_at hlt hz.out
                obtain ⟨hx1, hx2, -⟩ := appsF_ok (RS.take k) x hf.out
                rw [List.length_take] at hx2
                generalize RS[k] = r at *
                generalize (appsF x (RS.take k)).2 = xk at *
                replace hat := Lib.hid hat
                replace hx1 := Lib.hid hx1
                go_wp2_with fail
                refine (append_call p xk r _ px.out hx1.out hs47 (by omega)).mono ?_
                generalize appF xk r = ap at *
                obtain ⟨ea, xa⟩ := ap
                dsimp only at *
                rintro e w12 ⟨rfl, h12, k12⟩
                replace h12 := Lib.hid h12
                by_cases hea : ea = 0
                · subst hea
                  go_wp2
                  go_roundw
                  case rel => exact ⟨k + 1, by omega, by go_num, kx.trans k12, Lib.hid (by rw [hat.out.1]; exact h12.out), Lib.hid (by rw [hat.out.1])⟩
                  case measure => simp [intOf]; omega
                · have HE : Hid ((er0, lo0, so, bo) = (ea, xa, st, bs)) := Lib.hid (by
                    rw [hgood.out]
                    unfold writeF
                    rw [hat.out.2 hea]
                    dsimp only
                    rw [if_neg hea]
                    unfold doneF
                    rw [if_neg hea])
                  have q1 : (ea != 0) = true := bne_iff_ne.2 hea
                  have q2 : (ea == 0) = false := beq_eq_false_iff_ne.2 hea
                  go_wp2
                  go_ret
                  obtain ⟨rfl, rfl, rfl, rfl⟩ : er0 = ea ∧ lo0 = xa ∧ so = st ∧ bo = bs := by simpa using HE.out
                  exact ⟨rfl, hS0.out _ _ (kkx.trans k12) h12.out⟩
              · have hltz : ¬ (k : Int) < (RS.length : Int) := by omega
                obtain rfl : k = RS.length := by omega
                rw [List.take_length] at px hz
                have hx1 := (appsF_ok RS x hf.out).1
                have hg2 := hgood.out
                unfold writeF at hg2
                rw [if_pos hz.out] at hg2
                generalize appsF x RS = z at *
                obtain ⟨z1, xk⟩ := z
                dsimp only at *
                obtain rfl : z1 = 0 := hz.out
                replace hg2 := Lib.hid hg2
                replace hx1 := Lib.hid hx1
                clear hgood hz hrow p9
                go_upto_if 74 with fail
                go_cut [] (fun wy => ∃ z, Hid ((er0, lo0, so, bo) = (0, z, gtF st y, bs ++ l)) ∧ Hid (LogAt wy p z) ∧ Keep [p] wx wy)
                case first =>
                  by_cases h0 : 0 < RS.length
                  · have h0z : (0 : Int) < (RS.length : Int) := by omega
                    have h0d : decide ((0 : Int) < (RS.length : Int)) = true := decide_eq_true h0z
                    have hne : ¬ RS = [] := fun e => by rw [e] at h0; simp at h0
                    rw [if_neg hne] at hg2
                    clear hne
                    go_wp2_with fail
                    refine (sync_call p xk _ px.out hx1.out).mono ?_
                    generalize syncF xk = sy at *
                    obtain ⟨es, xs⟩ := sy
                    dsimp only at *
                    rintro e w13 ⟨rfl, h13, k13⟩
                    replace h13 := Lib.hid h13
                    by_cases hes : es = 0
                    · subst hes
                      go_wp2
                      go_meet
                      exact ⟨xs, Lib.hid (by rw [hg2.out]; rfl), h13, k13⟩
                    · have HE : Hid ((er0, lo0, so, bo) = (es, xs, st, bs)) := Lib.hid (by rw [hg2.out]; unfold doneF; rw [if_neg hes])
                      have q1 : (es != 0) = true := bne_iff_ne.2 hes
                      have q2 : (es == 0) = false := beq_eq_false_iff_ne.2 hes
                      go_wp2
                      go_ret
                      obtain ⟨rfl, rfl, rfl, rfl⟩ : er0 = es ∧ lo0 = xs ∧ so = st ∧ bo = bs := by simpa using HE.out
                      exact ⟨rfl, hS0.out _ _ (kkx.trans k13) h13.out⟩
                  · have h0z : ¬ (0 : Int) < (RS.length : Int) := by omega
                    have h0d : decide ((0 : Int) < (RS.length : Int)) = false := decide_eq_false h0z
                    have hne : RS = [] := List.eq_nil_of_length_eq_zero (by omega)
                    rw [if_pos hne] at hg2
                    clear hne
                    go_wp2
                    go_meet
                    exact ⟨xk, Lib.hid (by rw [hg2.out]; rfl), px, Keep.refl _ _⟩
                case rest =>
                  rename World => wy
                  obtain ⟨z, HE, py, ky⟩ := hcut
                  obtain ⟨rfl, rfl, rfl, rfl⟩ : er0 = 0 ∧ lo0 = z ∧ so = gtF st y ∧ bo = bs ++ l := by simpa using HE.out
                  have kky := kkx.trans ky
                  have s13 := kky.size
                  have h13 := Lib.hid (Blk.keep hm.out kky (by simpa using hmp.out))
                  have d13 := Lib.hid (((d6.out.keep k69 (by simp)).keep kx (by simp; omega)).keep ky (by simp; omega))
                  clear hg2 hmx cm px HE d6 hbr hS0 hx1
                  go_upto_region 23 with fail
                  go_cut [] (fun wz => Hid (Blk wz m (stoV p (gtF st y) (.slice V0 bs.length cv)) 75) ∧ Keep [m] wy wz)
                  case first =>
                    refine wp_region_any (by kernel_rfl) ?_
                    (try (change wpAny _ _ _ _ _ _ _ (World.drew _)))
                    have K0 : Keep [] wy wy.drew := (Keep.refl [] wy).drew
                    generalize World.drew wy = u0 at *
                    refine wpAny_take (i := 0) (v := ?_) rfl (by kernel_rfl) (by kernel_rfl) (by kernel_rfl) (fun _ _ _ h => h) (Or.inl ⟨by rfl, ?_⟩) ?_
                    rotate_left
                    · intro w9
                      go_simp
                      with_reducible rfl
                    refine wpAny_take (i := 1) (v := ?_) rfl (by kernel_rfl) (by kernel_rfl) (by kernel_rfl) (fun _ _ _ h => h) (Or.inl ⟨by rfl, ?_⟩) ?_
                    rotate_left
                    · intro w9
                      go_simp
                      with_reducible rfl
                    refine wpAny_take (i := 2) (v := ?_) rfl (by kernel_rfl) (by kernel_rfl) (by kernel_rfl) (fun _ _ _ h => h) (Or.inl ⟨by rfl, ?_⟩) ?_
                    rotate_left
                    · intro w9
                      go_simp
                      with_reducible rfl
                    refine wpAny_take (i := 3) (v := ?_) rfl (by kernel_rfl) (by kernel_rfl) (by kernel_rfl) (fun _ _ _ h => h) (Or.inl ⟨by rfl, ?_⟩) ?_
                    rotate_left
                    · intro w9
                      go_simp
                      with_reducible rfl
                    refine wpAny_ready (rs := [4, 5]) (by kernel_rfl) (by simp) ?_
                    refine AllReady.consS rfl (fun K hK => ?_) ?_
                    · refine stp_load rfl 23 (.tmp 86) rfl m 1 (stoV p st (.slice V0 bs.length cv)) (stV st) _ _ 2 rfl (h13.out.keep K0 (by simp)) rfl Try.underlying23 rfl zSt_size rfl ?_
                      refine hK _ _ ?_
                      clear hK K
                      refine wpAny_ready (rs := [5]) (by kernel_rfl) (by simp) ?_
                      refine AllReady.consS rfl (fun K hK => ?_) ?_
                      · refine stp_load rfl 23 (.tmp 4) rfl w.heap.size 0 (stV y) (stV y) _ _ 2 rfl (d13.out.keep K0 (by simp)) rfl Try.underlying23 rfl zSt_size rfl ?_
                        refine hK _ _ ?_
                        clear hK K
                        refine wpAny_ready (rs := [6]) (by kernel_rfl) (by simp) ?_
                        refine AllReady.consS rfl (fun K hK => ?_) ?_
                        · refine Stp.mk ?_
                          go_simp
                          go_at_call 36
                          refine (greater_call st y _).mono ?_
                          rintro e u1 ⟨rfl, kN⟩
                          have K1 := K0.trans kN
                          clear kN
                          refine hK _ _ ?_
                          clear hK K
                          refine wpAny_take (i := 7) (v := ?_) rfl (by kernel_rfl) (by kernel_rfl) (by kernel_rfl) (fun _ _ _ h => h) (Or.inl ⟨by rfl, ?_⟩) ?_
                          rotate_left
                          · intro w9
                            go_simp
                            with_reducible rfl
                          refine wpAny_take (i := 8) (v := ?_) rfl (by kernel_rfl) (by kernel_rfl) (by kernel_rfl) (fun _ _ _ h => h) (Or.inl ⟨by rfl, ?_⟩) ?_
                          rotate_left
                          · intro w9
                            go_simp
                            with_reducible rfl
                          refine wpAny_ready (rs := [9]) (by kernel_rfl) (by simp) ?_
                          refine AllReady.consS rfl (fun K hK => ?_) ?_
                          · refine stp_store rfl 23 (.tmp 91) (.tmp 89) rfl m 1 (stV (gtF st y)) (stoV p st (.slice V0 bs.length cv)) (stoV p (gtF st y) (.slice V0 bs.length cv)) _ rfl rfl (h13.out.keep K1 (by simp)) zSt_size (by simp) rfl (by rfl) ?_
                            intro u2 bN kN zN
                            clear zN
                            have K2 : Keep [m] wy u2 := (K1.mono (by simp)).trans kN
                            have BB := Lib.hid bN
                            clear bN kN
                            refine hK _ _ ?_
                            clear hK K
                            refine wpAny_done (by kernel_rfl) ?_ _
                            go_wp2
                            go_meet
                            exact ⟨BB, K2⟩
                          exact AllReady.nil
                        exact AllReady.nil
                      exact AllReady.nil
                    refine AllReady.consS rfl (fun K hK => ?_) ?_
                    · refine stp_load rfl 23 (.tmp 4) rfl w.heap.size 0 (stV y) (stV y) _ _ 2 rfl (d13.out.keep K0 (by simp)) rfl Try.underlying23 rfl zSt_size rfl ?_
                      refine hK _ _ ?_
                      clear hK K
                      refine wpAny_ready (rs := [4]) (by kernel_rfl) (by simp) ?_
                      refine AllReady.consS rfl (fun K hK => ?_) ?_
                      · refine stp_load rfl 23 (.tmp 86) rfl m 1 (stoV p st (.slice V0 bs.length cv)) (stV st) _ _ 2 rfl (h13.out.keep K0 (by simp)) rfl Try.underlying23 rfl zSt_size rfl ?_
                        refine hK _ _ ?_
                        clear hK K
                        refine wpAny_ready (rs := [6]) (by kernel_rfl) (by simp) ?_
                        refine AllReady.consS rfl (fun K hK => ?_) ?_
                        · refine Stp.mk ?_
                          go_simp
                          go_at_call 36
                          refine (greater_call st y _).mono ?_
                          rintro e u1 ⟨rfl, kN⟩
                          have K1 := K0.trans kN
                          clear kN
                          refine hK _ _ ?_
                          clear hK K
                          refine wpAny_take (i := 7) (v := ?_) rfl (by kernel_rfl) (by kernel_rfl) (by kernel_rfl) (fun _ _ _ h => h) (Or.inl ⟨by rfl, ?_⟩) ?_
                          rotate_left
                          · intro w9
                            go_simp
                            with_reducible rfl
                          refine wpAny_take (i := 8) (v := ?_) rfl (by kernel_rfl) (by kernel_rfl) (by kernel_rfl) (fun _ _ _ h => h) (Or.inl ⟨by rfl, ?_⟩) ?_
                          rotate_left
                          · intro w9
                            go_simp
                            with_reducible rfl
                          refine wpAny_ready (rs := [9]) (by kernel_rfl) (by simp) ?_
                          refine AllReady.consS rfl (fun K hK => ?_) ?_
                          · refine stp_store rfl 23 (.tmp 91) (.tmp 89) rfl m 1 (stV (gtF st y)) (stoV p st (.slice V0 bs.length cv)) (stoV p (gtF st y) (.slice V0 bs.length cv)) _ rfl rfl (h13.out.keep K1 (by simp)) zSt_size (by simp) rfl (by rfl) ?_
                            intro u2 bN kN zN
                            clear zN
                            have K2 : Keep [m] wy u2 := (K1.mono (by simp)).trans kN
                            have BB := Lib.hid bN
                            clear bN kN
                            refine hK _ _ ?_
                            clear hK K
                            refine wpAny_done (by kernel_rfl) ?_ _
                            go_wp2
                            go_meet
                            exact ⟨BB, K2⟩
                          exact AllReady.nil
                        exact AllReady.nil
                      exact AllReady.nil
                    exact AllReady.nil
                  case rest =>
                    rename World => wz
                    obtain ⟨b14, k14⟩ := hcut
                    have kk14 : Keep [m, p] w wz := (kky.mono (fun i _ hi => by simp at hi ⊢; simp [hi])).trans (k14.mono (fun i _ hi => by simp at hi ⊢; simp [hi]))
                    have l14 := kk14.size
                    have hrow14 := Lib.hid (hv.out.keepS kk14 (fun i hi => ⟨fun e => by have := hvm.out i e; simp at hi; omega, fun g => by have := hG.out i g; simp at hi; omega⟩))
                    have hl14 := Lib.hid (hl.out.keep (kk14.at G (fun i hi g => by have := hG.out i g; simp at hi; omega)))
                    have hG14 : Hid (∀ k, G k → k < wz.heap.size) := Lib.hid (fun k g => by have := hG.out k g; omega)
                    have c3 : wz.cell? ⟨m, 3, none⟩ = some (.slice V0 bs.length cv) := b14.out.cell 3
                    have hmo : Hid (m ∉ (Value.slice V0 bs.length cv).ownBlock.toList) := Lib.hid (fun h => (hvm.out m (Option.mem_toList.1 h)).1 rfl)
                    have hpo : Hid (p ∉ (Value.slice V0 bs.length cv).ownBlock.toList) := Lib.hid (fun h => (hvm.out p (Option.mem_toList.1 h)).2 rfl)
                    clear h13 d13
                    go_wp2_with (at_builtin; refine wl_appX rfl (.tmp 96) (.tmp 97) rfl G (.slice V0 bs.length cv) bs l A c rfl rfl hrow14.out (SliceOf.reads hl14.out) hG14.out (by omega) ?_; intro B15 cap15 w15 h15 k15 n15; have b15 := Lib.hid (b14.out.keep k15 hmo.out); have c15 : w15.cell? ⟨m, 3, none⟩ = some (.slice V0 bs.length cv) := b15.out.cell 3; have f15 := b15.out.frozen 3; replace h15 := Lib.hid h15; replace k15 := Lib.hid k15; replace n15 := Lib.hid n15; clear c3)
                    go_ret
                    have p15 := (py.out.keepS k14 (by simpa using fun e => hmp.out e.symm)).keepS k15.out hpo.out
                    have hz := b15.out.set 3 (.slice B15 (bs.length + l.length) cap15)
                    refine ⟨rfl, ⟨Blk.other p15 _ _ (fun e => hmp.out e.symm), ⟨_, ?_, h15.out.keep ?_, ?_⟩, ?_⟩⟩
                    · unfold StAt
                      simpa using hz
                    · intro k hk hkl
                      refine Below.heap_setCell _ _ _ _ (fun e => ?_)
                      rcases hk with hk | hk
                      · rcases n15.out with h | h
                        · exact (hvm.out k (h ▸ hk)).1 e
                        · rw [h] at hk
                          have e2 : wz.heap.size = k := by simpa using hk
                          have e3 : k = m := e
                          omega
                      · exact (hG.out k hk).2.1 e
                    · rcases n15.out with h | h
                      · exact .inl h
                      · exact .inr ⟨_, h, by omega⟩
                    · exact ((kk14.mono (fun i _ hi => by simp at hi ⊢; omega)).trans (k15.out.mono (fun i _ hi => by simp at hi ⊢; simp [hi]))).setCell _ _ (.inl (by simp))
end Go.Proofs.Ytdhhibppcckbkaa
namespace Go.Proofs.Ytdhhibppcckbkaa
open Go.RowKit
set_option linter.unusedVariables false
set_option linter.unusedSimpArgs false
/-! a save; whether it may be; whether saves are few -/
structure Op10 where
  s : Stt
  l : List Bk
  fu : Bool
  n : Int
  cr : Bool
  ke : Int
abbrev opV10 (x : Op10) (v : Value) : Array Value := #[.int .i64 x.s.v, .int .i64 x.s.l, v, .bool x.fu, .int .i64 x.n, .bool x.cr, .int .i64 x.ke]
def Rep.op10 : Rep Op10 where
  sz := 7
  R := fun w F x cs => ∃ v, cs = (opV10 x v).toList ∧ I64 x.s.v ∧ I64 x.s.l ∧ I64 x.n ∧ I64 x.ke ∧ SliceOf Rep.bk w F v x.l
  len := by rintro _ _ _ _ ⟨_, rfl, _⟩; rfl
  keep := fun ⟨v, h, h0, h1, h2, h3, h4⟩ k => ⟨v, h, h0, h1, h2, h3, h4.keep k⟩
  mono := fun ⟨v, h, h0, h1, h2, h3, h4⟩ k => ⟨v, h, h0, h1, h2, h3, h4.mono k⟩
theorem SliceOf.op10_at {w : World} {F : Nat → Prop} {A : Option Addr} {n c : Nat} {xs : List Op10} (h : SliceOf Rep.op10 w F (.slice A n c) xs) {i : Nat} (hi : i < xs.length) :
    ∃ g o v, A = some ⟨g, o, none⟩ ∧ (∀ j y, (opV10 xs[i] v)[j]? = some y → w.cell? ⟨g, o + i * 7 + j, none⟩ = some y) ∧ (I64 xs[i].s.v ∧ I64 xs[i].s.l ∧ I64 xs[i].n ∧ I64 xs[i].ke) ∧ SliceOf Rep.bk w F v xs[i].l ∧ F g := by
  obtain ⟨g, o, cs, rfl, hF, _, ⟨v, rfl, h1, h2, h3, h4, h5⟩, hc⟩ := h.at hi
  exact ⟨g, o, v, rfl, fun j y hj => by rw [Nat.add_assoc]; exact hc j y (by simpa using hj), ⟨h1, h2, h3, h4⟩, h5, hF⟩
theorem zOp10_size : (Try.prog.info? 55).map (·.size) = some 7 := by kernel_rfl
set_option maxHeartbeats 1000000 in
theorem rightState_call (s : Stt) (w : World) : Calls Try.prog 48 #[.agg (stV s)] w fun e w' => e = .returned (.bool (rightS s)) ∧ Keep [] w w' := by
  obtain ⟨v, l⟩ := s
  have HE : Hid (rightS ⟨v, l⟩ = (decide (0 ≤ v) && (decide (v ≤ 1000000) && (decide (0 ≤ l) && decide (l ≤ 1000000))))) := Lib.hid rfl
  generalize rightS ⟨v, l⟩ = out at *
  show Calls Try.prog _ #[.agg #[.int .i64 v, .int .i64 l]] w fun e w' => e = .returned (.bool out) ∧ Keep [] w w'
  go_enter Try.func48, Try.ntmps48
  go_wp2
  all_goals
    go_ret
    refine ⟨?_, (Keep.refl _ _).alloc _⟩
    rw [HE.out]
    (simp [*]; try omega)
set_option maxRecDepth 100000 in
set_option maxHeartbeats 8000000 in
theorem right10_call (x : Op10) (v : Value) (F : Nat → Prop) (w : World) (h : SliceOf Rep.bk w F v x.l) :
    Calls Try.prog 25 #[.agg (opV10 x v)] w fun e w' => e = .returned (.bool (okOp x.s x.l)) ∧ Keep [] w w' := by
  obtain ⟨s, l, fu, n, cr, ke⟩ := x
  dsimp only at *
  obtain ⟨A, c, rfl, hl⟩ := h.form
  have HF : Hid (∀ k (hk : k < l.length), rightBlock l[k] = false → okOp s l = false) := Lib.hid (fun k hk hb => by
    unfold okOp
    have h1 : l.all rightBlock = false := by rw [List.all_eq_false]; exact ⟨l[k], List.getElem_mem hk, by simp [hb]⟩
    rw [h1, Bool.and_false])
  have HT : Hid (l.all rightBlock = true → okOp s l = rightS s) := Lib.hid (fun ha => by unfold okOp; rw [ha, Bool.and_true])
  have HS := Lib.hid h
  clear h
  generalize okOp s l = out at *
  go_enter Try.func25, Try.ntmps25
  go_wp2_with (first | ((with_reducible refine wl_box 55 (.tmp 0) ?_ ?_); (with_reducible rfl); refine sx_box rfl 55 (.tmp 0) rfl (opV10 ⟨s, l, fu, n, cr, ke⟩ (.slice A l.length c)) rfl ?_; intro w0 b0 k0 z0; clear z0; (try simp only [Act.put, List.setIfInBounds_toArray, List.set_cons_zero, List.set_cons_succ])))
  replace b0 := Lib.hid b0
  go_loopw [3] (fun i wr => ∃ m : Nat, m ≤ l.length ∧ i = .int .i64 m ∧ Keep [] w0 wr ∧ Hid ((l.take m).all rightBlock = true)) (fun i _ => l.length - (intOf i).toNat)
  case atStart => exact ⟨0, Nat.zero_le _, rfl, Keep.refl _ _, Lib.hid (by simp)⟩
  case round =>
    obtain ⟨m, hm, rfl, kk, ho⟩ := hrel
    have br := Lib.hid (b0.out.keep kk (by simp))
    have c2 : wr.cell? ⟨w.heap.size, 2, none⟩ = some (.slice A l.length c) := br.out.cell 2
    by_cases hlt : m < l.length
    · have hltz : (m : Int) < (l.length : Int) := by omega
      obtain ⟨g, o, v1, v2, rfl, hr, -, hsg, hrq⟩ := (HS.out.keep ((k0.trans kk).at F (by simp))).bk_at hlt
      have hff := Lib.hid (HF.out m hlt)
      have htt : Hid (rightBlock l[m] = true → (l.take (m + 1)).all rightBlock = true) := Lib.hid (fun hb => by
        rw [List.take_succ_eq_append_getElem hlt, List.all_append, ho.out]; simp [hb])
      generalize l[m] = b at *
      obtain ⟨B1, d1, rfl, -⟩ := hsg.form
      obtain ⟨B2, d2, rfl, -⟩ := hrq.form
      replace hr := Lib.hid hr
      replace hsg := Lib.hid hsg
      replace hrq := Lib.hid hrq
      go_wp2_with (first | ((with_reducible refine wl_load 29 (.tmp 14) ?_ ?_); (with_reducible rfl); refine sx_loadR rfl 29 (.tmp 14) rfl g (o + m * 6) (bkV b (.slice B1 b.j.sg.length d1) (.slice B2 b.q.length d2)) _ 6 rfl hr.out Try.underlying29 rfl zBk_size rfl ?_; (try simp only [Act.put, List.setIfInBounds_toArray, List.set_cons_zero, List.set_cons_succ])))
      refine (rightBlock_call b _ _ F _ hsg.out hrq.out).mono ?_
      rintro e w2 ⟨rfl, k2⟩
      cases hb : rightBlock b with
      | false =>
        have HO := Lib.hid (hff.out hb)
        clear hff htt hb
        go_wp2
        go_ret
        exact ⟨by rw [HO.out]; rfl, (k0.trans kk).trans k2⟩
      | true =>
        have HO := Lib.hid (htt.out hb)
        clear hff htt hb
        go_wp2
        go_roundw
        case rel => exact ⟨m + 1, by omega, by go_num, kk.trans k2, HO⟩
        case measure => simp [intOf]; omega
    · have hltz : ¬ (m : Int) < (l.length : Int) := by omega
      obtain rfl : m = l.length := by omega
      have HO : Hid (out = rightS s) := Lib.hid (HT.out (by have := ho.out; rwa [List.take_length] at this))
      clear ho HF HT
      go_wp2_with (first | ((with_reducible refine wl_load 23 (.tmp 18) ?_ ?_); (with_reducible rfl); refine sx_load rfl 23 (.tmp 18) rfl w.heap.size 0 _ (stV s) _ _ rfl br.out Try.underlying23 rfl zSt_size rfl ?_; (try simp only [Act.put, List.setIfInBounds_toArray, List.set_cons_zero, List.set_cons_succ])))
      refine (rightState_call s _).mono ?_
      rintro e w2 ⟨rfl, k2⟩
      go_wp2
      go_ret
      exact ⟨by rw [HO.out]; rfl, (k0.trans kk).trans k2⟩
def fewOp (x : Op10) : Bool := decide (x.l.length ≤ 5) && x.l.all fewBlock
def few10 (l : List Op10) (n : Nat) : Bool := (l.take 100).all fewOp && decide (l.length ≤ n)
theorem few10_le {l : List Op10} {n : Nat} (h : few10 l n = true) (hn : n ≤ 100) : l.length ≤ n ∧ ∀ x ∈ l, x.l.length ≤ 5 ∧ ∀ b ∈ x.l, fewBlock b = true := by
  simp only [few10, Bool.and_eq_true, decide_eq_true_eq] at h
  obtain ⟨h1, h2⟩ := h
  rw [List.take_of_length_le (by omega)] at h1
  refine ⟨h2, fun x hx => ?_⟩
  have := List.all_eq_true.1 h1 x hx
  simp only [fewOp, Bool.and_eq_true, decide_eq_true_eq] at this
  exact ⟨this.1, fun b hb => List.all_eq_true.1 this.2 b hb⟩
theorem few10_hit {l : List Op10} {n m : Nat} (hm : m < l.length) (h2 : m < 100) (h : fewOp l[m] = false) : few10 l n = false := by
  have : (l.take 100).all fewOp = false := by
    rw [List.all_eq_false]
    refine ⟨l[m], ?_, by simp [h]⟩
    rw [List.mem_take_iff_getElem]
    exact ⟨m, by omega, rfl⟩
  simp [few10, this]
theorem few10_end {l : List Op10} {n : Nat} (h : ∀ j (hj : j < l.length), j < 100 → fewOp l[j] = true) : few10 l n = decide (l.length ≤ n) := by
  have : (l.take 100).all fewOp = true := by
    rw [List.all_eq_true]
    intro x hx
    rw [List.mem_take_iff_getElem] at hx
    obtain ⟨j, hj, rfl⟩ := hx
    exact h j (by omega) (by omega)
  simp [few10, this]
set_option maxRecDepth 100000 in
set_option maxHeartbeats 8000000 in
theorem few10_call (A : Option Addr) (l : List Op10) (c : Nat) (F : Nat → Prop) (n : Nat) (w : World) (hs : SliceOf Rep.op10 w F (.slice A l.length c) l) (hn : n ≤ 100) :
    Calls Try.prog 22 #[.slice A l.length c, .int .i64 (n : Int)] w fun e w' => e = .returned (.bool (few10 l n)) ∧ Keep [] w w' := by
  obtain ⟨_, _, e0, hl⟩ := hs.form
  clear e0
  have HS := Lib.hid hs
  clear hs
  have HH := Lib.hid (fun m (hm : m < l.length) h2 h => few10_hit (n := n) hm h2 h)
  have HN := Lib.hid (fun h => few10_end (l := l) (n := n) h)
  generalize few10 l n = out at *
  go_enter Try.func22, Try.ntmps22
  go_wp2_with fail
  go_loopw [5, 6] (fun i _ wr => ∃ m : Nat, m ≤ l.length ∧ m ≤ 100 ∧ i = .int .i64 m ∧ Keep [] w wr ∧ Hid (∀ j (hj : j < l.length), j < m → fewOp l[j] = true)) (fun i _ _ => l.length - (intOf i).toNat)
  case atStart => exact ⟨0, Nat.zero_le _, by omega, rfl, Keep.refl _ _, Lib.hid (fun j hj h => absurd h (Nat.not_lt_zero _))⟩
  case round =>
    obtain ⟨m, hm, hm2, rfl, kk, ho⟩ := hrel
    by_cases hlt : m < l.length
    · have hltz : (m : Int) < (l.length : Int) := by omega
      by_cases h200 : m < 100
      · have h200z : (m : Int) < 100 := by omega
        obtain ⟨g, o, v, rfl, hr, -, hbl, -⟩ := (HS.out.keep (kk.at F (by simp))).op10_at hlt
        have hq : Hid (fewOp l[m] = true → ∀ j (hj : j < l.length), j < m + 1 → fewOp l[j] = true) := Lib.hid (fun h j hj hjm => by
          by_cases e : j = m
          · subst e; exact h
          · exact ho.out j hj (by omega))
        have hh := Lib.hid (HH.out m hlt h200)
        generalize l[m] = x at *
        obtain ⟨A2, c2, rfl, hx47⟩ := hbl.form
        have c2 : wr.cell? ⟨g, o + m * 7 + 2, none⟩ = some (.slice A2 x.l.length c2) := hr 2 _ rfl
        clear hr ho
        by_cases h5 : 5 < x.l.length
        · have h5z : (5 : Int) < (x.l.length : Int) := by omega
          have he := hh.out (by unfold fewOp; rw [decide_eq_false (by omega)]; rfl)
          subst he
          clear hq hh
          go_wp2
          go_ret
          exact ⟨rfl, kk⟩
        · have h5z : ¬ (5 : Int) < (x.l.length : Int) := by omega
          have hh2 : Hid (∀ k (hk : k < x.l.length), fewBlock x.l[k] = false → out = false) := Lib.hid (fun k hk hb => hh.out (by
            have : x.l.all fewBlock = false := by rw [List.all_eq_false]; exact ⟨x.l[k], List.getElem_mem hk, by simp [hb]⟩
            unfold fewOp; rw [this, Bool.and_false]))
          have hq2 : Hid (x.l.all fewBlock = true → ∀ j (hj : j < l.length), j < m + 1 → fewOp l[j] = true) := Lib.hid (fun h => hq.out (by unfold fewOp; rw [h, decide_eq_true (by omega)]; rfl))
          replace hbl := Lib.hid hbl
          clear hq hh h5
          generalize x.l = bl at *
          go_wp2_with fail
          go_loopw [6] (fun i wq => ∃ k : Nat, k ≤ bl.length ∧ i = .int .i64 k ∧ Keep [] wr wq ∧ Hid ((bl.take k).all fewBlock = true)) (fun i _ => bl.length - (intOf i).toNat)
          case atStart => exact ⟨0, Nat.zero_le _, rfl, Keep.refl _ _, Lib.hid (by simp)⟩
          case round =>
            rename World => wq
            obtain ⟨k, hk, rfl, kq, hoq⟩ := hrel
            have d2 := kq.cell (by simp) c2
            by_cases hlk : k < bl.length
            · have hlkz : (k : Int) < (bl.length : Int) := by omega
              obtain ⟨g2, o2, v1, v2, rfl, hr2, -, hsg, hrq⟩ := (hbl.out.keep (kq.at F (by simp))).bk_at hlk
              have hff := Lib.hid (hh2.out k hlk)
              have htt : Hid (fewBlock bl[k] = true → (bl.take (k + 1)).all fewBlock = true) := Lib.hid (fun hb => by
                rw [List.take_succ_eq_append_getElem hlk, List.all_append, hoq.out]; simp [hb])
              generalize bl[k] = b at *
              obtain ⟨B1, d1, rfl, -⟩ := hsg.form
              obtain ⟨B2, d2', rfl, -⟩ := hrq.form
              replace hr2 := Lib.hid hr2
              replace hsg := Lib.hid hsg
              replace hrq := Lib.hid hrq
              go_wp2_with (first | ((with_reducible refine wl_load 29 (.tmp 40) ?_ ?_); (with_reducible rfl); refine sx_loadR rfl 29 (.tmp 40) rfl g2 (o2 + k * 6) (bkV b (.slice B1 b.j.sg.length d1) (.slice B2 b.q.length d2')) _ 6 rfl hr2.out Try.underlying29 rfl zBk_size rfl ?_; (try simp only [Act.put, List.setIfInBounds_toArray, List.set_cons_zero, List.set_cons_succ])))
              refine (fewBlock_call b _ _ F _ hsg.out hrq.out).mono ?_
              rintro e w2 ⟨rfl, k2⟩
              cases hb : fewBlock b with
              | false =>
                have HO := Lib.hid (hff.out hb)
                clear hff htt hb
                go_wp2
                go_ret
                exact ⟨by rw [HO.out]; rfl, (kk.trans kq).trans k2⟩
              | true =>
                have HO := Lib.hid (htt.out hb)
                clear hff htt hb
                go_wp2
                go_roundw
                case rel => exact ⟨k + 1, by omega, by go_num, kq.trans k2, HO⟩
                case measure => simp [intOf]; omega
            · have hlkz : ¬ (k : Int) < (bl.length : Int) := by omega
              obtain rfl : k = bl.length := by omega
              have HO := Lib.hid (hq2.out (by have := hoq.out; rwa [List.take_length] at this))
              clear hq2 hh2 hoq
              go_wp2
              go_roundw
              case rel => exact ⟨m + 1, by omega, by omega, by go_num, kk.trans kq, HO⟩
              case measure => simp [intOf]; omega
      · have h200z : ¬ (m : Int) < 100 := by omega
        have hbig : ¬ ((l.length : Int) ≤ (n : Int)) := by omega
        have he := HN.out (fun j hj h => ho.out j hj (by omega))
        have he2 : out = false := by rw [he]; simp; omega
        subst he2
        clear he
        go_wp2
        go_ret
        exact ⟨rfl, kk⟩
    · have hltz : ¬ (m : Int) < (l.length : Int) := by omega
      obtain rfl : m = l.length := by omega
      have he := HN.out (fun j hj h => ho.out j hj hj)
      have hd : decide (l.length ≤ n) = decide ((l.length : Int) ≤ (n : Int)) := by simp
      replace he := Lib.hid he
      replace hd := Lib.hid hd
      go_wp2
      go_ret
      exact ⟨by rw [he.out, hd.out]; rfl, kk⟩
end Go.Proofs.Ytdhhibppcckbkaa
namespace Go.Proofs.Ytdhhibppcckbkaa
open Go.RowKit
set_option linter.unusedVariables false
set_option linter.unusedSimpArgs false
/-! what is saved is recalled -/
theorem rightSig_size (x : Sg) (h : rightSig x = true) : (sigF x).size ≤ 120 := by
  unfold rightSig at h
  simp only [Bool.and_eq_true, decide_eq_true_eq, List.all_eq_true] at h
  obtain ⟨⟨⟨h1, -⟩, -⟩, h4⟩ := h
  have h5 := cat_size_le 16 x.ts (fun t ht => by
    have := h1 t (by rwa [List.take_of_length_le (by omega)])
    omega)
  unfold sigF
  rw [ByteArray.size_append, ByteArray.size_append, numF_size, numF_size]
  have h3 : 16 * x.ts.length ≤ 112 := by omega
  omega
theorem rightCert_size (x : Ct) (h : rightCert x = true) : (certF x).size ≤ 900 := by
  unfold rightCert at h
  simp only [Bool.and_eq_true, decide_eq_true_eq, List.all_eq_true] at h
  obtain ⟨⟨⟨-, h32⟩, h7⟩, hall⟩ := h
  have h1 := cat_size_le 120 (x.sg.map sigF) (fun t ht => by
    obtain ⟨s, hs, rfl⟩ := List.mem_map.1 ht
    obtain ⟨i, hi, rfl⟩ := List.getElem_of_mem hs
    have := hall i (List.mem_range.2 hi)
    unfold okAt at this
    rw [List.getElem?_eq_getElem hi] at this
    simp only [Bool.and_eq_true] at this
    exact rightSig_size _ this.1)
  unfold certF
  rw [ByteArray.size_append, ByteArray.size_append, ByteArray.size_append, numF_size, numF_size]
  rw [List.length_map] at h1
  have h3 : 120 * x.sg.length ≤ 840 := by omega
  omega
theorem rightBlock_size (x : Bk) (h : rightBlock x = true) : (blockF x).size ≤ 2000 := by
  obtain ⟨-, -, -, -, hc, -, h3, hq⟩ := (rightBlock_iff x).1 h
  have h1 := cat_size_le 52 (x.q.map reqF) (fun t ht => by
    obtain ⟨r, hr, rfl⟩ := List.mem_map.1 ht
    have := List.all_eq_true.1 hq r hr
    unfold rightReq at this
    simp only [Bool.and_eq_true, decide_eq_true_eq] at this
    have h40 := this.2
    unfold reqF textF
    rw [ByteArray.size_append, ByteArray.size_append, ByteArray.size_append, numF_size, numF_size, numF_size]
    omega)
  have h2 := rightCert_size x.j hc
  rw [List.length_map] at h1
  have h4 : 52 * x.q.length ≤ 156 := by omega
  unfold blockF batchF
  simp only [ByteArray.size_append, numF_size]
  omega
theorem head_one (c : UInt8) (x : ByteArray) (h : 0 < (⟨#[c]⟩ ++ x : ByteArray).size) : ((⟨#[c]⟩ ++ x : ByteArray)[0]'h).toNat = c.toNat := by
  have : (⟨#[c]⟩ ++ x : ByteArray)[0]'h = c := by
    rw [ByteArray.getElem_append_left (by show 0 < 1; omega)]
    rfl
  rw [this]
theorem tail_one (c : UInt8) (x : ByteArray) : (⟨#[c]⟩ ++ x : ByteArray).extract 1 (⟨#[c]⟩ ++ x : ByteArray).size = x :=
  ext_right _ _ _ _ rfl (by rw [ByteArray.size_append]; rfl)
theorem one_pos (c : UInt8) (x : ByteArray) : 0 < (⟨#[c]⟩ ++ x : ByteArray).size := by
  rw [ByteArray.size_append]
  show 0 < 1 + x.size
  omega
theorem rcF_brec (b : Bk) (h : rightBlock b = true) : rcF (brecF b) = .bk b := by
  unfold brecF
  have e := B2_holds b h
  rw [rc_bk (one_pos _ _) (head_one _ _ _) (by rw [tail_one, e]), tail_one, e]
theorem rcF_rec (s : Stt) (h : rightS s = true) : rcF (recF s) = .st s := by
  unfold recF
  have e := readSt_stF s ((rightS_iff s).1 h)
  rw [rc_st (one_pos _ _) (head_one _ _ _) (by rw [tail_one, e]), tail_one, e]
theorem okR_brec (b : Bk) (h : rightBlock b = true) : okR (brecF b) := by
  have := rightBlock_size b h
  unfold okR brecF
  rw [ByteArray.size_append]
  show 1 ≤ 1 + (blockF b).size ∧ 1 + (blockF b).size ≤ 4000
  omega
theorem okR_rec (s : Stt) : okR (recF s) := by
  unfold okR recF
  rw [ByteArray.size_append, stF_size]
  show 1 ≤ 1 + 8 ∧ 1 + 8 ≤ 4000
  omega
theorem recallF_app (T : List ByteArray) : ∀ (R : List ByteArray) (s : Stt) (xs : List Bk), (∀ r ∈ R, rcF r ≠ .no) → recallF (R ++ T) s xs = recallF T (recallF R s xs).1 (recallF R s xs).2
  | [], s, xs, _ => rfl
  | r :: R, s, xs, h => by
    have h1 := h r (by simp)
    have h2 := fun s xs => recallF_app T R s xs (fun x hx => h x (by simp [hx]))
    have hN : ∀ A s xs, recallF (r :: A) s xs = (match rcF r with | .no => (s, xs) | .st t => recallF A (gtF s t) xs | .bk b => recallF A s (xs ++ [b])) := fun _ _ _ => rfl
    rw [List.cons_append, hN, hN]
    cases hr : rcF r with
    | no => exact absurd hr h1
    | st t => exact h2 _ _
    | bk b => exact h2 _ _
theorem recallF_blocks (s : Stt) : ∀ (l : List Bk) (xs : List Bk), (∀ b ∈ l, rightBlock b = true) → recallF (l.map brecF) s xs = (s, xs ++ l)
  | [], xs, _ => by simp [recallF]
  | b :: l, xs, h => by
    have h1 := recallF_blocks s l (xs ++ [b]) (fun x hx => h x (by simp [hx]))
    rw [List.map_cons]
    unfold recallF
    rw [rcF_brec b (h b (by simp))]
    dsimp only
    rw [h1, List.append_assoc]
    rfl
theorem okOp_parts {s : Stt} {l : List Bk} (h : okOp s l = true) : rightS s = true ∧ ∀ b ∈ l, rightBlock b = true := by
  unfold okOp at h
  rw [Bool.and_eq_true] at h
  exact ⟨h.1, List.all_eq_true.1 h.2⟩
theorem recsOf_mem {st s : Stt} {l : List Bk} (h : okOp s l = true) : ∀ r ∈ recsOf st s l, okR r ∧ rcF r ≠ .no := by
  obtain ⟨h1, h2⟩ := okOp_parts h
  intro r hr
  unfold recsOf at hr
  rcases List.mem_append.1 hr with hr | hr
  · obtain ⟨b, hb, rfl⟩ := List.mem_map.1 hr
    exact ⟨okR_brec b (h2 b hb), by rw [rcF_brec b (h2 b hb)]; exact fun e => by cases e⟩
  · split at hr
    · simp at hr
    · obtain rfl : r = recF s := by simpa using hr
      exact ⟨okR_rec s, by rw [rcF_rec s h1]; exact fun e => by cases e⟩
theorem gtF_self (s : Stt) : gtF s s = s := by
  obtain ⟨v, l⟩ := s
  show (⟨max v v, max l l⟩ : Stt) = ⟨v, l⟩
  rw [Int.max_self, Int.max_self]
theorem recallF_recs {st s : Stt} {bs l : List Bk} (h : okOp s l = true) : recallF (recsOf st s l) st bs = (gtF st s, bs ++ l) := by
  obtain ⟨h1, h2⟩ := okOp_parts h
  unfold recsOf
  rw [recallF_app _ _ _ _ (fun r hr => by
    obtain ⟨b, hb, rfl⟩ := List.mem_map.1 hr
    rw [rcF_brec b (h2 b hb)]; exact fun e => by cases e), recallF_blocks st l bs h2]
  dsimp only
  by_cases c : sameS s st = true
  · rw [if_pos c, (sameS_iff s st).1 c, gtF_self]
    rfl
  · rw [if_neg c]
    unfold recallF
    rw [rcF_rec s h1]
    rfl
theorem recsOf_len (st s : Stt) (l : List Bk) : (recsOf st s l).length ≤ l.length + 1 := by
  unfold recsOf
  rw [List.length_append, List.length_map]
  split <;> simp
theorem catT_app (a b : List ByteArray) : catT (a ++ b) = catT a ++ catT b := by
  induction a with
  | nil => show catT b = ⟨#[]⟩ ++ catT b; apply ByteArray.ext; simp
  | cons x a ih => show textF x ++ catT (a ++ b) = textF x ++ catT a ++ catT b; rw [ih, ByteArray.append_assoc]
theorem catT_le : ∀ (l : List ByteArray), (∀ a ∈ l, okR a) → (catT l).size ≤ 4004 * l.length
  | [], _ => by show (0 : Nat) ≤ _; omega
  | a :: l, h => by
    have h1 := catT_le l (fun x hx => h x (by simp [hx]))
    have h2 := (h a (by simp)).2
    show (textF a ++ catT l).size ≤ _
    rw [ByteArray.size_append, textF_size, List.length_cons]
    omega
theorem recs_all' (l : List ByteArray) (h : ∀ a ∈ l, okR a) : recs (catT l) = l ∧ endR (catT l) = (catT l).size ∧ (catT l).extract 0 (endR (catT l)) = catT l := by
  obtain ⟨m, hm, h1, h2, -, -, hj⟩ := recs_cat l h (catT l).size (Nat.le_refl _)
  have e : (catT l).extract 0 (catT l).size = catT l := by simp
  have h3 := hj l.length (Nat.le_refl _) (by rw [List.take_length]; exact Nat.le_refl _)
  obtain rfl : m = l.length := by omega
  rw [e] at h1 h2
  rw [List.take_length] at h1 h2
  exact ⟨h1, h2, by rw [h2]; exact e⟩
/-! a log that has its power -/
theorem appF_good (b : ByteArray) (s : Nat) (r : ByteArray) (h : okR r) : appF ⟨b, s, -1, false⟩ r = (0, ⟨b ++ textF r, s, -1, false⟩) := by
  obtain ⟨h1, h2⟩ := h
  unfold appF
  rw [if_neg (by simp), if_neg (by omega), if_neg (by simp [burnF])]
  rfl
theorem appsF_good (s : Nat) : ∀ (rs : List ByteArray) (b : ByteArray), (∀ r ∈ rs, okR r) → appsF ⟨b, s, -1, false⟩ rs = (0, ⟨b ++ catT rs, s, -1, false⟩)
  | [], b, _ => by show ((0 : Int), (⟨b, s, -1, false⟩ : Lg)) = (0, ⟨b ++ ⟨#[]⟩, s, -1, false⟩); rw [ba_nil]
  | r :: rs, b, h => by
    unfold appsF
    rw [appF_good b s r (h r (by simp)), if_pos rfl, appsF_good s rs _ (fun x hx => h x (by simp [hx]))]
    show ((0 : Int), (⟨b ++ textF r ++ catT rs, s, -1, false⟩ : Lg)) = (0, ⟨b ++ (textF r ++ catT rs), s, -1, false⟩)
    rw [ByteArray.append_assoc]
theorem writeF_good (b : ByteArray) (s : Nat) (rs : List ByteArray) (h : ∀ r ∈ rs, okR r) : writeF ⟨b, s, -1, false⟩ rs = (0, ⟨b ++ catT rs, if rs = [] then s else (b ++ catT rs).size, -1, false⟩) := by
  unfold writeF
  rw [appsF_good s rs b h, if_pos rfl]
  by_cases c : rs = []
  · rw [if_pos c, if_pos c]
  · rw [if_neg c, if_neg c]
    unfold syncF
    rw [if_neg (by simp), if_neg (by simp [burnF])]
    rfl
/-- What holds of a memory with nothing lost: its log's records are what it remembers. -/
def Good (k : Nat) (x : Lg) (st : Stt) (bs : List Bk) : Prop :=
  ∃ R, x.b = catT R ∧ x.g = false ∧ x.f = -1 ∧ x.s ≤ x.b.size ∧ R.length ≤ 6 * k ∧ (∀ r ∈ R, okR r ∧ rcF r ≠ .no) ∧ recallF R ⟨0, 0⟩ [] = (st, bs) ∧ bs.length ≤ 5 * k ∧ ∀ b ∈ bs, (blockF b).size ≤ 2000
theorem Good.zero : Good 0 ⟨⟨#[]⟩, 0, -1, false⟩ ⟨0, 0⟩ [] :=
  ⟨[], rfl, rfl, rfl, Nat.zero_le _, Nat.zero_le _, fun r h => by simp at h, rfl, Nat.zero_le _, fun b h => by simp at h⟩
theorem Good.step {k : Nat} {x : Lg} {st : Stt} {bs : List Bk} (h : Good k x st bs) (s : Stt) (l : List Bk) (hl : l.length ≤ 5) :
    Good (k + 1) (saveF x st bs s l).2.1 (saveF x st bs s l).2.2.1 (saveF x st bs s l).2.2.2 ∧ (saveF x st bs s l).1 = (if okOp s l = true then 0 else 2) ∧
      (okOp s l = true → (saveF x st bs s l).2.2 = (gtF st s, bs ++ l)) ∧ (okOp s l = false → (saveF x st bs s l).2 = (x, st, bs)) := by
  obtain ⟨R, h1, h2, h3, h4, h5, h6, h7, h8, h9⟩ := h
  obtain ⟨b, sy, f, g⟩ := x
  dsimp only at *
  subst h1 h2 h3
  cases c : okOp s l with
  | false =>
    have e : saveF ⟨catT R, sy, -1, false⟩ st bs s l = (2, ⟨catT R, sy, -1, false⟩, st, bs) := by unfold saveF; rw [if_neg (by rw [c]; simp)]
    rw [e]
    exact ⟨⟨R, rfl, rfl, rfl, h4, by omega, h6, h7, Nat.le_trans h8 (by omega), h9⟩, rfl, fun h => by simp at h, fun _ => rfl⟩
  | true =>
    have hm := recsOf_mem (st := st) c
    have e : saveF ⟨catT R, sy, -1, false⟩ st bs s l = (0, ⟨catT R ++ catT (recsOf st s l), if recsOf st s l = [] then sy else (catT R ++ catT (recsOf st s l)).size, -1, false⟩, gtF st s, bs ++ l) := by
      unfold saveF doneF
      rw [if_pos c, writeF_good _ _ _ (fun r hr => (hm r hr).1), if_pos rfl]
    rw [e]
    refine ⟨⟨R ++ recsOf st s l, (catT_app _ _).symm, rfl, rfl, ?_, ?_, ?_, ?_, ?_, ?_⟩, rfl, fun _ => rfl, fun h => by simp at h⟩
    · show (if recsOf st s l = [] then sy else (catT R ++ catT (recsOf st s l)).size) ≤ (catT R ++ catT (recsOf st s l)).size
      split
      · rw [ByteArray.size_append]; omega
      · exact Nat.le_refl _
    · have := recsOf_len st s l
      rw [List.length_append]; omega
    · intro r hr
      rcases List.mem_append.1 hr with hr | hr
      · exact h6 r hr
      · exact hm r hr
    · rw [recallF_app _ _ _ _ (fun r hr => (h6 r hr).2), h7]
      exact recallF_recs c
    · show (bs ++ l).length ≤ _
      rw [List.length_append]; omega
    · intro b hb
      rcases List.mem_append.1 hb with hb | hb
      · exact h9 b hb
      · exact rightBlock_size b ((okOp_parts c).2 b hb)
theorem Good.size {k : Nat} {x : Lg} {st : Stt} {bs : List Bk} (h : Good k x st bs) : x.b.size ≤ 24024 * k ∧ x.s ≤ x.b.size ∧ LgOk x ∧ x.g = false ∧ bs.length ≤ 5 * k ∧ ∀ b ∈ bs, (blockF b).size ≤ 2000 := by
  obtain ⟨R, h1, h2, h3, h4, h5, h6, h7, h8, h9⟩ := h
  have := catT_le R (fun r hr => (h6 r hr).1)
  exact ⟨by rw [h1]; omega, h4, by unfold LgOk; rw [h3]; omega, h2, h8, h9⟩
theorem Good.opens {k : Nat} {x : Lg} {st : Stt} {bs : List Bk} (h : Good k x st bs) : recallF (recs x.b) ⟨0, 0⟩ [] = (st, bs) ∧ (⟨x.b.extract 0 (endR x.b), min x.s (endR x.b), x.f, false⟩ : Lg) = x := by
  obtain ⟨R, h1, h2, h3, h4, h5, h6, h7, h8, h9⟩ := h
  obtain ⟨b, sy, f, g⟩ := x
  dsimp only at *
  subst h1 h2 h3
  obtain ⟨e1, e2, e3⟩ := recs_all' R (fun r hr => (h6 r hr).1)
  refine ⟨by rw [e1]; exact h7, ?_⟩
  rw [e3, e2, Nat.min_eq_left h4]
end Go.Proofs.Ytdhhibppcckbkaa
namespace Go.Proofs.Ytdhhibppcckbkaa
open Go.RowKit
set_option linter.unusedVariables false
set_option linter.unusedSimpArgs false
/-! the store: awake; StoreRecords -/
theorem recs_empty : recs ⟨#[]⟩ = [] := (recs_none (b := ⟨#[]⟩) (by decide +kernel)).1
set_option maxRecDepth 100000 in
set_option maxHeartbeats 2000000 in
theorem awake10_call (w : World) : Calls Try.prog 8 #[] w fun e w' => e = .returned (.bool true) ∧ Keep [] w w' := by
  go_enter Try.func8, Try.ntmps8
  go_wp2_with fail
  refine (new_call _).mono ?_
  rintro e w1 ⟨p, rfl, hp, h1, k1⟩
  go_wp2_with fail
  refine (open_call p _ _ h1 rfl (by show (0 : Nat) ≤ _; omega) (by show (0 : Nat) ≤ _; omega)).mono ?_
  dsimp only
  rw [recs_empty]
  rintro e w2 ⟨m, rfl, hm, h2, k2, v, G, hst, -, -, hv⟩
  obtain rfl := hv rfl
  have hpl := Blk.lt h1
  have hmp : m ≠ p := by omega
  have e0 : endR ⟨#[]⟩ = 0 := (recs_none (b := ⟨#[]⟩) (by decide +kernel)).2
  rw [e0] at h2
  replace h2 : LogAt w2 p ⟨⟨#[]⟩, 0, -1, false⟩ := h2
  replace hst : StAt w2 m p s0 (.slice none 0 0) := hst
  have kk2 : Keep [] w w2 := k1.new k2 (fun i hi => .inr (by simp at hi; omega))
  have l2 := k1.size
  replace hst := Lib.hid hst
  replace h2 := Lib.hid h2
  clear hv e0
  go_wp2_with fail
  refine (save_one m p _ hst.out h2.out hmp).mono ?_
  rintro e w3 ⟨rfl, h3, k3⟩
  have kk3 : Keep [] w w3 := kk2.new k3 (fun i hi => .inr (by simp at hi; omega))
  replace h3 := Lib.hid h3
  go_wp2_with fail
  refine (state_call m p s1 _ _ h3.out).mono ?_
  rintro e w4 ⟨he, k4⟩
  replace he : e = .returned (.agg #[.int .i64 1, .int .i64 0]) := he
  subst he
  have hfd : ∀ w : World, (Instr.field 23 (.agg #[.int .i64 1, .int .i64 0]) 0).run Try.prog w = .ok (.int .i64 1) w := fun _ => by kernel_rfl
  go_wp2
  go_ret
  exact ⟨rfl, kk3.trans k4⟩
theorem quiet_loadW {P : Program} {C : World → Prop} {a : Act} {o : Oper} {K : Act → Prop} (ty : TypeId) (x : Operand) (ho : o.op = .load ty x) (g : Nat) (D : Array Value) (t : Nat) (d : TypeDesc) (n : Nat) (hx : a.eval x = .pointer (some ⟨g, 0, none⟩)) (hb : ∀ w, C w → Blk w g D t)
    (hu : P.underlying ty = some d) (hd : d.isRow = true) (hi : (P.info? ty).map (·.size) = some n) (hn : D.size = n) (hk : K (a.put o.dst (.agg D))) : o.quiet P a C K :=
  quiet_run (fun w hw => by
    unfold execOp
    simp only [ho, hx, Sem.run_bind, run_loadW w g ty D t d n (hb w hw) hu hd hi hn, Result.andThen_ok]
    rfl) hk
set_option maxHeartbeats 8000000 in
theorem storeRecords_call (s : Stt) (x : Bk) (v u : Value) (F : Nat → Prop) (w : World) (h : SliceOf Rep.sg w F v x.j.sg) (h2 : SliceOf Rep.req w F u x.q) (sv : I64 s.v) (sl : I64 s.l) (hv : I64 x.v) (hp : I64 x.p) (hj : I64 x.j.v) :
    Calls Try.prog 3 #[.agg (stV s), .agg (bkV x v u)] w fun e w' => e = .returned (.bool true) ∧ Keep [] w w' := by
  obtain ⟨A, c, rfl, -⟩ := h.form
  obtain ⟨B, d, rfl, -⟩ := h2.form
  replace h := Lib.hid h
  replace h2 := Lib.hid h2
  replace sv := Lib.hid sv
  replace sl := Lib.hid sl
  replace hv := Lib.hid hv
  replace hp := Lib.hid hp
  replace hj := Lib.hid hj
  go_enter Try.func3, Try.ntmps3
  go_upto_region 1 with (first
    | ((with_reducible refine wl_box 23 (.tmp 0) ?_ ?_); (with_reducible rfl); refine sx_box rfl 23 (.tmp 0) rfl (stV s) rfl ?_; intro w1 b1 k1 z1; clear z1; (try simp only [Act.put, List.setIfInBounds_toArray, List.set_cons_zero, List.set_cons_succ]))
    | ((with_reducible refine wl_box 29 (.tmp 1) ?_ ?_); (with_reducible rfl); refine sx_box rfl 29 (.tmp 1) rfl (bkV x (.slice A x.j.sg.length c) (.slice B x.q.length d)) rfl ?_; intro w2 b2 k2 z2; clear z2; (try simp only [Act.put, List.setIfInBounds_toArray, List.set_cons_zero, List.set_cons_succ])))
  have d1 := b1.keep k2 (by simp)
  have kk2 := k1.trans k2
  clear b1 k1 k2
  go_wp2_with fail
  refine (awake10_call _).mono ?_
  rintro e w3 ⟨rfl, k3⟩
  have d3 := d1.keep k3 (by simp)
  have b3 := b2.keep k3 (by simp)
  have kk3 := kk2.trans k3
  clear d1 b2 kk2 k3
  go_wp2_with (first
    | ((with_reducible refine wl_load 29 (.tmp 3) ?_ ?_); (with_reducible rfl); refine sv_loadW 29 (.tmp 3) rfl rfl w1.heap.size (bkV x (.slice A x.j.sg.length c) (.slice B x.q.length d)) _ _ 6 rfl b3 Try.underlying29 rfl zBk_size rfl ?_; (try simp only [Act.put, List.setIfInBounds_toArray, List.set_cons_zero, List.set_cons_succ])))
  refine (fewBlock_call x _ _ F _ (h.out.keep (kk3.at F (by simp))) (h2.out.keep (kk3.at F (by simp)))).mono ?_
  rintro e w4 ⟨rfl, k4⟩
  have d4 := d3.keep k4 (by simp)
  have b4 := b3.keep k4 (by simp)
  have kk4 := kk3.trans k4
  clear d3 b3 kk3 k4
  cases hfew : fewBlock x with
  | false =>
    clear hfew
    go_wp2_with fail
    refine (awake10_call _).mono ?_
    rintro e w5 ⟨rfl, k5⟩
    go_wp2
    go_ret
    exact ⟨rfl, kk4.trans k5⟩
  | true =>
    have hsz := (fewBlock_size x hfew).1
    replace hsz := Lib.hid hsz
    clear hfew
    go_wp2_with fail
    have hA := Lib.hid (fun w' (kq : Keep [] w4 w') => record_call s w')
    have hB := Lib.hid (fun w' (kq : Keep [] w4 w') => rrecord_call s w' sv.out sl.out)
    have hC1 := Lib.hid (fun w' (kq : Keep [] w4 w') => brecord_call x _ _ F w' (h.out.keep ((kk4.trans kq).at F (by simp))) (h2.out.keep ((kk4.trans kq).at F (by simp))) (by have := hsz.out; omega))
    have hD1 := Lib.hid (fun w' (kq : Keep [] w4 w') => rbrecord_call x _ _ F w' (h.out.keep ((kk4.trans kq).at F (by simp))) (h2.out.keep ((kk4.trans kq).at F (by simp))) hv.out hp.out hj.out (by have := hsz.out; omega))
    replace d4 := Lib.hid d4
    replace b4 := Lib.hid b4
    refine wp_region_class (C := fun w' => Keep [] w4 w') (by kernel_rfl) (by kernel_rfl) ((Keep.refl _ _).drew) ?_
    iterate 13 (first
      | go_big_quiet_skip
      | (go_big_quiet_want; first
        | (refine quiet_loadW 23 (.tmp 2) rfl w.heap.size (stV s) _ _ 2 rfl (fun w' hw => d4.out.keep hw (by simp)) Try.underlying23 rfl zSt_size rfl ?_; simp only [Act.put, List.setIfInBounds_toArray, List.set_cons_zero, List.set_cons_succ]; go_big_quiet_on)
        | (refine quiet_loadW 29 (.tmp 3) rfl w1.heap.size (bkV x (.slice A x.j.sg.length c) (.slice B x.q.length d)) _ _ 6 rfl (fun w' hw => b4.out.keep hw (by simp)) Try.underlying29 rfl zBk_size rfl ?_; simp only [Act.put, List.setIfInBounds_toArray, List.set_cons_zero, List.set_cons_succ]; go_big_quiet_on)
        | (go_big_quiet_op; go_big_quiet_on)
        | (refine quiet_run (v := ?_) ?_ ?_; (rotate_left; (intro w' hC; (try dsimp only at hC); go_split_ands; go_simp; with_reducible rfl); simp only [Act.put, List.setIfInBounds_toArray, List.set_cons_zero, List.set_cons_succ]; go_big_quiet_on))
        | (refine quiet_call (v := ?_) (f := ?_) (args := ?_) ?_ ?_ ?_; (rotate_left; rotate_left; rotate_left; (intro w' hC; (try dsimp only at hC); go_split_ands; go_simp; (refine ⟨?_, ?_⟩ <;> with_reducible rfl)); (intro w' hC; first | (go_at_call 10; (with_reducible refine (hA.out _ hC).mono ?_); rintro e w28 ⟨rfl, kq⟩; refine ⟨?_, Keep.trans hC kq⟩; with_reducible rfl) | (go_at_call 11; (with_reducible refine (hB.out _ hC).mono ?_); rintro e w28 ⟨rfl, kq⟩; refine ⟨?_, Keep.trans hC kq⟩; with_reducible rfl) | (go_at_call 12; (with_reducible refine (hC1.out _ hC).mono ?_); rintro e w28 ⟨rfl, kq⟩; refine ⟨?_, Keep.trans hC kq⟩; with_reducible rfl) | (go_at_call 13; (with_reducible refine (hD1.out _ hC).mono ?_); rintro e w28 ⟨rfl, kq⟩; refine ⟨?_, Keep.trans hC kq⟩; with_reducible rfl)); simp only [Act.put, List.setIfInBounds_toArray, List.set_cons_zero, List.set_cons_succ]; go_big_quiet_on))))
    refine wpQuiet_nil ?_
    intro w9 k9
    go_wp2
    go_ret
    exact ⟨rfl, kk4.trans k9⟩
end Go.Proofs.Ytdhhibppcckbkaa
namespace Go.Proofs.Ytdhhibppcckbkaa
open Go.RowKit
set_option linter.unusedVariables false
set_option linter.unusedSimpArgs false
/-! a store in memory, with what lies beside it -/
theorem Keep.new2 {T : List Nat} {w0 a b : World} (h : Keep [] w0 a) (k : Keep T a b) (hT : ∀ i, i ∈ T → w0.heap.size ≤ i) : Keep [] w0 b := h.new k (fun i hi => .inr (hT i hi))
theorem mem3 {m p i : Nat} {v : Value} (h : i ∈ m :: p :: v.ownBlock.toList) : i = m ∨ i = p ∨ v.ownBlock = some i := by
  rcases List.mem_cons.1 h with h | h
  · exact .inl h
  rcases List.mem_cons.1 h with h | h
  · exact .inr (.inl h)
  · exact .inr (.inr (Option.mem_toList.1 h))
structure Mem (w0 w : World) (F : Nat → Prop) (m p : Nat) (x : Lg) (st : Stt) (bs : List Bk) (v : Value) : Prop where
  keep : Keep [] w0 w
  log : LogAt w p x
  sto : StAt w m p st v
  row : RowX Rep.bk 29 w F v bs
  mp : m ≠ p
  lm : w0.heap.size ≤ m
  lp : w0.heap.size ≤ p
  vm : ∀ k, v.ownBlock = some k → w0.heap.size ≤ k ∧ k ≠ m ∧ k ≠ p
  fr : ∀ k, F k → k < w.heap.size ∧ k ≠ m ∧ k ≠ p
section
variable {w0 w w' : World} {F : Nat → Prop} {m p q : Nat} {x x' : Lg} {st st' st2 : Stt} {bs bs' bs2 : List Bk} {v v' vb : Value}
theorem Mem.keepS {S : List Nat} (h : Mem w0 w F m p x st bs v) (k : Keep S w w') (hS : ∀ i ∈ S, w0.heap.size ≤ i ∧ i ≠ m ∧ i ≠ p ∧ v.ownBlock ≠ some i ∧ ¬ F i) : Mem w0 w' F m p x st bs v where
  keep := h.keep.new2 k (fun i hi => (hS i hi).1)
  log := h.log.keepS k (fun hm => (hS p hm).2.2.1 rfl)
  sto := Blk.keep h.sto k (fun hm => (hS m hm).2.1 rfl)
  row := h.row.keepS k (fun i hi => (hS i hi).2.2.2)
  mp := h.mp
  lm := h.lm
  lp := h.lp
  vm := h.vm
  fr := fun i hi => ⟨Nat.lt_of_lt_of_le (h.fr i hi).1 k.size, (h.fr i hi).2⟩
theorem Mem.keep0 (h : Mem w0 w F m p x st bs v) (k : Keep [] w w') : Mem w0 w' F m p x st bs v := h.keepS k (fun i hi => by simp at hi)
theorem Mem.ids (h : Mem w0 w F m p x st bs v) : ∀ i ∈ m :: p :: v.ownBlock.toList, w0.heap.size ≤ i := fun i hi => by
  rcases mem3 hi with rfl | rfl | e
  · exact h.lm
  · exact h.lp
  · exact (h.vm i e).1
theorem Mem.saved (h : Mem w0 w F m p x st bs v) (s : Saved w w' m p v F x' st' bs') : ∃ v', Mem w0 w' F m p x' st' bs' v' ∧ (v'.ownBlock = v.ownBlock ∨ ∃ g, v'.ownBlock = some g ∧ w.heap.size ≤ g) := by
  obtain ⟨s1, ⟨v', s2, s3, s4⟩, s5⟩ := s
  refine ⟨v', ⟨h.keep.new2 s5 h.ids, s1, s2, s3, h.mp, h.lm, h.lp, fun k hk => ?_, fun i hi => ⟨Nat.lt_of_lt_of_le (h.fr i hi).1 s5.size, (h.fr i hi).2⟩⟩, s4⟩
  rcases s4 with e | ⟨g, e, hg⟩
  · exact h.vm k (e ▸ hk)
  · rw [e] at hk
    obtain rfl : g = k := Option.some.inj hk
    have h1 := h.keep.size
    have h2 := Blk.lt h.log
    have h3 := Blk.lt h.sto
    exact ⟨by omega, by omega, by omega⟩
/-- What a law keeps beside the store: a state and a row of blocks. -/
structure Ext (w0 w : World) (F : Nat → Prop) (m p q : Nat) (v : Value) (st2 : Stt) (bs2 : List Bk) (vb : Value) : Prop where
  qq : Blk w q (stV st2) 23
  rowb : RowX Rep.bk 29 w F vb bs2
  lq : w0.heap.size ≤ q ∧ q ≠ m ∧ q ≠ p ∧ ¬ F q
  vq : v.ownBlock ≠ some q
  bq : ∀ k, vb.ownBlock = some k → w0.heap.size ≤ k ∧ k ≠ m ∧ k ≠ p ∧ k ≠ q ∧ v.ownBlock ≠ some k
theorem Ext.keep0 (h : Ext w0 w F m p q v st2 bs2 vb) (k : Keep [] w w') : Ext w0 w' F m p q v st2 bs2 vb :=
  ⟨h.qq.keep k (by simp), h.rowb.keepS k (fun i hi => by simp at hi), h.lq, h.vq, h.bq⟩
theorem RowX.ownlt {α : Type} {a : Rep α} {e : TypeId} {G : Nat → Prop} {xs : List α} (h : RowX a e w G v xs) : ∀ k, v.ownBlock = some k → k < w.heap.size := fun k hk => (h.1.lt k hk).2
theorem Ext.saved (h : Ext w0 w F m p q v st2 bs2 vb) (hF : ∀ k, F k → k ≠ m ∧ k ≠ p) (hX : ∀ k, v.ownBlock = some k → ¬ F k) (k : Keep (m :: p :: v.ownBlock.toList) w w') (hv : v'.ownBlock = v.ownBlock ∨ ∃ g, v'.ownBlock = some g ∧ w.heap.size ≤ g) : Ext w0 w' F m p q v' st2 bs2 vb := by
  have hne : ∀ i, i < w.heap.size → v.ownBlock ≠ some i → v'.ownBlock ≠ some i := fun i hi hn he => by
    rcases hv with e | ⟨g, e, hg⟩
    · exact hn (e ▸ he)
    · rw [e] at he
      obtain rfl : g = i := Option.some.inj he
      omega
  refine ⟨h.qq.keep k (fun hm => ?_), h.rowb.keepS k (fun i hi => ⟨fun e => ?_, fun hf => ?_⟩), h.lq, hne q h.qq.lt h.vq, fun k hk => ⟨(h.bq k hk).1, (h.bq k hk).2.1, (h.bq k hk).2.2.1, (h.bq k hk).2.2.2.1, hne k (h.rowb.ownlt k hk) (h.bq k hk).2.2.2.2⟩⟩
  · rcases mem3 hm with e | e | e
    · exact h.lq.2.1 e
    · exact h.lq.2.2.1 e
    · exact h.vq e
  · have := h.bq i e
    rcases mem3 hi with e' | e' | e'
    · exact this.2.1 e'
    · exact this.2.2.1 e'
    · exact this.2.2.2.2 e'
  · rcases mem3 hi with e' | e' | e'
    · exact (hF i hf).1 e'
    · exact (hF i hf).2 e'
    · exact hX i e' hf
theorem Ext.setq (h : Ext w0 w F m p q v st2 bs2 vb) (k : Keep [q] w w') (hb : Blk w' q (stV st') 23) : Ext w0 w' F m p q v st' bs2 vb :=
  ⟨hb, h.rowb.keepS k (fun i hi => by
    obtain rfl : i = q := by simpa using hi
    exact ⟨fun e => (h.bq i e).2.2.2.1 rfl, h.lq.2.2.2⟩), h.lq, h.vq, h.bq⟩
theorem RowG.rowX {α : Type} {a : Rep α} {e : TypeId} {lo : Nat} {G : Nat → Prop} {xs : List α} (h : RowG a e w lo G v xs) (hG : ∀ k, G k → k < lo) : RowX a e w G v xs := by
  refine ⟨?_, fun k hk hg => by have := (h.lt k hk).1; have := hG k hg; omega⟩
  obtain ⟨css, ⟨h1, h2⟩, h3, h4⟩ := h
  refine ⟨css, ⟨h1, ?_⟩, h3, h4⟩
  rcases h2 with hn | ⟨g, cap, cur, rfl, hb, rest⟩
  · exact .inl hn
  · exact .inr ⟨g, cap, cur, rfl, Nat.zero_le _, rest⟩
theorem RowG.reads {α : Type} {a : Rep α} {e : TypeId} {lo : Nat} {G : Nat → Prop} {A : Option Addr} {n c : Nat} {xs : List α} (h : RowG a e w lo G (.slice A n c) xs) : ReadsG a w G A xs := by
  obtain ⟨css, h1, h2, h3⟩ := h
  intro hp
  have hlen : ∀ cs ∈ css, cs.length = a.sz := by
    intro cs hcs
    obtain ⟨i, hi, rfl⟩ := List.getElem_of_mem hcs
    exact a.len (h3 i xs[i] _ (List.getElem?_eq_getElem (by omega)) (List.getElem?_eq_getElem hi))
  have hcells := fun g hg => h1.cells (g := g) hg
  rcases h1.2 with ⟨e, h0⟩ | ⟨g, cap, cur, e, hbg, hg, _⟩
  · omega
  · cases e
    refine ⟨g, 0, rfl, fun i hi => ?_⟩
    have hic : i < css.length := by omega
    refine ⟨css[i], h3 i _ _ (List.getElem?_eq_getElem hi) (List.getElem?_eq_getElem hic), fun j u hj => ?_⟩
    have hjl : j < a.sz := by rw [← hlen css[i] (List.getElem_mem hic)]; exact (List.getElem?_eq_some_iff.1 hj).1
    have := hcells g rfl (i * a.sz + j) u (by rw [flatten_at a.sz css hlen i j css[i] (List.getElem?_eq_getElem hic) hjl]; exact hj)
    have hadd : (⟨g, 0, none⟩ : Addr).add (i * a.sz + j) = ⟨g, 0 + (i * a.sz + j), none⟩ := by unfold Addr.add; split <;> simp_all
    rw [← hadd]
    exact this
theorem Ext.setb (h : Ext w0 w F m p q v st2 bs2 vb) (hk : Keep [] w w') (hr : RowX Rep.bk 29 w' F v' bs') (hn : ∀ k, v'.ownBlock = some k → w.heap.size ≤ k) (h0 : w0.heap.size ≤ w.heap.size) (hm : m < w.heap.size) (hp : p < w.heap.size) (hv : ∀ k, v.ownBlock = some k → k < w.heap.size) : Ext w0 w' F m p q v st2 bs' v' := by
  refine ⟨h.qq.keep hk (by simp), hr, h.lq, h.vq, fun k e => ?_⟩
  have h1 := hn k e
  have h2 := h.qq.lt
  exact ⟨by omega, by omega, by omega, by omega, fun e2 => by have := hv k e2; omega⟩
theorem RowX.nil (G : Nat → Prop) : RowX Rep.bk 29 w G (.slice none 0 0) [] := ⟨RowG.nil _ _ _ _ _, fun k h => by simp [Value.ownBlock] at h⟩
end
theorem wp_region_tail {P : Program} {id : Nat} {Q : Exit → Act → World → Prop} {a : Act} {w : World} {l : List Oper} (n : Nat) (hm : P.follows .mixedOrders = true) (hB : Region.lexTailB .any l.toArray n = true) (u : World) (hu : u = w.drew)
    (h : wpStill P l.toArray u (fun a' => wpList P l.toArray Q (l.drop n) a' u) (l.take n) a) : (Code.region id l.toArray true).wp P Q a w := by
  subst hu
  exact wp_region_still_tail n hm hB h
end Go.Proofs.Ytdhhibppcckbkaa
namespace Go.Proofs.Ytdhhibppcckbkaa
open Go.RowKit
set_option linter.unusedVariables false
set_option linter.unusedSimpArgs false
/-! what is saved, wherever the power goes -/
theorem appsF_any : ∀ (rs : List ByteArray) (x : Lg), x.g = false → LgOk x → (∀ r ∈ rs, okR r) →
    ∃ j, j ≤ rs.length ∧ (appsF x rs).2.b = x.b ++ catT (rs.take j) ∧ (appsF x rs).2.s = x.s ∧ LgOk (appsF x rs).2 ∧ ((appsF x rs).1 = 0 → j = rs.length ∧ (appsF x rs).2.g = false)
  | [], x, h, ho, _ => ⟨0, Nat.le_refl _, by show x.b = x.b ++ ⟨#[]⟩; rw [ba_nil], rfl, ho, fun _ => ⟨rfl, h⟩⟩
  | r :: rs, x, h, ho, hr => by
    have h1 := hr r (by simp)
    obtain ⟨a1, a2⟩ := h1
    have hap : appF x r = if (burnF x).g = true then (8, burnF x) else (0, ⟨x.b ++ textF r, x.s, (burnF x).f, false⟩) := by
      unfold appF
      rw [if_neg (by rw [h]; simp), if_neg (by omega)]
    have hok := appF_ok x r ho
    unfold appsF
    by_cases c : (burnF x).g = true
    · rw [if_pos c] at hap
      rw [hap, if_neg (show ¬ ((8 : Int) = 0) by decide)]
      rw [hap] at hok
      exact ⟨0, Nat.zero_le _, by show x.b = x.b ++ ⟨#[]⟩; rw [ba_nil], rfl, hok.1, fun e => absurd e (show ¬ ((8 : Int) = 0) by decide)⟩
    · rw [if_neg c] at hap
      rw [hap] at hok ⊢
      rw [if_pos rfl]
      obtain ⟨j, j1, j2, j3, j4, j5⟩ := appsF_any rs ⟨x.b ++ textF r, x.s, (burnF x).f, false⟩ rfl hok.1 (fun z hz => hr z (by simp [hz]))
      refine ⟨j + 1, by simp; omega, ?_, j3, j4, fun e => ⟨by have := (j5 e).1; simp; omega, (j5 e).2⟩⟩
      rw [j2, List.take_succ_cons]
      show x.b ++ textF r ++ catT (rs.take j) = x.b ++ (textF r ++ catT (rs.take j))
      rw [ByteArray.append_assoc]
theorem writeF_any (rs : List ByteArray) (x : Lg) (hg : x.g = false) (ho : LgOk x) (hr : ∀ r ∈ rs, okR r) (hs : x.s = x.b.size) :
    ∃ j, j ≤ rs.length ∧ (writeF x rs).2.b = x.b ++ catT (rs.take j) ∧ x.b.size ≤ (writeF x rs).2.s ∧ (writeF x rs).2.s ≤ (writeF x rs).2.b.size ∧ LgOk (writeF x rs).2 ∧
      ((writeF x rs).1 = 0 → j = rs.length ∧ (writeF x rs).2.g = false ∧ (writeF x rs).2.s = (writeF x rs).2.b.size) := by
  obtain ⟨j, j1, j2, j3, j4, j5⟩ := appsF_any rs x hg ho hr
  have hle : x.s ≤ (appsF x rs).2.b.size := by rw [j2, ByteArray.size_append, hs]; omega
  unfold writeF
  by_cases c : (appsF x rs).1 = 0
  · rw [if_pos c]
    by_cases e : rs = []
    · rw [if_pos e]
      refine ⟨j, j1, j2, by rw [j3, hs]; exact Nat.le_refl _, by rw [j3]; exact hle, j4, fun _ => ⟨(j5 c).1, (j5 c).2, ?_⟩⟩
      have : rs.take j = [] := by rw [e]; simp
      rw [j3, j2, this, hs]
      show x.b.size = (x.b ++ ⟨#[]⟩).size
      rw [ba_nil]
    · rw [if_neg e]
      have hk := syncF_ok (appsF x rs).2 j4
      have hsy : syncF (appsF x rs).2 = if (burnF (appsF x rs).2).g = true then (8, burnF (appsF x rs).2) else (0, ⟨(appsF x rs).2.b, (appsF x rs).2.b.size, (burnF (appsF x rs).2).f, false⟩) := by
        unfold syncF
        rw [if_neg (by rw [(j5 c).2]; simp)]
      by_cases d : (burnF (appsF x rs).2).g = true
      · rw [if_pos d] at hsy
        rw [hsy] at hk ⊢
        refine ⟨j, j1, j2, ?_, ?_, hk.1, fun e => absurd e (show ¬ ((8 : Int) = 0) by decide)⟩
        · show x.b.size ≤ (appsF x rs).2.s
          rw [j3, hs]; exact Nat.le_refl _
        · show (appsF x rs).2.s ≤ (appsF x rs).2.b.size
          rw [j3]; exact hle
      · rw [if_neg d] at hsy
        rw [hsy] at hk ⊢
        refine ⟨j, j1, j2, ?_, Nat.le_refl _, hk.1, fun _ => ⟨(j5 c).1, rfl, rfl⟩⟩
        show x.b.size ≤ (appsF x rs).2.b.size
        rw [hs] at hle; exact hle
  · rw [if_neg c]
    exact ⟨j, j1, j2, by rw [j3, hs]; exact Nat.le_refl _, by rw [j3]; exact hle, j4, fun e => absurd e c⟩
theorem recallF_part {st s : Stt} {bs l : List Bk} (h : okOp s l = true) (i : Nat) : ∃ t n, n ≤ l.length ∧ recallF ((recsOf st s l).take i) st bs = (t, bs ++ l.take n) ∧ (t = st ∨ t = gtF st s) ∧ ((recsOf st s l).length ≤ i → t = gtF st s ∧ n = l.length) := by
  by_cases c : (recsOf st s l).length ≤ i
  · rw [List.take_of_length_le c, recallF_recs h]
    exact ⟨_, l.length, Nat.le_refl _, by rw [List.take_length], .inr rfl, fun _ => ⟨rfl, rfl⟩⟩
  · have hlen := recsOf_len st s l
    have hi : i ≤ l.length := by omega
    have e : (recsOf st s l).take i = (l.take i).map brecF := by
      unfold recsOf
      rw [List.take_append_of_le_length (by rw [List.length_map]; exact hi), List.map_take]
    rw [e, recallF_blocks st (l.take i) bs (fun b hb => (okOp_parts h).2 b (List.mem_of_mem_take hb))]
    exact ⟨st, i, hi, rfl, .inl rfl, fun hc => absurd hc c⟩
/-- What holds of a memory whose log is wholly synced. -/
def GoodC (k : Nat) (x : Lg) (st : Stt) (bs : List Bk) : Prop :=
  ∃ R, x.b = catT R ∧ x.g = false ∧ LgOk x ∧ x.s = x.b.size ∧ R.length ≤ 6 * k ∧ (∀ r ∈ R, okR r ∧ rcF r ≠ .no) ∧ recallF R ⟨0, 0⟩ [] = (st, bs) ∧ bs.length ≤ 5 * k ∧ ∀ b ∈ bs, (blockF b).size ≤ 2000
theorem GoodC.zero : GoodC 0 ⟨⟨#[]⟩, 0, -1, false⟩ ⟨0, 0⟩ [] :=
  ⟨[], rfl, rfl, ⟨by show (-1 : Int) ≤ -1; omega, by show (-1 : Int) ≤ _; omega⟩, rfl, Nat.zero_le _, fun r h => by simp at h, rfl, Nat.zero_le _, fun b h => by simp at h⟩
theorem GoodC.mono {k k' : Nat} {x : Lg} {st : Stt} {bs : List Bk} (h : GoodC k x st bs) (hk : k ≤ k') : GoodC k' x st bs := by
  obtain ⟨R, h1, h2, h3, h4, h5, h6, h7, h8, h9⟩ := h
  exact ⟨R, h1, h2, h3, h4, by omega, h6, h7, by omega, h9⟩
theorem GoodC.size {k : Nat} {x : Lg} {st : Stt} {bs : List Bk} (h : GoodC k x st bs) : x.b.size ≤ 24024 * k ∧ x.s = x.b.size ∧ LgOk x ∧ x.g = false ∧ bs.length ≤ 5 * k ∧ ∀ b ∈ bs, (blockF b).size ≤ 2000 := by
  obtain ⟨R, h1, h2, h3, h4, h5, h6, h7, h8, h9⟩ := h
  have := catT_le R (fun r hr => (h6 r hr).1)
  exact ⟨by rw [h1]; omega, h4, h3, h2, h8, h9⟩
theorem GoodC.fuse {k : Nat} {x : Lg} {st : Stt} {bs : List Bk} (h : GoodC k x st bs) (n : Int) (hn : n ≤ 9223372036854775807) : GoodC k (fuseF x n) st bs := by
  obtain ⟨R, h1, h2, h3, h4, h5, h6, h7, h8, h9⟩ := h
  unfold fuseF
  rw [if_neg (by rw [h2]; simp)]
  exact ⟨R, h1, h2, ⟨by show -1 ≤ max n (-1); omega, by show max n (-1) ≤ _; omega⟩, h4, h5, h6, h7, h8, h9⟩
theorem keepK_zero (keep : Int) : keepK keep 0 = 0 := by have := (keepK_spec keep 0).2.1; omega
/-- A save, and a crash behind it. -/
theorem GoodC.save {k : Nat} {x : Lg} {st : Stt} {bs : List Bk} (h : GoodC k x st bs) (s : Stt) (l : List Bk) (hl : l.length ≤ 5) (hok : okOp s l = true) (out : Int × Lg × Stt × List Bk) (hout : saveF x st bs s l = out) :
    (out.1 = 0 → out.2.2 = (gtF st s, bs ++ l) ∧ GoodC (k + 1) out.2.1 (gtF st s) (bs ++ l)) ∧ out.2.1.b.size ≤ 24024 * (k + 1) ∧ out.2.1.s ≤ out.2.1.b.size ∧ LgOk out.2.1 ∧
    ∀ keep, (crashF out.2.1 keep).b.size ≤ 24024 * (k + 1) ∧ (crashF out.2.1 keep).s ≤ 24024 * (k + 1) ∧ ∃ t n, n ≤ l.length ∧ recallF (recs (crashF out.2.1 keep).b) ⟨0, 0⟩ [] = (t, bs ++ l.take n) ∧ (t = st ∨ t = gtF st s) ∧ (out.1 = 0 → t = gtF st s ∧ n = l.length) ∧
      GoodC (k + 1) ⟨(crashF out.2.1 keep).b.extract 0 (endR (crashF out.2.1 keep).b), min (crashF out.2.1 keep).s (endR (crashF out.2.1 keep).b), (crashF out.2.1 keep).f, false⟩ t (bs ++ l.take n) := by
  obtain ⟨R, h1, h2, h3, h4, h5, h6, h7, h8, h9⟩ := h
  have hm := recsOf_mem (st := st) hok
  have hlen := recsOf_len st s l
  obtain ⟨j, j1, j2, j3, j4, j5, j6⟩ := writeF_any (recsOf st s l) x h2 h3 (fun r hr => (hm r hr).1) h4
  have e : saveF x st bs s l = doneF (writeF x (recsOf st s l)) st bs s l := by unfold saveF; rw [if_pos hok]
  have hall : ∀ r ∈ R ++ (recsOf st s l).take j, okR r ∧ rcF r ≠ .no := fun r hr => by
    rcases List.mem_append.1 hr with hr | hr
    · exact h6 r hr
    · exact hm r (List.mem_of_mem_take hr)
  have hb : (writeF x (recsOf st s l)).2.b = catT (R ++ (recsOf st s l).take j) := by rw [j2, h1, catT_app]
  have hbs : (catT (R ++ (recsOf st s l).take j)).size ≤ 24024 * (k + 1) := by
    have := catT_le _ (fun r hr => (hall r hr).1)
    rw [List.length_append, List.length_take] at this
    omega
  have hblk : ∀ n, ∀ b ∈ bs ++ l.take n, (blockF b).size ≤ 2000 := fun n b hb => by
    rcases List.mem_append.1 hb with hb | hb
    · exact h9 b hb
    · exact rightBlock_size b ((okOp_parts hok).2 b (List.mem_of_mem_take hb))
  have ho1 : out.1 = (writeF x (recsOf st s l)).1 ∧ out.2.1 = (writeF x (recsOf st s l)).2 ∧ (out.1 = 0 → out.2.2 = (gtF st s, bs ++ l)) := by
    rw [← hout, e]
    unfold doneF
    by_cases c : (writeF x (recsOf st s l)).1 = 0
    · rw [if_pos c]; exact ⟨c.symm, rfl, fun _ => rfl⟩
    · rw [if_neg c]; exact ⟨rfl, rfl, fun e => absurd e c⟩
  obtain ⟨o1, o2, o3⟩ := ho1
  rw [← o1, ← o2] at j6
  rw [← o2] at j2 j3 j4 j5 hb
  refine ⟨fun h0 => ⟨o3 h0, ?_⟩, by rw [hb]; exact hbs, j4, j5, fun keep => ?_⟩
  · obtain ⟨q1, q2, q3⟩ := j6 h0
    rw [q1, List.take_length] at hb hall
    refine ⟨R ++ recsOf st s l, hb, q2, j5, q3, by rw [List.length_append]; omega, hall, ?_, by rw [List.length_append]; omega, ?_⟩
    · rw [recallF_app _ _ _ _ (fun r hr => (h6 r hr).2), h7]
      exact recallF_recs hok
    · have := hblk l.length
      rwa [List.take_length] at this
  · generalize out.2.1 = z at *
    have hkk := (keepK_spec keep (z.b.size - z.s)).2.1
    have hn : z.s + keepK keep (z.b.size - z.s) ≤ (catT (R ++ (recsOf st s l).take j)).size := by rw [← hb]; omega
    obtain ⟨m', m1, m2, m3, m4, m5, m6⟩ := recs_cat (R ++ (recsOf st s l).take j) (fun r hr => (hall r hr).1) _ hn
    have hcb : (crashF z keep).b = (catT (R ++ (recsOf st s l).take j)).extract 0 (z.s + keepK keep (z.b.size - z.s)) := by rw [← hb]; rfl
    have hcs : (crashF z keep).s = z.s + keepK keep (z.b.size - z.s) := rfl
    have hRm : R.length ≤ m' := m6 R.length (by rw [List.length_append]; omega) (by
      rw [List.take_append_of_le_length (Nat.le_refl _), List.take_length, ← h1]
      omega)
    have htk : (R ++ (recsOf st s l).take j).take m' = R ++ (recsOf st s l).take (min (m' - R.length) j) := by
      rw [List.take_append, List.take_of_length_le hRm, List.take_take]
    obtain ⟨t, n, n1, n2, n3, n4⟩ := recallF_part (st := st) (bs := bs) hok (min (m' - R.length) j)
    have hrec : recallF (recs (crashF z keep).b) ⟨0, 0⟩ [] = (t, bs ++ l.take n) := by
      rw [hcb, m2, htk, recallF_app _ _ _ _ (fun r hr => (h6 r hr).2), h7]
      exact n2
    have hsz2 : (crashF z keep).b.size ≤ 24024 * (k + 1) := by
      rw [hcb, ByteArray.size_extract]; omega
    refine ⟨hsz2, by rw [hcs]; omega, t, n, n1, hrec, n3, fun h0 => ?_, ?_⟩
    · obtain ⟨q1, q2, q3⟩ := j6 h0
      refine n4 ?_
      have hfull := m6 (R ++ (recsOf st s l).take j).length (Nat.le_refl _) (by rw [List.take_length, ← hb]; omega)
      rw [List.length_append, List.length_take] at hfull
      omega
    · refine ⟨R ++ (recsOf st s l).take (min (m' - R.length) j), ?_, rfl, ?_, ?_, ?_, ?_, ?_, ?_, hblk n⟩
      · show (crashF z keep).b.extract 0 (endR (crashF z keep).b) = _
        rw [hcb, m3, m5, htk]
      · exact ⟨by show (-1 : Int) ≤ -1; omega, by show (-1 : Int) ≤ _; omega⟩
      · show min (crashF z keep).s (endR (crashF z keep).b) = ((crashF z keep).b.extract 0 (endR (crashF z keep).b)).size
        rw [hcs, hcb, m3, m5, Nat.min_eq_right m4]
      · rw [List.length_append, List.length_take]; omega
      · intro r hr
        rcases List.mem_append.1 hr with hr | hr
        · exact h6 r hr
        · exact hm r (List.mem_of_mem_take hr)
      · rw [recallF_app _ _ _ _ (fun r hr => (h6 r hr).2), h7]
        exact n2
      · rw [List.length_append, List.length_take]; omega
end Go.Proofs.Ytdhhibppcckbkaa
namespace Go.Proofs.Ytdhhibppcckbkaa
open Go.RowKit
set_option linter.unusedVariables false
set_option linter.unusedSimpArgs false
/-! the store's Blocks, told finer; what the law StoreCrashes keeps -/
section
variable {P : Program} {ops : Array Oper} {u : World} {Q : Act → Prop}
theorem run_max (t ty : TypeId) (p q : Int) (w : World) : (Builtin.max_ #[t, t] ty #[.int .i64 p, .int .i64 q]).run P w = .ok (.int .i64 (max p q)) w := by
  by_cases c : p < q
  · have e : max p q = q := by omega
    rw [e]
    simp [Builtin.max_, Builtin.max2, c, Sem.run_pure]
  · have e : max p q = p := by omega
    rw [e]
    simp [Builtin.max_, Builtin.max2, c, Sem.run_pure]
/-- the greater of two, in a region whose operations only read: no parting -/
theorem still_max {o : Oper} {rest : List Oper} {a : Act} (hgd : o.guard = none) (x y : Operand) (t : TypeId) (ho : o.op = .call { callee := .builtin .max, args := #[x, y], argTypes := #[t, t] }) (p q : Int) (hx : a.eval x = .int .i64 p) (hy : a.eval y = .int .i64 q)
    (h : wpStill P ops u Q rest (a.put o.dst (.int .i64 (max p q)))) : wpStill P ops u Q (o :: rest) a := by
  refine wpStill_step (fun K hK => ?_)
  have hw : Region.wanted o (yielded ops a.tmps) = true := by simp [Region.wanted, hgd]
  rw [if_pos hw]
  unfold Oper.still execOp
  simp only [ho, resolve, invoke, builtin, Sem.run_bind, Sem.run_pure, Result.andThen_ok, List.map_toArray, List.map_cons, List.map_nil, hx, hy, run_max]
  exact ⟨rfl, hK _ h⟩
end
theorem ReadsG.keep {α : Type} {a : Rep α} {w w' : World} {G : Nat → Prop} {A : Option Addr} {ys : List α} (h : ReadsG a w G A ys) (hs0 : 0 < a.sz) (k : Keep [] w w') : ReadsG a w' G A ys := by
  intro hp
  obtain ⟨g, o, e, h'⟩ := h hp
  refine ⟨g, o, e, fun i hi => ?_⟩
  obtain ⟨cs, h1, h2⟩ := h' i hi
  exact ⟨cs, a.keep h1 (k.at G (by simp)), fun j v hj => k.cell (by simp) (h2 j v hj)⟩
theorem RowG.cap {α : Type} {a : Rep α} {e : TypeId} {w : World} {lo : Nat} {G : Nat → Prop} {A : Option Addr} {n c : Nat} {xs : List α} (h : RowG a e w lo G (.slice A n c) xs) : n ≤ c := by
  obtain ⟨css, h1, _⟩ := h
  rcases h1.2 with ⟨e, h0⟩ | ⟨g, cap, cur, e, _, _, h3, _⟩
  · cases e; omega
  · cases e; exact h3
set_option maxHeartbeats 2000000 in
theorem cloneB2_call (A : Option Addr) (xs : List Bk) (c : Nat) (G : Nat → Prop) (w : World) (hs : ReadsG Rep.bk w G A xs) (hG : ∀ k, G k → k < w.heap.size) (hl : xs.length ≤ 1000000) :
    Calls Try.prog 41 #[.slice A xs.length c] w fun e w' => ∃ B cap, e = .returned (.slice B xs.length cap) ∧ SliceOf Rep.bk w' (fun k => G k ∨ (w.heap.size ≤ k ∧ k < w'.heap.size)) (.slice B xs.length cap) xs ∧ xs.length ≤ cap ∧ Keep [] w w' := by
  cases A with
  | none =>
    have h0 : xs = [] := by
      cases xs with
      | nil => rfl
      | cons y l => obtain ⟨g, o, e, _⟩ := hs (by simp); exact absurd e (by simp)
    subst h0
    clear hs
    have hne := Lib.run_eql_slice_nil (P := Try.prog) w 37 29 none 0 c 0 0 Try.underlying37
    go_enter Try.func41, Try.ntmps41
    go_wp2
    go_ret
    exact ⟨none, 0, rfl, SliceOf.nil _ _ _ _ _, Nat.le_refl _, Keep.refl _ _⟩
  | some ad =>
    have ho : RowG Rep.bk 29 (w.alloc (.cells #[] 29)) w.heap.size G (.slice (some ⟨w.heap.size, 0, none⟩) 0 0) [] := RowG.empty _ _ _ _ _ _ (Blk.new w #[] 29) (Nat.le_refl _)
    have hs' : ReadsG Rep.bk (w.alloc (.cells #[] 29)) G (some ad) xs := hs.keep (by decide) ((Keep.refl [] w).alloc _)
    replace ho := Lib.hid ho
    replace hs' := Lib.hid hs'
    replace hG := Lib.hid hG
    clear hs
    have hne := Lib.run_eql_slice_nil (P := Try.prog) w 37 29 (some ad) xs.length c 0 0 Try.underlying37
    go_enter Try.func41, Try.ntmps41
    go_wp2_with (first | (at_builtin; refine wl_appB rfl (.tmp 5) (.tmp 6) rfl w.heap.size G (.slice (some ⟨w.heap.size, 0, none⟩) 0 0) [] xs (some ad) c rfl rfl ho.out hs'.out hG.out (by simp; omega) (by simp) ?_; simp only [List.length_nil, Nat.zero_add, List.nil_append]; intro B cap w' h1 h2) | go_in)
    go_ret
    have hk : Keep [] w w' := ((Keep.refl _ w).alloc _).new h2 (fun i hi => .inr (by simp [Value.ownBlock] at hi; omega))
    exact ⟨B, cap, rfl, (h1.slice (by unfold M47; omega)).mono (fun k hk hl => hk.imp id (fun h => ⟨(h1.lt k h).1, hl⟩)), h1.cap, hk⟩
set_option maxHeartbeats 2000000 in
theorem blocks2_call (m p : Nat) (s : Stt) (A : Option Addr) (c : Nat) (xs : List Bk) (G : Nat → Prop) (w : World) (h : StAt w m p s (.slice A xs.length c)) (hs : ReadsG Rep.bk w G A xs) (hG : ∀ k, G k → k < w.heap.size) (hl : xs.length ≤ 1000000) :
    Calls Try.prog 21 #[.pointer (some ⟨m, 0, none⟩)] w fun e w' => ∃ B cap, e = .returned (.slice B xs.length cap) ∧ SliceOf Rep.bk w' (fun k => G k ∨ (w.heap.size ≤ k ∧ k < w'.heap.size)) (.slice B xs.length cap) xs ∧ xs.length ≤ cap ∧ Keep [] w w' := by
  have c3 : w.cell? ⟨m, 3, none⟩ = some (.slice A xs.length c) := Blk.cell h 3
  replace hs := Lib.hid hs
  replace hG := Lib.hid hG
  clear h
  go_enter Try.func21, Try.ntmps21
  go_wp2_with fail
  refine (cloneB2_call A xs c G _ hs.out hG.out hl).mono ?_
  rintro e w' ⟨B, cap, rfl, h1, hc, k⟩
  go_wp2
  go_ret
  exact ⟨B, cap, rfl, h1, hc, k⟩
theorem SliceOf.takeN {α : Type} {a : Rep α} {w : World} {F : Nat → Prop} {A : Option Addr} {n c c' m : Nat} {xs : List α} (h : SliceOf a w F (.slice A n c) xs) (hm : m ≤ xs.length) : SliceOf a w F (.slice A m c') (xs.take m) := by
  obtain ⟨A', c1, e, hl, h⟩ := h
  cases e
  refine ⟨A, c', by rw [List.length_take, Nat.min_eq_left hm], by rw [List.length_take]; omega, fun hp => ?_⟩
  rw [List.length_take] at hp
  obtain ⟨g, o, rfl, hF, hg, h⟩ := h (by omega)
  refine ⟨g, o, rfl, hF, hg, fun i hi => ?_⟩
  have hi' : i < xs.length := by rw [List.length_take] at hi; omega
  obtain ⟨cs, h1, h2⟩ := h i hi'
  exact ⟨cs, by rw [List.getElem_take]; exact h1, h2⟩
/-- What the law keeps beside the store: two states and a list of blocks. -/
structure ExtC (w0 w : World) (F H : Nat → Prop) (m p q r : Nat) (v : Value) (su mo : Stt) (va : Value) (al : List Bk) : Prop where
  qq : Blk w q (stV su) 23
  rr : Blk w r (stV mo) 23
  ss : SliceOf Rep.bk w H va al
  lq : w0.heap.size ≤ q ∧ q ≠ m ∧ q ≠ p ∧ ¬ F q
  lr : w0.heap.size ≤ r ∧ r ≠ m ∧ r ≠ p ∧ ¬ F r
  qr : q ≠ r
  vq : v.ownBlock ≠ some q
  vr : v.ownBlock ≠ some r
  hH : ∀ k, H k → k < w.heap.size ∧ k ≠ m ∧ k ≠ p ∧ k ≠ q ∧ k ≠ r ∧ v.ownBlock ≠ some k
section
variable {w0 w w' : World} {F H H' : Nat → Prop} {m p q r : Nat} {x x' : Lg} {st st' su mo : Stt} {bs bs' al al' : List Bk} {v v' va va' : Value}
theorem ExtC.keep0 (h : ExtC w0 w F H m p q r v su mo va al) (k : Keep [] w w') : ExtC w0 w' F H m p q r v su mo va al :=
  ⟨h.qq.keep k (by simp), h.rr.keep k (by simp), h.ss.keep (k.at _ (by simp)), h.lq, h.lr, h.qr, h.vq, h.vr, fun i hi => ⟨Nat.lt_of_lt_of_le (h.hH i hi).1 k.size, (h.hH i hi).2⟩⟩
theorem ExtC.keepP (h : ExtC w0 w F H m p q r v su mo va al) (k : Keep [p] w w') : ExtC w0 w' F H m p q r v su mo va al :=
  ⟨h.qq.keep k (by simpa using h.lq.2.2.1), h.rr.keep k (by simpa using h.lr.2.2.1), h.ss.keep (k.at _ (fun i hi hf => (h.hH i hf).2.2.1 (by simpa using hi))), h.lq, h.lr, h.qr, h.vq, h.vr, fun i hi => ⟨Nat.lt_of_lt_of_le (h.hH i hi).1 k.size, (h.hH i hi).2⟩⟩
theorem Mem.keepP (h : Mem w0 w F m p x st bs v) (k : Keep [p] w w') (hx : LogAt w' p x') : Mem w0 w' F m p x' st bs v where
  keep := h.keep.new2 k (fun i hi => by have := h.lp; simp at hi; omega)
  log := hx
  sto := Blk.keep h.sto k (by simpa using h.mp)
  row := h.row.keepS k (fun i hi => by
    obtain rfl : i = p := by simpa using hi
    exact ⟨fun e => (h.vm i e).2.2 rfl, fun hf => (h.fr i hf).2.2 rfl⟩)
  mp := h.mp
  lm := h.lm
  lp := h.lp
  vm := h.vm
  fr := fun i hi => ⟨Nat.lt_of_lt_of_le (h.fr i hi).1 k.size, (h.fr i hi).2⟩
theorem ExtC.saved (h : ExtC w0 w F H m p q r v su mo va al) (k : Keep (m :: p :: v.ownBlock.toList) w w') (hv : v'.ownBlock = v.ownBlock ∨ ∃ g, v'.ownBlock = some g ∧ w.heap.size ≤ g) : ExtC w0 w' F H m p q r v' su mo va al := by
  have hne : ∀ i, i < w.heap.size → v.ownBlock ≠ some i → v'.ownBlock ≠ some i := fun i hi hn he => by
    rcases hv with e | ⟨g, e, hg⟩
    · exact hn (e ▸ he)
    · rw [e] at he
      obtain rfl : g = i := Option.some.inj he
      omega
  have n3 : ∀ i, i ≠ m → i ≠ p → v.ownBlock ≠ some i → i ∉ m :: p :: v.ownBlock.toList := fun i h1 h2 h3 hm => by
    rcases mem3 hm with e | e | e
    · exact h1 e
    · exact h2 e
    · exact h3 e
  exact ⟨h.qq.keep k (n3 q h.lq.2.1 h.lq.2.2.1 h.vq), h.rr.keep k (n3 r h.lr.2.1 h.lr.2.2.1 h.vr), h.ss.keep (k.at _ (fun i hi hf => n3 i (h.hH i hf).2.1 (h.hH i hf).2.2.1 (h.hH i hf).2.2.2.2.2 hi)), h.lq, h.lr, h.qr, hne q h.qq.lt h.vq, hne r h.rr.lt h.vr,
    fun i hi => ⟨Nat.lt_of_lt_of_le (h.hH i hi).1 k.size, (h.hH i hi).2.1, (h.hH i hi).2.2.1, (h.hH i hi).2.2.2.1, (h.hH i hi).2.2.2.2.1, hne i (h.hH i hi).1 (h.hH i hi).2.2.2.2.2⟩⟩
theorem ExtC.setq (h : ExtC w0 w F H m p q r v su mo va al) (k : Keep [q] w w') (hb : Blk w' q (stV st') 23) : ExtC w0 w' F H m p q r v st' mo va al :=
  ⟨hb, h.rr.keep k (by simpa using fun e => h.qr e.symm), h.ss.keep (k.at _ (fun i hi hf => (h.hH i hf).2.2.2.1 (by simpa using hi))), h.lq, h.lr, h.qr, h.vq, h.vr, fun i hi => ⟨Nat.lt_of_lt_of_le (h.hH i hi).1 k.size, (h.hH i hi).2⟩⟩
theorem ExtC.setr (h : ExtC w0 w F H m p q r v su mo va al) (k : Keep [r] w w') (hb : Blk w' r (stV st') 23) : ExtC w0 w' F H m p q r v su st' va al :=
  ⟨h.qq.keep k (by simpa using h.qr), hb, h.ss.keep (k.at _ (fun i hi hf => (h.hH i hf).2.2.2.2.1 (by simpa using hi))), h.lq, h.lr, h.qr, h.vq, h.vr, fun i hi => ⟨Nat.lt_of_lt_of_le (h.hH i hi).1 k.size, (h.hH i hi).2⟩⟩
theorem Mem.keepQ (h : Mem w0 w F m p x st bs v) (k : Keep [q] w w') (hq : w0.heap.size ≤ q ∧ q ≠ m ∧ q ≠ p ∧ ¬ F q) (hv : v.ownBlock ≠ some q) : Mem w0 w' F m p x st bs v :=
  h.keepS k (fun i hi => by
    obtain rfl : i = q := by simpa using hi
    exact ⟨hq.1, hq.2.1, hq.2.2.1, hv, hq.2.2.2⟩)
/-- The list is anew: a row that was not there, with what older blocks hold. -/
theorem ExtC.setall (h : ExtC w0 w F H m p q r v su mo va al) (k : Keep [] w w') (hG : ∀ i, H' i → F i ∨ H i) (hF : ∀ i, F i → i < w.heap.size ∧ i ≠ m ∧ i ≠ p ∧ i ≠ q ∧ i ≠ r ∧ v.ownBlock ≠ some i)
    (hr : RowG Rep.bk 29 w' w.heap.size H' va' al') (hl : al'.length ≤ M47) (hm : m < w.heap.size) (hp : p < w.heap.size) (hv : ∀ k, v.ownBlock = some k → k < w.heap.size) : ExtC w0 w' F (fun i => H' i ∨ va'.ownBlock = some i) m p q r v su mo va' al' := by
  have h0 := h.keep0 k
  refine ⟨h0.qq, h0.rr, hr.slice hl, h.lq, h.lr, h.qr, h.vq, h.vr, fun i hi => ?_⟩
  rcases hi with hi | hi
  · rcases hG i hi with hf | hf
    · have := hF i hf
      exact ⟨Nat.lt_of_lt_of_le this.1 k.size, this.2⟩
    · have := h.hH i hf
      exact ⟨Nat.lt_of_lt_of_le this.1 k.size, this.2⟩
  · have h1 := hr.lt i hi
    have h2 := h.qq.lt
    have h3 := h.rr.lt
    exact ⟨h1.2, by omega, by omega, by omega, by omega, fun e => by have := hv i e; omega⟩
theorem RowX.wide {α : Type} {a : Rep α} {e : TypeId} {G G' : Nat → Prop} {xs : List α} (h : RowX a e w G v xs) (hG : ∀ k, G k → G' k) (hn : ∀ k, v.ownBlock = some k → ¬ G' k) : RowX a e w G' v xs := by
  obtain ⟨⟨css, h1, h2, h3⟩, _⟩ := h
  exact ⟨⟨css, h1, h2, fun i x cs hx hc => a.mono (h3 i x cs hx hc) (fun k hk _ => hG k hk)⟩, hn⟩
/-- Opened again: another memory, another row. -/
theorem ExtC.reopen {n : Nat} {F' : Nat → Prop} (h : ExtC w0 w F H m p q r v su mo va al) (k : Keep [p] w w') (hn : w.heap.size ≤ n) (hv : ∀ i, v'.ownBlock = some i → w.heap.size ≤ i) (hF : ∀ i, F' i → i < w0.heap.size ∨ w.heap.size ≤ i) : ExtC w0 w' F' H n p q r v' su mo va al := by
  have h1 := h.keepP k
  have q1 := h.qq.lt
  have r1 := h.rr.lt
  exact ⟨h1.qq, h1.rr, h1.ss, ⟨h.lq.1, by omega, h.lq.2.2.1, fun hf => by have := hF q hf; have := h.lq.1; omega⟩, ⟨h.lr.1, by omega, h.lr.2.2.1, fun hf => by have := hF r hf; have := h.lr.1; omega⟩, h.qr, fun e => by have := hv q e; omega, fun e => by have := hv r e; omega,
    fun i hi => by
      have h2 := h.hH i hi
      have h3 := h1.hH i hi
      exact ⟨h3.1, by omega, h3.2.2.1, h3.2.2.2.1, h3.2.2.2.2.1, fun e => by have := hv i e; omega⟩⟩
theorem Mem.reopen {n : Nat} {G : Nat → Prop} (h : Mem w0 w F m p x st bs v) (k : Keep [p] w w') (hx : LogAt w' p x') (hs : StAt w' n p st' v') (hr : RowX Rep.bk 29 w' G v' bs') (hn : w.heap.size ≤ n) (hl : ∀ i, (v'.ownBlock = some i ∨ G i) → w.heap.size ≤ i ∧ i < w'.heap.size ∧ i ≠ n)
    (hA : ∀ i, H i → i < w0.heap.size) : Mem w0 w' (fun i => G i ∨ H i) n p x' st' bs' v' := by
  have hp := Blk.lt h.log
  have h0 := h.keep.size
  have h1 := h.lp
  refine ⟨h.keep.new2 k (fun i hi => by simp at hi; omega), hx, hs, hr.wide (fun i hi => .inl hi) (fun i e hg => ?_), by omega, by omega, h.lp, fun i e => by have := hl i (.inl e); omega, fun i hi => ?_⟩
  · rcases hg with hg | hg
    · exact hr.2 i e hg
    · have := hl i (.inl e); have := hA i hg; omega
  · rcases hi with hi | hi
    · have := hl i (.inr hi); omega
    · have := hA i hi; have := k.size; omega
end
end Go.Proofs.Ytdhhibppcckbkaa
