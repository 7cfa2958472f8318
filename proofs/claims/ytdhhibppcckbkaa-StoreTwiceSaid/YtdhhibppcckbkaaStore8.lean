import Derived.Test.YtdhhibppcckbkaaStore4
import Derived.Deep.DeepCutAuto
namespace Go.Proofs.Ytdhhibppcckbkaa
open Go.RowKit
set_option linter.unusedVariables false
set_option linter.unusedSimpArgs false
/-! the reference's one: what a record is -/
theorem ret_tcc {P : Program} {fn : Func} {R : Ending → World → Prop} {a : Act} {w : World} {p q u : Tmp} {ty sy : TypeId} {g k : Nat} {C D : Array Value} {t s : Nat} {d f : TypeDesc} (hr : fn.results = #[.tmp u, .cell p ty, .cell q sy]) (hd : a.defers = [])
    (hp : a.tmps.getD p undef = .pointer (some ⟨g, 0, none⟩)) (hb : Blk w g C t) (hu : P.underlying ty = some d) (hrow : d.isRow = true) (hi : (P.info? ty).map (·.size) = some C.size)
    (hq : a.tmps.getD q undef = .pointer (some ⟨k, 0, none⟩)) (hb2 : Blk w k D s) (hu2 : P.underlying sy = some f) (hrow2 : f.isRow = true) (hi2 : (P.info? sy).map (·.size) = some D.size)
    (v : Value) (hv : a.tmps.getD u undef = v) (hR : R (.returned (.tuple #[v, .agg C, .agg D])) w) : bodyPost P fn R .ret a w :=
  bodyPost_ret (v := .tuple #[v, .agg C, .agg D]) (by
    have h := run_loadPart (P := P) w g 0 ty C C t d hb hu hrow hi (by rw [List.drop_zero, List.take_length])
    have h2 := run_loadPart (P := P) w k 0 sy D D s f hb2 hu2 hrow2 hi2 (by rw [List.drop_zero, List.take_length])
    have hp' : a.tmps[p]?.getD undef = .pointer (some ⟨g, 0, none⟩) := by simpa using hp
    have hq' : a.tmps[q]?.getD undef = .pointer (some ⟨k, 0, none⟩) := by simpa using hq
    have hv' : a.tmps[u]?.getD undef = v := by simpa using hv
    simp only [results, hr]
    simp [Sem.run_bind, Result.andThen, hp', hq', asAddr, h, h2, hv']) hd hR
def zBlk : Bk := ⟨0, 0, ⟨0, ⟨#[]⟩, []⟩, []⟩
theorem stp_build {P : Program} {o : Oper} {act : Act} {K : Act → World → Prop} {Q : Exit → Act → World → Prop} {ops : Array Oper} {E : Prop} {W : World} (hgd : o.guard = none) (t : TypeId) (parts : Array (Nat × Operand)) (ho : o.op = .build t parts) (C : Array Value)
    (hf : P.built t (parts.map fun (i, x) => (i, act.eval x)).toList = some C) (h : K (act.put o.dst (.agg C)) W) : Stp P o ops act W K Q E := by
  refine ⟨?_⟩
  have hw : Region.wanted o (yielded ops act.tmps) = true := by simp [Region.wanted, hgd]
  rw [if_pos hw]
  exact wp_build t parts ho (by rw [hf]; rfl) (by rw [hf]; exact h)
def oneF (r : ByteArray) : Int × Stt × Bk := match rcF r with
  | .no => (0, ⟨0, 0⟩, zBlk)
  | .st t => (1, t, zBlk)
  | .bk b => (2, ⟨0, 0⟩, b)
theorem readSt_size {b : ByteArray} (h : (readStF b).2 = 0) : b.size = 8 := by
  unfold readStF at h
  by_cases h8 : b.size = 8
  · exact h8
  · rw [if_neg h8] at h
    exact absurd h (by simp)
theorem readBk_none : (readBlockF ⟨#[]⟩).2 ≠ 0 := by
  intro h
  rcases B3_holds ⟨#[]⟩ with e | ⟨x, e, h1, h2⟩
  · rw [e] at h; exact absurd h (by simp)
  · have h3 := congrArg ByteArray.size h2
    unfold blockF at h3
    simp only [ByteArray.size_append, numF_size] at h3
    have : (⟨#[]⟩ : ByteArray).size = 0 := rfl
    omega
theorem rc_st {r : ByteArray} (h : 0 < r.size) (c : r[0].toNat = 83) (er : (readStF (r.extract 1 r.size)).2 = 0) : rcF r = .st (readStF (r.extract 1 r.size)).1 := by
  unfold rcF; rw [dif_pos h]; show (if r[0].toNat = 83 then _ else _) = _; rw [if_pos c, if_pos er]
theorem rc_st_bad {r : ByteArray} (h : 0 < r.size) (c : r[0].toNat = 83) (er : (readStF (r.extract 1 r.size)).2 ≠ 0) : rcF r = .no := by
  unfold rcF; rw [dif_pos h]; show (if r[0].toNat = 83 then _ else _) = _; rw [if_pos c, if_neg er]
theorem rc_bk {r : ByteArray} (h : 0 < r.size) (c : r[0].toNat = 66) (er : (readBlockF (r.extract 1 r.size)).2 = 0) : rcF r = .bk (readBlockF (r.extract 1 r.size)).1 := by
  unfold rcF; rw [dif_pos h]; show (if r[0].toNat = 83 then _ else if r[0].toNat = 66 then _ else _) = _; rw [if_neg (by omega), if_pos c, if_pos er]
theorem rc_bk_bad {r : ByteArray} (h : 0 < r.size) (c : r[0].toNat = 66) (er : (readBlockF (r.extract 1 r.size)).2 ≠ 0) : rcF r = .no := by
  unfold rcF; rw [dif_pos h]; show (if r[0].toNat = 83 then _ else if r[0].toNat = 66 then _ else _) = _; rw [if_neg (by omega), if_pos c, if_neg er]
theorem rc_other {r : ByteArray} (h : 0 < r.size) (c : r[0].toNat ≠ 83) (c' : r[0].toNat ≠ 66) : rcF r = .no := by
  unfold rcF; rw [dif_pos h]; show (if r[0].toNat = 83 then _ else if r[0].toNat = 66 then _ else _) = _; rw [if_neg c, if_neg c']
theorem rc_not9 {r : ByteArray} (h : 0 < r.size) (h9 : r.size ≠ 9) (c : r[0].toNat = 83) : rcF r = .no := by
  refine rc_st_bad h c fun e => ?_
  have := readSt_size e
  rw [ByteArray.size_extract] at this
  omega
theorem rc_one {r : ByteArray} (h : r.size ≤ 1) : rcF r = .no := by
  by_cases h0 : 0 < r.size
  · by_cases c : r[0].toNat = 83
    · exact rc_not9 h0 (by omega) c
    · by_cases c' : r[0].toNat = 66
      · refine rc_bk_bad h0 c' ?_
        have e : r.extract 1 r.size = ⟨#[]⟩ := nil_of_size _ (by rw [ByteArray.size_extract]; omega)
        rw [e]
        exact readBk_none
      · exact rc_other h0 c c'
  · unfold rcF; rw [dif_neg h0]
set_option maxRecDepth 100000 in
set_option maxHeartbeats 4000000 in
theorem one_small (r : ByteArray) (w : World) (hr : r.size ≤ M47) (h : r.size ≤ 1) : Calls Try.prog 38 #[.string r] w fun e w' => e = .returned (.tuple #[.int .i64 0, .agg zSt, .agg zBv]) ∧ Keep [] w w' := by
  have z9 : ((r.size : Int) == 9) = false := by rw [beq_eq_false_iff_ne]; omega
  have y9 : ¬ ((r.size : Int) = 9) := by omega
  have zg : ¬ (1 : Int) < (r.size : Int) := by omega
  clear h
  have hr2 : r.size < 9223372036854775808 := by unfold M47 at hr; omega
  replace hr := Lib.hid hr
  go_enter Try.func38, Try.ntmps38
  go_upto_region 1 with (first | ((with_reducible refine wl_alloc 23 ?_ ?_); (with_reducible rfl); refine sx_alloc rfl 23 rfl _ 2 zSt zSt_info rfl ?_; intro w1 bw1 kw1 zw1; clear zw1; (try simp only [Act.put, List.setIfInBounds_toArray, List.set_cons_zero, List.set_cons_succ])) | ((with_reducible refine wl_alloc 29 ?_ ?_); (with_reducible rfl); refine sx_alloc rfl 29 rfl _ 6 zBv zBk_info rfl ?_; intro w2 bw2 kw2 zw2; clear zw2; (try simp only [Act.put, List.setIfInBounds_toArray, List.set_cons_zero, List.set_cons_succ])))
  have d1 := bw1.keep kw2 (by simp)
  have kk2 := kw1.trans kw2
  have l1 := bw1.lt
  have l2 := bw2.lt
  clear bw1 kw1 kw2
  go_wp2_with (first | ((with_reducible refine wl_build 23 _ ?_ ?_); (with_reducible rfl); refine sx_build rfl 23 _ rfl zSt (by kernel_rfl) ?_; (try simp only [Act.put, List.setIfInBounds_toArray, List.set_cons_zero, List.set_cons_succ])) | ((with_reducible refine wl_build 29 _ ?_ ?_); (with_reducible rfl); refine sx_build rfl 29 _ rfl zBv (by kernel_rfl) ?_; (try simp only [Act.put, List.setIfInBounds_toArray, List.set_cons_zero, List.set_cons_succ])) | ((with_reducible refine wl_store 23 (.tmp 3) (.tmp 45) ?_ ?_); (with_reducible rfl); refine sx_storeW rfl 23 (.tmp 3) (.tmp 45) rfl w.heap.size zSt zSt _ 2 rfl rfl d1 zSt_size rfl rfl rfl ?_; intro wy bwy kwy zwy; clear zwy; (try simp only [Act.put, List.setIfInBounds_toArray, List.set_cons_zero, List.set_cons_succ])) | ((with_reducible refine wl_store 29 (.tmp 4) (.tmp 46) ?_ ?_); (with_reducible rfl); refine sx_storeW rfl 29 (.tmp 4) (.tmp 46) rfl w1.heap.size zBv zBv _ 6 rfl rfl (bw2.keep kwy (by simp; omega)) zBk_size rfl rfl rfl ?_; intro wz bwz kwz zwz; clear zwz; (try simp only [Act.put, List.setIfInBounds_toArray, List.set_cons_zero, List.set_cons_succ])))
  have by2 := bwy.keep kwz (by simp; omega)
  refine ret_tcc rfl rfl rfl by2 Try.underlying23 rfl zSt_size rfl bwz Try.underlying29 rfl zBk_size _ rfl ?_
  exact ⟨rfl, (kk2.new kwy (fun i hi => .inr (by simp at hi; omega))).new kwz (fun i hi => .inr (by simp at hi; omega))⟩
set_option maxRecDepth 100000 in
set_option maxHeartbeats 4000000 in
theorem one_other1 (r : ByteArray) (w : World) (hr : r.size ≤ M47) (h0 : 0 < r.size) (h1 : 1 < r.size) (h9 : r.size = 9) (c : (r[0]'h0).toNat ≠ 83) (c' : (r[0]'h0).toNat ≠ 66) : Calls Try.prog 38 #[.string r] w fun e w' => e = .returned (.tuple #[.int .i64 0, .agg zSt, .agg zBv]) ∧ Keep [] w w' := by
  have z9 : ((r.size : Int) == 9) = true := by rw [beq_iff_eq]; omega
  have y9 : ((r.size : Int) = 9) := by omega
  have zg : (1 : Int) < (r.size : Int) := by omega
  have z83 : (((r[0]'h0).toNat : Int) == 83) = false := by rw [beq_eq_false_iff_ne]; omega
  have y83 : ¬ (((r[0]'h0).toNat : Int) = 83) := by omega
  have z66 : (((r[0]'h0).toNat : Int) == 66) = false := by rw [beq_eq_false_iff_ne]; omega
  have y66 : ¬ (((r[0]'h0).toNat : Int) = 66) := by omega
  clear h9 c c'
  have hr2 : r.size < 9223372036854775808 := by unfold M47 at hr; omega
  replace hr := Lib.hid hr
  go_enter Try.func38, Try.ntmps38
  go_upto_region 1 with (first | ((with_reducible refine wl_alloc 23 ?_ ?_); (with_reducible rfl); refine sx_alloc rfl 23 rfl _ 2 zSt zSt_info rfl ?_; intro w1 bw1 kw1 zw1; clear zw1; (try simp only [Act.put, List.setIfInBounds_toArray, List.set_cons_zero, List.set_cons_succ])) | ((with_reducible refine wl_alloc 29 ?_ ?_); (with_reducible rfl); refine sx_alloc rfl 29 rfl _ 6 zBv zBk_info rfl ?_; intro w2 bw2 kw2 zw2; clear zw2; (try simp only [Act.put, List.setIfInBounds_toArray, List.set_cons_zero, List.set_cons_succ])))
  have d1 := bw1.keep kw2 (by simp)
  have kk2 := kw1.trans kw2
  have l1 := bw1.lt
  have l2 := bw2.lt
  clear bw1 kw1 kw2
  go_wp2_with (first | ((with_reducible refine wl_build 23 _ ?_ ?_); (with_reducible rfl); refine sx_build rfl 23 _ rfl zSt (by kernel_rfl) ?_; (try simp only [Act.put, List.setIfInBounds_toArray, List.set_cons_zero, List.set_cons_succ])) | ((with_reducible refine wl_build 29 _ ?_ ?_); (with_reducible rfl); refine sx_build rfl 29 _ rfl zBv (by kernel_rfl) ?_; (try simp only [Act.put, List.setIfInBounds_toArray, List.set_cons_zero, List.set_cons_succ])) | ((with_reducible refine wl_store 23 (.tmp 3) (.tmp 45) ?_ ?_); (with_reducible rfl); refine sx_storeW rfl 23 (.tmp 3) (.tmp 45) rfl w.heap.size zSt zSt _ 2 rfl rfl d1 zSt_size rfl rfl rfl ?_; intro wy bwy kwy zwy; clear zwy; (try simp only [Act.put, List.setIfInBounds_toArray, List.set_cons_zero, List.set_cons_succ])) | ((with_reducible refine wl_store 29 (.tmp 4) (.tmp 46) ?_ ?_); (with_reducible rfl); refine sx_storeW rfl 29 (.tmp 4) (.tmp 46) rfl w1.heap.size zBv zBv _ 6 rfl rfl (bw2.keep kwy (by simp; omega)) zBk_size rfl rfl rfl ?_; intro wz bwz kwz zwz; clear zwz; (try simp only [Act.put, List.setIfInBounds_toArray, List.set_cons_zero, List.set_cons_succ])))
  have by2 := bwy.keep kwz (by simp; omega)
  refine ret_tcc rfl rfl rfl by2 Try.underlying23 rfl zSt_size rfl bwz Try.underlying29 rfl zBk_size _ rfl ?_
  exact ⟨rfl, (kk2.new kwy (fun i hi => .inr (by simp at hi; omega))).new kwz (fun i hi => .inr (by simp at hi; omega))⟩
set_option maxRecDepth 100000 in
set_option maxHeartbeats 4000000 in
theorem one_other0 (r : ByteArray) (w : World) (hr : r.size ≤ M47) (h0 : 0 < r.size) (h1 : 1 < r.size) (h9 : r.size ≠ 9) (c' : (r[0]'h0).toNat ≠ 66) : Calls Try.prog 38 #[.string r] w fun e w' => e = .returned (.tuple #[.int .i64 0, .agg zSt, .agg zBv]) ∧ Keep [] w w' := by
  have z9 : ((r.size : Int) == 9) = false := by rw [beq_eq_false_iff_ne]; omega
  have y9 : ¬ ((r.size : Int) = 9) := by omega
  have zg : (1 : Int) < (r.size : Int) := by omega
  have z66 : (((r[0]'h0).toNat : Int) == 66) = false := by rw [beq_eq_false_iff_ne]; omega
  have y66 : ¬ (((r[0]'h0).toNat : Int) = 66) := by omega
  clear h9 c'
  have hr2 : r.size < 9223372036854775808 := by unfold M47 at hr; omega
  replace hr := Lib.hid hr
  go_enter Try.func38, Try.ntmps38
  go_upto_region 1 with (first | ((with_reducible refine wl_alloc 23 ?_ ?_); (with_reducible rfl); refine sx_alloc rfl 23 rfl _ 2 zSt zSt_info rfl ?_; intro w1 bw1 kw1 zw1; clear zw1; (try simp only [Act.put, List.setIfInBounds_toArray, List.set_cons_zero, List.set_cons_succ])) | ((with_reducible refine wl_alloc 29 ?_ ?_); (with_reducible rfl); refine sx_alloc rfl 29 rfl _ 6 zBv zBk_info rfl ?_; intro w2 bw2 kw2 zw2; clear zw2; (try simp only [Act.put, List.setIfInBounds_toArray, List.set_cons_zero, List.set_cons_succ])))
  have d1 := bw1.keep kw2 (by simp)
  have kk2 := kw1.trans kw2
  have l1 := bw1.lt
  have l2 := bw2.lt
  clear bw1 kw1 kw2
  go_wp2_with (first | ((with_reducible refine wl_build 23 _ ?_ ?_); (with_reducible rfl); refine sx_build rfl 23 _ rfl zSt (by kernel_rfl) ?_; (try simp only [Act.put, List.setIfInBounds_toArray, List.set_cons_zero, List.set_cons_succ])) | ((with_reducible refine wl_build 29 _ ?_ ?_); (with_reducible rfl); refine sx_build rfl 29 _ rfl zBv (by kernel_rfl) ?_; (try simp only [Act.put, List.setIfInBounds_toArray, List.set_cons_zero, List.set_cons_succ])) | ((with_reducible refine wl_store 23 (.tmp 3) (.tmp 45) ?_ ?_); (with_reducible rfl); refine sx_storeW rfl 23 (.tmp 3) (.tmp 45) rfl w.heap.size zSt zSt _ 2 rfl rfl d1 zSt_size rfl rfl rfl ?_; intro wy bwy kwy zwy; clear zwy; (try simp only [Act.put, List.setIfInBounds_toArray, List.set_cons_zero, List.set_cons_succ])) | ((with_reducible refine wl_store 29 (.tmp 4) (.tmp 46) ?_ ?_); (with_reducible rfl); refine sx_storeW rfl 29 (.tmp 4) (.tmp 46) rfl w1.heap.size zBv zBv _ 6 rfl rfl (bw2.keep kwy (by simp; omega)) zBk_size rfl rfl rfl ?_; intro wz bwz kwz zwz; clear zwz; (try simp only [Act.put, List.setIfInBounds_toArray, List.set_cons_zero, List.set_cons_succ])))
  have by2 := bwy.keep kwz (by simp; omega)
  refine ret_tcc rfl rfl rfl by2 Try.underlying23 rfl zSt_size rfl bwz Try.underlying29 rfl zBk_size _ rfl ?_
  exact ⟨rfl, (kk2.new kwy (fun i hi => .inr (by simp at hi; omega))).new kwz (fun i hi => .inr (by simp at hi; omega))⟩
set_option maxRecDepth 100000 in
set_option maxHeartbeats 4000000 in
theorem one_st (r : ByteArray) (w : World) (hr : r.size ≤ M47) (h0 : 0 < r.size) (h9 : r.size = 9) (c : (r[0]'h0).toNat = 83) (her : (readStF (r.extract 1 r.size)).2 = 0) : Calls Try.prog 38 #[.string r] w fun e w' => e = .returned (.tuple #[.int .i64 1, .agg (stV (readStF (r.extract 1 r.size)).1), .agg zBv]) ∧ Keep [] w w' := by
  have z9 : ((r.size : Int) == 9) = true := by rw [beq_iff_eq]; omega
  have y9 : ((r.size : Int) = 9) := by omega
  have z83 : (((r[0]'h0).toNat : Int) == 83) = true := by rw [beq_iff_eq]; omega
  have y83 : (((r[0]'h0).toNat : Int) = 83) := by omega
  have hbs : (r.extract 1 r.size).size ≤ M47 := by rw [ByteArray.size_extract]; omega
  have hRd := Lib.hid (fun w' => rread_call (r.extract 1 r.size) w' hbs)
  have hRb := Lib.hid (fun w' => readBlock_call (r.extract 1 r.size) w')
  clear hbs
  clear h9 c
  have hr2 : r.size < 9223372036854775808 := by unfold M47 at hr; omega
  replace hr := Lib.hid hr
  go_enter Try.func38, Try.ntmps38
  go_upto_region 1 with (first | ((with_reducible refine wl_alloc 23 ?_ ?_); (with_reducible rfl); refine sx_alloc rfl 23 rfl _ 2 zSt zSt_info rfl ?_; intro w1 bw1 kw1 zw1; clear zw1; (try simp only [Act.put, List.setIfInBounds_toArray, List.set_cons_zero, List.set_cons_succ])) | ((with_reducible refine wl_alloc 29 ?_ ?_); (with_reducible rfl); refine sx_alloc rfl 29 rfl _ 6 zBv zBk_info rfl ?_; intro w2 bw2 kw2 zw2; clear zw2; (try simp only [Act.put, List.setIfInBounds_toArray, List.set_cons_zero, List.set_cons_succ])))
  have d1 := bw1.keep kw2 (by simp)
  have kk2 := kw1.trans kw2
  have l1 := bw1.lt
  have l2 := bw2.lt
  clear bw1 kw1 kw2
  go_wp2_with fail
  refine (hRd.out _).mono ?_
  rintro e w3 ⟨rfl, k3⟩
  generalize hrd : readStF (r.extract 1 r.size) = rd at *
  obtain ⟨t, er⟩ := rd
  replace hrd := Lib.hid hrd
  dsimp only at *
  go_upto_region 3 with (first | ((with_reducible refine wl_alloc 23 ?_ ?_); (with_reducible rfl); refine sx_alloc rfl 23 rfl _ 2 zSt zSt_info rfl ?_; intro w4 bw4 kw4 zw4; clear zw4; (try simp only [Act.put, List.setIfInBounds_toArray, List.set_cons_zero, List.set_cons_succ])) | ((with_reducible refine wl_store 23 (.tmp 5) (.tmp 21) ?_ ?_); (with_reducible rfl); refine sx_storeW rfl 23 (.tmp 5) (.tmp 21) rfl w3.heap.size (stV t) zSt _ 2 rfl rfl bw4 zSt_size rfl rfl rfl ?_; intro w5 bw5 kw5 zw5; clear zw5; (try simp only [Act.put, List.setIfInBounds_toArray, List.set_cons_zero, List.set_cons_succ])))
  have k35 := kw4.new kw5 (S := []) (fun i hi => .inr (by simp at hi; omega))
  have k25 := k3.trans k35
  have d5 := d1.keep k25 (by simp)
  have e5 := bw2.keep k25 (by simp)
  have kk5 := kk2.trans k25
  have s3 := k3.size
  have s5 := k25.size
  clear bw4 kw4 kw5 k35
  subst her
  go_upto_region 4 with fail
  refine wp_region_any (by kernel_rfl) ?_
  (try (change wpAny _ _ _ _ _ _ _ (World.drew _)))
  have K0 : Keep [] w5 w5.drew := (Keep.refl [] w5).drew
  generalize World.drew w5 = u0 at *
  refine wpAny_take (i := 2) (v := ?_) rfl (by kernel_rfl) (by kernel_rfl) (by kernel_rfl) (fun _ _ _ h => h) (Or.inl ⟨by rfl, ?_⟩) ?_
  rotate_left
  · intro w9
    go_simp
    with_reducible rfl
  refine wpAny_take (i := 1) (v := ?_) rfl (by kernel_rfl) (by kernel_rfl) (by kernel_rfl) (fun _ _ _ h => h) (Or.inl ⟨by rfl, ?_⟩) ?_
  rotate_left
  · intro w9
    go_simp
    with_reducible rfl
  refine wpAny_ready (rs := [0]) (by kernel_rfl) (by simp) ?_
  refine AllReady.consS rfl (fun K hK => ?_) ?_
  · refine stp_load rfl 23 (.tmp 5) rfl w3.heap.size 0 (stV t) (stV t) _ _ 2 rfl (bw5.keep K0 (by simp)) rfl Try.underlying23 rfl zSt_size rfl ?_
    refine hK _ _ ?_
    clear hK K
    refine wpAny_ready (rs := [3]) (by kernel_rfl) (by simp) ?_
    refine AllReady.consS rfl (fun K hK => ?_) ?_
    · refine stp_store rfl 23 (.tmp 3) (.tmp 25) rfl w.heap.size 0 (stV t) zSt (stV t) _ rfl rfl (d5.keep K0 (by simp)) zSt_size (by simp) rfl rfl ?_
      intro u1 bN kN zN
      clear zN
      have KX : Keep [] w u1 := (kk5.trans K0).new kN (fun i hi => .inr (by simp at hi; omega))
      have D3 := bN
      have E3 := (e5.keep K0 (by simp)).keep kN (by simp; omega)
      clear bN kN
      refine hK _ _ ?_
      clear hK K
      refine wpAny_ready (rs := [4]) (by kernel_rfl) (by simp) ?_
      refine AllReady.consS rfl (fun K hK => ?_) ?_
      · refine stp_store rfl 29 (.tmp 4) (.tmp 26) rfl w1.heap.size 0 zBv zBv zBv _ rfl rfl E3 zBk_size (by simp) rfl rfl ?_
        intro u2 bN kN zN
        clear zN
        have KY : Keep [] w u2 := KX.new kN (fun i hi => .inr (by simp at hi; omega))
        have D4 := D3.keep kN (by simp; omega)
        have E4 := bN
        clear bN kN
        refine hK _ _ ?_
        clear hK K
        refine wpAny_done (by kernel_rfl) ?_ _
        go_wp2_with fail
        refine ret_tcc rfl rfl rfl D4 Try.underlying23 rfl zSt_size rfl E4 Try.underlying29 rfl zBk_size _ rfl ?_
        rw [hrd.out]
        exact ⟨rfl, KY⟩
      exact AllReady.nil
    exact AllReady.nil
  exact AllReady.nil
set_option maxRecDepth 100000 in
set_option maxHeartbeats 4000000 in
theorem one_stbad (r : ByteArray) (w : World) (hr : r.size ≤ M47) (h0 : 0 < r.size) (h9 : r.size = 9) (c : (r[0]'h0).toNat = 83) (her : (readStF (r.extract 1 r.size)).2 ≠ 0) : Calls Try.prog 38 #[.string r] w fun e w' => e = .returned (.tuple #[.int .i64 0, .agg zSt, .agg zBv]) ∧ Keep [] w w' := by
  have z9 : ((r.size : Int) == 9) = true := by rw [beq_iff_eq]; omega
  have y9 : ((r.size : Int) = 9) := by omega
  have zg : (1 : Int) < (r.size : Int) := by omega
  have z83 : (((r[0]'h0).toNat : Int) == 83) = true := by rw [beq_iff_eq]; omega
  have y83 : (((r[0]'h0).toNat : Int) = 83) := by omega
  have z66 : (((r[0]'h0).toNat : Int) == 66) = false := by rw [beq_eq_false_iff_ne]; omega
  have y66 : ¬ (((r[0]'h0).toNat : Int) = 66) := by omega
  have hbs : (r.extract 1 r.size).size ≤ M47 := by rw [ByteArray.size_extract]; omega
  have hRd := Lib.hid (fun w' => rread_call (r.extract 1 r.size) w' hbs)
  have hRb := Lib.hid (fun w' => readBlock_call (r.extract 1 r.size) w')
  clear hbs
  clear h9 c
  have hr2 : r.size < 9223372036854775808 := by unfold M47 at hr; omega
  replace hr := Lib.hid hr
  go_enter Try.func38, Try.ntmps38
  go_upto_region 1 with (first | ((with_reducible refine wl_alloc 23 ?_ ?_); (with_reducible rfl); refine sx_alloc rfl 23 rfl _ 2 zSt zSt_info rfl ?_; intro w1 bw1 kw1 zw1; clear zw1; (try simp only [Act.put, List.setIfInBounds_toArray, List.set_cons_zero, List.set_cons_succ])) | ((with_reducible refine wl_alloc 29 ?_ ?_); (with_reducible rfl); refine sx_alloc rfl 29 rfl _ 6 zBv zBk_info rfl ?_; intro w2 bw2 kw2 zw2; clear zw2; (try simp only [Act.put, List.setIfInBounds_toArray, List.set_cons_zero, List.set_cons_succ])))
  have d1 := bw1.keep kw2 (by simp)
  have kk2 := kw1.trans kw2
  have l1 := bw1.lt
  have l2 := bw2.lt
  clear bw1 kw1 kw2
  go_wp2_with fail
  refine (hRd.out _).mono ?_
  rintro e w3 ⟨rfl, k3⟩
  generalize hrd : readStF (r.extract 1 r.size) = rd at *
  obtain ⟨t, er⟩ := rd
  replace hrd := Lib.hid hrd
  dsimp only at *
  go_upto_region 3 with (first | ((with_reducible refine wl_alloc 23 ?_ ?_); (with_reducible rfl); refine sx_alloc rfl 23 rfl _ 2 zSt zSt_info rfl ?_; intro w4 bw4 kw4 zw4; clear zw4; (try simp only [Act.put, List.setIfInBounds_toArray, List.set_cons_zero, List.set_cons_succ])) | ((with_reducible refine wl_store 23 (.tmp 5) (.tmp 21) ?_ ?_); (with_reducible rfl); refine sx_storeW rfl 23 (.tmp 5) (.tmp 21) rfl w3.heap.size (stV t) zSt _ 2 rfl rfl bw4 zSt_size rfl rfl rfl ?_; intro w5 bw5 kw5 zw5; clear zw5; (try simp only [Act.put, List.setIfInBounds_toArray, List.set_cons_zero, List.set_cons_succ])))
  have k35 := kw4.new kw5 (S := []) (fun i hi => .inr (by simp at hi; omega))
  have k25 := k3.trans k35
  have d5 := d1.keep k25 (by simp)
  have e5 := bw2.keep k25 (by simp)
  have kk5 := kk2.trans k25
  have s3 := k3.size
  have s5 := k25.size
  clear bw4 kw4 kw5 k35
  have z0 : (er == 0) = false := by rw [beq_eq_false_iff_ne]; exact her
  go_wp2_with (first | ((with_reducible refine wl_build 23 _ ?_ ?_); (with_reducible rfl); refine sx_build rfl 23 _ rfl zSt (by kernel_rfl) ?_; (try simp only [Act.put, List.setIfInBounds_toArray, List.set_cons_zero, List.set_cons_succ])) | ((with_reducible refine wl_build 29 _ ?_ ?_); (with_reducible rfl); refine sx_build rfl 29 _ rfl zBv (by kernel_rfl) ?_; (try simp only [Act.put, List.setIfInBounds_toArray, List.set_cons_zero, List.set_cons_succ])) | ((with_reducible refine wl_store 23 (.tmp 3) (.tmp 45) ?_ ?_); (with_reducible rfl); refine sx_storeW rfl 23 (.tmp 3) (.tmp 45) rfl w.heap.size zSt zSt _ 2 rfl rfl d5 zSt_size rfl rfl rfl ?_; intro wy bwy kwy zwy; clear zwy; (try simp only [Act.put, List.setIfInBounds_toArray, List.set_cons_zero, List.set_cons_succ])) | ((with_reducible refine wl_store 29 (.tmp 4) (.tmp 46) ?_ ?_); (with_reducible rfl); refine sx_storeW rfl 29 (.tmp 4) (.tmp 46) rfl w1.heap.size zBv zBv _ 6 rfl rfl (e5.keep kwy (by simp; omega)) zBk_size rfl rfl rfl ?_; intro wz bwz kwz zwz; clear zwz; (try simp only [Act.put, List.setIfInBounds_toArray, List.set_cons_zero, List.set_cons_succ])))
  have by2 := bwy.keep kwz (by simp; omega)
  refine ret_tcc rfl rfl rfl by2 Try.underlying23 rfl zSt_size rfl bwz Try.underlying29 rfl zBk_size _ rfl ?_
  exact ⟨rfl, (kk5.new kwy (fun i hi => .inr (by simp at hi; omega))).new kwz (fun i hi => .inr (by simp at hi; omega))⟩
end Go.Proofs.Ytdhhibppcckbkaa
namespace Go.Proofs.Ytdhhibppcckbkaa
open Go.RowKit
set_option linter.unusedVariables false
set_option linter.unusedSimpArgs false
set_option maxRecDepth 100000 in
set_option maxHeartbeats 4000000 in
theorem one_bk1 (r : ByteArray) (w : World) (hr : r.size ≤ M47) (h0 : 0 < r.size) (h1 : 1 < r.size) (h9 : r.size = 9) (c : (r[0]'h0).toNat = 66) (her : (readBlockF (r.extract 1 r.size)).2 = 0) : Calls Try.prog 38 #[.string r] w fun e w' => ∃ v u, e = .returned (.tuple #[.int .i64 2, .agg zSt, .agg (bkV (readBlockF (r.extract 1 r.size)).1 v u)]) ∧ SliceOf Rep.sg w' (New w) v (readBlockF (r.extract 1 r.size)).1.j.sg ∧ SliceOf Rep.req w' (New w) u (readBlockF (r.extract 1 r.size)).1.q ∧ Keep [] w w' := by
  have z9 : ((r.size : Int) == 9) = true := by rw [beq_iff_eq]; omega
  have y9 : ((r.size : Int) = 9) := by omega
  have zg : (1 : Int) < (r.size : Int) := by omega
  have z83 : (((r[0]'h0).toNat : Int) == 83) = false := by rw [beq_eq_false_iff_ne]; omega
  have y83 : ¬ (((r[0]'h0).toNat : Int) = 83) := by omega
  have z66 : (((r[0]'h0).toNat : Int) == 66) = true := by rw [beq_iff_eq]; omega
  have y66 : (((r[0]'h0).toNat : Int) = 66) := by omega
  have hbs : (r.extract 1 r.size).size ≤ M47 := by rw [ByteArray.size_extract]; omega
  have hRd := Lib.hid (fun w' => rread_call (r.extract 1 r.size) w' hbs)
  have hRb := Lib.hid (fun w' => readBlock_call (r.extract 1 r.size) w')
  clear hbs
  clear h9 c
  have hr2 : r.size < 9223372036854775808 := by unfold M47 at hr; omega
  replace hr := Lib.hid hr
  go_enter Try.func38, Try.ntmps38
  go_upto_region 1 with (first | ((with_reducible refine wl_alloc 23 ?_ ?_); (with_reducible rfl); refine sx_alloc rfl 23 rfl _ 2 zSt zSt_info rfl ?_; intro w1 bw1 kw1 zw1; clear zw1; (try simp only [Act.put, List.setIfInBounds_toArray, List.set_cons_zero, List.set_cons_succ])) | ((with_reducible refine wl_alloc 29 ?_ ?_); (with_reducible rfl); refine sx_alloc rfl 29 rfl _ 6 zBv zBk_info rfl ?_; intro w2 bw2 kw2 zw2; clear zw2; (try simp only [Act.put, List.setIfInBounds_toArray, List.set_cons_zero, List.set_cons_succ])))
  have d1 := bw1.keep kw2 (by simp)
  have kk2 := kw1.trans kw2
  have l1 := bw1.lt
  have l2 := bw2.lt
  clear bw1 kw1 kw2
  go_wp2_with fail
  refine (hRb.out _).mono ?_
  rintro e w3 ⟨v, u, rfl, hv, hu, k3⟩
  generalize hrd : readBlockF (r.extract 1 r.size) = rd at *
  obtain ⟨b, er⟩ := rd
  replace hrd := Lib.hid hrd
  dsimp only at *
  obtain ⟨Av, cv, rfl, -⟩ := hv.form
  obtain ⟨Au, cu, rfl, -⟩ := hu.form
  go_upto_region 7 with (first | ((with_reducible refine wl_alloc 29 ?_ ?_); (with_reducible rfl); refine sx_alloc rfl 29 rfl _ 6 zBv zBk_info rfl ?_; intro w4 bw4 kw4 zw4; clear zw4; (try simp only [Act.put, List.setIfInBounds_toArray, List.set_cons_zero, List.set_cons_succ])) | ((with_reducible refine wl_store 29 (.tmp 7) (.tmp 39) ?_ ?_); (with_reducible rfl); refine sx_storeW rfl 29 (.tmp 7) (.tmp 39) rfl w3.heap.size (bkV b (.slice Av b.j.sg.length cv) (.slice Au b.q.length cu)) zBv _ 6 rfl rfl bw4 zBk_size rfl rfl rfl ?_; intro w5 bw5 kw5 zw5; clear zw5; (try simp only [Act.put, List.setIfInBounds_toArray, List.set_cons_zero, List.set_cons_succ])))
  have k35 := kw4.new kw5 (S := []) (fun i hi => .inr (by simp at hi; omega))
  have k25 := k3.trans k35
  have d5 := d1.keep k25 (by simp)
  have e5 := bw2.keep k25 (by simp)
  have kk5 := kk2.trans k25
  have s2 := kk2.size
  have s3 := k3.size
  have s5 := k25.size
  have hv5 := hv.keep (k35.at _ (by simp))
  have hu5 := hu.keep (k35.at _ (by simp))
  clear bw4 kw4 kw5 k35 hv hu
  subst her
  go_upto_region 8 with fail
  refine wp_region_any (by kernel_rfl) ?_
  (try (change wpAny _ _ _ _ _ _ _ (World.drew _)))
  have K0 : Keep [] w5 w5.drew := (Keep.refl [] w5).drew
  generalize World.drew w5 = u0 at *
  refine wpAny_take (i := 2) (v := ?_) rfl (by kernel_rfl) (by kernel_rfl) (by kernel_rfl) (fun _ _ _ h => h) (Or.inl ⟨by rfl, ?_⟩) ?_
  rotate_left
  · intro w9
    go_simp
    with_reducible rfl
  refine wpAny_take (i := 0) (v := ?_) rfl (by kernel_rfl) (by kernel_rfl) (by kernel_rfl) (fun _ _ _ h => h) (Or.inl ⟨by rfl, ?_⟩) ?_
  rotate_left
  · intro w9
    go_simp
    with_reducible rfl
  refine wpAny_ready (rs := [1, 3]) (by kernel_rfl) (by simp) ?_
  refine AllReady.consS rfl (fun K hK => ?_) ?_
  · refine stp_load rfl 29 (.tmp 7) rfl w3.heap.size 0 (bkV b (.slice Av b.j.sg.length cv) (.slice Au b.q.length cu)) (bkV b (.slice Av b.j.sg.length cv) (.slice Au b.q.length cu)) _ _ 6 rfl (bw5.keep K0 (by simp)) rfl Try.underlying29 rfl zBk_size rfl ?_
    refine hK _ _ ?_
    clear hK K
    refine wpAny_ready (rs := [3]) (by kernel_rfl) (by simp) ?_
    refine AllReady.consS rfl (fun K hK => ?_) ?_
    · refine stp_store rfl 23 (.tmp 3) (.tmp 43) rfl w.heap.size 0 zSt zSt zSt _ rfl rfl (d5.keep K0 (by simp)) zSt_size (by simp) rfl rfl ?_
      intro u1 bN kN zN
      clear zN
      have K1 : Keep [w.heap.size] w5 u1 := (K0.mono (by simp)).trans kN
      have D3 := bN
      clear bN kN
      refine hK _ _ ?_
      clear hK K
      refine wpAny_ready (rs := [4]) (by kernel_rfl) (by simp) ?_
      refine AllReady.consS rfl (fun K hK => ?_) ?_
      · refine stp_store rfl 29 (.tmp 4) (.tmp 44) rfl w1.heap.size 0 (bkV b (.slice Av b.j.sg.length cv) (.slice Au b.q.length cu)) zBv (bkV b (.slice Av b.j.sg.length cv) (.slice Au b.q.length cu)) _ rfl rfl (e5.keep K1 (by simp; omega)) zBk_size (by simp) rfl rfl ?_
        intro u2 bN kN zN
        clear zN
        have K2 : Keep [w.heap.size, w1.heap.size] w5 u2 := (K1.mono (fun i _ hi => by simp at hi ⊢; simp [hi])).trans (kN.mono (fun i _ hi => by simp at hi ⊢; simp [hi]))
        have D4 := D3.keep kN (by simp; omega)
        have E4 := bN
        clear bN kN
        refine hK _ _ ?_
        clear hK K
        refine wpAny_done (by kernel_rfl) ?_ _
        go_wp2_with fail
        refine ret_tcc rfl rfl rfl D4 Try.underlying23 rfl zSt_size rfl E4 Try.underlying29 rfl zBk_size _ rfl ?_
        have nn : ∀ i, i ∈ [w.heap.size, w1.heap.size] → ¬ New w2 i := fun i hi h => by have h : w2.heap.size ≤ i := h; simp at hi; omega
        rw [hrd.out]
        exact ⟨_, _, rfl, (hv5.keep (K2.at _ nn)).mono (fun i hi _ => Nat.le_trans s2 hi), (hu5.keep (K2.at _ nn)).mono (fun i hi _ => Nat.le_trans s2 hi), kk5.new K2 (fun i hi => .inr (by simp at hi; omega))⟩
      exact AllReady.nil
    exact AllReady.nil
  refine AllReady.consS rfl (fun K hK => ?_) ?_
  · refine stp_store rfl 23 (.tmp 3) (.tmp 43) rfl w.heap.size 0 zSt zSt zSt _ rfl rfl (d5.keep K0 (by simp)) zSt_size (by simp) rfl rfl ?_
    intro u1 bN kN zN
    clear zN
    have K1 : Keep [w.heap.size] w5 u1 := (K0.mono (by simp)).trans kN
    have D3 := bN
    clear bN kN
    refine hK _ _ ?_
    clear hK K
    refine wpAny_ready (rs := [1]) (by kernel_rfl) (by simp) ?_
    refine AllReady.consS rfl (fun K hK => ?_) ?_
    · refine stp_load rfl 29 (.tmp 7) rfl w3.heap.size 0 (bkV b (.slice Av b.j.sg.length cv) (.slice Au b.q.length cu)) (bkV b (.slice Av b.j.sg.length cv) (.slice Au b.q.length cu)) _ _ 6 rfl (bw5.keep K1 (by simp; omega)) rfl Try.underlying29 rfl zBk_size rfl ?_
      refine hK _ _ ?_
      clear hK K
      refine wpAny_ready (rs := [4]) (by kernel_rfl) (by simp) ?_
      refine AllReady.consS rfl (fun K hK => ?_) ?_
      · refine stp_store rfl 29 (.tmp 4) (.tmp 44) rfl w1.heap.size 0 (bkV b (.slice Av b.j.sg.length cv) (.slice Au b.q.length cu)) zBv (bkV b (.slice Av b.j.sg.length cv) (.slice Au b.q.length cu)) _ rfl rfl (e5.keep K1 (by simp; omega)) zBk_size (by simp) rfl rfl ?_
        intro u2 bN kN zN
        clear zN
        have K2 : Keep [w.heap.size, w1.heap.size] w5 u2 := (K1.mono (fun i _ hi => by simp at hi ⊢; simp [hi])).trans (kN.mono (fun i _ hi => by simp at hi ⊢; simp [hi]))
        have D4 := D3.keep kN (by simp; omega)
        have E4 := bN
        clear bN kN
        refine hK _ _ ?_
        clear hK K
        refine wpAny_done (by kernel_rfl) ?_ _
        go_wp2_with fail
        refine ret_tcc rfl rfl rfl D4 Try.underlying23 rfl zSt_size rfl E4 Try.underlying29 rfl zBk_size _ rfl ?_
        have nn : ∀ i, i ∈ [w.heap.size, w1.heap.size] → ¬ New w2 i := fun i hi h => by have h : w2.heap.size ≤ i := h; simp at hi; omega
        rw [hrd.out]
        exact ⟨_, _, rfl, (hv5.keep (K2.at _ nn)).mono (fun i hi _ => Nat.le_trans s2 hi), (hu5.keep (K2.at _ nn)).mono (fun i hi _ => Nat.le_trans s2 hi), kk5.new K2 (fun i hi => .inr (by simp at hi; omega))⟩
      exact AllReady.nil
    exact AllReady.nil
  exact AllReady.nil
set_option maxRecDepth 100000 in
set_option maxHeartbeats 4000000 in
theorem one_bkbad1 (r : ByteArray) (w : World) (hr : r.size ≤ M47) (h0 : 0 < r.size) (h1 : 1 < r.size) (h9 : r.size = 9) (c : (r[0]'h0).toNat = 66) (her : (readBlockF (r.extract 1 r.size)).2 ≠ 0) : Calls Try.prog 38 #[.string r] w fun e w' => e = .returned (.tuple #[.int .i64 0, .agg zSt, .agg zBv]) ∧ Keep [] w w' := by
  have z9 : ((r.size : Int) == 9) = true := by rw [beq_iff_eq]; omega
  have y9 : ((r.size : Int) = 9) := by omega
  have zg : (1 : Int) < (r.size : Int) := by omega
  have z83 : (((r[0]'h0).toNat : Int) == 83) = false := by rw [beq_eq_false_iff_ne]; omega
  have y83 : ¬ (((r[0]'h0).toNat : Int) = 83) := by omega
  have z66 : (((r[0]'h0).toNat : Int) == 66) = true := by rw [beq_iff_eq]; omega
  have y66 : (((r[0]'h0).toNat : Int) = 66) := by omega
  have hbs : (r.extract 1 r.size).size ≤ M47 := by rw [ByteArray.size_extract]; omega
  have hRd := Lib.hid (fun w' => rread_call (r.extract 1 r.size) w' hbs)
  have hRb := Lib.hid (fun w' => readBlock_call (r.extract 1 r.size) w')
  clear hbs
  clear h9 c
  have hr2 : r.size < 9223372036854775808 := by unfold M47 at hr; omega
  replace hr := Lib.hid hr
  go_enter Try.func38, Try.ntmps38
  go_upto_region 1 with (first | ((with_reducible refine wl_alloc 23 ?_ ?_); (with_reducible rfl); refine sx_alloc rfl 23 rfl _ 2 zSt zSt_info rfl ?_; intro w1 bw1 kw1 zw1; clear zw1; (try simp only [Act.put, List.setIfInBounds_toArray, List.set_cons_zero, List.set_cons_succ])) | ((with_reducible refine wl_alloc 29 ?_ ?_); (with_reducible rfl); refine sx_alloc rfl 29 rfl _ 6 zBv zBk_info rfl ?_; intro w2 bw2 kw2 zw2; clear zw2; (try simp only [Act.put, List.setIfInBounds_toArray, List.set_cons_zero, List.set_cons_succ])))
  have d1 := bw1.keep kw2 (by simp)
  have kk2 := kw1.trans kw2
  have l1 := bw1.lt
  have l2 := bw2.lt
  clear bw1 kw1 kw2
  go_wp2_with fail
  refine (hRb.out _).mono ?_
  rintro e w3 ⟨v, u, rfl, hv, hu, k3⟩
  generalize hrd : readBlockF (r.extract 1 r.size) = rd at *
  obtain ⟨b, er⟩ := rd
  replace hrd := Lib.hid hrd
  dsimp only at *
  obtain ⟨Av, cv, rfl, -⟩ := hv.form
  obtain ⟨Au, cu, rfl, -⟩ := hu.form
  go_upto_region 7 with (first | ((with_reducible refine wl_alloc 29 ?_ ?_); (with_reducible rfl); refine sx_alloc rfl 29 rfl _ 6 zBv zBk_info rfl ?_; intro w4 bw4 kw4 zw4; clear zw4; (try simp only [Act.put, List.setIfInBounds_toArray, List.set_cons_zero, List.set_cons_succ])) | ((with_reducible refine wl_store 29 (.tmp 7) (.tmp 39) ?_ ?_); (with_reducible rfl); refine sx_storeW rfl 29 (.tmp 7) (.tmp 39) rfl w3.heap.size (bkV b (.slice Av b.j.sg.length cv) (.slice Au b.q.length cu)) zBv _ 6 rfl rfl bw4 zBk_size rfl rfl rfl ?_; intro w5 bw5 kw5 zw5; clear zw5; (try simp only [Act.put, List.setIfInBounds_toArray, List.set_cons_zero, List.set_cons_succ])))
  have k35 := kw4.new kw5 (S := []) (fun i hi => .inr (by simp at hi; omega))
  have k25 := k3.trans k35
  have d5 := d1.keep k25 (by simp)
  have e5 := bw2.keep k25 (by simp)
  have kk5 := kk2.trans k25
  have s2 := kk2.size
  have s3 := k3.size
  have s5 := k25.size
  have hv5 := hv.keep (k35.at _ (by simp))
  have hu5 := hu.keep (k35.at _ (by simp))
  clear bw4 kw4 kw5 k35 hv hu
  have z0 : (er == 0) = false := by rw [beq_eq_false_iff_ne]; exact her
  go_wp2_with (first | ((with_reducible refine wl_build 23 _ ?_ ?_); (with_reducible rfl); refine sx_build rfl 23 _ rfl zSt (by kernel_rfl) ?_; (try simp only [Act.put, List.setIfInBounds_toArray, List.set_cons_zero, List.set_cons_succ])) | ((with_reducible refine wl_build 29 _ ?_ ?_); (with_reducible rfl); refine sx_build rfl 29 _ rfl zBv (by kernel_rfl) ?_; (try simp only [Act.put, List.setIfInBounds_toArray, List.set_cons_zero, List.set_cons_succ])) | ((with_reducible refine wl_store 23 (.tmp 3) (.tmp 45) ?_ ?_); (with_reducible rfl); refine sx_storeW rfl 23 (.tmp 3) (.tmp 45) rfl w.heap.size zSt zSt _ 2 rfl rfl d5 zSt_size rfl rfl rfl ?_; intro wy bwy kwy zwy; clear zwy; (try simp only [Act.put, List.setIfInBounds_toArray, List.set_cons_zero, List.set_cons_succ])) | ((with_reducible refine wl_store 29 (.tmp 4) (.tmp 46) ?_ ?_); (with_reducible rfl); refine sx_storeW rfl 29 (.tmp 4) (.tmp 46) rfl w1.heap.size zBv zBv _ 6 rfl rfl (e5.keep kwy (by simp; omega)) zBk_size rfl rfl rfl ?_; intro wz bwz kwz zwz; clear zwz; (try simp only [Act.put, List.setIfInBounds_toArray, List.set_cons_zero, List.set_cons_succ])))
  have by2 := bwy.keep kwz (by simp; omega)
  refine ret_tcc rfl rfl rfl by2 Try.underlying23 rfl zSt_size rfl bwz Try.underlying29 rfl zBk_size _ rfl ?_
  exact ⟨rfl, (kk5.new kwy (fun i hi => .inr (by simp at hi; omega))).new kwz (fun i hi => .inr (by simp at hi; omega))⟩
end Go.Proofs.Ytdhhibppcckbkaa
namespace Go.Proofs.Ytdhhibppcckbkaa
open Go.RowKit
set_option linter.unusedVariables false
set_option linter.unusedSimpArgs false
set_option maxRecDepth 100000 in
set_option maxHeartbeats 4000000 in
theorem one_bk0 (r : ByteArray) (w : World) (hr : r.size ≤ M47) (h0 : 0 < r.size) (h1 : 1 < r.size) (h9 : r.size ≠ 9) (c : (r[0]'h0).toNat = 66) (her : (readBlockF (r.extract 1 r.size)).2 = 0) : Calls Try.prog 38 #[.string r] w fun e w' => ∃ v u, e = .returned (.tuple #[.int .i64 2, .agg zSt, .agg (bkV (readBlockF (r.extract 1 r.size)).1 v u)]) ∧ SliceOf Rep.sg w' (New w) v (readBlockF (r.extract 1 r.size)).1.j.sg ∧ SliceOf Rep.req w' (New w) u (readBlockF (r.extract 1 r.size)).1.q ∧ Keep [] w w' := by
  have z9 : ((r.size : Int) == 9) = false := by rw [beq_eq_false_iff_ne]; omega
  have y9 : ¬ ((r.size : Int) = 9) := by omega
  have zg : (1 : Int) < (r.size : Int) := by omega
  have z66 : (((r[0]'h0).toNat : Int) == 66) = true := by rw [beq_iff_eq]; omega
  have y66 : (((r[0]'h0).toNat : Int) = 66) := by omega
  have hbs : (r.extract 1 r.size).size ≤ M47 := by rw [ByteArray.size_extract]; omega
  have hRd := Lib.hid (fun w' => rread_call (r.extract 1 r.size) w' hbs)
  have hRb := Lib.hid (fun w' => readBlock_call (r.extract 1 r.size) w')
  clear hbs
  clear h9 c
  have hr2 : r.size < 9223372036854775808 := by unfold M47 at hr; omega
  replace hr := Lib.hid hr
  go_enter Try.func38, Try.ntmps38
  go_upto_region 1 with (first | ((with_reducible refine wl_alloc 23 ?_ ?_); (with_reducible rfl); refine sx_alloc rfl 23 rfl _ 2 zSt zSt_info rfl ?_; intro w1 bw1 kw1 zw1; clear zw1; (try simp only [Act.put, List.setIfInBounds_toArray, List.set_cons_zero, List.set_cons_succ])) | ((with_reducible refine wl_alloc 29 ?_ ?_); (with_reducible rfl); refine sx_alloc rfl 29 rfl _ 6 zBv zBk_info rfl ?_; intro w2 bw2 kw2 zw2; clear zw2; (try simp only [Act.put, List.setIfInBounds_toArray, List.set_cons_zero, List.set_cons_succ])))
  have d1 := bw1.keep kw2 (by simp)
  have kk2 := kw1.trans kw2
  have l1 := bw1.lt
  have l2 := bw2.lt
  clear bw1 kw1 kw2
  go_wp2_with fail
  refine (hRb.out _).mono ?_
  rintro e w3 ⟨v, u, rfl, hv, hu, k3⟩
  generalize hrd : readBlockF (r.extract 1 r.size) = rd at *
  obtain ⟨b, er⟩ := rd
  replace hrd := Lib.hid hrd
  dsimp only at *
  obtain ⟨Av, cv, rfl, -⟩ := hv.form
  obtain ⟨Au, cu, rfl, -⟩ := hu.form
  go_upto_region 7 with (first | ((with_reducible refine wl_alloc 29 ?_ ?_); (with_reducible rfl); refine sx_alloc rfl 29 rfl _ 6 zBv zBk_info rfl ?_; intro w4 bw4 kw4 zw4; clear zw4; (try simp only [Act.put, List.setIfInBounds_toArray, List.set_cons_zero, List.set_cons_succ])) | ((with_reducible refine wl_store 29 (.tmp 7) (.tmp 39) ?_ ?_); (with_reducible rfl); refine sx_storeW rfl 29 (.tmp 7) (.tmp 39) rfl w3.heap.size (bkV b (.slice Av b.j.sg.length cv) (.slice Au b.q.length cu)) zBv _ 6 rfl rfl bw4 zBk_size rfl rfl rfl ?_; intro w5 bw5 kw5 zw5; clear zw5; (try simp only [Act.put, List.setIfInBounds_toArray, List.set_cons_zero, List.set_cons_succ])))
  have k35 := kw4.new kw5 (S := []) (fun i hi => .inr (by simp at hi; omega))
  have k25 := k3.trans k35
  have d5 := d1.keep k25 (by simp)
  have e5 := bw2.keep k25 (by simp)
  have kk5 := kk2.trans k25
  have s2 := kk2.size
  have s3 := k3.size
  have s5 := k25.size
  have hv5 := hv.keep (k35.at _ (by simp))
  have hu5 := hu.keep (k35.at _ (by simp))
  clear bw4 kw4 kw5 k35 hv hu
  subst her
  go_upto_region 8 with fail
  refine wp_region_any (by kernel_rfl) ?_
  (try (change wpAny _ _ _ _ _ _ _ (World.drew _)))
  have K0 : Keep [] w5 w5.drew := (Keep.refl [] w5).drew
  generalize World.drew w5 = u0 at *
  refine wpAny_take (i := 2) (v := ?_) rfl (by kernel_rfl) (by kernel_rfl) (by kernel_rfl) (fun _ _ _ h => h) (Or.inl ⟨by rfl, ?_⟩) ?_
  rotate_left
  · intro w9
    go_simp
    with_reducible rfl
  refine wpAny_take (i := 0) (v := ?_) rfl (by kernel_rfl) (by kernel_rfl) (by kernel_rfl) (fun _ _ _ h => h) (Or.inl ⟨by rfl, ?_⟩) ?_
  rotate_left
  · intro w9
    go_simp
    with_reducible rfl
  refine wpAny_ready (rs := [1, 3]) (by kernel_rfl) (by simp) ?_
  refine AllReady.consS rfl (fun K hK => ?_) ?_
  · refine stp_load rfl 29 (.tmp 7) rfl w3.heap.size 0 (bkV b (.slice Av b.j.sg.length cv) (.slice Au b.q.length cu)) (bkV b (.slice Av b.j.sg.length cv) (.slice Au b.q.length cu)) _ _ 6 rfl (bw5.keep K0 (by simp)) rfl Try.underlying29 rfl zBk_size rfl ?_
    refine hK _ _ ?_
    clear hK K
    refine wpAny_ready (rs := [3]) (by kernel_rfl) (by simp) ?_
    refine AllReady.consS rfl (fun K hK => ?_) ?_
    · refine stp_store rfl 23 (.tmp 3) (.tmp 43) rfl w.heap.size 0 zSt zSt zSt _ rfl rfl (d5.keep K0 (by simp)) zSt_size (by simp) rfl rfl ?_
      intro u1 bN kN zN
      clear zN
      have K1 : Keep [w.heap.size] w5 u1 := (K0.mono (by simp)).trans kN
      have D3 := bN
      clear bN kN
      refine hK _ _ ?_
      clear hK K
      refine wpAny_ready (rs := [4]) (by kernel_rfl) (by simp) ?_
      refine AllReady.consS rfl (fun K hK => ?_) ?_
      · refine stp_store rfl 29 (.tmp 4) (.tmp 44) rfl w1.heap.size 0 (bkV b (.slice Av b.j.sg.length cv) (.slice Au b.q.length cu)) zBv (bkV b (.slice Av b.j.sg.length cv) (.slice Au b.q.length cu)) _ rfl rfl (e5.keep K1 (by simp; omega)) zBk_size (by simp) rfl rfl ?_
        intro u2 bN kN zN
        clear zN
        have K2 : Keep [w.heap.size, w1.heap.size] w5 u2 := (K1.mono (fun i _ hi => by simp at hi ⊢; simp [hi])).trans (kN.mono (fun i _ hi => by simp at hi ⊢; simp [hi]))
        have D4 := D3.keep kN (by simp; omega)
        have E4 := bN
        clear bN kN
        refine hK _ _ ?_
        clear hK K
        refine wpAny_done (by kernel_rfl) ?_ _
        go_wp2_with fail
        refine ret_tcc rfl rfl rfl D4 Try.underlying23 rfl zSt_size rfl E4 Try.underlying29 rfl zBk_size _ rfl ?_
        have nn : ∀ i, i ∈ [w.heap.size, w1.heap.size] → ¬ New w2 i := fun i hi h => by have h : w2.heap.size ≤ i := h; simp at hi; omega
        rw [hrd.out]
        exact ⟨_, _, rfl, (hv5.keep (K2.at _ nn)).mono (fun i hi _ => Nat.le_trans s2 hi), (hu5.keep (K2.at _ nn)).mono (fun i hi _ => Nat.le_trans s2 hi), kk5.new K2 (fun i hi => .inr (by simp at hi; omega))⟩
      exact AllReady.nil
    exact AllReady.nil
  refine AllReady.consS rfl (fun K hK => ?_) ?_
  · refine stp_store rfl 23 (.tmp 3) (.tmp 43) rfl w.heap.size 0 zSt zSt zSt _ rfl rfl (d5.keep K0 (by simp)) zSt_size (by simp) rfl rfl ?_
    intro u1 bN kN zN
    clear zN
    have K1 : Keep [w.heap.size] w5 u1 := (K0.mono (by simp)).trans kN
    have D3 := bN
    clear bN kN
    refine hK _ _ ?_
    clear hK K
    refine wpAny_ready (rs := [1]) (by kernel_rfl) (by simp) ?_
    refine AllReady.consS rfl (fun K hK => ?_) ?_
    · refine stp_load rfl 29 (.tmp 7) rfl w3.heap.size 0 (bkV b (.slice Av b.j.sg.length cv) (.slice Au b.q.length cu)) (bkV b (.slice Av b.j.sg.length cv) (.slice Au b.q.length cu)) _ _ 6 rfl (bw5.keep K1 (by simp; omega)) rfl Try.underlying29 rfl zBk_size rfl ?_
      refine hK _ _ ?_
      clear hK K
      refine wpAny_ready (rs := [4]) (by kernel_rfl) (by simp) ?_
      refine AllReady.consS rfl (fun K hK => ?_) ?_
      · refine stp_store rfl 29 (.tmp 4) (.tmp 44) rfl w1.heap.size 0 (bkV b (.slice Av b.j.sg.length cv) (.slice Au b.q.length cu)) zBv (bkV b (.slice Av b.j.sg.length cv) (.slice Au b.q.length cu)) _ rfl rfl (e5.keep K1 (by simp; omega)) zBk_size (by simp) rfl rfl ?_
        intro u2 bN kN zN
        clear zN
        have K2 : Keep [w.heap.size, w1.heap.size] w5 u2 := (K1.mono (fun i _ hi => by simp at hi ⊢; simp [hi])).trans (kN.mono (fun i _ hi => by simp at hi ⊢; simp [hi]))
        have D4 := D3.keep kN (by simp; omega)
        have E4 := bN
        clear bN kN
        refine hK _ _ ?_
        clear hK K
        refine wpAny_done (by kernel_rfl) ?_ _
        go_wp2_with fail
        refine ret_tcc rfl rfl rfl D4 Try.underlying23 rfl zSt_size rfl E4 Try.underlying29 rfl zBk_size _ rfl ?_
        have nn : ∀ i, i ∈ [w.heap.size, w1.heap.size] → ¬ New w2 i := fun i hi h => by have h : w2.heap.size ≤ i := h; simp at hi; omega
        rw [hrd.out]
        exact ⟨_, _, rfl, (hv5.keep (K2.at _ nn)).mono (fun i hi _ => Nat.le_trans s2 hi), (hu5.keep (K2.at _ nn)).mono (fun i hi _ => Nat.le_trans s2 hi), kk5.new K2 (fun i hi => .inr (by simp at hi; omega))⟩
      exact AllReady.nil
    exact AllReady.nil
  exact AllReady.nil
set_option maxRecDepth 100000 in
set_option maxHeartbeats 4000000 in
theorem one_bkbad0 (r : ByteArray) (w : World) (hr : r.size ≤ M47) (h0 : 0 < r.size) (h1 : 1 < r.size) (h9 : r.size ≠ 9) (c : (r[0]'h0).toNat = 66) (her : (readBlockF (r.extract 1 r.size)).2 ≠ 0) : Calls Try.prog 38 #[.string r] w fun e w' => e = .returned (.tuple #[.int .i64 0, .agg zSt, .agg zBv]) ∧ Keep [] w w' := by
  have z9 : ((r.size : Int) == 9) = false := by rw [beq_eq_false_iff_ne]; omega
  have y9 : ¬ ((r.size : Int) = 9) := by omega
  have zg : (1 : Int) < (r.size : Int) := by omega
  have z66 : (((r[0]'h0).toNat : Int) == 66) = true := by rw [beq_iff_eq]; omega
  have y66 : (((r[0]'h0).toNat : Int) = 66) := by omega
  have hbs : (r.extract 1 r.size).size ≤ M47 := by rw [ByteArray.size_extract]; omega
  have hRd := Lib.hid (fun w' => rread_call (r.extract 1 r.size) w' hbs)
  have hRb := Lib.hid (fun w' => readBlock_call (r.extract 1 r.size) w')
  clear hbs
  clear h9 c
  have hr2 : r.size < 9223372036854775808 := by unfold M47 at hr; omega
  replace hr := Lib.hid hr
  go_enter Try.func38, Try.ntmps38
  go_upto_region 1 with (first | ((with_reducible refine wl_alloc 23 ?_ ?_); (with_reducible rfl); refine sx_alloc rfl 23 rfl _ 2 zSt zSt_info rfl ?_; intro w1 bw1 kw1 zw1; clear zw1; (try simp only [Act.put, List.setIfInBounds_toArray, List.set_cons_zero, List.set_cons_succ])) | ((with_reducible refine wl_alloc 29 ?_ ?_); (with_reducible rfl); refine sx_alloc rfl 29 rfl _ 6 zBv zBk_info rfl ?_; intro w2 bw2 kw2 zw2; clear zw2; (try simp only [Act.put, List.setIfInBounds_toArray, List.set_cons_zero, List.set_cons_succ])))
  have d1 := bw1.keep kw2 (by simp)
  have kk2 := kw1.trans kw2
  have l1 := bw1.lt
  have l2 := bw2.lt
  clear bw1 kw1 kw2
  go_wp2_with fail
  refine (hRb.out _).mono ?_
  rintro e w3 ⟨v, u, rfl, hv, hu, k3⟩
  generalize hrd : readBlockF (r.extract 1 r.size) = rd at *
  obtain ⟨b, er⟩ := rd
  replace hrd := Lib.hid hrd
  dsimp only at *
  obtain ⟨Av, cv, rfl, -⟩ := hv.form
  obtain ⟨Au, cu, rfl, -⟩ := hu.form
  go_upto_region 7 with (first | ((with_reducible refine wl_alloc 29 ?_ ?_); (with_reducible rfl); refine sx_alloc rfl 29 rfl _ 6 zBv zBk_info rfl ?_; intro w4 bw4 kw4 zw4; clear zw4; (try simp only [Act.put, List.setIfInBounds_toArray, List.set_cons_zero, List.set_cons_succ])) | ((with_reducible refine wl_store 29 (.tmp 7) (.tmp 39) ?_ ?_); (with_reducible rfl); refine sx_storeW rfl 29 (.tmp 7) (.tmp 39) rfl w3.heap.size (bkV b (.slice Av b.j.sg.length cv) (.slice Au b.q.length cu)) zBv _ 6 rfl rfl bw4 zBk_size rfl rfl rfl ?_; intro w5 bw5 kw5 zw5; clear zw5; (try simp only [Act.put, List.setIfInBounds_toArray, List.set_cons_zero, List.set_cons_succ])))
  have k35 := kw4.new kw5 (S := []) (fun i hi => .inr (by simp at hi; omega))
  have k25 := k3.trans k35
  have d5 := d1.keep k25 (by simp)
  have e5 := bw2.keep k25 (by simp)
  have kk5 := kk2.trans k25
  have s2 := kk2.size
  have s3 := k3.size
  have s5 := k25.size
  have hv5 := hv.keep (k35.at _ (by simp))
  have hu5 := hu.keep (k35.at _ (by simp))
  clear bw4 kw4 kw5 k35 hv hu
  have z0 : (er == 0) = false := by rw [beq_eq_false_iff_ne]; exact her
  go_wp2_with (first | ((with_reducible refine wl_build 23 _ ?_ ?_); (with_reducible rfl); refine sx_build rfl 23 _ rfl zSt (by kernel_rfl) ?_; (try simp only [Act.put, List.setIfInBounds_toArray, List.set_cons_zero, List.set_cons_succ])) | ((with_reducible refine wl_build 29 _ ?_ ?_); (with_reducible rfl); refine sx_build rfl 29 _ rfl zBv (by kernel_rfl) ?_; (try simp only [Act.put, List.setIfInBounds_toArray, List.set_cons_zero, List.set_cons_succ])) | ((with_reducible refine wl_store 23 (.tmp 3) (.tmp 45) ?_ ?_); (with_reducible rfl); refine sx_storeW rfl 23 (.tmp 3) (.tmp 45) rfl w.heap.size zSt zSt _ 2 rfl rfl d5 zSt_size rfl rfl rfl ?_; intro wy bwy kwy zwy; clear zwy; (try simp only [Act.put, List.setIfInBounds_toArray, List.set_cons_zero, List.set_cons_succ])) | ((with_reducible refine wl_store 29 (.tmp 4) (.tmp 46) ?_ ?_); (with_reducible rfl); refine sx_storeW rfl 29 (.tmp 4) (.tmp 46) rfl w1.heap.size zBv zBv _ 6 rfl rfl (e5.keep kwy (by simp; omega)) zBk_size rfl rfl rfl ?_; intro wz bwz kwz zwz; clear zwz; (try simp only [Act.put, List.setIfInBounds_toArray, List.set_cons_zero, List.set_cons_succ])))
  have by2 := bwy.keep kwz (by simp; omega)
  refine ret_tcc rfl rfl rfl by2 Try.underlying23 rfl zSt_size rfl bwz Try.underlying29 rfl zBk_size _ rfl ?_
  exact ⟨rfl, (kk5.new kwy (fun i hi => .inr (by simp at hi; omega))).new kwz (fun i hi => .inr (by simp at hi; omega))⟩
end Go.Proofs.Ytdhhibppcckbkaa
namespace Go.Proofs.Ytdhhibppcckbkaa
open Go.RowKit
set_option linter.unusedVariables false
set_option linter.unusedSimpArgs false
theorem one_no (r : ByteArray) (w : World) (hr : r.size ≤ M47) (h : rcF r = .no) : Calls Try.prog 38 #[.string r] w fun e w' => e = .returned (.tuple #[.int .i64 0, .agg zSt, .agg zBv]) ∧ Keep [] w w' := by
  by_cases h1 : r.size ≤ 1
  · exact one_small r w hr h1
  · have h0 : 0 < r.size := by omega
    by_cases c : (r[0]'h0).toNat = 83
    · by_cases h9 : r.size = 9
      · exact one_stbad r w hr h0 h9 c (fun e => by rw [rc_st h0 c e] at h; cases h)
      · exact one_other0 r w hr h0 (by omega) h9 (by omega)
    · by_cases c' : (r[0]'h0).toNat = 66
      · have hb : (readBlockF (r.extract 1 r.size)).2 ≠ 0 := fun e => by rw [rc_bk h0 c' e] at h; cases h
        by_cases h9 : r.size = 9
        · exact one_bkbad1 r w hr h0 (by omega) h9 c' hb
        · exact one_bkbad0 r w hr h0 (by omega) h9 c' hb
      · by_cases h9 : r.size = 9
        · exact one_other1 r w hr h0 (by omega) h9 c c'
        · exact one_other0 r w hr h0 (by omega) h9 c'
theorem rc_pos {r : ByteArray} (h : rcF r ≠ .no) : 1 < r.size := by
  by_cases h1 : r.size ≤ 1
  · exact absurd (rc_one h1) h
  · omega
theorem one_stt (r : ByteArray) (t : Stt) (w : World) (hr : r.size ≤ M47) (h : rcF r = .st t) : Calls Try.prog 38 #[.string r] w fun e w' => e = .returned (.tuple #[.int .i64 1, .agg (stV t), .agg zBv]) ∧ Keep [] w w' := by
  have h1 := rc_pos (r := r) (by rw [h]; exact fun e => by cases e)
  have h0 : 0 < r.size := by omega
  by_cases c : (r[0]'h0).toNat = 83
  · by_cases he : (readStF (r.extract 1 r.size)).2 = 0
    · have h9 : r.size = 9 := by have := readSt_size he; rw [ByteArray.size_extract] at this; omega
      have e := rc_st h0 c he
      rw [h] at e
      injection e with e
      rw [e]
      exact one_st r w hr h0 h9 c he
    · rw [rc_st_bad h0 c he] at h; cases h
  · by_cases c' : (r[0]'h0).toNat = 66
    · by_cases he : (readBlockF (r.extract 1 r.size)).2 = 0
      · rw [rc_bk h0 c' he] at h; cases h
      · rw [rc_bk_bad h0 c' he] at h; cases h
    · rw [rc_other h0 c c'] at h; cases h
theorem one_bkk (r : ByteArray) (b : Bk) (w : World) (hr : r.size ≤ M47) (h : rcF r = .bk b) : Calls Try.prog 38 #[.string r] w fun e w' => ∃ v u, e = .returned (.tuple #[.int .i64 2, .agg zSt, .agg (bkV b v u)]) ∧ SliceOf Rep.sg w' (New w) v b.j.sg ∧ SliceOf Rep.req w' (New w) u b.q ∧ Keep [] w w' := by
  have h1 := rc_pos (r := r) (by rw [h]; exact fun e => by cases e)
  have h0 : 0 < r.size := by omega
  by_cases c : (r[0]'h0).toNat = 83
  · by_cases he : (readStF (r.extract 1 r.size)).2 = 0
    · rw [rc_st h0 c he] at h; cases h
    · rw [rc_st_bad h0 c he] at h; cases h
  · by_cases c' : (r[0]'h0).toNat = 66
    · by_cases he : (readBlockF (r.extract 1 r.size)).2 = 0
      · have e := rc_bk h0 c' he
        rw [h] at e
        injection e with e
        rw [e]
        by_cases h9 : r.size = 9
        · exact one_bk1 r w hr h0 h1 h9 c' he
        · exact one_bk0 r w hr h0 h1 h9 c' he
      · rw [rc_bk_bad h0 c' he] at h; cases h
    · rw [rc_other h0 c c'] at h; cases h
end Go.Proofs.Ytdhhibppcckbkaa
namespace Go.Proofs.Ytdhhibppcckbkaa
open Go.RowKit
set_option linter.unusedVariables false
set_option linter.unusedSimpArgs false
/-! rows of blocks -/
theorem bk_one {w : World} {G : Nat → Prop} {x : Bk} {cs : List Value} (h : Rep.bk.R w G x cs) : ∀ u ∈ cs, u.oneCell' = true := by
  obtain ⟨v, u, rfl, h1, h2, h3, h4, h5, h6⟩ := h
  obtain ⟨A1, c1, rfl, -⟩ := h5.form
  obtain ⟨A2, c2, rfl, -⟩ := h6.form
  intro y hy
  have h : (bkV x (.slice A1 x.j.sg.length c1) (.slice A2 x.q.length c2)).toList.all (fun u => u.oneCell') = true := by simp [Value.oneCell']
  exact List.all_eq_true.1 h y hy
theorem fill6 (z C : Array Value) (h : C.size = 6) (hz : z.size = 6) : Instr.fill (fun i => some (i * 6, 6)) z [(0, .agg C)] = some C := by
  obtain ⟨c⟩ := C
  obtain ⟨zz⟩ := z
  simp only [List.size_toArray] at h hz
  obtain ⟨a0, a1, a2, a3, a4, a5, rfl⟩ : ∃ a0 a1 a2 a3 a4 a5, c = [a0, a1, a2, a3, a4, a5] := by
    match c, h with
    | [a0, a1, a2, a3, a4, a5], _ => exact ⟨a0, a1, a2, a3, a4, a5, rfl⟩
  obtain ⟨b0, b1, b2, b3, b4, b5, rfl⟩ : ∃ a0 a1 a2 a3 a4 a5, zz = [a0, a1, a2, a3, a4, a5] := by
    match zz, hz with
    | [a0, a1, a2, a3, a4, a5], _ => exact ⟨a0, a1, a2, a3, a4, a5, rfl⟩
  simp [Instr.fill, Value.cells]
theorem rc_bounds {r : ByteArray} {b : Bk} (h : rcF r = .bk b) : I64 b.v ∧ I64 b.p ∧ I64 b.j.v ∧ b.j.h.size ≤ M47 := by
  have h1 := rc_pos (r := r) (by rw [h]; exact fun e => by cases e)
  have h0 : 0 < r.size := by omega
  by_cases c : (r[0]'h0).toNat = 83
  · by_cases he : (readStF (r.extract 1 r.size)).2 = 0
    · rw [rc_st h0 c he] at h; cases h
    · rw [rc_st_bad h0 c he] at h; cases h
  · by_cases c' : (r[0]'h0).toNat = 66
    · by_cases he : (readBlockF (r.extract 1 r.size)).2 = 0
      · rw [rc_bk h0 c' he] at h
        injection h with h
        have hB := B3_holds (r.extract 1 r.size)
        have e : readBlockF (r.extract 1 r.size) = (b, 0) := by rw [← h, ← he]
        rw [e] at hB
        exact bk_bounds hB
      · rw [rc_bk_bad h0 c' he] at h; cases h
    · rw [rc_other h0 c c'] at h; cases h
section
variable {o : Oper} {act : Act} {K : Act → World → Prop} {Q : Exit → Act → World → Prop} {ops : Array Oper} {E : Prop} {W : World}
theorem stp_noneB (hgd : o.guard = none) (ho : o.op = .buildSlice 37 0 #[])
    (h : ∀ w', Blk w' W.heap.size #[] 29 → Keep [] W w' → w'.heap.size = W.heap.size + 1 → K (act.put o.dst (.slice (some ⟨W.heap.size, 0, none⟩) 0 0)) w') : Stp Try.prog o ops act W K Q E :=
  ⟨step_none hgd 37 29 ho (.agg zBv) 6 88 Try.underlying37 infoBk h⟩
theorem stp_oneB (hgd : o.guard = none) (x : Operand) (ho : o.op = .buildSlice 37 1 #[(0, x)]) (C : Array Value) (hx : act.eval x = .agg C) (hC : C.size = 6)
    (h : ∀ w', Blk w' W.heap.size C 29 → Keep [] W w' → w'.heap.size = W.heap.size + 1 → K (act.put o.dst (.slice (some ⟨W.heap.size, 0, none⟩) 1 1)) w') : Stp Try.prog o ops act W K Q E := by
  refine ⟨?_⟩
  have hw : Region.wanted o (yielded ops act.tmps) = true := by simp [Region.wanted, hgd]
  rw [if_pos hw]
  obtain ⟨i0, hi0, hzz⟩ := Option.map_eq_some_iff.1 infoBk
  simp only [Prod.mk.injEq] at hzz
  obtain ⟨hz0, hz1, hz2⟩ := hzz
  exact wp_buildSlice 37 29 1 #[(0, x)] ho C i0 (.agg zBv) Try.underlying37 hi0 hz0 (by rw [hz1]; decide) (by rw [hz1]; decide)
    (by rw [hz1]; simp only [List.map_toArray, List.map_cons, List.map_nil, hx]; exact fill6 _ C hC (by simp))
    (h _ (Blk.new W C _) ((Keep.refl [] W).alloc _) (by simp))
theorem stp_appB (hgd : o.guard = none) (s x : Operand) (ho : o.op = .call { callee := .builtin .append, args := #[s, x], argTypes := #[37, 37] }) (lo : Nat) (G : Nat → Prop) (v : Value) (xs ys : List Bk) (A : Option Addr) (c : Nat) (hs : act.eval s = v) (hx : act.eval x = .slice A ys.length c)
    (hown : RowG Rep.bk 29 W lo G v xs) (hy : ReadsG Rep.bk W G A ys) (hG : ∀ k, G k → k < lo) (hl : (xs.length + ys.length) * 88 ≤ 140737488355328) (hbase : lo ≤ W.heap.size)
    (h : ∀ B cap w', RowG Rep.bk 29 w' lo G (.slice B (xs.length + ys.length) cap) (xs ++ ys) → Keep v.ownBlock.toList W w' → K (act.put o.dst (.slice B (xs.length + ys.length) cap)) w') : Stp Try.prog o ops act W K Q E := by
  refine ⟨?_⟩
  have hw : Region.wanted o (yielded ops act.tmps) = true := by simp [Region.wanted, hgd]
  rw [if_pos hw]
  have hA0 : A = none → ys = [] := by
    intro e
    cases ys with
    | nil => rfl
    | cons y l => obtain ⟨g, o, e1, _⟩ := hy (by simp); rw [e] at e1; exact absurd e1 (by simp)
  obtain ⟨v', w', r1, r2, r3, r4⟩ := run_appG Rep.bk 37 o.type 29 (.agg zBv) 88 lo G Try.underlying37 infoBk rfl (by decide) (by decide) (fun w x cs h => bk_one h) W v xs ys A c hown hy hG hl hbase hA0
  obtain ⟨B, cap, rfl⟩ := r2.form
  rw [List.length_append] at *
  unfold Oper.wp execOp
  simp only [ho, resolve, invoke, builtin, Sem.run_bind, Sem.run_pure, Result.andThen_ok, List.map_toArray, List.map_cons, List.map_nil, hs, hx, r1]
  exact h B cap w' r2 ((Keep.refl _ W).grown r3 (fun i hi => .inl (by rw [hi]; simp)))
end
end Go.Proofs.Ytdhhibppcckbkaa
namespace Go.Proofs.Ytdhhibppcckbkaa
open Go.RowKit
set_option linter.unusedVariables false
set_option linter.unusedSimpArgs false
/-! the reference's Recall -/
set_option maxRecDepth 100000 in
set_option maxHeartbeats 16000000 in
theorem rrecall_call (A : Option Addr) (l : List ByteArray) (c : Nat) (F : Nat → Prop) (w : World) (hs : SliceOf Rep.str w F (.slice A l.length c) l) (hF : ∀ i, F i → i < w.heap.size) (hl : l.length ≤ 1000000) :
    Calls Try.prog 16 #[.slice A l.length c] w fun e w' => ∃ v, e = .returned (.tuple #[.agg (stV (recallF l ⟨0, 0⟩ []).1), v]) ∧ ∃ G, SliceOf Rep.bk w' G v (recallF l ⟨0, 0⟩ []).2 ∧ (∀ i, G i → w.heap.size ≤ i ∧ i < w'.heap.size) ∧ Keep [] w w' := by
  have HS := Lib.hid hs
  have HF := Lib.hid hF
  clear hs hF
  go_enter Try.func16, Try.ntmps16
  go_upto_region 1 with (first | ((with_reducible refine wl_alloc 23 ?_ ?_); (with_reducible rfl); refine sx_alloc rfl 23 rfl _ 2 zSt zSt_info rfl ?_; intro w1 bw1 kw1 zw1; clear zw1; (try simp only [Act.put, List.setIfInBounds_toArray, List.set_cons_zero, List.set_cons_succ])))
  go_upto_region 3 with (first | ((with_reducible refine wl_alloc 23 ?_ ?_); (with_reducible rfl); refine sx_alloc rfl 23 rfl _ 2 zSt zSt_info rfl ?_; intro w2 bw2 kw2 zw2; clear zw2; (try simp only [Act.put, List.setIfInBounds_toArray, List.set_cons_zero, List.set_cons_succ])))
  have d1 := bw1.keep kw2 (by simp)
  have kk2 := kw1.trans kw2
  have l1 := bw1.lt
  have l2 := bw2.lt
  clear bw1 kw1 kw2
  go_wp2_with fail
  go_loopw [5, 6] (fun ov i wr => ∃ k : Nat, k ≤ l.length ∧ i = .int .i64 k ∧ ∃ s xs, Hid (recallF l ⟨0, 0⟩ [] = recallF (l.drop k) s xs) ∧ xs.length ≤ k ∧ Hid (∃ G, SliceOf Rep.bk wr G ov xs ∧ (∀ i, G i → w2.heap.size ≤ i ∧ i < wr.heap.size) ∧ Blk wr w.heap.size zSt 23 ∧ Blk wr w1.heap.size (stV s) 23 ∧ Keep [] w wr ∧ w2.heap.size ≤ wr.heap.size)) (fun _ i _ => l.length - (intOf i).toNat)
  case atStart => exact ⟨0, Nat.zero_le _, rfl, ⟨0, 0⟩, [], Lib.hid rfl, Nat.le_refl _, Lib.hid ⟨fun _ => False, SliceOf.nil _ _ _ _ _, fun i h => h.elim, d1, bw2, kk2, Nat.le_refl _⟩⟩
  case round =>
    obtain ⟨k, hk, rfl, s, xs, hrec, hxl, hw⟩ := hrel
    clear d1 bw2 kk2
    obtain ⟨G, hsl, hGb, hb0, hb1, kk, hsz2⟩ := hw.out
    clear hw
    obtain ⟨A5, c5, rfl, -⟩ := hsl.form
    replace hsl := Lib.hid hsl
    replace hGb := Lib.hid hGb
    by_cases hlt : k < l.length
    · have hltz : (k : Int) < (l.length : Int) := by omega
      obtain ⟨g, o, rfl, hc, hsz⟩ := (HS.out.keep (kk.at F (by simp))).str_at hlt
      have hdr : l.drop k = l[k] :: l.drop (k + 1) := List.drop_eq_getElem_cons hlt
      rw [hdr] at hrec
      clear hdr
      generalize l[k] = r at *
      have hN : recallF (r :: l.drop (k + 1)) s xs = (match rcF r with | .no => (s, xs) | .st t => recallF (l.drop (k + 1)) (gtF s t) xs | .bk b => recallF (l.drop (k + 1)) s (xs ++ [b])) := rfl
      replace hN := Lib.hid hN
      replace hsz : Hid (r.size ≤ M47) := Lib.hid (by unfold M47; exact hsz)
      go_upto_block 1 with fail
      go_cut [5] (fun v wx => ∃ s xs, Hid (recallF l ⟨0, 0⟩ [] = recallF (l.drop (k + 1)) s xs) ∧ xs.length ≤ k + 1 ∧ Hid (∃ G, SliceOf Rep.bk wx G v xs ∧ (∀ i, G i → w2.heap.size ≤ i ∧ i < wx.heap.size) ∧ Blk wx w.heap.size zSt 23 ∧ Blk wx w1.heap.size (stV s) 23 ∧ Keep [] w wx ∧ w2.heap.size ≤ wx.heap.size))
      case rest =>
        go_wp2
        go_roundw
        case rel => exact ⟨k + 1, by omega, by go_num, hcut⟩
        case measure => simp [intOf]; omega
      case first =>
        cases hrc : rcF r with
        | no =>
          replace hrc := Lib.hid hrc
          go_wp2_with fail
          refine (one_no r _ hsz.out hrc.out).mono ?_
          rintro e w3 ⟨rfl, k3⟩
          go_upto_region 7 with (first | ((with_reducible refine wl_alloc 23 ?_ ?_); (with_reducible rfl); refine sx_alloc rfl 23 rfl _ 2 zSt zSt_info rfl ?_; intro w4 bw4 kw4 zw4; clear zw4; (try simp only [Act.put, List.setIfInBounds_toArray, List.set_cons_zero, List.set_cons_succ])) | ((with_reducible refine wl_alloc 29 ?_ ?_); (with_reducible rfl); refine sx_alloc rfl 29 rfl _ 6 zBv zBk_info rfl ?_; intro w5 bw5 kw5 zw5; clear zw5; (try simp only [Act.put, List.setIfInBounds_toArray, List.set_cons_zero, List.set_cons_succ])) | ((with_reducible refine wl_store 23 (.tmp 8) (.tmp 23) ?_ ?_); (with_reducible rfl); refine sx_storeW rfl 23 (.tmp 8) (.tmp 23) rfl w3.heap.size zSt zSt _ 2 rfl rfl (bw4.keep kw5 (by simp)) zSt_size rfl rfl rfl ?_; intro w6 bw6 kw6 zw6; clear zw6; (try simp only [Act.put, List.setIfInBounds_toArray, List.set_cons_zero, List.set_cons_succ])) | ((with_reducible refine wl_store 29 (.tmp 9) (.tmp 24) ?_ ?_); (with_reducible rfl); refine sx_storeW rfl 29 (.tmp 9) (.tmp 24) rfl w4.heap.size zBv zBv _ 6 rfl rfl (bw5.keep kw6 (by have := bw4.lt; simp; omega)) zBk_size rfl rfl rfl ?_; intro w7 bw7 kw7 zw7; clear zw7; (try simp only [Act.put, List.setIfInBounds_toArray, List.set_cons_zero, List.set_cons_succ])))
          have l4 := bw4.lt
          have k37 : Keep [] w3 w7 := ((kw4.trans kw5).new kw6 (fun i hi => .inr (by simp at hi; omega))).new kw7 (fun i hi => .inr (by have := kw4.size; simp at hi; omega))
          have k27 := k3.trans k37
          have s3 := k3.size
          have s7 := k27.size
          have e8 := bw6.keep kw7 (by simp; omega)
          have hb0 := hb0.keep k27 (by simp)
          have hb1 := hb1.keep k27 (by simp)
          have hsl := Lib.hid (hsl.out.keep (k27.at G (by simp)))
          have kk := kk.trans k27
          have s37 := k37.size
          have hGb : Hid (∀ i, G i → w2.heap.size ≤ i ∧ i < w7.heap.size) := Lib.hid (fun i hi => by have := hGb.out i hi; omega)
          clear bw4 bw5 kw4 kw5 kw6 kw7 bw6 k27
          have hst : Hid (recallF l ⟨0, 0⟩ [] = (s, xs)) := Lib.hid (by rw [hrec.out, hN.out, hrc.out])
          go_wp2_with (first | ((with_reducible refine wl_load 23 (.tmp 4) ?_ ?_); (with_reducible rfl); refine sx_loadW rfl 23 (.tmp 4) rfl w1.heap.size (stV s) _ _ 2 rfl hb1 Try.underlying23 rfl zSt_size rfl ?_; (try simp only [Act.put, List.setIfInBounds_toArray, List.set_cons_zero, List.set_cons_succ])) | ((with_reducible refine wl_store 23 (.tmp 2) (.tmp 27) ?_ ?_); (with_reducible rfl); refine sx_storeW rfl 23 (.tmp 2) (.tmp 27) rfl w.heap.size (stV s) zSt _ 2 rfl rfl hb0 zSt_size rfl rfl rfl ?_; intro wz bwz kwz zwz; clear zwz; (try simp only [Act.put, List.setIfInBounds_toArray, List.set_cons_zero, List.set_cons_succ])))
          refine ret_cell2 rfl rfl rfl bwz Try.underlying23 rfl zSt_size _ rfl ?_
          rw [hst.out]
          have sz := kwz.size
          exact ⟨_, rfl, G, hsl.out.keep (kwz.at G (fun i hi hg => by have := (hGb.out i hg).1; simp at hi; omega)), fun i hi => by have := hGb.out i hi; omega, kk.new kwz (fun i hi => .inr (by simp at hi; omega))⟩
        | st t =>
          replace hrc := Lib.hid hrc
          go_wp2_with fail
          refine (one_stt r t _ hsz.out hrc.out).mono ?_
          rintro e w3 ⟨rfl, k3⟩
          go_upto_region 7 with (first | ((with_reducible refine wl_alloc 23 ?_ ?_); (with_reducible rfl); refine sx_alloc rfl 23 rfl _ 2 zSt zSt_info rfl ?_; intro w4 bw4 kw4 zw4; clear zw4; (try simp only [Act.put, List.setIfInBounds_toArray, List.set_cons_zero, List.set_cons_succ])) | ((with_reducible refine wl_alloc 29 ?_ ?_); (with_reducible rfl); refine sx_alloc rfl 29 rfl _ 6 zBv zBk_info rfl ?_; intro w5 bw5 kw5 zw5; clear zw5; (try simp only [Act.put, List.setIfInBounds_toArray, List.set_cons_zero, List.set_cons_succ])) | ((with_reducible refine wl_store 23 (.tmp 8) (.tmp 23) ?_ ?_); (with_reducible rfl); refine sx_storeW rfl 23 (.tmp 8) (.tmp 23) rfl w3.heap.size (stV t) zSt _ 2 rfl rfl (bw4.keep kw5 (by simp)) zSt_size rfl rfl rfl ?_; intro w6 bw6 kw6 zw6; clear zw6; (try simp only [Act.put, List.setIfInBounds_toArray, List.set_cons_zero, List.set_cons_succ])) | ((with_reducible refine wl_store 29 (.tmp 9) (.tmp 24) ?_ ?_); (with_reducible rfl); refine sx_storeW rfl 29 (.tmp 9) (.tmp 24) rfl w4.heap.size zBv zBv _ 6 rfl rfl (bw5.keep kw6 (by have := bw4.lt; simp; omega)) zBk_size rfl rfl rfl ?_; intro w7 bw7 kw7 zw7; clear zw7; (try simp only [Act.put, List.setIfInBounds_toArray, List.set_cons_zero, List.set_cons_succ])))
          have l4 := bw4.lt
          have k37 : Keep [] w3 w7 := ((kw4.trans kw5).new kw6 (fun i hi => .inr (by simp at hi; omega))).new kw7 (fun i hi => .inr (by have := kw4.size; simp at hi; omega))
          have k27 := k3.trans k37
          have s3 := k3.size
          have s7 := k27.size
          have e8 := bw6.keep kw7 (by simp; omega)
          have hb0 := hb0.keep k27 (by simp)
          have hb1 := hb1.keep k27 (by simp)
          have hsl := Lib.hid (hsl.out.keep (k27.at G (by simp)))
          have kk := kk.trans k27
          have s37 := k37.size
          have hGb : Hid (∀ i, G i → w2.heap.size ≤ i ∧ i < w7.heap.size) := Lib.hid (fun i hi => by have := hGb.out i hi; omega)
          clear bw4 bw5 kw4 kw5 kw6 kw7 bw6 k27
          have x0 : w7.cell? ⟨w1.heap.size, 0, none⟩ = some (.int .i64 s.v) := hb1.cell 0
          have x1 : w7.cell? ⟨w1.heap.size, 1, none⟩ = some (.int .i64 s.l) := hb1.cell 1
          have y0 : w7.cell? ⟨w3.heap.size, 0, none⟩ = some (.int .i64 t.v) := e8.cell 0
          have y1 : w7.cell? ⟨w3.heap.size, 1, none⟩ = some (.int .i64 t.l) := e8.cell 1
          have hgt : ∀ p q : Int, (p = if s.v < t.v then t.v else s.v) → (q = if s.l < t.l then t.l else s.l) → gtF s t = ⟨p, q⟩ := fun p q hp hq => by rw [hp, hq]; unfold gtF; rw [maxIf, maxIf]
          replace hgt := Lib.hid hgt
          have hN2 : Hid (recallF l ⟨0, 0⟩ [] = recallF (l.drop (k + 1)) (gtF s t) xs) := Lib.hid (by rw [hrec.out, hN.out, hrc.out])
          generalize gtF s t = gs at *
          obtain ⟨s1, s2⟩ := s
          obtain ⟨t1, t2⟩ := t
          dsimp only at *
          by_cases h1 : s1 < t1 <;> by_cases h2 : s2 < t2
          · obtain rfl := hgt.out t1 t2 (by simp [h1]) (by simp [h2])
            go_wp2_with (first | ((with_reducible refine wl_store 23 (.tmp 4) (.tmp 41) ?_ ?_); (with_reducible rfl); refine sx_storeW rfl 23 (.tmp 4) (.tmp 41) rfl w1.heap.size (stV ⟨t1, t2⟩) (stV ⟨s1, s2⟩) _ 2 rfl rfl hb1 zSt_size rfl rfl rfl ?_; intro w8 bw8 kw8 zw8; clear zw8; (try simp only [Act.put, List.setIfInBounds_toArray, List.set_cons_zero, List.set_cons_succ])))
            have s8 := kw8.size
            have hb08 := hb0.keep kw8 (by simp; omega)
            have hs8 := hsl.out.keep (kw8.at G (fun i hi hg => by have := (hGb.out i hg).1; simp at hi; omega))
            have kk8 := kk.new kw8 (fun i hi => .inr (by simp at hi; omega))
            go_meet
            exact ⟨_, xs, hN2, by omega, Lib.hid ⟨G, hs8, fun i hi => by have := hGb.out i hi; omega, hb08, bw8, kk8, by omega⟩⟩
          · obtain rfl := hgt.out t1 s2 (by simp [h1]) (by simp [h2])
            replace h2 := Int.not_lt.1 h2
            go_wp2_with (first | ((with_reducible refine wl_store 23 (.tmp 4) (.tmp 41) ?_ ?_); (with_reducible rfl); refine sx_storeW rfl 23 (.tmp 4) (.tmp 41) rfl w1.heap.size (stV ⟨t1, s2⟩) (stV ⟨s1, s2⟩) _ 2 rfl rfl hb1 zSt_size rfl rfl rfl ?_; intro w8 bw8 kw8 zw8; clear zw8; (try simp only [Act.put, List.setIfInBounds_toArray, List.set_cons_zero, List.set_cons_succ])))
            have s8 := kw8.size
            have hb08 := hb0.keep kw8 (by simp; omega)
            have hs8 := hsl.out.keep (kw8.at G (fun i hi hg => by have := (hGb.out i hg).1; simp at hi; omega))
            have kk8 := kk.new kw8 (fun i hi => .inr (by simp at hi; omega))
            go_meet
            exact ⟨_, xs, hN2, by omega, Lib.hid ⟨G, hs8, fun i hi => by have := hGb.out i hi; omega, hb08, bw8, kk8, by omega⟩⟩
          · obtain rfl := hgt.out s1 t2 (by simp [h1]) (by simp [h2])
            replace h1 := Int.not_lt.1 h1
            go_wp2_with (first | ((with_reducible refine wl_store 23 (.tmp 4) (.tmp 41) ?_ ?_); (with_reducible rfl); refine sx_storeW rfl 23 (.tmp 4) (.tmp 41) rfl w1.heap.size (stV ⟨s1, t2⟩) (stV ⟨s1, s2⟩) _ 2 rfl rfl hb1 zSt_size rfl rfl rfl ?_; intro w8 bw8 kw8 zw8; clear zw8; (try simp only [Act.put, List.setIfInBounds_toArray, List.set_cons_zero, List.set_cons_succ])))
            have s8 := kw8.size
            have hb08 := hb0.keep kw8 (by simp; omega)
            have hs8 := hsl.out.keep (kw8.at G (fun i hi hg => by have := (hGb.out i hg).1; simp at hi; omega))
            have kk8 := kk.new kw8 (fun i hi => .inr (by simp at hi; omega))
            go_meet
            exact ⟨_, xs, hN2, by omega, Lib.hid ⟨G, hs8, fun i hi => by have := hGb.out i hi; omega, hb08, bw8, kk8, by omega⟩⟩
          · obtain rfl := hgt.out s1 s2 (by simp [h1]) (by simp [h2])
            replace h1 := Int.not_lt.1 h1
            replace h2 := Int.not_lt.1 h2
            go_wp2_with (first | ((with_reducible refine wl_store 23 (.tmp 4) (.tmp 41) ?_ ?_); (with_reducible rfl); refine sx_storeW rfl 23 (.tmp 4) (.tmp 41) rfl w1.heap.size (stV ⟨s1, s2⟩) (stV ⟨s1, s2⟩) _ 2 rfl rfl hb1 zSt_size rfl rfl rfl ?_; intro w8 bw8 kw8 zw8; clear zw8; (try simp only [Act.put, List.setIfInBounds_toArray, List.set_cons_zero, List.set_cons_succ])))
            have s8 := kw8.size
            have hb08 := hb0.keep kw8 (by simp; omega)
            have hs8 := hsl.out.keep (kw8.at G (fun i hi hg => by have := (hGb.out i hg).1; simp at hi; omega))
            have kk8 := kk.new kw8 (fun i hi => .inr (by simp at hi; omega))
            go_meet
            exact ⟨_, xs, hN2, by omega, Lib.hid ⟨G, hs8, fun i hi => by have := hGb.out i hi; omega, hb08, bw8, kk8, by omega⟩⟩
        | bk b =>
          replace hrc := Lib.hid hrc
          go_wp2_with fail
          refine (one_bkk r b _ hsz.out hrc.out).mono ?_
          rintro e w3 ⟨v, u, rfl, hv, hu, k3⟩
          obtain ⟨Av, cv, rfl, -⟩ := hv.form
          obtain ⟨Au, cu, rfl, -⟩ := hu.form
          go_upto_region 7 with (first | ((with_reducible refine wl_alloc 23 ?_ ?_); (with_reducible rfl); refine sx_alloc rfl 23 rfl _ 2 zSt zSt_info rfl ?_; intro w4 bw4 kw4 zw4; clear zw4; (try simp only [Act.put, List.setIfInBounds_toArray, List.set_cons_zero, List.set_cons_succ])) | ((with_reducible refine wl_alloc 29 ?_ ?_); (with_reducible rfl); refine sx_alloc rfl 29 rfl _ 6 zBv zBk_info rfl ?_; intro w5 bw5 kw5 zw5; clear zw5; (try simp only [Act.put, List.setIfInBounds_toArray, List.set_cons_zero, List.set_cons_succ])) | ((with_reducible refine wl_store 23 (.tmp 8) (.tmp 23) ?_ ?_); (with_reducible rfl); refine sx_storeW rfl 23 (.tmp 8) (.tmp 23) rfl w3.heap.size zSt zSt _ 2 rfl rfl (bw4.keep kw5 (by simp)) zSt_size rfl rfl rfl ?_; intro w6 bw6 kw6 zw6; clear zw6; (try simp only [Act.put, List.setIfInBounds_toArray, List.set_cons_zero, List.set_cons_succ])) | ((with_reducible refine wl_store 29 (.tmp 9) (.tmp 24) ?_ ?_); (with_reducible rfl); refine sx_storeW rfl 29 (.tmp 9) (.tmp 24) rfl w4.heap.size (bkV b (.slice Av b.j.sg.length cv) (.slice Au b.q.length cu)) zBv _ 6 rfl rfl (bw5.keep kw6 (by have := bw4.lt; simp; omega)) zBk_size rfl rfl rfl ?_; intro w7 bw7 kw7 zw7; clear zw7; (try simp only [Act.put, List.setIfInBounds_toArray, List.set_cons_zero, List.set_cons_succ])))
          have l4 := bw4.lt
          have k37 : Keep [] w3 w7 := ((kw4.trans kw5).new kw6 (fun i hi => .inr (by simp at hi; omega))).new kw7 (fun i hi => .inr (by have := kw4.size; simp at hi; omega))
          have k27 := k3.trans k37
          have s3 := k3.size
          have s7 := k27.size
          have e8 := bw6.keep kw7 (by simp; omega)
          have hb0 := hb0.keep k27 (by simp)
          have hb1 := hb1.keep k27 (by simp)
          have hsl := Lib.hid (hsl.out.keep (k27.at G (by simp)))
          have kk := kk.trans k27
          have s37 := k37.size
          have hGb : Hid (∀ i, G i → w2.heap.size ≤ i ∧ i < w7.heap.size) := Lib.hid (fun i hi => by have := hGb.out i hi; omega)
          clear bw4 bw5 kw4 kw5 kw6 kw7 bw6 k27
          have hN2 : Hid (recallF l ⟨0, 0⟩ [] = recallF (l.drop (k + 1)) s (xs ++ [b])) := Lib.hid (by rw [hrec.out, hN.out, hrc.out])
          have hv7 := (hv.mono (G := (fun i => w2.heap.size ≤ i ∧ i < w7.heap.size)) (fun i hi hl => by have h : wr.heap.size ≤ i := hi; omega)).keep (k37.at _ (by simp))
          have hu7 := (hu.mono (G := (fun i => w2.heap.size ≤ i ∧ i < w7.heap.size)) (fun i hi hl => by have h : wr.heap.size ≤ i := hi; omega)).keep (k37.at _ (by simp))
          have hsl7 := hsl.out.mono (G := (fun i => w2.heap.size ≤ i ∧ i < w7.heap.size)) (fun i hi _ => hGb.out i hi)
          have hbd := rc_bounds hrc.out
          have hR : Hid (Rep.bk.R w7 (fun i => w2.heap.size ≤ i ∧ i < w7.heap.size) b (bkV b (.slice Av b.j.sg.length cv) (.slice Au b.q.length cu)).toList) := Lib.hid ⟨_, _, rfl, hbd.1, hbd.2.1, hbd.2.2.1, hbd.2.2.2, hv7, hu7⟩
          replace hsl7 := Lib.hid hsl7
          have hG7 : Hid (∀ i, (fun i => w2.heap.size ≤ i ∧ i < w7.heap.size) i → i < w7.heap.size) := Lib.hid (fun i hi => hi.2)
          clear hv hu hv7 hu7 hbd k37
          go_upto_region 12 with fail
          refine wp_region_any (by kernel_rfl) ?_
          (try (change wpAny _ _ _ _ _ _ _ (World.drew _)))
          have K0 : Keep [] w7 w7.drew := (Keep.refl [] w7).drew
          generalize World.drew w7 = u0 at *
          refine wpAny_take (i := 1) (v := ?_) rfl (by kernel_rfl) (by kernel_rfl) (by kernel_rfl) (fun _ _ _ h => h) (Or.inl ⟨by rfl, ?_⟩) ?_
          rotate_left
          · intro w9
            go_simp
            with_reducible rfl
          refine wpAny_ready (rs := [0, 3]) (by kernel_rfl) (by simp) ?_
          refine AllReady.consS rfl (fun K hK => ?_) ?_
          · refine stp_noneB rfl rfl ?_
            intro u1 bN kN zN
            clear zN
            have K1 := K0.trans kN
            have R1 : RowG Rep.bk 29 u1 w7.heap.size (fun i => w2.heap.size ≤ i ∧ i < w7.heap.size) (.slice (some ⟨u0.heap.size, 0, none⟩) 0 0) [] := RowG.empty _ _ _ _ _ _ bN K0.size
            replace R1 := Lib.hid R1
            clear bN kN
            refine hK _ _ ?_
            clear hK K
            refine wpAny_ready (rs := [2, 3]) (by kernel_rfl) (by simp) ?_
            refine AllReady.consS rfl (fun K hK => ?_) ?_
            · refine stp_appB rfl (.tmp 44) (.tmp 45) rfl w7.heap.size (fun i => w2.heap.size ≤ i ∧ i < w7.heap.size) (.slice (some ⟨u0.heap.size, 0, none⟩) 0 0) [] xs A5 c5 rfl rfl R1.out (SliceOf.reads (hsl7.out.keep (K1.at _ (by simp)))) hG7.out (by simp; omega) K1.size ?_
              simp only [List.length_nil, Nat.zero_add, List.nil_append]
              intro B1 p1 u2 rN kN
              have K2 : Keep [] w7 u2 := K1.new kN (fun i hi => .inr (R1.out.lt i (by simpa using hi)).1)
              have R2 := Lib.hid rN
              clear rN kN
              refine hK _ _ ?_
              clear hK K
              refine wpAny_ready (rs := [3]) (by kernel_rfl) (by simp) ?_
              refine AllReady.consS rfl (fun K hK => ?_) ?_
              · refine stp_load rfl 29 (.tmp 9) rfl w4.heap.size 0 (bkV b (.slice Av b.j.sg.length cv) (.slice Au b.q.length cu)) (bkV b (.slice Av b.j.sg.length cv) (.slice Au b.q.length cu)) _ _ 6 rfl (bw7.keep K2 (by simp)) rfl Try.underlying29 rfl zBk_size rfl ?_
                refine hK _ _ ?_
                clear hK K
                refine wpAny_ready (rs := [4]) (by kernel_rfl) (by simp) ?_
                refine AllReady.consS rfl (fun K hK => ?_) ?_
                · refine stp_oneB rfl (.tmp 47) rfl (bkV b (.slice Av b.j.sg.length cv) (.slice Au b.q.length cu)) rfl rfl ?_
                  intro u3 bN kN zN
                  clear zN
                  have K3 := K2.trans kN
                  have O3 := bN
                  have R3 := Lib.hid (R2.out.keep (fun k _ hl => kN.block k hl (by simp)))
                  clear bN kN
                  refine hK _ _ ?_
                  clear hK K
                  refine wpAny_ready (rs := [5]) (by kernel_rfl) (by simp) ?_
                  refine AllReady.consS rfl (fun K hK => ?_) ?_
                  · refine stp_appB rfl (.tmp 46) (.tmp 48) rfl w7.heap.size (fun i => w2.heap.size ≤ i ∧ i < w7.heap.size) (.slice B1 xs.length p1) xs [b] (some ⟨u2.heap.size, 0, none⟩) 1 rfl rfl R3.out (reads_one O3 (Rep.bk.keep hR.out (K3.at _ (by simp)))) hG7.out (by simp; omega) K3.size ?_
                    simp only [List.length_singleton]
                    intro B2 p2 u4 rN kN
                    have K4 : Keep [] w7 u4 := K3.new kN (fun i hi => .inr (R3.out.lt i (by simpa using hi)).1)
                    have R4 := Lib.hid rN
                    clear rN kN
                    refine hK _ _ ?_
                    clear hK K
                    refine wpAny_take (i := 6) (v := ?_) rfl (by kernel_rfl) (by kernel_rfl) (by kernel_rfl) (fun _ _ _ h => h) (Or.inl ⟨by rfl, ?_⟩) ?_
                    rotate_left
                    · intro w9
                      go_simp
                      with_reducible rfl
                    refine wpAny_done (by kernel_rfl) ?_ _
                    have sf := K4.size
                    have ow := R4.out.lt
                    have Sf := Lib.hid (R4.out.slice (by simp; unfold M47; omega))
                    have hb0f := hb0.keep K4 (by simp)
                    have hb1f := hb1.keep K4 (by simp)
                    have kkf := kk.trans K4
                    replace ow := Lib.hid ow
                    go_wp2
                    go_meet
                    exact ⟨s, xs ++ [b], hN2, by simp; omega, Lib.hid ⟨_, Sf.out, fun i hi => hi.elim (fun h => ⟨h.1, by have := h.2; omega⟩) (fun h => by have := ow.out i h; omega), hb0f, hb1f, kkf, by omega⟩⟩
                  exact AllReady.nil
                exact AllReady.nil
              exact AllReady.nil
            refine AllReady.consS rfl (fun K hK => ?_) ?_
            · refine stp_load rfl 29 (.tmp 9) rfl w4.heap.size 0 (bkV b (.slice Av b.j.sg.length cv) (.slice Au b.q.length cu)) (bkV b (.slice Av b.j.sg.length cv) (.slice Au b.q.length cu)) _ _ 6 rfl (bw7.keep K1 (by simp)) rfl Try.underlying29 rfl zBk_size rfl ?_
              refine hK _ _ ?_
              clear hK K
              refine wpAny_ready (rs := [2, 4]) (by kernel_rfl) (by simp) ?_
              refine AllReady.consS rfl (fun K hK => ?_) ?_
              · refine stp_appB rfl (.tmp 44) (.tmp 45) rfl w7.heap.size (fun i => w2.heap.size ≤ i ∧ i < w7.heap.size) (.slice (some ⟨u0.heap.size, 0, none⟩) 0 0) [] xs A5 c5 rfl rfl R1.out (SliceOf.reads (hsl7.out.keep (K1.at _ (by simp)))) hG7.out (by simp; omega) K1.size ?_
                simp only [List.length_nil, Nat.zero_add, List.nil_append]
                intro B1 p1 u2 rN kN
                have K2 : Keep [] w7 u2 := K1.new kN (fun i hi => .inr (R1.out.lt i (by simpa using hi)).1)
                have R2 := Lib.hid rN
                clear rN kN
                refine hK _ _ ?_
                clear hK K
                refine wpAny_ready (rs := [4]) (by kernel_rfl) (by simp) ?_
                refine AllReady.consS rfl (fun K hK => ?_) ?_
                · refine stp_oneB rfl (.tmp 47) rfl (bkV b (.slice Av b.j.sg.length cv) (.slice Au b.q.length cu)) rfl rfl ?_
                  intro u3 bN kN zN
                  clear zN
                  have K3 := K2.trans kN
                  have O3 := bN
                  have R3 := Lib.hid (R2.out.keep (fun k _ hl => kN.block k hl (by simp)))
                  clear bN kN
                  refine hK _ _ ?_
                  clear hK K
                  refine wpAny_ready (rs := [5]) (by kernel_rfl) (by simp) ?_
                  refine AllReady.consS rfl (fun K hK => ?_) ?_
                  · refine stp_appB rfl (.tmp 46) (.tmp 48) rfl w7.heap.size (fun i => w2.heap.size ≤ i ∧ i < w7.heap.size) (.slice B1 xs.length p1) xs [b] (some ⟨u2.heap.size, 0, none⟩) 1 rfl rfl R3.out (reads_one O3 (Rep.bk.keep hR.out (K3.at _ (by simp)))) hG7.out (by simp; omega) K3.size ?_
                    simp only [List.length_singleton]
                    intro B2 p2 u4 rN kN
                    have K4 : Keep [] w7 u4 := K3.new kN (fun i hi => .inr (R3.out.lt i (by simpa using hi)).1)
                    have R4 := Lib.hid rN
                    clear rN kN
                    refine hK _ _ ?_
                    clear hK K
                    refine wpAny_take (i := 6) (v := ?_) rfl (by kernel_rfl) (by kernel_rfl) (by kernel_rfl) (fun _ _ _ h => h) (Or.inl ⟨by rfl, ?_⟩) ?_
                    rotate_left
                    · intro w9
                      go_simp
                      with_reducible rfl
                    refine wpAny_done (by kernel_rfl) ?_ _
                    have sf := K4.size
                    have ow := R4.out.lt
                    have Sf := Lib.hid (R4.out.slice (by simp; unfold M47; omega))
                    have hb0f := hb0.keep K4 (by simp)
                    have hb1f := hb1.keep K4 (by simp)
                    have kkf := kk.trans K4
                    replace ow := Lib.hid ow
                    go_wp2
                    go_meet
                    exact ⟨s, xs ++ [b], hN2, by simp; omega, Lib.hid ⟨_, Sf.out, fun i hi => hi.elim (fun h => ⟨h.1, by have := h.2; omega⟩) (fun h => by have := ow.out i h; omega), hb0f, hb1f, kkf, by omega⟩⟩
                  exact AllReady.nil
                exact AllReady.nil
              refine AllReady.consS rfl (fun K hK => ?_) ?_
              · refine stp_oneB rfl (.tmp 47) rfl (bkV b (.slice Av b.j.sg.length cv) (.slice Au b.q.length cu)) rfl rfl ?_
                intro u2 bN kN zN
                clear zN
                have K2 := K1.trans kN
                have O2 := bN
                have hne : u0.heap.size < u1.heap.size := (R1.out.lt _ rfl).2
                have R2 := Lib.hid (R1.out.keep (fun k _ hl => kN.block k hl (by simp)))
                clear bN kN
                refine hK _ _ ?_
                clear hK K
                refine wpAny_ready (rs := [2]) (by kernel_rfl) (by simp) ?_
                refine AllReady.consS rfl (fun K hK => ?_) ?_
                · refine stp_appB rfl (.tmp 44) (.tmp 45) rfl w7.heap.size (fun i => w2.heap.size ≤ i ∧ i < w7.heap.size) (.slice (some ⟨u0.heap.size, 0, none⟩) 0 0) [] xs A5 c5 rfl rfl R2.out (SliceOf.reads (hsl7.out.keep (K2.at _ (by simp)))) hG7.out (by simp; omega) K2.size ?_
                  simp only [List.length_nil, Nat.zero_add, List.nil_append]
                  intro B1 p1 u3 rN kN
                  have K3 : Keep [] w7 u3 := K2.new kN (fun i hi => .inr (R2.out.lt i (by simpa using hi)).1)
                  have O3 := O2.keep kN (by simp [Value.ownBlock]; omega)
                  have R3 := Lib.hid rN
                  clear rN kN
                  refine hK _ _ ?_
                  clear hK K
                  refine wpAny_ready (rs := [5]) (by kernel_rfl) (by simp) ?_
                  refine AllReady.consS rfl (fun K hK => ?_) ?_
                  · refine stp_appB rfl (.tmp 46) (.tmp 48) rfl w7.heap.size (fun i => w2.heap.size ≤ i ∧ i < w7.heap.size) (.slice B1 xs.length p1) xs [b] (some ⟨u1.heap.size, 0, none⟩) 1 rfl rfl R3.out (reads_one O3 (Rep.bk.keep hR.out (K3.at _ (by simp)))) hG7.out (by simp; omega) K3.size ?_
                    simp only [List.length_singleton]
                    intro B2 p2 u4 rN kN
                    have K4 : Keep [] w7 u4 := K3.new kN (fun i hi => .inr (R3.out.lt i (by simpa using hi)).1)
                    have R4 := Lib.hid rN
                    clear rN kN
                    refine hK _ _ ?_
                    clear hK K
                    refine wpAny_take (i := 6) (v := ?_) rfl (by kernel_rfl) (by kernel_rfl) (by kernel_rfl) (fun _ _ _ h => h) (Or.inl ⟨by rfl, ?_⟩) ?_
                    rotate_left
                    · intro w9
                      go_simp
                      with_reducible rfl
                    refine wpAny_done (by kernel_rfl) ?_ _
                    have sf := K4.size
                    have ow := R4.out.lt
                    have Sf := Lib.hid (R4.out.slice (by simp; unfold M47; omega))
                    have hb0f := hb0.keep K4 (by simp)
                    have hb1f := hb1.keep K4 (by simp)
                    have kkf := kk.trans K4
                    replace ow := Lib.hid ow
                    go_wp2
                    go_meet
                    exact ⟨s, xs ++ [b], hN2, by simp; omega, Lib.hid ⟨_, Sf.out, fun i hi => hi.elim (fun h => ⟨h.1, by have := h.2; omega⟩) (fun h => by have := ow.out i h; omega), hb0f, hb1f, kkf, by omega⟩⟩
                  exact AllReady.nil
                exact AllReady.nil
              exact AllReady.nil
            exact AllReady.nil
          refine AllReady.consS rfl (fun K hK => ?_) ?_
          · refine stp_load rfl 29 (.tmp 9) rfl w4.heap.size 0 (bkV b (.slice Av b.j.sg.length cv) (.slice Au b.q.length cu)) (bkV b (.slice Av b.j.sg.length cv) (.slice Au b.q.length cu)) _ _ 6 rfl (bw7.keep K0 (by simp)) rfl Try.underlying29 rfl zBk_size rfl ?_
            refine hK _ _ ?_
            clear hK K
            refine wpAny_ready (rs := [0, 4]) (by kernel_rfl) (by simp) ?_
            refine AllReady.consS rfl (fun K hK => ?_) ?_
            · refine stp_noneB rfl rfl ?_
              intro u1 bN kN zN
              clear zN
              have K1 := K0.trans kN
              have R1 : RowG Rep.bk 29 u1 w7.heap.size (fun i => w2.heap.size ≤ i ∧ i < w7.heap.size) (.slice (some ⟨u0.heap.size, 0, none⟩) 0 0) [] := RowG.empty _ _ _ _ _ _ bN K0.size
              replace R1 := Lib.hid R1
              clear bN kN
              refine hK _ _ ?_
              clear hK K
              refine wpAny_ready (rs := [2, 4]) (by kernel_rfl) (by simp) ?_
              refine AllReady.consS rfl (fun K hK => ?_) ?_
              · refine stp_appB rfl (.tmp 44) (.tmp 45) rfl w7.heap.size (fun i => w2.heap.size ≤ i ∧ i < w7.heap.size) (.slice (some ⟨u0.heap.size, 0, none⟩) 0 0) [] xs A5 c5 rfl rfl R1.out (SliceOf.reads (hsl7.out.keep (K1.at _ (by simp)))) hG7.out (by simp; omega) K1.size ?_
                simp only [List.length_nil, Nat.zero_add, List.nil_append]
                intro B1 p1 u2 rN kN
                have K2 : Keep [] w7 u2 := K1.new kN (fun i hi => .inr (R1.out.lt i (by simpa using hi)).1)
                have R2 := Lib.hid rN
                clear rN kN
                refine hK _ _ ?_
                clear hK K
                refine wpAny_ready (rs := [4]) (by kernel_rfl) (by simp) ?_
                refine AllReady.consS rfl (fun K hK => ?_) ?_
                · refine stp_oneB rfl (.tmp 47) rfl (bkV b (.slice Av b.j.sg.length cv) (.slice Au b.q.length cu)) rfl rfl ?_
                  intro u3 bN kN zN
                  clear zN
                  have K3 := K2.trans kN
                  have O3 := bN
                  have R3 := Lib.hid (R2.out.keep (fun k _ hl => kN.block k hl (by simp)))
                  clear bN kN
                  refine hK _ _ ?_
                  clear hK K
                  refine wpAny_ready (rs := [5]) (by kernel_rfl) (by simp) ?_
                  refine AllReady.consS rfl (fun K hK => ?_) ?_
                  · refine stp_appB rfl (.tmp 46) (.tmp 48) rfl w7.heap.size (fun i => w2.heap.size ≤ i ∧ i < w7.heap.size) (.slice B1 xs.length p1) xs [b] (some ⟨u2.heap.size, 0, none⟩) 1 rfl rfl R3.out (reads_one O3 (Rep.bk.keep hR.out (K3.at _ (by simp)))) hG7.out (by simp; omega) K3.size ?_
                    simp only [List.length_singleton]
                    intro B2 p2 u4 rN kN
                    have K4 : Keep [] w7 u4 := K3.new kN (fun i hi => .inr (R3.out.lt i (by simpa using hi)).1)
                    have R4 := Lib.hid rN
                    clear rN kN
                    refine hK _ _ ?_
                    clear hK K
                    refine wpAny_take (i := 6) (v := ?_) rfl (by kernel_rfl) (by kernel_rfl) (by kernel_rfl) (fun _ _ _ h => h) (Or.inl ⟨by rfl, ?_⟩) ?_
                    rotate_left
                    · intro w9
                      go_simp
                      with_reducible rfl
                    refine wpAny_done (by kernel_rfl) ?_ _
                    have sf := K4.size
                    have ow := R4.out.lt
                    have Sf := Lib.hid (R4.out.slice (by simp; unfold M47; omega))
                    have hb0f := hb0.keep K4 (by simp)
                    have hb1f := hb1.keep K4 (by simp)
                    have kkf := kk.trans K4
                    replace ow := Lib.hid ow
                    go_wp2
                    go_meet
                    exact ⟨s, xs ++ [b], hN2, by simp; omega, Lib.hid ⟨_, Sf.out, fun i hi => hi.elim (fun h => ⟨h.1, by have := h.2; omega⟩) (fun h => by have := ow.out i h; omega), hb0f, hb1f, kkf, by omega⟩⟩
                  exact AllReady.nil
                exact AllReady.nil
              refine AllReady.consS rfl (fun K hK => ?_) ?_
              · refine stp_oneB rfl (.tmp 47) rfl (bkV b (.slice Av b.j.sg.length cv) (.slice Au b.q.length cu)) rfl rfl ?_
                intro u2 bN kN zN
                clear zN
                have K2 := K1.trans kN
                have O2 := bN
                have hne : u0.heap.size < u1.heap.size := (R1.out.lt _ rfl).2
                have R2 := Lib.hid (R1.out.keep (fun k _ hl => kN.block k hl (by simp)))
                clear bN kN
                refine hK _ _ ?_
                clear hK K
                refine wpAny_ready (rs := [2]) (by kernel_rfl) (by simp) ?_
                refine AllReady.consS rfl (fun K hK => ?_) ?_
                · refine stp_appB rfl (.tmp 44) (.tmp 45) rfl w7.heap.size (fun i => w2.heap.size ≤ i ∧ i < w7.heap.size) (.slice (some ⟨u0.heap.size, 0, none⟩) 0 0) [] xs A5 c5 rfl rfl R2.out (SliceOf.reads (hsl7.out.keep (K2.at _ (by simp)))) hG7.out (by simp; omega) K2.size ?_
                  simp only [List.length_nil, Nat.zero_add, List.nil_append]
                  intro B1 p1 u3 rN kN
                  have K3 : Keep [] w7 u3 := K2.new kN (fun i hi => .inr (R2.out.lt i (by simpa using hi)).1)
                  have O3 := O2.keep kN (by simp [Value.ownBlock]; omega)
                  have R3 := Lib.hid rN
                  clear rN kN
                  refine hK _ _ ?_
                  clear hK K
                  refine wpAny_ready (rs := [5]) (by kernel_rfl) (by simp) ?_
                  refine AllReady.consS rfl (fun K hK => ?_) ?_
                  · refine stp_appB rfl (.tmp 46) (.tmp 48) rfl w7.heap.size (fun i => w2.heap.size ≤ i ∧ i < w7.heap.size) (.slice B1 xs.length p1) xs [b] (some ⟨u1.heap.size, 0, none⟩) 1 rfl rfl R3.out (reads_one O3 (Rep.bk.keep hR.out (K3.at _ (by simp)))) hG7.out (by simp; omega) K3.size ?_
                    simp only [List.length_singleton]
                    intro B2 p2 u4 rN kN
                    have K4 : Keep [] w7 u4 := K3.new kN (fun i hi => .inr (R3.out.lt i (by simpa using hi)).1)
                    have R4 := Lib.hid rN
                    clear rN kN
                    refine hK _ _ ?_
                    clear hK K
                    refine wpAny_take (i := 6) (v := ?_) rfl (by kernel_rfl) (by kernel_rfl) (by kernel_rfl) (fun _ _ _ h => h) (Or.inl ⟨by rfl, ?_⟩) ?_
                    rotate_left
                    · intro w9
                      go_simp
                      with_reducible rfl
                    refine wpAny_done (by kernel_rfl) ?_ _
                    have sf := K4.size
                    have ow := R4.out.lt
                    have Sf := Lib.hid (R4.out.slice (by simp; unfold M47; omega))
                    have hb0f := hb0.keep K4 (by simp)
                    have hb1f := hb1.keep K4 (by simp)
                    have kkf := kk.trans K4
                    replace ow := Lib.hid ow
                    go_wp2
                    go_meet
                    exact ⟨s, xs ++ [b], hN2, by simp; omega, Lib.hid ⟨_, Sf.out, fun i hi => hi.elim (fun h => ⟨h.1, by have := h.2; omega⟩) (fun h => by have := ow.out i h; omega), hb0f, hb1f, kkf, by omega⟩⟩
                  exact AllReady.nil
                exact AllReady.nil
              exact AllReady.nil
            refine AllReady.consS rfl (fun K hK => ?_) ?_
            · refine stp_oneB rfl (.tmp 47) rfl (bkV b (.slice Av b.j.sg.length cv) (.slice Au b.q.length cu)) rfl rfl ?_
              intro u1 bN kN zN
              clear zN
              have K1 := K0.trans kN
              have O1 := bN
              clear bN kN
              refine hK _ _ ?_
              clear hK K
              refine wpAny_ready (rs := [0]) (by kernel_rfl) (by simp) ?_
              refine AllReady.consS rfl (fun K hK => ?_) ?_
              · refine stp_noneB rfl rfl ?_
                intro u2 bN kN zN
                clear zN
                have K2 := K1.trans kN
                have R2 : RowG Rep.bk 29 u2 w7.heap.size (fun i => w2.heap.size ≤ i ∧ i < w7.heap.size) (.slice (some ⟨u1.heap.size, 0, none⟩) 0 0) [] := RowG.empty _ _ _ _ _ _ bN K1.size
                have hne : u0.heap.size < u1.heap.size := O1.lt
                have O2 := O1.keep kN (by simp)
                replace R2 := Lib.hid R2
                clear bN kN
                refine hK _ _ ?_
                clear hK K
                refine wpAny_ready (rs := [2]) (by kernel_rfl) (by simp) ?_
                refine AllReady.consS rfl (fun K hK => ?_) ?_
                · refine stp_appB rfl (.tmp 44) (.tmp 45) rfl w7.heap.size (fun i => w2.heap.size ≤ i ∧ i < w7.heap.size) (.slice (some ⟨u1.heap.size, 0, none⟩) 0 0) [] xs A5 c5 rfl rfl R2.out (SliceOf.reads (hsl7.out.keep (K2.at _ (by simp)))) hG7.out (by simp; omega) K2.size ?_
                  simp only [List.length_nil, Nat.zero_add, List.nil_append]
                  intro B1 p1 u3 rN kN
                  have K3 : Keep [] w7 u3 := K2.new kN (fun i hi => .inr (R2.out.lt i (by simpa using hi)).1)
                  have O3 := O2.keep kN (by simp [Value.ownBlock]; omega)
                  have R3 := Lib.hid rN
                  clear rN kN
                  refine hK _ _ ?_
                  clear hK K
                  refine wpAny_ready (rs := [5]) (by kernel_rfl) (by simp) ?_
                  refine AllReady.consS rfl (fun K hK => ?_) ?_
                  · refine stp_appB rfl (.tmp 46) (.tmp 48) rfl w7.heap.size (fun i => w2.heap.size ≤ i ∧ i < w7.heap.size) (.slice B1 xs.length p1) xs [b] (some ⟨u0.heap.size, 0, none⟩) 1 rfl rfl R3.out (reads_one O3 (Rep.bk.keep hR.out (K3.at _ (by simp)))) hG7.out (by simp; omega) K3.size ?_
                    simp only [List.length_singleton]
                    intro B2 p2 u4 rN kN
                    have K4 : Keep [] w7 u4 := K3.new kN (fun i hi => .inr (R3.out.lt i (by simpa using hi)).1)
                    have R4 := Lib.hid rN
                    clear rN kN
                    refine hK _ _ ?_
                    clear hK K
                    refine wpAny_take (i := 6) (v := ?_) rfl (by kernel_rfl) (by kernel_rfl) (by kernel_rfl) (fun _ _ _ h => h) (Or.inl ⟨by rfl, ?_⟩) ?_
                    rotate_left
                    · intro w9
                      go_simp
                      with_reducible rfl
                    refine wpAny_done (by kernel_rfl) ?_ _
                    have sf := K4.size
                    have ow := R4.out.lt
                    have Sf := Lib.hid (R4.out.slice (by simp; unfold M47; omega))
                    have hb0f := hb0.keep K4 (by simp)
                    have hb1f := hb1.keep K4 (by simp)
                    have kkf := kk.trans K4
                    replace ow := Lib.hid ow
                    go_wp2
                    go_meet
                    exact ⟨s, xs ++ [b], hN2, by simp; omega, Lib.hid ⟨_, Sf.out, fun i hi => hi.elim (fun h => ⟨h.1, by have := h.2; omega⟩) (fun h => by have := ow.out i h; omega), hb0f, hb1f, kkf, by omega⟩⟩
                  exact AllReady.nil
                exact AllReady.nil
              exact AllReady.nil
            exact AllReady.nil
          exact AllReady.nil
    · have hltz : ¬ (k : Int) < (l.length : Int) := by omega
      have hst : Hid (recallF l ⟨0, 0⟩ [] = (s, xs)) := Lib.hid (by rw [hrec.out, List.drop_eq_nil_of_le (by omega)]; rfl)
      go_wp2_with (first | ((with_reducible refine wl_load 23 (.tmp 4) ?_ ?_); (with_reducible rfl); refine sx_loadW rfl 23 (.tmp 4) rfl w1.heap.size (stV s) _ _ 2 rfl hb1 Try.underlying23 rfl zSt_size rfl ?_; (try simp only [Act.put, List.setIfInBounds_toArray, List.set_cons_zero, List.set_cons_succ])) | ((with_reducible refine wl_store 23 (.tmp 2) (.tmp 50) ?_ ?_); (with_reducible rfl); refine sx_storeW rfl 23 (.tmp 2) (.tmp 50) rfl w.heap.size (stV s) zSt _ 2 rfl rfl hb0 zSt_size rfl rfl rfl ?_; intro wz bwz kwz zwz; clear zwz; (try simp only [Act.put, List.setIfInBounds_toArray, List.set_cons_zero, List.set_cons_succ])))
      refine ret_cell2 rfl rfl rfl bwz Try.underlying23 rfl zSt_size _ rfl ?_
      rw [hst.out]
      have sz := kwz.size
      exact ⟨_, rfl, G, hsl.out.keep (kwz.at G (fun i hi hg => by have := (hGb.out i hg).1; simp at hi; omega)), fun i hi => by have := hGb.out i hi; omega, kk.new kwz (fun i hi => .inr (by simp at hi; omega))⟩
end Go.Proofs.Ytdhhibppcckbkaa
