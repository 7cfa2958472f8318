import Derived.Test.YtbhpkknlpjdcaaaNet7
namespace Go.Proofs.Ytbhpkknlpjdcaaa
open Go.RowKit
set_option linter.unusedVariables false
set_option linter.unusedSimpArgs false
/-! net: the reference's Do -/
def kindF (x : Op20) : Int := x.k % 4
def doF (l : List ByteArray) (x : Op20) : List ByteArray × ByteArray × Bool :=
  if kindF x = 0 then (if rightMsg x.m = true ∧ l.length < 2000 then (l ++ [msgF x.m], ⟨#[]⟩, true) else (l, ⟨#[]⟩, false))
  else if kindF x = 3 then (if 1 ≤ x.b.size ∧ x.b.size ≤ 4000 ∧ l.length < 2000 then (l ++ [x.b], ⟨#[]⟩, true) else (l, ⟨#[]⟩, false))
  else if l.length = 0 then (l, ⟨#[]⟩, false)
  else if kindF x = 2 then (if l.length < 2000 then (l ++ [l.getD (atF x.i l.length) ⟨#[]⟩], ⟨#[]⟩, true) else (l, ⟨#[]⟩, false))
  else (l.eraseIdx (atF x.i l.length), l.getD (atF x.i l.length) ⟨#[]⟩, true)
/-- What Do answers. -/
def DoPost (w : World) (G : Nat → Prop) (r : List ByteArray × ByteArray × Bool) (e : Ending) (w' : World) : Prop :=
  ∃ B d, e = .returned (.tuple #[.slice B r.1.length d, .string r.2.1, .bool r.2.2]) ∧ SliceOf Rep.str w' (fun i => G i ∨ w.heap.size ≤ i) (.slice B r.1.length d) r.1 ∧ Keep [] w w'
theorem DoPost.same {w w' : World} {G : Nat → Prop} {A : Option Addr} {l : List ByteArray} {c : Nat} (hs : SliceOf Rep.str w G (.slice A l.length c) l) (k : Keep [] w w') : DoPost w G (l, ⟨#[]⟩, false) (.returned (.tuple #[.slice A l.length c, .string ⟨#[]⟩, .bool false])) w' :=
  ⟨A, c, rfl, (hs.keep (k.at G (by simp))).mono (fun i hi _ => .inl hi), k⟩
section
variable {o : Oper} {act : Act} {K : Act → World → Prop} {Q : Exit → Act → World → Prop}
theorem step_appK (w0 : World) {ops : Array Oper} {E : Prop} (hgd : o.guard = none) (s x : Operand) (ho : o.op = .call { callee := .builtin .append, args := #[s, x], argTypes := #[26, 26] })
    (W : World) (v : Value) (xs ys : List ByteArray) (F : Nat → Prop) (A : Option Addr) (c : Nat) (hs : act.eval s = v) (hx : act.eval x = .slice A ys.length c)
    (hown : NewS w0 W v xs) (hy : SliceOf Rep.str W F (.slice A ys.length c) ys) (hl : (xs.length + ys.length) * 16 ≤ 140737488355328)
    (h : ∀ B cap w', NewS w0 w' (.slice B (xs.length + ys.length) cap) (xs ++ ys) → Keep v.ownBlock.toList W w' → K (act.put o.dst (.slice B (xs.length + ys.length) cap)) w') :
    if Region.wanted o (yielded ops act.tmps) = true then Oper.wp Try.prog o act W K Q else E := by
  have hw : Region.wanted o (yielded ops act.tmps) = true := by simp [Region.wanted, hgd]
  rw [if_pos hw]
  obtain ⟨v', w', r1, r2, r3, r4⟩ := run_appS W w0.heap.size v xs ys F A c o.type hown.1 hy hl hown.2.size
  obtain ⟨B, cap, rfl, -⟩ := r2.form
  rw [List.length_append] at *
  unfold Oper.wp execOp
  simp only [ho, resolve, invoke, builtin, Sem.run_bind, Sem.run_pure, Result.andThen_ok, List.map_toArray, List.map_cons, List.map_nil, hs, hx, r1]
  exact h B cap w' ⟨r2, hown.2.grown r3 (fun i hi => .inr (hown.1.lt i hi).1)⟩ ((Keep.refl _ W).grown r3 (fun i hi => .inl (by rw [hi]; simp)))
end
theorem run_loadP (w : World) (g o : Nat) (ty : TypeId) (cur C : Array Value) (t : Nat) (d : TypeDesc) (n : Nat) (hb : Blk w g cur t) (hu : Try.prog.underlying ty = some d) (hd : d.isRow = true) (hi : (Try.prog.info? ty).map (·.size) = some n) (hn : C.size = n)
    (hC : (cur.toList.drop o).take C.toList.length = C.toList) : (Instr.loadAt ty (.pointer (some ⟨g, o, none⟩))).run Try.prog w = .ok (.agg C) w := by
  have h := run_loadAt_mid (P := Try.prog) w g o ty C.toList d (range_part hb o C hC) hu hd (by simpa [hn] using hi)
  simpa using h
section
variable {o : Oper} {act : Act} {K : Act → World → Prop} {Q : Exit → Act → World → Prop}
theorem step_loadP {ops : Array Oper} {E : Prop} {W : World} (hgd : o.guard = none) (ty : TypeId) (x : Operand) (ho : o.op = .load ty x) (g off : Nat) (cur C : Array Value) (t : Nat) (d : TypeDesc) (n : Nat) (hx : act.eval x = .pointer (some ⟨g, off, none⟩)) (hb : Blk W g cur t)
    (hu : Try.prog.underlying ty = some d) (hd : d.isRow = true) (hi : (Try.prog.info? ty).map (·.size) = some n) (hn : C.size = n) (hC : (cur.toList.drop off).take C.toList.length = C.toList) (h : K (act.put o.dst (.agg C)) W) :
    if Region.wanted o (yielded ops act.tmps) = true then Oper.wp Try.prog o act W K Q else E := by
  have hw : Region.wanted o (yielded ops act.tmps) = true := by simp [Region.wanted, hgd]
  rw [if_pos hw]
  unfold Oper.wp execOp
  simp only [ho, hx, Sem.run_bind, run_loadP W g off ty cur C t d n hb hu hd hi hn hC, Result.andThen_ok]
  exact h
end
theorem own_lower {w : World} {lo lo' : Nat} {v : Value} {xs : List ByteArray} (h : Own Rep.str 9 w lo v xs) (hl : lo' ≤ lo) : Own Rep.str 9 w lo' v xs := by
  obtain ⟨⟨hlen, h1⟩, h2⟩ := own_strs h
  refine own_of_strs ⟨hlen, ?_⟩ h2
  rcases h1 with h1 | ⟨g, cap, cur, e, hlo, rest⟩
  · exact .inl h1
  · exact .inr ⟨g, cap, cur, e, Nat.le_trans hl hlo, rest⟩
theorem DoPost.new {w w' : World} {G : Nat → Prop} {B : Option Addr} {l : List ByteArray} {n d : Nat} (hn : n = l.length) (hs : SliceOf Rep.str w' (fun i => w.heap.size ≤ i) (.slice B n d) l) (k : Keep [] w w') : DoPost w G (l, ⟨#[]⟩, true) (.returned (.tuple #[.slice B n d, .string ⟨#[]⟩, .bool true])) w' := by
  subst hn
  exact ⟨B, d, rfl, hs.mono (fun i hi _ => .inr hi), k⟩
set_option maxRecDepth 100000 in
set_option maxHeartbeats 8000000 in
theorem do20_k0bad (A : Option Addr) (c : Nat) (l : List ByteArray) (x : Op20) (v1 v2 v3 v4 : Value) (F G : Nat → Prop) (w : World) (hs : SliceOf Rep.str w G (.slice A l.length c) l) (hok : MsOk w F x.m v1 v2 v3 v4) (hk : 0 ≤ x.k ∧ x.k ≤ 255)
    (hb : x.b.size ≤ 4100) (hm : MsSz x.m) (hm2 : (msgF x.m).size ≤ M47) (hl : l.length ≤ 2000) (h1 : kindF x = 0) (h2 : rightMsg x.m = false) :
    Calls Try.prog 15 #[.slice A l.length c, .agg (opV20 x v1 v2 v3 v4)] w (DoPost w G (doF l x)) := by
  obtain ⟨A1, c1, rfl, -⟩ := hok.bs.form
  obtain ⟨A2, c2, rfl, -⟩ := hok.bq.form
  obtain ⟨A3, c3, rfl, -⟩ := hok.cs.form
  obtain ⟨A4, c4, rfl, -⟩ := hok.st.form
  have e0 : doF l x = (l, ⟨#[]⟩, false) := by unfold doF; rw [if_pos h1, if_neg (by simp [h2])]
  rw [e0]
  clear e0
  unfold kindF at h1
  have z0 : (x.k % 4 == 0) = true := by simp [h1]
  have zm : x.k.tmod 4 = x.k % 4 := Int.tmod_eq_emod_of_nonneg hk.1
  replace h1 := Lib.hid h1
  have HR := Lib.hid h2
  clear h2
  replace hs := Lib.hid hs
  replace hok := Lib.hid hok
  have hbl : x.b.size < 9223372036854775808 := by omega
  obtain ⟨hk1, hk2⟩ := hk
  have HL := Lib.hid hl
  go_enter Try.func15, Try.ntmps15
  go_upto_region 2 with (first | ((with_reducible refine wl_box 49 (.tmp 1) ?_ ?_); (with_reducible rfl); refine sx_box rfl 49 (.tmp 1) rfl (opV20 x (.slice A1 x.m.b.j.sg.length c1) (.slice A2 x.m.b.q.length c2) (.slice A3 x.m.c.sg.length c3) (.slice A4 x.m.s.ts.length c4)) rfl ?_; intro w1 b1 k1 z1; clear z1; (try simp only [Act.put, List.setIfInBounds_toArray, List.set_cons_zero, List.set_cons_succ])))
  have d0 : w1.cell? ⟨w.heap.size, 0, none⟩ = some (.int .u8 x.k) := b1.cell 0
  have d22 : w1.cell? ⟨w.heap.size, 22, none⟩ = some (.int .i64 x.i) := b1.cell 22
  have d23 : w1.cell? ⟨w.heap.size, 23, none⟩ = some (.string x.b) := b1.cell 23
  go_wp2_with (first | ((with_reducible refine wl_load 39 (.tmp 19) ?_ ?_); (with_reducible rfl); refine sx_load rfl 39 (.tmp 19) rfl w.heap.size 1 (opV20 x (.slice A1 x.m.b.j.sg.length c1) (.slice A2 x.m.b.q.length c2) (.slice A3 x.m.c.sg.length c3) (.slice A4 x.m.s.ts.length c4)) (msgV x.m (.slice A1 x.m.b.j.sg.length c1) (.slice A2 x.m.b.q.length c2) (.slice A3 x.m.c.sg.length c3) (.slice A4 x.m.s.ts.length c4)) _ _ rfl b1 Try.underlying39 rfl zMs_size rfl ?_; (try simp only [Act.put, List.setIfInBounds_toArray, List.set_cons_zero, List.set_cons_succ])))
  refine (rightMsg_call x.m _ _ _ _ F _ (hok.out.keep (k1.at F (by simp)))).mono ?_
  rw [HR.out]
  rintro e w2 ⟨rfl, k2⟩
  have kk2 := k1.trans k2
  go_wp2
  go_ret3
  exact DoPost.same hs.out kk2
set_option maxRecDepth 100000 in
set_option maxHeartbeats 8000000 in
theorem do20_k0full (A : Option Addr) (c : Nat) (l : List ByteArray) (x : Op20) (v1 v2 v3 v4 : Value) (F G : Nat → Prop) (w : World) (hs : SliceOf Rep.str w G (.slice A l.length c) l) (hok : MsOk w F x.m v1 v2 v3 v4) (hk : 0 ≤ x.k ∧ x.k ≤ 255)
    (hb : x.b.size ≤ 4100) (hm : MsSz x.m) (hm2 : (msgF x.m).size ≤ M47) (hl : l.length ≤ 2000) (h1 : kindF x = 0) (h2 : rightMsg x.m = true) (h3 : 2000 ≤ l.length) :
    Calls Try.prog 15 #[.slice A l.length c, .agg (opV20 x v1 v2 v3 v4)] w (DoPost w G (doF l x)) := by
  obtain ⟨A1, c1, rfl, -⟩ := hok.bs.form
  obtain ⟨A2, c2, rfl, -⟩ := hok.bq.form
  obtain ⟨A3, c3, rfl, -⟩ := hok.cs.form
  obtain ⟨A4, c4, rfl, -⟩ := hok.st.form
  have e0 : doF l x = (l, ⟨#[]⟩, false) := by unfold doF; rw [if_pos h1, if_neg (by intro h; omega)]
  rw [e0]
  clear e0
  unfold kindF at h1
  have z0 : (x.k % 4 == 0) = true := by simp [h1]
  have zm : x.k.tmod 4 = x.k % 4 := Int.tmod_eq_emod_of_nonneg hk.1
  replace h1 := Lib.hid h1
  have HR := Lib.hid h2
  clear h2
  have h3z : (2000 : Int) ≤ (l.length : Int) := by omega
  replace hs := Lib.hid hs
  replace hok := Lib.hid hok
  have hbl : x.b.size < 9223372036854775808 := by omega
  obtain ⟨hk1, hk2⟩ := hk
  have HL := Lib.hid hl
  go_enter Try.func15, Try.ntmps15
  go_upto_region 2 with (first | ((with_reducible refine wl_box 49 (.tmp 1) ?_ ?_); (with_reducible rfl); refine sx_box rfl 49 (.tmp 1) rfl (opV20 x (.slice A1 x.m.b.j.sg.length c1) (.slice A2 x.m.b.q.length c2) (.slice A3 x.m.c.sg.length c3) (.slice A4 x.m.s.ts.length c4)) rfl ?_; intro w1 b1 k1 z1; clear z1; (try simp only [Act.put, List.setIfInBounds_toArray, List.set_cons_zero, List.set_cons_succ])))
  have d0 : w1.cell? ⟨w.heap.size, 0, none⟩ = some (.int .u8 x.k) := b1.cell 0
  have d22 : w1.cell? ⟨w.heap.size, 22, none⟩ = some (.int .i64 x.i) := b1.cell 22
  have d23 : w1.cell? ⟨w.heap.size, 23, none⟩ = some (.string x.b) := b1.cell 23
  go_wp2_with (first | ((with_reducible refine wl_load 39 (.tmp 19) ?_ ?_); (with_reducible rfl); refine sx_load rfl 39 (.tmp 19) rfl w.heap.size 1 (opV20 x (.slice A1 x.m.b.j.sg.length c1) (.slice A2 x.m.b.q.length c2) (.slice A3 x.m.c.sg.length c3) (.slice A4 x.m.s.ts.length c4)) (msgV x.m (.slice A1 x.m.b.j.sg.length c1) (.slice A2 x.m.b.q.length c2) (.slice A3 x.m.c.sg.length c3) (.slice A4 x.m.s.ts.length c4)) _ _ rfl b1 Try.underlying39 rfl zMs_size rfl ?_; (try simp only [Act.put, List.setIfInBounds_toArray, List.set_cons_zero, List.set_cons_succ])))
  refine (rightMsg_call x.m _ _ _ _ F _ (hok.out.keep (k1.at F (by simp)))).mono ?_
  rw [HR.out]
  rintro e w2 ⟨rfl, k2⟩
  have kk2 := k1.trans k2
  go_wp2
  go_ret3
  exact DoPost.same hs.out kk2
set_option maxRecDepth 100000 in
set_option maxHeartbeats 8000000 in
theorem do20_k3bad (A : Option Addr) (c : Nat) (l : List ByteArray) (x : Op20) (v1 v2 v3 v4 : Value) (F G : Nat → Prop) (w : World) (hs : SliceOf Rep.str w G (.slice A l.length c) l) (hok : MsOk w F x.m v1 v2 v3 v4) (hk : 0 ≤ x.k ∧ x.k ≤ 255)
    (hb : x.b.size ≤ 4100) (hm : MsSz x.m) (hm2 : (msgF x.m).size ≤ M47) (hl : l.length ≤ 2000) (h1 : kindF x = 3) (h2 : ¬ 1 ≤ x.b.size) :
    Calls Try.prog 15 #[.slice A l.length c, .agg (opV20 x v1 v2 v3 v4)] w (DoPost w G (doF l x)) := by
  obtain ⟨A1, c1, rfl, -⟩ := hok.bs.form
  obtain ⟨A2, c2, rfl, -⟩ := hok.bq.form
  obtain ⟨A3, c3, rfl, -⟩ := hok.cs.form
  obtain ⟨A4, c4, rfl, -⟩ := hok.st.form
  have e0 : doF l x = (l, ⟨#[]⟩, false) := by unfold doF; rw [if_neg (by omega), if_pos h1, if_neg (by intro h; omega)]
  rw [e0]
  clear e0
  unfold kindF at h1
  have z0 : (x.k % 4 == 0) = false := by rw [beq_eq_false_iff_ne]; omega
  have z3 : (x.k % 4 == 3) = true := by simp [h1]
  have zm : x.k.tmod 4 = x.k % 4 := Int.tmod_eq_emod_of_nonneg hk.1
  replace h1 := Lib.hid h1
  have hbe : x.b = ⟨#[]⟩ := by rcases x with ⟨_, _, _, ⟨⟨l⟩⟩⟩; cases l with | nil => rfl | cons a b => exact absurd h2 (by simp [ByteArray.size])
  have hq := Lib.hid h2
  clear h2
  replace hs := Lib.hid hs
  replace hok := Lib.hid hok
  have hbl : x.b.size < 9223372036854775808 := by omega
  obtain ⟨hk1, hk2⟩ := hk
  have HL := Lib.hid hl
  go_enter Try.func15, Try.ntmps15
  go_upto_region 2 with (first | ((with_reducible refine wl_box 49 (.tmp 1) ?_ ?_); (with_reducible rfl); refine sx_box rfl 49 (.tmp 1) rfl (opV20 x (.slice A1 x.m.b.j.sg.length c1) (.slice A2 x.m.b.q.length c2) (.slice A3 x.m.c.sg.length c3) (.slice A4 x.m.s.ts.length c4)) rfl ?_; intro w1 b1 k1 z1; clear z1; (try simp only [Act.put, List.setIfInBounds_toArray, List.set_cons_zero, List.set_cons_succ])))
  have d0 : w1.cell? ⟨w.heap.size, 0, none⟩ = some (.int .u8 x.k) := b1.cell 0
  have d22 : w1.cell? ⟨w.heap.size, 22, none⟩ = some (.int .i64 x.i) := b1.cell 22
  have d23 : w1.cell? ⟨w.heap.size, 23, none⟩ = some (.string x.b) := b1.cell 23
  rw [hbe] at d23
  go_wp2
  go_ret3
  exact DoPost.same hs.out k1
set_option maxRecDepth 100000 in
set_option maxHeartbeats 8000000 in
theorem do20_k3big (A : Option Addr) (c : Nat) (l : List ByteArray) (x : Op20) (v1 v2 v3 v4 : Value) (F G : Nat → Prop) (w : World) (hs : SliceOf Rep.str w G (.slice A l.length c) l) (hok : MsOk w F x.m v1 v2 v3 v4) (hk : 0 ≤ x.k ∧ x.k ≤ 255)
    (hb : x.b.size ≤ 4100) (hm : MsSz x.m) (hm2 : (msgF x.m).size ≤ M47) (hl : l.length ≤ 2000) (h1 : kindF x = 3) (h2 : 1 ≤ x.b.size) (h3 : 4000 < x.b.size) :
    Calls Try.prog 15 #[.slice A l.length c, .agg (opV20 x v1 v2 v3 v4)] w (DoPost w G (doF l x)) := by
  obtain ⟨A1, c1, rfl, -⟩ := hok.bs.form
  obtain ⟨A2, c2, rfl, -⟩ := hok.bq.form
  obtain ⟨A3, c3, rfl, -⟩ := hok.cs.form
  obtain ⟨A4, c4, rfl, -⟩ := hok.st.form
  have e0 : doF l x = (l, ⟨#[]⟩, false) := by unfold doF; rw [if_neg (by omega), if_pos h1, if_neg (by intro h; omega)]
  rw [e0]
  clear e0
  unfold kindF at h1
  have z0 : (x.k % 4 == 0) = false := by rw [beq_eq_false_iff_ne]; omega
  have z3 : (x.k % 4 == 3) = true := by simp [h1]
  have zm : x.k.tmod 4 = x.k % 4 := Int.tmod_eq_emod_of_nonneg hk.1
  replace h1 := Lib.hid h1
  have hne : ¬ x.b = ⟨#[]⟩ := by intro h; rw [h] at h2; exact absurd h2 (by decide)
  obtain ⟨hq1, hq2⟩ := strNe hne
  have hq3 : ¬ x.b.toList = [] := fun e => hq2 (by rw [e, ByteArray.toList_eq])
  have hq4 : (x.b.toList == []) = false := beq_eq_false_iff_ne.2 hq3
  have h3z : (4000 : Int) < (x.b.size : Int) := by omega
  clear hne
  replace hs := Lib.hid hs
  replace hok := Lib.hid hok
  have hbl : x.b.size < 9223372036854775808 := by omega
  obtain ⟨hk1, hk2⟩ := hk
  have HL := Lib.hid hl
  go_enter Try.func15, Try.ntmps15
  go_upto_region 2 with (first | ((with_reducible refine wl_box 49 (.tmp 1) ?_ ?_); (with_reducible rfl); refine sx_box rfl 49 (.tmp 1) rfl (opV20 x (.slice A1 x.m.b.j.sg.length c1) (.slice A2 x.m.b.q.length c2) (.slice A3 x.m.c.sg.length c3) (.slice A4 x.m.s.ts.length c4)) rfl ?_; intro w1 b1 k1 z1; clear z1; (try simp only [Act.put, List.setIfInBounds_toArray, List.set_cons_zero, List.set_cons_succ])))
  have d0 : w1.cell? ⟨w.heap.size, 0, none⟩ = some (.int .u8 x.k) := b1.cell 0
  have d22 : w1.cell? ⟨w.heap.size, 22, none⟩ = some (.int .i64 x.i) := b1.cell 22
  have d23 : w1.cell? ⟨w.heap.size, 23, none⟩ = some (.string x.b) := b1.cell 23
  go_wp2
  go_ret3
  exact DoPost.same hs.out k1
set_option maxRecDepth 100000 in
set_option maxHeartbeats 8000000 in
theorem do20_k3full (A : Option Addr) (c : Nat) (l : List ByteArray) (x : Op20) (v1 v2 v3 v4 : Value) (F G : Nat → Prop) (w : World) (hs : SliceOf Rep.str w G (.slice A l.length c) l) (hok : MsOk w F x.m v1 v2 v3 v4) (hk : 0 ≤ x.k ∧ x.k ≤ 255)
    (hb : x.b.size ≤ 4100) (hm : MsSz x.m) (hm2 : (msgF x.m).size ≤ M47) (hl : l.length ≤ 2000) (h1 : kindF x = 3) (h2 : 1 ≤ x.b.size) (h3 : x.b.size ≤ 4000) (h4 : 2000 ≤ l.length) :
    Calls Try.prog 15 #[.slice A l.length c, .agg (opV20 x v1 v2 v3 v4)] w (DoPost w G (doF l x)) := by
  obtain ⟨A1, c1, rfl, -⟩ := hok.bs.form
  obtain ⟨A2, c2, rfl, -⟩ := hok.bq.form
  obtain ⟨A3, c3, rfl, -⟩ := hok.cs.form
  obtain ⟨A4, c4, rfl, -⟩ := hok.st.form
  have e0 : doF l x = (l, ⟨#[]⟩, false) := by unfold doF; rw [if_neg (by omega), if_pos h1, if_neg (by intro h; omega)]
  rw [e0]
  clear e0
  unfold kindF at h1
  have z0 : (x.k % 4 == 0) = false := by rw [beq_eq_false_iff_ne]; omega
  have z3 : (x.k % 4 == 3) = true := by simp [h1]
  have zm : x.k.tmod 4 = x.k % 4 := Int.tmod_eq_emod_of_nonneg hk.1
  replace h1 := Lib.hid h1
  have hne : ¬ x.b = ⟨#[]⟩ := by intro h; rw [h] at h2; exact absurd h2 (by decide)
  obtain ⟨hq1, hq2⟩ := strNe hne
  have hq3 : ¬ x.b.toList = [] := fun e => hq2 (by rw [e, ByteArray.toList_eq])
  have hq4 : (x.b.toList == []) = false := beq_eq_false_iff_ne.2 hq3
  have h3z : ¬ (4000 : Int) < (x.b.size : Int) := by omega
  have h4z : (2000 : Int) ≤ (l.length : Int) := by omega
  clear hne
  replace hs := Lib.hid hs
  replace hok := Lib.hid hok
  have hbl : x.b.size < 9223372036854775808 := by omega
  obtain ⟨hk1, hk2⟩ := hk
  have HL := Lib.hid hl
  go_enter Try.func15, Try.ntmps15
  go_upto_region 2 with (first | ((with_reducible refine wl_box 49 (.tmp 1) ?_ ?_); (with_reducible rfl); refine sx_box rfl 49 (.tmp 1) rfl (opV20 x (.slice A1 x.m.b.j.sg.length c1) (.slice A2 x.m.b.q.length c2) (.slice A3 x.m.c.sg.length c3) (.slice A4 x.m.s.ts.length c4)) rfl ?_; intro w1 b1 k1 z1; clear z1; (try simp only [Act.put, List.setIfInBounds_toArray, List.set_cons_zero, List.set_cons_succ])))
  have d0 : w1.cell? ⟨w.heap.size, 0, none⟩ = some (.int .u8 x.k) := b1.cell 0
  have d22 : w1.cell? ⟨w.heap.size, 22, none⟩ = some (.int .i64 x.i) := b1.cell 22
  have d23 : w1.cell? ⟨w.heap.size, 23, none⟩ = some (.string x.b) := b1.cell 23
  go_wp2
  go_ret3
  exact DoPost.same hs.out k1
set_option maxRecDepth 100000 in
set_option maxHeartbeats 8000000 in
theorem do20_none (A : Option Addr) (c : Nat) (l : List ByteArray) (x : Op20) (v1 v2 v3 v4 : Value) (F G : Nat → Prop) (w : World) (hs : SliceOf Rep.str w G (.slice A l.length c) l) (hok : MsOk w F x.m v1 v2 v3 v4) (hk : 0 ≤ x.k ∧ x.k ≤ 255)
    (hb : x.b.size ≤ 4100) (hm : MsSz x.m) (hm2 : (msgF x.m).size ≤ M47) (hl : l.length ≤ 2000) (h1 : kindF x ≠ 0) (h1' : kindF x ≠ 3) (h2 : l.length = 0) :
    Calls Try.prog 15 #[.slice A l.length c, .agg (opV20 x v1 v2 v3 v4)] w (DoPost w G (doF l x)) := by
  obtain ⟨A1, c1, rfl, -⟩ := hok.bs.form
  obtain ⟨A2, c2, rfl, -⟩ := hok.bq.form
  obtain ⟨A3, c3, rfl, -⟩ := hok.cs.form
  obtain ⟨A4, c4, rfl, -⟩ := hok.st.form
  have e0 : doF l x = (l, ⟨#[]⟩, false) := by unfold doF; rw [if_neg h1, if_neg h1', if_pos h2]
  rw [e0]
  clear e0
  unfold kindF at h1 h1'
  have z0 : (x.k % 4 == 0) = false := by rw [beq_eq_false_iff_ne]; omega
  have z3 : (x.k % 4 == 3) = false := by rw [beq_eq_false_iff_ne]; omega
  have zm : x.k.tmod 4 = x.k % 4 := Int.tmod_eq_emod_of_nonneg hk.1
  have h2z : (l.length : Int) = 0 := by omega
  have h2y : ((l.length : Int) == 0) = true := by simp [h2]
  replace h1 := Lib.hid h1
  replace h1' := Lib.hid h1'
  replace hs := Lib.hid hs
  replace hok := Lib.hid hok
  have hbl : x.b.size < 9223372036854775808 := by omega
  obtain ⟨hk1, hk2⟩ := hk
  have HL := Lib.hid hl
  go_enter Try.func15, Try.ntmps15
  go_upto_region 2 with (first | ((with_reducible refine wl_box 49 (.tmp 1) ?_ ?_); (with_reducible rfl); refine sx_box rfl 49 (.tmp 1) rfl (opV20 x (.slice A1 x.m.b.j.sg.length c1) (.slice A2 x.m.b.q.length c2) (.slice A3 x.m.c.sg.length c3) (.slice A4 x.m.s.ts.length c4)) rfl ?_; intro w1 b1 k1 z1; clear z1; (try simp only [Act.put, List.setIfInBounds_toArray, List.set_cons_zero, List.set_cons_succ])))
  have d0 : w1.cell? ⟨w.heap.size, 0, none⟩ = some (.int .u8 x.k) := b1.cell 0
  have d22 : w1.cell? ⟨w.heap.size, 22, none⟩ = some (.int .i64 x.i) := b1.cell 22
  have d23 : w1.cell? ⟨w.heap.size, 23, none⟩ = some (.string x.b) := b1.cell 23
  go_wp2
  go_ret3
  exact DoPost.same hs.out k1
set_option maxRecDepth 100000 in
set_option maxHeartbeats 8000000 in
theorem do20_k3ok (A : Option Addr) (c : Nat) (l : List ByteArray) (x : Op20) (v1 v2 v3 v4 : Value) (F G : Nat → Prop) (w : World) (hs : SliceOf Rep.str w G (.slice A l.length c) l) (hok : MsOk w F x.m v1 v2 v3 v4) (hk : 0 ≤ x.k ∧ x.k ≤ 255)
    (hb : x.b.size ≤ 4100) (hm : MsSz x.m) (hm2 : (msgF x.m).size ≤ M47) (hl : l.length ≤ 2000) (h1 : kindF x = 3) (h2 : 1 ≤ x.b.size) (h3 : x.b.size ≤ 4000) (h4 : l.length < 2000) :
    Calls Try.prog 15 #[.slice A l.length c, .agg (opV20 x v1 v2 v3 v4)] w (DoPost w G (doF l x)) := by
  obtain ⟨A1, c1, rfl, -⟩ := hok.bs.form
  obtain ⟨A2, c2, rfl, -⟩ := hok.bq.form
  obtain ⟨A3, c3, rfl, -⟩ := hok.cs.form
  obtain ⟨A4, c4, rfl, -⟩ := hok.st.form
  have e0 : doF l x = (l ++ [x.b], ⟨#[]⟩, true) := by unfold doF; rw [if_neg (by omega), if_pos h1, if_pos ⟨h2, h3, h4⟩]
  rw [e0]
  clear e0
  unfold kindF at h1
  have z0 : (x.k % 4 == 0) = false := by rw [beq_eq_false_iff_ne]; omega
  have z3 : (x.k % 4 == 3) = true := by simp [h1]
  have zm : x.k.tmod 4 = x.k % 4 := Int.tmod_eq_emod_of_nonneg hk.1
  replace h1 := Lib.hid h1
  have hne : ¬ x.b = ⟨#[]⟩ := by intro h; rw [h] at h2; exact absurd h2 (by decide)
  obtain ⟨hq1, hq2⟩ := strNe hne
  have hq3 : ¬ x.b.toList = [] := fun e => hq2 (by rw [e, ByteArray.toList_eq])
  have hq4 : (x.b.toList == []) = false := beq_eq_false_iff_ne.2 hq3
  have h3z : ¬ (4000 : Int) < (x.b.size : Int) := by omega
  have h4z : ¬ (2000 : Int) ≤ (l.length : Int) := by omega
  have hb0 : x.b.size ≤ M47 := by unfold M47; omega
  clear hne
  replace hs := Lib.hid hs
  replace hok := Lib.hid hok
  have hbl : x.b.size < 9223372036854775808 := by omega
  obtain ⟨hk1, hk2⟩ := hk
  have HL := Lib.hid hl
  go_enter Try.func15, Try.ntmps15
  go_upto_region 2 with (first | ((with_reducible refine wl_box 49 (.tmp 1) ?_ ?_); (with_reducible rfl); refine sx_box rfl 49 (.tmp 1) rfl (opV20 x (.slice A1 x.m.b.j.sg.length c1) (.slice A2 x.m.b.q.length c2) (.slice A3 x.m.c.sg.length c3) (.slice A4 x.m.s.ts.length c4)) rfl ?_; intro w1 b1 k1 z1; clear z1; (try simp only [Act.put, List.setIfInBounds_toArray, List.set_cons_zero, List.set_cons_succ])))
  have d0 : w1.cell? ⟨w.heap.size, 0, none⟩ = some (.int .u8 x.k) := b1.cell 0
  have d22 : w1.cell? ⟨w.heap.size, 22, none⟩ = some (.int .i64 x.i) := b1.cell 22
  have d23 : w1.cell? ⟨w.heap.size, 23, none⟩ = some (.string x.b) := b1.cell 23
  have l1 := k1.size
  have hs1 := hs.out.keep (k1.at G (by simp))
  have ka : Keep [] w1 ((w1.alloc (.cells #[] 9)).drew) := ((Keep.refl [] w1).alloc _).drew
  have e1 : NewS w1 ((w1.alloc (.cells #[] 9)).drew) (.slice (some ⟨w1.heap.size, 0, none⟩) 0 0) [] := (newS_none w1).keep ((Keep.refl [] _).drew)
  have e1b : ∀ o, NewS w1 (((w1.alloc (.cells #[] 9)).drew).alloc o) (.slice (some ⟨w1.heap.size, 0, none⟩) 0 0) [] := fun o => e1.alloc o
  have hsA := hs1.keep (ka.at G (by simp))
  have hsB : ∀ ob, SliceOf Rep.str (((w1.alloc (.cells #[] 9)).drew).alloc ob) G (.slice A l.length c) l := fun ob => hsA.keep (((Keep.refl [] _).alloc ob).at G (by simp))
  have sb : ∀ w4, Keep [w1.heap.size] (((w1.alloc (.cells #[] 9)).drew).alloc (.cells #[.string x.b] 9)) w4 → SliceOf Rep.str w4 (fun i => w1.heap.size ≤ i) (.slice (some ⟨w1.heap.size + 1, 0, none⟩) 1 1) [x.b] := fun w4 k => by
    have b := Blk.new ((w1.alloc (.cells #[] 9)).drew) #[.string x.b] 9
    have hz : ((w1.alloc (.cells #[] 9)).drew).heap.size = w1.heap.size + 1 := by simp
    rw [hz] at b
    exact SliceOf.one Rep.str (b.keep k (by simp)) (by show w1.heap.size ≤ _; omega) ⟨rfl, hb0⟩
  have e1c : NewS w1 (((w1.alloc (.cells #[.string x.b] 9)).alloc (.cells #[] 9)).drew) (.slice (some ⟨w1.heap.size + 1, 0, none⟩) 0 0) [] := by
    have n := (newS_none (w1.alloc (.cells #[.string x.b] 9))).keep ((Keep.refl [] _).drew)
    rw [show (w1.alloc (.cells #[.string x.b] 9)).heap.size = w1.heap.size + 1 by simp] at n
    exact ⟨own_lower n.1 (by simp), ((Keep.refl [] w1).alloc _).trans n.2⟩
  have hsC : SliceOf Rep.str (((w1.alloc (.cells #[.string x.b] 9)).alloc (.cells #[] 9)).drew) G (.slice A l.length c) l := hs1.keep (((((Keep.refl [] w1).alloc _).alloc _).drew).at G (by simp))
  have sc : ∀ w4, Keep [w1.heap.size + 1] (((w1.alloc (.cells #[.string x.b] 9)).alloc (.cells #[] 9)).drew) w4 → SliceOf Rep.str w4 (fun i => w1.heap.size ≤ i) (.slice (some ⟨w1.heap.size, 0, none⟩) 1 1) [x.b] := fun w4 k => by
    have b := ((Blk.new w1 #[.string x.b] 9).alloc (.cells #[] 9)).drew
    exact SliceOf.one Rep.str (b.keep k (by simp)) (by show w1.heap.size ≤ _; omega) ⟨rfl, hb0⟩
  have d23a : ((w1.alloc (.cells #[] 9)).drew).cell? ⟨w.heap.size, 23, none⟩ = some (.string x.b) := ka.cell (by simp) d23
  have d23b : ∀ o, (w1.alloc o).cell? ⟨w.heap.size, 23, none⟩ = some (.string x.b) := fun o => ((Keep.refl [] w1).alloc o).cell (by simp) d23
  replace e1c := Lib.hid e1c
  replace hsC := Lib.hid hsC
  replace sc := Lib.hid sc
  replace e1 := Lib.hid e1
  replace e1b := Lib.hid e1b
  replace hsA := Lib.hid hsA
  replace hsB := Lib.hid hsB
  replace sb := Lib.hid sb
  clear hs1
  go_wp2_with fail
  go_region_law (first
    | (refine step_appK w1 rfl (.tmp 52) (.tmp 53) rfl _ (.slice (some ⟨w1.heap.size, 0, none⟩) 0 0) [] l G A c (by simp [Act.eval, Act.put]) (by simp [Act.eval, Act.put]) (by first | exact e1.out | exact e1b.out _) (by first | exact hsA.out | exact hsB.out _) (by simp; omega) ?_; simp only [List.length_nil, Nat.zero_add, List.nil_append]; intro B1 p1 w4 n4 q4; have d4 := n4.2.cell (by simp) d23)
    | (refine step_appK w1 rfl (.tmp 52) (.tmp 53) rfl _ (.slice (some ⟨w1.heap.size + 1, 0, none⟩) 0 0) [] l G A c (by simp [Act.eval, Act.put]) (by simp [Act.eval, Act.put]) e1c.out hsC.out (by simp; omega) ?_; simp only [List.length_nil, Nat.zero_add, List.nil_append]; intro B1 p1 w4 n4 q4; have d4 := n4.2.cell (by simp) d23)
    | (refine step_app Rep.str rfl (.tmp 54) (.tmp 57) 26 9 _ 16 w1.heap.size rfl Try.underlying26 infoStrN rfl (by decide) (by decide) _ (.slice B1 l.length p1) l x.b _ (by simp [Act.eval, Act.put]) (by simp [Act.eval, Act.put]) n4.1 ⟨rfl, hb0⟩ (by simp [Value.oneCell']) (by omega) n4.2.size ?_; intro gg cap w7 ho7 hg7 hat7 hlt7 hlo7; have s7 : SliceOf Rep.str w7 (fun i => w1.heap.size ≤ i) (.slice (some ⟨gg, 0, none⟩) (l.length + 1) cap) (l ++ [x.b]) := ho7.slice (by simp; unfold M47; omega); have k7 : Keep [] w1 w7 := n4.2.grown hg7 (fun i hi => .inr (n4.1.lt i hi).1))
    | (refine step_appK w1 rfl (.tmp 54) (.tmp 57) rfl _ (.slice B1 l.length p1) l [x.b] (fun i => w1.heap.size ≤ i) (some ⟨w1.heap.size + 1, 0, none⟩) 1 (by simp [Act.eval, Act.put]) (by simp [Act.eval, Act.put]) n4 (sb.out _ q4) (by simp; omega) ?_; simp only [List.length_singleton]; intro B2 cap w7 n7 q7; have s7 : SliceOf Rep.str w7 (fun i => w1.heap.size ≤ i) (.slice B2 (l.length + 1) cap) (l ++ [x.b]) := n7.1.slice (by simp; unfold M47; omega); have k7 : Keep [] w1 w7 := n7.2)
    | (refine step_appK w1 rfl (.tmp 54) (.tmp 57) rfl _ (.slice B1 l.length p1) l [x.b] (fun i => w1.heap.size ≤ i) (some ⟨w1.heap.size, 0, none⟩) 1 (by simp [Act.eval, Act.put]) (by simp [Act.eval, Act.put]) n4 (sc.out _ q4) (by simp; omega) ?_; simp only [List.length_singleton]; intro B2 cap w7 n7 q7; have s7 : SliceOf Rep.str w7 (fun i => w1.heap.size ≤ i) (.slice B2 (l.length + 1) cap) (l ++ [x.b]) := n7.1.slice (by simp; unfold M47; omega); have k7 : Keep [] w1 w7 := n7.2))
  all_goals
    replace s7 := Lib.hid (s7.mono (G := fun i => w.heap.size ≤ i) (fun i hi _ => Nat.le_trans l1 hi))
    replace k7 := Lib.hid k7
    go_wp2
    go_ret3
    exact DoPost.new (by simp) s7.out (k1.trans k7.out)
set_option maxRecDepth 100000 in
set_option maxHeartbeats 8000000 in
theorem do20_k2full (A : Option Addr) (c : Nat) (l : List ByteArray) (x : Op20) (v1 v2 v3 v4 : Value) (F G : Nat → Prop) (w : World) (hs : SliceOf Rep.str w G (.slice A l.length c) l) (hok : MsOk w F x.m v1 v2 v3 v4) (hk : 0 ≤ x.k ∧ x.k ≤ 255)
    (hb : x.b.size ≤ 4100) (hm : MsSz x.m) (hm2 : (msgF x.m).size ≤ M47) (hl : l.length ≤ 2000) (h1 : kindF x ≠ 0) (h1' : kindF x ≠ 3) (h1'' : kindF x = 2) (h2 : 0 < l.length) (h3 : 2000 ≤ l.length) :
    Calls Try.prog 15 #[.slice A l.length c, .agg (opV20 x v1 v2 v3 v4)] w (DoPost w G (doF l x)) := by
  obtain ⟨A1, c1, rfl, -⟩ := hok.bs.form
  obtain ⟨A2, c2, rfl, -⟩ := hok.bq.form
  obtain ⟨A3, c3, rfl, -⟩ := hok.cs.form
  obtain ⟨A4, c4, rfl, -⟩ := hok.st.form
  have e0 : doF l x = (l, ⟨#[]⟩, false) := by unfold doF; rw [if_neg h1, if_neg h1', if_neg (by omega), if_pos h1'', if_neg (by omega)]
  rw [e0]
  clear e0
  unfold kindF at h1 h1' h1''
  have z0 : (x.k % 4 == 0) = false := by rw [beq_eq_false_iff_ne]; omega
  have z3 : (x.k % 4 == 3) = false := by rw [beq_eq_false_iff_ne]; omega
  have zm : x.k.tmod 4 = x.k % 4 := Int.tmod_eq_emod_of_nonneg hk.1
  obtain ⟨p, hp⟩ : ∃ p, p = atF x.i l.length := ⟨_, rfl⟩
  have hlt : p < l.length := by rw [hp]; exact atF_lt _ _ h2
  have zat := atF_wrap x.i l.length h2 (by omega)
  rw [← hp] at zat
  have zl0 : ¬ (l.length : Int) = 0 := by omega
  have zl1 : ((l.length : Int) == 0) = false := beq_eq_false_iff_ne.2 zl0
  have zl2 : ¬ l = [] := by rintro rfl; simp at h2
  have z2 : (x.k % 4 == 2) = true := by simp [h1'']
  replace h1 := Lib.hid h1
  replace h1' := Lib.hid h1'
  replace h1'' := Lib.hid h1''
  have H2 := Lib.hid h2
  clear h2
  replace hp := Lib.hid hp
  have h3z : (2000 : Int) ≤ (l.length : Int) := by omega
  replace hs := Lib.hid hs
  replace hok := Lib.hid hok
  have hbl : x.b.size < 9223372036854775808 := by omega
  obtain ⟨hk1, hk2⟩ := hk
  have HL := Lib.hid hl
  go_enter Try.func15, Try.ntmps15
  go_upto_region 2 with (first | ((with_reducible refine wl_box 49 (.tmp 1) ?_ ?_); (with_reducible rfl); refine sx_box rfl 49 (.tmp 1) rfl (opV20 x (.slice A1 x.m.b.j.sg.length c1) (.slice A2 x.m.b.q.length c2) (.slice A3 x.m.c.sg.length c3) (.slice A4 x.m.s.ts.length c4)) rfl ?_; intro w1 b1 k1 z1; clear z1; (try simp only [Act.put, List.setIfInBounds_toArray, List.set_cons_zero, List.set_cons_succ])))
  have d0 : w1.cell? ⟨w.heap.size, 0, none⟩ = some (.int .u8 x.k) := b1.cell 0
  have d22 : w1.cell? ⟨w.heap.size, 22, none⟩ = some (.int .i64 x.i) := b1.cell 22
  have d23 : w1.cell? ⟨w.heap.size, 23, none⟩ = some (.string x.b) := b1.cell 23
  go_wp2
  go_ret3
  exact DoPost.same hs.out k1
set_option maxRecDepth 100000 in
set_option maxHeartbeats 8000000 in
theorem do20_k2ok (A : Option Addr) (c : Nat) (l : List ByteArray) (x : Op20) (v1 v2 v3 v4 : Value) (F G : Nat → Prop) (w : World) (hs : SliceOf Rep.str w G (.slice A l.length c) l) (hok : MsOk w F x.m v1 v2 v3 v4) (hk : 0 ≤ x.k ∧ x.k ≤ 255)
    (hb : x.b.size ≤ 4100) (hm : MsSz x.m) (hm2 : (msgF x.m).size ≤ M47) (hl : l.length ≤ 2000) (h1 : kindF x ≠ 0) (h1' : kindF x ≠ 3) (h1'' : kindF x = 2) (h2 : 0 < l.length) (h3 : l.length < 2000) :
    Calls Try.prog 15 #[.slice A l.length c, .agg (opV20 x v1 v2 v3 v4)] w (DoPost w G (doF l x)) := by
  obtain ⟨A1, c1, rfl, -⟩ := hok.bs.form
  obtain ⟨A2, c2, rfl, -⟩ := hok.bq.form
  obtain ⟨A3, c3, rfl, -⟩ := hok.cs.form
  obtain ⟨A4, c4, rfl, -⟩ := hok.st.form
  have e0 : doF l x = (l ++ [l.getD (atF x.i l.length) ⟨#[]⟩], ⟨#[]⟩, true) := by unfold doF; rw [if_neg h1, if_neg h1', if_neg (by omega), if_pos h1'', if_pos h3]
  rw [e0]
  clear e0
  rw [show l.getD (atF x.i l.length) ⟨#[]⟩ = l[atF x.i l.length]'(atF_lt _ _ h2) by simp [atF_lt _ _ h2]]
  unfold kindF at h1 h1' h1''
  have z0 : (x.k % 4 == 0) = false := by rw [beq_eq_false_iff_ne]; omega
  have z3 : (x.k % 4 == 3) = false := by rw [beq_eq_false_iff_ne]; omega
  have zm : x.k.tmod 4 = x.k % 4 := Int.tmod_eq_emod_of_nonneg hk.1
  obtain ⟨p, hp⟩ : ∃ p, p = atF x.i l.length := ⟨_, rfl⟩
  have hlt : p < l.length := by rw [hp]; exact atF_lt _ _ h2
  have hg : l[atF x.i l.length]'(atF_lt _ _ h2) = l[p] := by simp only [hp]
  rw [hg]
  clear hg
  have zat := atF_wrap x.i l.length h2 (by omega)
  rw [← hp] at zat
  have zl0 : ¬ (l.length : Int) = 0 := by omega
  have zl1 : ((l.length : Int) == 0) = false := beq_eq_false_iff_ne.2 zl0
  have zl2 : ¬ l = [] := by rintro rfl; simp at h2
  have z2 : (x.k % 4 == 2) = true := by simp [h1'']
  replace h1 := Lib.hid h1
  replace h1' := Lib.hid h1'
  replace h1'' := Lib.hid h1''
  have H2 := Lib.hid h2
  clear h2
  replace hp := Lib.hid hp
  have hyy := hs.str_at hlt
  obtain ⟨y, hy⟩ : ∃ y, y = l[p] := ⟨_, rfl⟩
  obtain ⟨g, o, rfl, u0, hb0⟩ := hyy
  rw [← hy] at u0 hb0
  replace hb0 : y.size ≤ M47 := hb0
  have zp0 : (0 : Int) ≤ (p : Int) := by omega
  have zp1 : (p : Int) < (l.length : Int) := by omega
  rw [← hy]
  replace hy := Lib.hid hy
  have h3z : ¬ (2000 : Int) ≤ (l.length : Int) := by omega
  replace hs := Lib.hid hs
  replace hok := Lib.hid hok
  have hbl : x.b.size < 9223372036854775808 := by omega
  obtain ⟨hk1, hk2⟩ := hk
  have HL := Lib.hid hl
  go_enter Try.func15, Try.ntmps15
  go_upto_region 2 with (first | ((with_reducible refine wl_box 49 (.tmp 1) ?_ ?_); (with_reducible rfl); refine sx_box rfl 49 (.tmp 1) rfl (opV20 x (.slice A1 x.m.b.j.sg.length c1) (.slice A2 x.m.b.q.length c2) (.slice A3 x.m.c.sg.length c3) (.slice A4 x.m.s.ts.length c4)) rfl ?_; intro w1 b1 k1 z1; clear z1; (try simp only [Act.put, List.setIfInBounds_toArray, List.set_cons_zero, List.set_cons_succ])))
  have d0 : w1.cell? ⟨w.heap.size, 0, none⟩ = some (.int .u8 x.k) := b1.cell 0
  have d22 : w1.cell? ⟨w.heap.size, 22, none⟩ = some (.int .i64 x.i) := b1.cell 22
  have d23 : w1.cell? ⟨w.heap.size, 23, none⟩ = some (.string x.b) := b1.cell 23
  have l1 := k1.size
  have hs1 := hs.out.keep (k1.at G (by simp))
  have ka : Keep [] w1 ((w1.alloc (.cells #[] 9)).drew) := ((Keep.refl [] w1).alloc _).drew
  have e1 : NewS w1 ((w1.alloc (.cells #[] 9)).drew) (.slice (some ⟨w1.heap.size, 0, none⟩) 0 0) [] := (newS_none w1).keep ((Keep.refl [] _).drew)
  have e1b : ∀ o, NewS w1 (((w1.alloc (.cells #[] 9)).drew).alloc o) (.slice (some ⟨w1.heap.size, 0, none⟩) 0 0) [] := fun o => e1.alloc o
  have hsA := hs1.keep (ka.at G (by simp))
  have hsB : ∀ ob, SliceOf Rep.str (((w1.alloc (.cells #[] 9)).drew).alloc ob) G (.slice (some ⟨g, o, none⟩) l.length c) l := fun ob => hsA.keep (((Keep.refl [] _).alloc ob).at G (by simp))
  have sb : ∀ w4, Keep [w1.heap.size] (((w1.alloc (.cells #[] 9)).drew).alloc (.cells #[.string y] 9)) w4 → SliceOf Rep.str w4 (fun i => w1.heap.size ≤ i) (.slice (some ⟨w1.heap.size + 1, 0, none⟩) 1 1) [y] := fun w4 k => by
    have b := Blk.new ((w1.alloc (.cells #[] 9)).drew) #[.string y] 9
    have hz : ((w1.alloc (.cells #[] 9)).drew).heap.size = w1.heap.size + 1 := by simp
    rw [hz] at b
    exact SliceOf.one Rep.str (b.keep k (by simp)) (by show w1.heap.size ≤ _; omega) ⟨rfl, hb0⟩
  have e1c : NewS w1 (((w1.alloc (.cells #[.string y] 9)).alloc (.cells #[] 9)).drew) (.slice (some ⟨w1.heap.size + 1, 0, none⟩) 0 0) [] := by
    have n := (newS_none (w1.alloc (.cells #[.string y] 9))).keep ((Keep.refl [] _).drew)
    rw [show (w1.alloc (.cells #[.string y] 9)).heap.size = w1.heap.size + 1 by simp] at n
    exact ⟨own_lower n.1 (by simp), ((Keep.refl [] w1).alloc _).trans n.2⟩
  have hsC : SliceOf Rep.str (((w1.alloc (.cells #[.string y] 9)).alloc (.cells #[] 9)).drew) G (.slice (some ⟨g, o, none⟩) l.length c) l := hs1.keep (((((Keep.refl [] w1).alloc _).alloc _).drew).at G (by simp))
  have sc : ∀ w4, Keep [w1.heap.size + 1] (((w1.alloc (.cells #[.string y] 9)).alloc (.cells #[] 9)).drew) w4 → SliceOf Rep.str w4 (fun i => w1.heap.size ≤ i) (.slice (some ⟨w1.heap.size, 0, none⟩) 1 1) [y] := fun w4 k => by
    have b := ((Blk.new w1 #[.string y] 9).alloc (.cells #[] 9)).drew
    exact SliceOf.one Rep.str (b.keep k (by simp)) (by show w1.heap.size ≤ _; omega) ⟨rfl, hb0⟩
  have u1 : w1.cell? ⟨g, o + p, none⟩ = some (.string y) := k1.cell (by simp) u0
  have u1a : ((w1.alloc (.cells #[] 9)).drew).cell? ⟨g, o + p, none⟩ = some (.string y) := ka.cell (by simp) u1
  have u1b : ∀ o', (w1.alloc o').cell? ⟨g, o + p, none⟩ = some (.string y) := fun o' => ((Keep.refl [] w1).alloc o').cell (by simp) u1
  replace e1c := Lib.hid e1c
  replace hsC := Lib.hid hsC
  replace sc := Lib.hid sc
  replace e1 := Lib.hid e1
  replace e1b := Lib.hid e1b
  replace hsA := Lib.hid hsA
  replace hsB := Lib.hid hsB
  replace sb := Lib.hid sb
  clear hs1
  go_wp2_with fail
  go_region_law (first
    | (refine step_appK w1 rfl (.tmp 75) (.tmp 76) rfl _ (.slice (some ⟨w1.heap.size, 0, none⟩) 0 0) [] l G (some ⟨g, o, none⟩) c (by simp [Act.eval, Act.put]) (by simp [Act.eval, Act.put]) (by first | exact e1.out | exact e1b.out _) (by first | exact hsA.out | exact hsB.out _) (by simp; omega) ?_; simp only [List.length_nil, Nat.zero_add, List.nil_append]; intro B1 p1 w4 n4 q4; have u4 := n4.2.cell (by simp) u1)
    | (refine step_appK w1 rfl (.tmp 75) (.tmp 76) rfl _ (.slice (some ⟨w1.heap.size + 1, 0, none⟩) 0 0) [] l G (some ⟨g, o, none⟩) c (by simp [Act.eval, Act.put]) (by simp [Act.eval, Act.put]) e1c.out hsC.out (by simp; omega) ?_; simp only [List.length_nil, Nat.zero_add, List.nil_append]; intro B1 p1 w4 n4 q4; have u4 := n4.2.cell (by simp) u1)
    | (refine step_app Rep.str rfl (.tmp 77) (.tmp 82) 26 9 _ 16 w1.heap.size rfl Try.underlying26 infoStrN rfl (by decide) (by decide) _ (.slice B1 l.length p1) l y _ (by simp [Act.eval, Act.put]) (by simp [Act.eval, Act.put]) n4.1 ⟨rfl, hb0⟩ (by simp [Value.oneCell']) (by omega) n4.2.size ?_; intro gg cap w7 ho7 hg7 hat7 hlt7 hlo7; have s7 : SliceOf Rep.str w7 (fun i => w1.heap.size ≤ i) (.slice (some ⟨gg, 0, none⟩) (l.length + 1) cap) (l ++ [y]) := ho7.slice (by simp; unfold M47; omega); have k7 : Keep [] w1 w7 := n4.2.grown hg7 (fun i hi => .inr (n4.1.lt i hi).1))
    | (refine step_appK w1 rfl (.tmp 77) (.tmp 82) rfl _ (.slice B1 l.length p1) l [y] (fun i => w1.heap.size ≤ i) (some ⟨w1.heap.size + 1, 0, none⟩) 1 (by simp [Act.eval, Act.put]) (by simp [Act.eval, Act.put]) n4 (sb.out _ q4) (by simp; omega) ?_; simp only [List.length_singleton]; intro B2 cap w7 n7 q7; have s7 : SliceOf Rep.str w7 (fun i => w1.heap.size ≤ i) (.slice B2 (l.length + 1) cap) (l ++ [y]) := n7.1.slice (by simp; unfold M47; omega); have k7 : Keep [] w1 w7 := n7.2)
    | (refine step_appK w1 rfl (.tmp 77) (.tmp 82) rfl _ (.slice B1 l.length p1) l [y] (fun i => w1.heap.size ≤ i) (some ⟨w1.heap.size, 0, none⟩) 1 (by simp [Act.eval, Act.put]) (by simp [Act.eval, Act.put]) n4 (sc.out _ q4) (by simp; omega) ?_; simp only [List.length_singleton]; intro B2 cap w7 n7 q7; have s7 : SliceOf Rep.str w7 (fun i => w1.heap.size ≤ i) (.slice B2 (l.length + 1) cap) (l ++ [y]) := n7.1.slice (by simp; unfold M47; omega); have k7 : Keep [] w1 w7 := n7.2))
  all_goals
    replace s7 := Lib.hid (s7.mono (G := fun i => w.heap.size ≤ i) (fun i hi _ => Nat.le_trans l1 hi))
    replace k7 := Lib.hid k7
    go_wp2
    go_ret3
    exact DoPost.new (by simp) s7.out (k1.trans k7.out)
theorem erase_step (l : List ByteArray) (p j : Nat) (hj : j < l.length) (h : j ≠ p) : (l.take (j + 1)).eraseIdx p = (l.take j).eraseIdx p ++ [l[j]] := by
  rw [List.take_succ_eq_append_getElem hj]
  by_cases hp : p < j
  · rw [List.eraseIdx_append_of_lt_length (by simp; omega)]
  · rw [List.eraseIdx_of_length_le (by simp; omega), List.eraseIdx_of_length_le (by simp; omega)]
theorem erase_skip (l : List ByteArray) (p : Nat) (hj : p < l.length) : (l.take (p + 1)).eraseIdx p = (l.take p).eraseIdx p := by
  have hl : (l.take p).length = p := by simp; omega
  rw [List.take_succ_eq_append_getElem hj, List.eraseIdx_append_of_length_le (by omega), hl, Nat.sub_self, List.eraseIdx_of_length_le (show (l.take p).length ≤ p by omega)]
  simp
set_option maxRecDepth 100000 in
set_option maxHeartbeats 8000000 in
theorem do20_k1 (A : Option Addr) (c : Nat) (l : List ByteArray) (x : Op20) (v1 v2 v3 v4 : Value) (F G : Nat → Prop) (w : World) (hs : SliceOf Rep.str w G (.slice A l.length c) l) (hok : MsOk w F x.m v1 v2 v3 v4) (hk : 0 ≤ x.k ∧ x.k ≤ 255)
    (hb : x.b.size ≤ 4100) (hm : MsSz x.m) (hm2 : (msgF x.m).size ≤ M47) (hl : l.length ≤ 2000) (h1 : kindF x ≠ 0) (h1' : kindF x ≠ 3) (h1'' : kindF x ≠ 2) (h2 : 0 < l.length) (h3 : kindF x = 1) :
    Calls Try.prog 15 #[.slice A l.length c, .agg (opV20 x v1 v2 v3 v4)] w (DoPost w G (doF l x)) := by
  obtain ⟨A1, c1, rfl, -⟩ := hok.bs.form
  obtain ⟨A2, c2, rfl, -⟩ := hok.bq.form
  obtain ⟨A3, c3, rfl, -⟩ := hok.cs.form
  obtain ⟨A4, c4, rfl, -⟩ := hok.st.form
  have e0 : doF l x = (l.eraseIdx (atF x.i l.length), l.getD (atF x.i l.length) ⟨#[]⟩, true) := by unfold doF; rw [if_neg h1, if_neg h1', if_neg (by omega), if_neg h1'']
  rw [e0]
  clear e0
  rw [show l.getD (atF x.i l.length) ⟨#[]⟩ = l[atF x.i l.length]'(atF_lt _ _ h2) by simp [atF_lt _ _ h2]]
  unfold kindF at h1 h1' h1''
  have z0 : (x.k % 4 == 0) = false := by rw [beq_eq_false_iff_ne]; omega
  have z3 : (x.k % 4 == 3) = false := by rw [beq_eq_false_iff_ne]; omega
  have zm : x.k.tmod 4 = x.k % 4 := Int.tmod_eq_emod_of_nonneg hk.1
  obtain ⟨p, hp⟩ : ∃ p, p = atF x.i l.length := ⟨_, rfl⟩
  have hlt : p < l.length := by rw [hp]; exact atF_lt _ _ h2
  have hg : l[atF x.i l.length]'(atF_lt _ _ h2) = l[p] := by simp only [hp]
  rw [hg]
  clear hg
  rw [← hp]
  have zat := atF_wrap x.i l.length h2 (by omega)
  rw [← hp] at zat
  have zl0 : ¬ (l.length : Int) = 0 := by omega
  have zl1 : ((l.length : Int) == 0) = false := beq_eq_false_iff_ne.2 zl0
  have zl2 : ¬ l = [] := by rintro rfl; simp at h2
  have z2 : (x.k % 4 == 2) = false := by rw [beq_eq_false_iff_ne]; exact h1''
  replace h1 := Lib.hid h1
  replace h1' := Lib.hid h1'
  replace h1'' := Lib.hid h1''
  have H2 := Lib.hid h2
  clear h2
  replace hp := Lib.hid hp
  have hyy := hs.str_at hlt
  obtain ⟨y, hy⟩ : ∃ y, y = l[p] := ⟨_, rfl⟩
  obtain ⟨g, o, rfl, u0, hb0⟩ := hyy
  rw [← hy] at u0 hb0
  replace hb0 : y.size ≤ M47 := hb0
  have zp0 : (0 : Int) ≤ (p : Int) := by omega
  have zp1 : (p : Int) < (l.length : Int) := by omega
  rw [← hy]
  replace hy := Lib.hid hy
  replace hs := Lib.hid hs
  replace hok := Lib.hid hok
  have hbl : x.b.size < 9223372036854775808 := by omega
  obtain ⟨hk1, hk2⟩ := hk
  have HL := Lib.hid hl
  go_enter Try.func15, Try.ntmps15
  go_upto_region 2 with (first | ((with_reducible refine wl_box 49 (.tmp 1) ?_ ?_); (with_reducible rfl); refine sx_box rfl 49 (.tmp 1) rfl (opV20 x (.slice A1 x.m.b.j.sg.length c1) (.slice A2 x.m.b.q.length c2) (.slice A3 x.m.c.sg.length c3) (.slice A4 x.m.s.ts.length c4)) rfl ?_; intro w1 b1 k1 z1; clear z1; (try simp only [Act.put, List.setIfInBounds_toArray, List.set_cons_zero, List.set_cons_succ])))
  have d0 : w1.cell? ⟨w.heap.size, 0, none⟩ = some (.int .u8 x.k) := b1.cell 0
  have d22 : w1.cell? ⟨w.heap.size, 22, none⟩ = some (.int .i64 x.i) := b1.cell 22
  have d23 : w1.cell? ⟨w.heap.size, 23, none⟩ = some (.string x.b) := b1.cell 23
  have hs1 := hs.out.keep (k1.at G (by simp))
  have u1 := k1.cell (by simp) u0
  replace hs1 := Lib.hid hs1
  clear u0
  go_wp2_with fail
  go_loopw [10, 11] (fun v i wr => ∃ j : Nat, j ≤ l.length ∧ i = .int .i64 j ∧ ∃ B zs d, v = .slice B zs.length d ∧ zs.length ≤ j ∧ Hid (zs = (l.take j).eraseIdx p) ∧ Hid (Own Rep.str 9 wr w1.heap.size (.slice B zs.length d) zs) ∧ Keep [] w1 wr) (fun _ i _ => l.length - (intOf i).toNat)
  case atStart => exact ⟨0, Nat.zero_le _, rfl, none, [], 0, rfl, Nat.le_refl _, Lib.hid (by simp), Lib.hid (Own.nil _ _ _ _), Keep.refl _ _⟩
  case round =>
    obtain ⟨j, hj, rfl, B, zs, d, rfl, hzl, hzs, hown, kr⟩ := hrel
    by_cases hjl : j < l.length
    · have hjz : (j : Int) < (l.length : Int) := by omega
      by_cases hjp : j = p
      · have hjpz : ((j : Int) == (p : Int)) = true := by simp [hjp]
        have hjpz2 : (j : Int) = (p : Int) := by omega
        have e2 : Hid (zs = (l.take (j + 1)).eraseIdx p) := Lib.hid (by rw [hzs.out, hjp, erase_skip l p hlt])
        clear hjp
        go_wp2
        go_roundw
        case rel => exact ⟨j + 1, by omega, by go_num, B, zs, d, rfl, by omega, e2, hown, kr⟩
        case measure => simp [intOf]; omega
      · have hjpz : ((j : Int) == (p : Int)) = false := by rw [beq_eq_false_iff_ne]; omega
        have hjpz2 : ¬ (j : Int) = (p : Int) := by omega
        obtain ⟨g2, o2, e9, v0, hvb⟩ := (hs1.out.keep (kr.at G (by simp))).str_at hjl
        cases e9
        have e2 : Hid (zs ++ [l[j]] = (l.take (j + 1)).eraseIdx p) := Lib.hid (by rw [hzs.out, erase_step l p j hjl hjp])
        generalize l[j] = bj at *
        replace hvb : bj.size ≤ M47 := hvb
        have hsz := kr.size
        have HLL := HL.out
        clear hjp
        go_wp2_with (first | (at_builtin; refine wpList_app Rep.str rfl (.tmp 92) (.tmp 97) 26 9 _ 16 w1.heap.size rfl Try.underlying26 infoStrN rfl (by decide) (by decide) _ (.slice B zs.length d) zs bj _ (by simp [Act.eval, Act.put]) (by simp [Act.eval, Act.put]) hown.out ⟨rfl, hvb⟩ (by simp [Value.oneCell']) (by omega) hsz ?_; intro gg cap w8 ho8 hg8 hat8 hlt8 hlo8; replace ho8 := Lib.hid ho8; replace hg8 := Lib.hid hg8; clear hat8 hlt8 hlo8) | go_in)
        go_roundw
        case rel => exact ⟨j + 1, by omega, by go_num, some ⟨gg, 0, none⟩, zs ++ [bj], cap, by simp, by simp; omega, e2, by simpa using ho8, kr.grown hg8.out (fun i hi => .inr (hown.out.lt i hi).1)⟩
        case measure => simp [intOf]; omega
    · have hjz : ¬ (j : Int) < (l.length : Int) := by omega
      obtain rfl : j = l.length := by omega
      have ez := hzs.out
      rw [List.take_length] at ez
      have u2 := kr.cell (by simp) u1
      have HLL := HL.out
      have o3 : SliceOf Rep.str wr (fun i => w.heap.size ≤ i) (.slice B zs.length d) zs := (hown.out.slice (by unfold M47; omega)).mono (fun i hi _ => Nat.le_trans k1.size hi)
      replace o3 := Lib.hid o3
      replace ez := Lib.hid ez
      clear hzs hown HLL
      go_wp2_with fail
      refine wp_region_class (C := fun w' => Keep [] wr w' ∧ w'.cell? ⟨g, o + p, none⟩ = some (.string y)) (by kernel_rfl) (by kernel_rfl) ⟨(Keep.refl _ _).drew, u2⟩ ?_
      iterate 8 (first
        | go_big_quiet_skip
        | (go_big_quiet_want; first
          | (go_big_quiet_op; go_big_quiet_on)
          | (refine quiet_run (v := ?_) ?_ ?_; (rotate_left; (intro w' hC; (try dsimp only at hC); go_split_ands; go_simp; with_reducible rfl); simp only [Act.put, List.setIfInBounds_toArray, List.set_cons_zero, List.set_cons_succ]; go_big_quiet_on))
          | (refine quiet_call (v := ?_) (f := ?_) (args := ?_) ?_ ?_ ?_; (rotate_left; rotate_left; rotate_left; (intro w' hC; (try dsimp only at hC); go_split_ands; go_simp; (refine ⟨?_, ?_⟩ <;> with_reducible rfl)); (intro w' hC; fail); simp only [Act.put, List.setIfInBounds_toArray, List.set_cons_zero, List.set_cons_succ]; go_big_quiet_on))))
      refine wpQuiet_nil ?_
      intro w2 hC2
      have kk2 := hC2.1
      clear hC2
      go_wp2
      go_ret3
      rw [← ez.out]
      exact ⟨B, d, rfl, (o3.out.keep (kk2.at _ (by simp))).mono (fun i hi _ => .inr hi), (k1.trans kr).trans kk2⟩
set_option maxRecDepth 100000 in
set_option maxHeartbeats 8000000 in
theorem do20_k0ok (A : Option Addr) (c : Nat) (l : List ByteArray) (x : Op20) (v1 v2 v3 v4 : Value) (F G : Nat → Prop) (w : World) (hs : SliceOf Rep.str w G (.slice A l.length c) l) (hok : MsOk w F x.m v1 v2 v3 v4) (hk : 0 ≤ x.k ∧ x.k ≤ 255)
    (hb : x.b.size ≤ 4100) (hm : MsSz x.m) (hm2 : (msgF x.m).size ≤ M47) (hl : l.length ≤ 2000) (h1 : kindF x = 0) (h2 : rightMsg x.m = true) (h3 : l.length < 2000) :
    Calls Try.prog 15 #[.slice A l.length c, .agg (opV20 x v1 v2 v3 v4)] w (DoPost w G (doF l x)) := by
  obtain ⟨A1, c1, rfl, -⟩ := hok.bs.form
  obtain ⟨A2, c2, rfl, -⟩ := hok.bq.form
  obtain ⟨A3, c3, rfl, -⟩ := hok.cs.form
  obtain ⟨A4, c4, rfl, -⟩ := hok.st.form
  have e0 : doF l x = (l ++ [msgF x.m], ⟨#[]⟩, true) := by unfold doF; rw [if_pos h1, if_pos ⟨h2, h3⟩]
  rw [e0]
  clear e0
  unfold kindF at h1
  have z0 : (x.k % 4 == 0) = true := by simp [h1]
  have zm : x.k.tmod 4 = x.k % 4 := Int.tmod_eq_emod_of_nonneg hk.1
  replace h1 := Lib.hid h1
  have HR := Lib.hid h2
  clear h2
  have h3z : ¬ (2000 : Int) ≤ (l.length : Int) := by omega
  replace hs := Lib.hid hs
  replace hok := Lib.hid hok
  have hbl : x.b.size < 9223372036854775808 := by omega
  obtain ⟨hk1, hk2⟩ := hk
  have HL := Lib.hid hl
  go_enter Try.func15, Try.ntmps15
  go_upto_region 2 with (first | ((with_reducible refine wl_box 49 (.tmp 1) ?_ ?_); (with_reducible rfl); refine sx_box rfl 49 (.tmp 1) rfl (opV20 x (.slice A1 x.m.b.j.sg.length c1) (.slice A2 x.m.b.q.length c2) (.slice A3 x.m.c.sg.length c3) (.slice A4 x.m.s.ts.length c4)) rfl ?_; intro w1 b1 k1 z1; clear z1; (try simp only [Act.put, List.setIfInBounds_toArray, List.set_cons_zero, List.set_cons_succ])))
  have d0 : w1.cell? ⟨w.heap.size, 0, none⟩ = some (.int .u8 x.k) := b1.cell 0
  have d22 : w1.cell? ⟨w.heap.size, 22, none⟩ = some (.int .i64 x.i) := b1.cell 22
  have d23 : w1.cell? ⟨w.heap.size, 23, none⟩ = some (.string x.b) := b1.cell 23
  go_wp2_with (first | ((with_reducible refine wl_load 39 (.tmp 19) ?_ ?_); (with_reducible rfl); refine sx_load rfl 39 (.tmp 19) rfl w.heap.size 1 (opV20 x (.slice A1 x.m.b.j.sg.length c1) (.slice A2 x.m.b.q.length c2) (.slice A3 x.m.c.sg.length c3) (.slice A4 x.m.s.ts.length c4)) (msgV x.m (.slice A1 x.m.b.j.sg.length c1) (.slice A2 x.m.b.q.length c2) (.slice A3 x.m.c.sg.length c3) (.slice A4 x.m.s.ts.length c4)) _ _ rfl b1 Try.underlying39 rfl zMs_size rfl ?_; (try simp only [Act.put, List.setIfInBounds_toArray, List.set_cons_zero, List.set_cons_succ])))
  refine (rightMsg_call x.m _ _ _ _ F _ (hok.out.keep (k1.at F (by simp)))).mono ?_
  rw [HR.out]
  rintro e w2 ⟨rfl, k2⟩
  have kk2 := k1.trans k2
  have l2 := kk2.size
  have b2 := b1.keep k2 (by simp)
  have hs2 := hs.out.keep (kk2.at G (by simp))
  have hokW : Hid (∀ W, Keep [] w2 W → MsOk W F x.m (.slice A1 x.m.b.j.sg.length c1) (.slice A2 x.m.b.q.length c2) (.slice A3 x.m.c.sg.length c3) (.slice A4 x.m.s.ts.length c4)) := Lib.hid (fun W k => hok.out.keep ((kk2.trans k).at F (by simp)))
  have ka : Keep [] w2 ((w2.alloc (.cells #[] 9)).drew) := ((Keep.refl [] w2).alloc _).drew
  have e1 : NewS w2 ((w2.alloc (.cells #[] 9)).drew) (.slice (some ⟨w2.heap.size, 0, none⟩) 0 0) [] := (newS_none w2).keep ((Keep.refl [] _).drew)
  have hsA := hs2.keep (ka.at G (by simp))
  replace e1 := Lib.hid e1
  replace hsA := Lib.hid hsA
  have HM := Lib.hid hm
  have HM2 := Lib.hid hm2
  clear hs2 hm hm2
  go_wp2_with fail
  refine wp_region_any (by kernel_rfl) ?_
  (try (change wpAny _ _ _ _ _ _ _ (World.drew _)))
  refine wpAny_take (i := 1) (v := ?_) rfl (by kernel_rfl) (by kernel_rfl) (by kernel_rfl) (fun _ _ _ h => h) (Or.inl ⟨by rfl, ?_⟩) ?_
  rotate_left
  · intro w9
    go_simp
    with_reducible rfl
  refine wpAny_take (i := 3) (v := ?_) rfl (by kernel_rfl) (by kernel_rfl) (by kernel_rfl) (fun _ _ _ h => h) (Or.inl ⟨by rfl, ?_⟩) ?_
  rotate_left
  · intro w9
    go_simp
    with_reducible rfl
  refine wpAny_ready (rs := [0, 4]) (by kernel_rfl) (by simp) ?_
  refine AllReady.cons rfl (fun K hK => ?_) ?_
  · go_simp
    refine hK _ _ ?_
    clear hK K
    refine wpAny_ready (rs := [2, 4]) (by kernel_rfl) (by simp) ?_
    refine AllReady.cons rfl (fun K hK => ?_) ?_
    · refine step_appK w2 rfl (.tmp 28) (.tmp 29) rfl _ (.slice (some ⟨w2.heap.size, 0, none⟩) 0 0) [] l G A c (by simp [Act.eval, Act.put]) (by simp [Act.eval, Act.put]) e1.out hsA.out (by simp; omega) ?_
      simp only [List.length_nil, Nat.zero_add, List.nil_append]
      intro B1 p1 w4 n4 q4
      refine hK _ _ ?_
      clear hK K
      refine wpAny_ready (rs := [4]) (by kernel_rfl) (by simp) ?_
      refine AllReady.cons rfl (fun K hK => ?_) ?_
      · refine step_loadP rfl 39 (.tmp 31) rfl w.heap.size 1 (opV20 x (.slice A1 x.m.b.j.sg.length c1) (.slice A2 x.m.b.q.length c2) (.slice A3 x.m.c.sg.length c3) (.slice A4 x.m.s.ts.length c4)) (msgV x.m (.slice A1 x.m.b.j.sg.length c1) (.slice A2 x.m.b.q.length c2) (.slice A3 x.m.c.sg.length c3) (.slice A4 x.m.s.ts.length c4)) _ _ 21 rfl (b2.keep n4.2 (by simp)) Try.underlying39 rfl zMs_size rfl rfl ?_
        refine hK _ _ ?_
        clear hK K
        refine wpAny_ready (rs := [5]) (by kernel_rfl) (by simp) ?_
        refine AllReady.cons rfl (fun K hK => ?_) ?_
        · go_simp
          go_at_call 10
          refine (rmsg_call x.m _ _ _ _ F _ (hokW.out _ n4.2) HM.out).mono ?_
          rintro e w5 ⟨rfl, k5⟩
          have n5 := n4.keep k5
          go_simp
          refine hK _ _ ?_
          clear hK K
          refine wpAny_ready (rs := [6]) (by kernel_rfl) (by simp) ?_
          refine AllReady.cons rfl (fun K hK => ?_) ?_
          · go_simp
            refine hK _ _ ?_
            clear hK K
            refine wpAny_ready (rs := [7]) (by kernel_rfl) (by simp) ?_
            refine AllReady.cons rfl (fun K hK => ?_) ?_
            · refine step_app Rep.str rfl (.tmp 30) (.tmp 34) 26 9 _ 16 w2.heap.size rfl Try.underlying26 infoStrN rfl (by decide) (by decide) _ (.slice B1 l.length p1) l (msgF x.m) _ (by simp [Act.eval, Act.put]) (by simp [Act.eval, Act.put]) n5.1 ⟨rfl, HM2.out⟩ (by simp [Value.oneCell']) (by omega) n5.2.size ?_
              intro gg cap w7 ho7 hg7 hat7 hlt7 hlo7
              have s7 : SliceOf Rep.str w7 (fun i => w2.heap.size ≤ i) (.slice (some ⟨gg, 0, none⟩) (l.length + 1) cap) (l ++ [msgF x.m]) := ho7.slice (by simp; unfold M47; omega)
              have k7 : Keep [] w2 w7 := n5.2.grown hg7 (fun i hi => .inr (n5.1.lt i hi).1)
              refine hK _ _ ?_
              clear hK K
              refine wpAny_ready (rs := [8]) (by kernel_rfl) (by simp) ?_
              refine AllReady.cons rfl (fun K hK => ?_) ?_
              · go_simp
                refine hK _ _ ?_
                clear hK K
                refine wpAny_ready (rs := [9]) (by kernel_rfl) (by simp) ?_
                refine AllReady.cons rfl (fun K hK => ?_) ?_
                · go_simp
                  refine hK _ _ ?_
                  clear hK K
                  refine wpAny_ready (rs := [10]) (by kernel_rfl) (by simp) ?_
                  refine AllReady.cons rfl (fun K hK => ?_) ?_
                  · go_simp
                    refine hK _ _ ?_
                    clear hK K
                    refine wpAny_done (by kernel_rfl) ?_ _
                    replace s7 := Lib.hid (s7.mono (G := fun i => w.heap.size ≤ i) (fun i hi _ => Nat.le_trans l2 hi))
                    replace k7 := Lib.hid k7
                    go_wp2
                    go_ret3
                    exact DoPost.new (by simp) s7.out (kk2.trans k7.out)
                  exact AllReady.nil
                exact AllReady.nil
              exact AllReady.nil
            exact AllReady.nil
          exact AllReady.nil
        exact AllReady.nil
      exact AllReady.nil
    refine AllReady.cons rfl (fun K hK => ?_) ?_
    · refine step_loadP rfl 39 (.tmp 31) rfl w.heap.size 1 (opV20 x (.slice A1 x.m.b.j.sg.length c1) (.slice A2 x.m.b.q.length c2) (.slice A3 x.m.c.sg.length c3) (.slice A4 x.m.s.ts.length c4)) (msgV x.m (.slice A1 x.m.b.j.sg.length c1) (.slice A2 x.m.b.q.length c2) (.slice A3 x.m.c.sg.length c3) (.slice A4 x.m.s.ts.length c4)) _ _ 21 rfl (b2.keep ka (by simp)) Try.underlying39 rfl zMs_size rfl rfl ?_
      refine hK _ _ ?_
      clear hK K
      refine wpAny_ready (rs := [2]) (by kernel_rfl) (by simp) ?_
      refine AllReady.cons rfl (fun K hK => ?_) ?_
      · refine step_appK w2 rfl (.tmp 28) (.tmp 29) rfl _ (.slice (some ⟨w2.heap.size, 0, none⟩) 0 0) [] l G A c (by simp [Act.eval, Act.put]) (by simp [Act.eval, Act.put]) e1.out hsA.out (by simp; omega) ?_
        simp only [List.length_nil, Nat.zero_add, List.nil_append]
        intro B1 p1 w4 n4 q4
        refine hK _ _ ?_
        clear hK K
        refine wpAny_ready (rs := [5]) (by kernel_rfl) (by simp) ?_
        refine AllReady.cons rfl (fun K hK => ?_) ?_
        · go_simp
          go_at_call 10
          refine (rmsg_call x.m _ _ _ _ F _ (hokW.out _ n4.2) HM.out).mono ?_
          rintro e w5 ⟨rfl, k5⟩
          have n5 := n4.keep k5
          go_simp
          refine hK _ _ ?_
          clear hK K
          refine wpAny_ready (rs := [6]) (by kernel_rfl) (by simp) ?_
          refine AllReady.cons rfl (fun K hK => ?_) ?_
          · go_simp
            refine hK _ _ ?_
            clear hK K
            refine wpAny_ready (rs := [7]) (by kernel_rfl) (by simp) ?_
            refine AllReady.cons rfl (fun K hK => ?_) ?_
            · refine step_app Rep.str rfl (.tmp 30) (.tmp 34) 26 9 _ 16 w2.heap.size rfl Try.underlying26 infoStrN rfl (by decide) (by decide) _ (.slice B1 l.length p1) l (msgF x.m) _ (by simp [Act.eval, Act.put]) (by simp [Act.eval, Act.put]) n5.1 ⟨rfl, HM2.out⟩ (by simp [Value.oneCell']) (by omega) n5.2.size ?_
              intro gg cap w7 ho7 hg7 hat7 hlt7 hlo7
              have s7 : SliceOf Rep.str w7 (fun i => w2.heap.size ≤ i) (.slice (some ⟨gg, 0, none⟩) (l.length + 1) cap) (l ++ [msgF x.m]) := ho7.slice (by simp; unfold M47; omega)
              have k7 : Keep [] w2 w7 := n5.2.grown hg7 (fun i hi => .inr (n5.1.lt i hi).1)
              refine hK _ _ ?_
              clear hK K
              refine wpAny_ready (rs := [8]) (by kernel_rfl) (by simp) ?_
              refine AllReady.cons rfl (fun K hK => ?_) ?_
              · go_simp
                refine hK _ _ ?_
                clear hK K
                refine wpAny_ready (rs := [9]) (by kernel_rfl) (by simp) ?_
                refine AllReady.cons rfl (fun K hK => ?_) ?_
                · go_simp
                  refine hK _ _ ?_
                  clear hK K
                  refine wpAny_ready (rs := [10]) (by kernel_rfl) (by simp) ?_
                  refine AllReady.cons rfl (fun K hK => ?_) ?_
                  · go_simp
                    refine hK _ _ ?_
                    clear hK K
                    refine wpAny_done (by kernel_rfl) ?_ _
                    replace s7 := Lib.hid (s7.mono (G := fun i => w.heap.size ≤ i) (fun i hi _ => Nat.le_trans l2 hi))
                    replace k7 := Lib.hid k7
                    go_wp2
                    go_ret3
                    exact DoPost.new (by simp) s7.out (kk2.trans k7.out)
                  exact AllReady.nil
                exact AllReady.nil
              exact AllReady.nil
            exact AllReady.nil
          exact AllReady.nil
        exact AllReady.nil
      exact AllReady.nil
    exact AllReady.nil
  refine AllReady.cons rfl (fun K hK => ?_) ?_
  · refine step_loadP rfl 39 (.tmp 31) rfl w.heap.size 1 (opV20 x (.slice A1 x.m.b.j.sg.length c1) (.slice A2 x.m.b.q.length c2) (.slice A3 x.m.c.sg.length c3) (.slice A4 x.m.s.ts.length c4)) (msgV x.m (.slice A1 x.m.b.j.sg.length c1) (.slice A2 x.m.b.q.length c2) (.slice A3 x.m.c.sg.length c3) (.slice A4 x.m.s.ts.length c4)) _ _ 21 rfl (b2.keep (Keep.refl [] w2).drew (by simp)) Try.underlying39 rfl zMs_size rfl rfl ?_
    refine hK _ _ ?_
    clear hK K
    refine wpAny_ready (rs := [0]) (by kernel_rfl) (by simp) ?_
    refine AllReady.cons rfl (fun K hK => ?_) ?_
    · go_simp
      refine hK _ _ ?_
      clear hK K
      refine wpAny_ready (rs := [2]) (by kernel_rfl) (by simp) ?_
      refine AllReady.cons rfl (fun K hK => ?_) ?_
      · refine step_appK w2 rfl (.tmp 28) (.tmp 29) rfl _ (.slice (some ⟨w2.heap.size, 0, none⟩) 0 0) [] l G A c (by simp [Act.eval, Act.put]) (by simp [Act.eval, Act.put]) e1.out hsA.out (by simp; omega) ?_
        simp only [List.length_nil, Nat.zero_add, List.nil_append]
        intro B1 p1 w4 n4 q4
        refine hK _ _ ?_
        clear hK K
        refine wpAny_ready (rs := [5]) (by kernel_rfl) (by simp) ?_
        refine AllReady.cons rfl (fun K hK => ?_) ?_
        · go_simp
          go_at_call 10
          refine (rmsg_call x.m _ _ _ _ F _ (hokW.out _ n4.2) HM.out).mono ?_
          rintro e w5 ⟨rfl, k5⟩
          have n5 := n4.keep k5
          go_simp
          refine hK _ _ ?_
          clear hK K
          refine wpAny_ready (rs := [6]) (by kernel_rfl) (by simp) ?_
          refine AllReady.cons rfl (fun K hK => ?_) ?_
          · go_simp
            refine hK _ _ ?_
            clear hK K
            refine wpAny_ready (rs := [7]) (by kernel_rfl) (by simp) ?_
            refine AllReady.cons rfl (fun K hK => ?_) ?_
            · refine step_app Rep.str rfl (.tmp 30) (.tmp 34) 26 9 _ 16 w2.heap.size rfl Try.underlying26 infoStrN rfl (by decide) (by decide) _ (.slice B1 l.length p1) l (msgF x.m) _ (by simp [Act.eval, Act.put]) (by simp [Act.eval, Act.put]) n5.1 ⟨rfl, HM2.out⟩ (by simp [Value.oneCell']) (by omega) n5.2.size ?_
              intro gg cap w7 ho7 hg7 hat7 hlt7 hlo7
              have s7 : SliceOf Rep.str w7 (fun i => w2.heap.size ≤ i) (.slice (some ⟨gg, 0, none⟩) (l.length + 1) cap) (l ++ [msgF x.m]) := ho7.slice (by simp; unfold M47; omega)
              have k7 : Keep [] w2 w7 := n5.2.grown hg7 (fun i hi => .inr (n5.1.lt i hi).1)
              refine hK _ _ ?_
              clear hK K
              refine wpAny_ready (rs := [8]) (by kernel_rfl) (by simp) ?_
              refine AllReady.cons rfl (fun K hK => ?_) ?_
              · go_simp
                refine hK _ _ ?_
                clear hK K
                refine wpAny_ready (rs := [9]) (by kernel_rfl) (by simp) ?_
                refine AllReady.cons rfl (fun K hK => ?_) ?_
                · go_simp
                  refine hK _ _ ?_
                  clear hK K
                  refine wpAny_ready (rs := [10]) (by kernel_rfl) (by simp) ?_
                  refine AllReady.cons rfl (fun K hK => ?_) ?_
                  · go_simp
                    refine hK _ _ ?_
                    clear hK K
                    refine wpAny_done (by kernel_rfl) ?_ _
                    replace s7 := Lib.hid (s7.mono (G := fun i => w.heap.size ≤ i) (fun i hi _ => Nat.le_trans l2 hi))
                    replace k7 := Lib.hid k7
                    go_wp2
                    go_ret3
                    exact DoPost.new (by simp) s7.out (kk2.trans k7.out)
                  exact AllReady.nil
                exact AllReady.nil
              exact AllReady.nil
            exact AllReady.nil
          exact AllReady.nil
        exact AllReady.nil
      exact AllReady.nil
    exact AllReady.nil
  exact AllReady.nil
end Go.Proofs.Ytbhpkknlpjdcaaa
