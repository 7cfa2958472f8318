/- Of whatever records (at most 20, of at most 300 bytes) what is remembered is the chapter's, and a log of them opens so: the law StoreRecalls returns true for every list of strings. -/
import Derived.Test.YtdhhibppcckbkaaOpen
import Derived.Test.YtdhhibppcckbkaaStore5
import Derived.Test.YtdhhibppcckbkaaLawBlock
import Derived.Test.YtdhhibppcckbkaaStore8
import Derived.Test.YtdhhibppcckbkaaRows
import Derived.WalkKit
import Derived.ProofKit
import Derived.OpenShut
import Derived.ShutString
import Derived.ChangeOld
import Derived.Below
import Derived.SizedLaws
namespace Go.Proofs.Ytdhhibppcckbkaa
open Go.RowKit Go.ChangeShapes Go.WideShapes Go.ChangeAt
set_option linter.unusedVariables false
set_option linter.unusedSimpArgs false
section
variable {H : Type} {enc : TypeId × Value → H} {W : World}
theorem li2 {α : Type} (l : List α) (h : l.length = 2) : ∃ a b, l = [a, b] := by
  match l, h with
  | [a, b], _ => exact ⟨a, b, rfl⟩
theorem li3 {α : Type} (l : List α) (h : l.length = 3) : ∃ a b c, l = [a, b, c] := by
  match l, h with
  | [a, b, c], _ => exact ⟨a, b, c, rfl⟩
theorem li4 {α : Type} (l : List α) (h : l.length = 4) : ∃ a b c d, l = [a, b, c, d] := by
  match l, h with
  | [a, b, c, d], _ => exact ⟨a, b, c, d, rfl⟩
theorem li6 {α : Type} (l : List α) (h : l.length = 6) : ∃ a b c d e f, l = [a, b, c, d, e, f] := by
  match l, h with
  | [a, b, c, d, e, f], _ => exact ⟨a, b, c, d, e, f, rfl⟩
theorem open_req : Opens enc Try.prog W Rep.req 61 := by
  intro fuel cs x h hw
  obtain ⟨xs, n, rfl, rfl, hl, hxl, hf⟩ := DataW.trod_struct Try.underlying61 h
  rw [show Try.prog.cellsOf 61 = 3 by kernel_rfl] at hl
  obtain ⟨c0, c1, c2, rfl⟩ := li3 cs hl
  obtain ⟨x0, x1, x2, rfl⟩ := li3 xs hxl
  have f0 : DataW.trod enc Try.prog W 0 (fun _ => true) true n 3 (([c0, c1, c2].drop 0).take (Try.prog.cellsOf 3)) = some x0 := hf 0 _ rfl
  rw [show Try.prog.cellsOf 3 = 1 by kernel_rfl] at f0
  replace f0 : DataW.trod enc Try.prog W 0 (fun _ => true) true n 3 [c0] = some x0 := f0
  have f1 : DataW.trod enc Try.prog W 0 (fun _ => true) true n 3 (([c0, c1, c2].drop 1).take (Try.prog.cellsOf 3)) = some x1 := hf 1 _ rfl
  rw [show Try.prog.cellsOf 3 = 1 by kernel_rfl] at f1
  replace f1 : DataW.trod enc Try.prog W 0 (fun _ => true) true n 3 [c1] = some x1 := f1
  have f2 : DataW.trod enc Try.prog W 0 (fun _ => true) true n 9 (([c0, c1, c2].drop 2).take (Try.prog.cellsOf 9)) = some x2 := hf 2 _ rfl
  rw [show Try.prog.cellsOf 9 = 1 by kernel_rfl] at f2
  replace f2 : DataW.trod enc Try.prog W 0 (fun _ => true) true n 9 [c2] = some x2 := f2
  have hw' : ∀ k, k ∈ x0.1.weights Try.prog 3 ++ (x1.1.weights Try.prog 3 ++ (x2.1.weights Try.prog 9 ++ ([]))) → k ≤ reachBytes := by
    intro k hk
    refine hw k ?_
    simp only [DataW.weights, Try.underlying61, List.map_cons, List.map_nil, DataW.weightsEach]
    exact hk
  simp only [List.mem_append] at hw'
  obtain ⟨y0, h0⟩ := opens_int Try.underlying3 n _ _ f0 (fun k hk => hw' k (.inl hk))
  obtain ⟨y1, h1⟩ := opens_int Try.underlying3 n _ _ f1 (fun k hk => hw' k (.inr (.inl hk)))
  obtain ⟨y2, h2⟩ := opens_str Try.underlying9 n _ _ f2 (fun k hk => hw' k (.inr (.inr (.inl hk))))
  obtain ⟨e0, b0⟩ := h0
  obtain ⟨e1, b1⟩ := h1
  obtain ⟨e2, b2⟩ := h2
  simp only [List.cons.injEq, and_true] at e0 e1 e2
  subst e0 e1 e2
  exact ⟨⟨y0, y1, y2⟩, rfl, b0, b1, b2⟩
theorem open_strs : Opens enc Try.prog W (Rep.slice Rep.str) 35 :=
  opens_slice Try.underlying35 (by kernel_rfl) (by decide) (by rw [show Try.prog.bytesOf 9 = 16 by kernel_rfl]; decide) (opens_str Try.underlying9)
theorem open_sg : Opens enc Try.prog W Rep.sg 84 := by
  intro fuel cs x h hw
  obtain ⟨xs, n, rfl, rfl, hl, hxl, hf⟩ := DataW.trod_struct Try.underlying84 h
  rw [show Try.prog.cellsOf 84 = 2 by kernel_rfl] at hl
  obtain ⟨c0, c1, rfl⟩ := li2 cs hl
  obtain ⟨x0, x1, rfl⟩ := li2 xs hxl
  have f0 : DataW.trod enc Try.prog W 0 (fun _ => true) true n 3 (([c0, c1].drop 0).take (Try.prog.cellsOf 3)) = some x0 := hf 0 _ rfl
  rw [show Try.prog.cellsOf 3 = 1 by kernel_rfl] at f0
  replace f0 : DataW.trod enc Try.prog W 0 (fun _ => true) true n 3 [c0] = some x0 := f0
  have f1 : DataW.trod enc Try.prog W 0 (fun _ => true) true n 35 (([c0, c1].drop 1).take (Try.prog.cellsOf 35)) = some x1 := hf 1 _ rfl
  rw [show Try.prog.cellsOf 35 = 1 by kernel_rfl] at f1
  replace f1 : DataW.trod enc Try.prog W 0 (fun _ => true) true n 35 [c1] = some x1 := f1
  have hw' : ∀ k, k ∈ x0.1.weights Try.prog 3 ++ (x1.1.weights Try.prog 35 ++ ([])) → k ≤ reachBytes := by
    intro k hk
    refine hw k ?_
    simp only [DataW.weights, Try.underlying84, List.map_cons, List.map_nil, DataW.weightsEach]
    exact hk
  simp only [List.mem_append] at hw'
  obtain ⟨y0, h0⟩ := opens_int Try.underlying3 n _ _ f0 (fun k hk => hw' k (.inl hk))
  obtain ⟨y1, h1⟩ := open_strs n _ _ f1 (fun k hk => hw' k (.inr (.inl hk)))
  obtain ⟨e0, b0⟩ := h0
  obtain ⟨v, e1, b1⟩ := h1
  simp only [List.cons.injEq, and_true] at e0 e1
  subst e0 e1
  exact ⟨⟨y0, y1⟩, _, rfl, b0, b1⟩
theorem open_sgs : Opens enc Try.prog W (Rep.slice Rep.sg) 24 :=
  opens_slice Try.underlying24 (by kernel_rfl) (by decide) (by rw [show Try.prog.bytesOf 84 = 32 by kernel_rfl]; decide) open_sg
theorem open_reqs : Opens enc Try.prog W (Rep.slice Rep.req) 27 :=
  opens_slice Try.underlying27 (by kernel_rfl) (by decide) (by rw [show Try.prog.bytesOf 61 = 32 by kernel_rfl]; decide) open_req
theorem open_ct : Opens enc Try.prog W Rep.ct 26 := by
  intro fuel cs x h hw
  obtain ⟨xs, n, rfl, rfl, hl, hxl, hf⟩ := DataW.trod_struct Try.underlying26 h
  rw [show Try.prog.cellsOf 26 = 3 by kernel_rfl] at hl
  obtain ⟨c0, c1, c2, rfl⟩ := li3 cs hl
  obtain ⟨x0, x1, x2, rfl⟩ := li3 xs hxl
  have f0 : DataW.trod enc Try.prog W 0 (fun _ => true) true n 3 (([c0, c1, c2].drop 0).take (Try.prog.cellsOf 3)) = some x0 := hf 0 _ rfl
  rw [show Try.prog.cellsOf 3 = 1 by kernel_rfl] at f0
  replace f0 : DataW.trod enc Try.prog W 0 (fun _ => true) true n 3 [c0] = some x0 := f0
  have f1 : DataW.trod enc Try.prog W 0 (fun _ => true) true n 9 (([c0, c1, c2].drop 1).take (Try.prog.cellsOf 9)) = some x1 := hf 1 _ rfl
  rw [show Try.prog.cellsOf 9 = 1 by kernel_rfl] at f1
  replace f1 : DataW.trod enc Try.prog W 0 (fun _ => true) true n 9 [c1] = some x1 := f1
  have f2 : DataW.trod enc Try.prog W 0 (fun _ => true) true n 24 (([c0, c1, c2].drop 2).take (Try.prog.cellsOf 24)) = some x2 := hf 2 _ rfl
  rw [show Try.prog.cellsOf 24 = 1 by kernel_rfl] at f2
  replace f2 : DataW.trod enc Try.prog W 0 (fun _ => true) true n 24 [c2] = some x2 := f2
  have hw' : ∀ k, k ∈ x0.1.weights Try.prog 3 ++ (x1.1.weights Try.prog 9 ++ (x2.1.weights Try.prog 24 ++ ([]))) → k ≤ reachBytes := by
    intro k hk
    refine hw k ?_
    simp only [DataW.weights, Try.underlying26, List.map_cons, List.map_nil, DataW.weightsEach]
    exact hk
  simp only [List.mem_append] at hw'
  obtain ⟨y0, h0⟩ := opens_int Try.underlying3 n _ _ f0 (fun k hk => hw' k (.inl hk))
  obtain ⟨y1, h1⟩ := opens_str Try.underlying9 n _ _ f1 (fun k hk => hw' k (.inr (.inl hk)))
  obtain ⟨y2, h2⟩ := open_sgs n _ _ f2 (fun k hk => hw' k (.inr (.inr (.inl hk))))
  obtain ⟨e0, b0⟩ := h0
  obtain ⟨e1, b1⟩ := h1
  obtain ⟨v, e2, b2⟩ := h2
  simp only [List.cons.injEq, and_true] at e0 e1 e2
  subst e0 e1 e2
  exact ⟨⟨y0, y1, y2⟩, _, rfl, b0, b1, b2⟩
theorem open_bk : Opens enc Try.prog W Rep.bk 29 := by
  intro fuel cs x h hw
  obtain ⟨xs, n, rfl, rfl, hl, hxl, hf⟩ := DataW.trod_struct Try.underlying29 h
  rw [show Try.prog.cellsOf 29 = 6 by kernel_rfl] at hl
  obtain ⟨c0, c1, c2, c3, c4, c5, rfl⟩ := li6 cs hl
  obtain ⟨x0, x1, x2, x3, rfl⟩ := li4 xs hxl
  have f0 : DataW.trod enc Try.prog W 0 (fun _ => true) true n 3 (([c0, c1, c2, c3, c4, c5].drop 0).take (Try.prog.cellsOf 3)) = some x0 := hf 0 _ rfl
  rw [show Try.prog.cellsOf 3 = 1 by kernel_rfl] at f0
  replace f0 : DataW.trod enc Try.prog W 0 (fun _ => true) true n 3 [c0] = some x0 := f0
  have f1 : DataW.trod enc Try.prog W 0 (fun _ => true) true n 3 (([c0, c1, c2, c3, c4, c5].drop 1).take (Try.prog.cellsOf 3)) = some x1 := hf 1 _ rfl
  rw [show Try.prog.cellsOf 3 = 1 by kernel_rfl] at f1
  replace f1 : DataW.trod enc Try.prog W 0 (fun _ => true) true n 3 [c1] = some x1 := f1
  have f2 : DataW.trod enc Try.prog W 0 (fun _ => true) true n 26 (([c0, c1, c2, c3, c4, c5].drop 2).take (Try.prog.cellsOf 26)) = some x2 := hf 2 _ rfl
  rw [show Try.prog.cellsOf 26 = 3 by kernel_rfl] at f2
  replace f2 : DataW.trod enc Try.prog W 0 (fun _ => true) true n 26 [c2, c3, c4] = some x2 := f2
  have f3 : DataW.trod enc Try.prog W 0 (fun _ => true) true n 27 (([c0, c1, c2, c3, c4, c5].drop 5).take (Try.prog.cellsOf 27)) = some x3 := hf 3 _ rfl
  rw [show Try.prog.cellsOf 27 = 1 by kernel_rfl] at f3
  replace f3 : DataW.trod enc Try.prog W 0 (fun _ => true) true n 27 [c5] = some x3 := f3
  have hw' : ∀ k, k ∈ x0.1.weights Try.prog 3 ++ (x1.1.weights Try.prog 3 ++ (x2.1.weights Try.prog 26 ++ (x3.1.weights Try.prog 27 ++ ([])))) → k ≤ reachBytes := by
    intro k hk
    refine hw k ?_
    simp only [DataW.weights, Try.underlying29, List.map_cons, List.map_nil, DataW.weightsEach]
    exact hk
  simp only [List.mem_append] at hw'
  obtain ⟨y0, h0⟩ := opens_int Try.underlying3 n _ _ f0 (fun k hk => hw' k (.inl hk))
  obtain ⟨y1, h1⟩ := opens_int Try.underlying3 n _ _ f1 (fun k hk => hw' k (.inr (.inl hk)))
  obtain ⟨y2, h2⟩ := open_ct n _ _ f2 (fun k hk => hw' k (.inr (.inr (.inl hk))))
  obtain ⟨y3, h3⟩ := open_reqs n _ _ f3 (fun k hk => hw' k (.inr (.inr (.inr (.inl hk)))))
  obtain ⟨e0, b0⟩ := h0
  obtain ⟨e1, b1⟩ := h1
  obtain ⟨v, e2, b2, b3, b4⟩ := h2
  obtain ⟨u, e3, b5⟩ := h3
  simp only [List.cons.injEq, and_true] at e0 e1 e2 e3
  obtain ⟨e2, e4, e5⟩ := e2
  subst e0 e1 e2 e3 e4 e5
  exact ⟨⟨y0, y1, y2, y3⟩, _, _, rfl, b0, b1, b2, b3, b4, b5⟩
end
end Go.Proofs.Ytdhhibppcckbkaa
namespace Go.Proofs.Ytdhhibppcckbkaa
open Go.RowKit
set_option linter.unusedVariables false
set_option linter.unusedSimpArgs false
/-! the store: awake; StoreRecords -/
theorem recs_empty : recs ⟨#[]⟩ = [] := (recs_none (b := ⟨#[]⟩) (by decide +kernel)).1
set_option maxRecDepth 100000 in
set_option maxHeartbeats 2000000 in
theorem awake10_call (w : World) : Calls Try.prog 8 #[] w fun e w' => e = .returned (.bool true) ∧ Keep [] w w' := by
  go_enter Try.func8, Try.ntmps8
  go_wp2_with fail
  refine (new_call _).mono ?_
  rintro e w1 ⟨p, rfl, hp, h1, k1⟩
  go_wp2_with fail
  refine (open_call p _ _ h1 rfl (by show (0 : Nat) ≤ _; omega) (by show (0 : Nat) ≤ _; omega)).mono ?_
  dsimp only
  rw [recs_empty]
  rintro e w2 ⟨m, rfl, hm, h2, k2, v, G, hst, -, -, hv⟩
  obtain rfl := hv rfl
  have hpl := Blk.lt h1
  have hmp : m ≠ p := by omega
  have e0 : endR ⟨#[]⟩ = 0 := (recs_none (b := ⟨#[]⟩) (by decide +kernel)).2
  rw [e0] at h2
  replace h2 : LogAt w2 p ⟨⟨#[]⟩, 0, -1, false⟩ := h2
  replace hst : StAt w2 m p s0 (.slice none 0 0) := hst
  have kk2 : Keep [] w w2 := k1.new k2 (fun i hi => .inr (by simp at hi; omega))
  have l2 := k1.size
  replace hst := Lib.hid hst
  replace h2 := Lib.hid h2
  clear hv e0
  go_wp2_with fail
  refine (save_one m p _ hst.out h2.out hmp).mono ?_
  rintro e w3 ⟨rfl, h3, k3⟩
  have kk3 : Keep [] w w3 := kk2.new k3 (fun i hi => .inr (by simp at hi; omega))
  replace h3 := Lib.hid h3
  go_wp2_with fail
  refine (state_call m p s1 _ _ h3.out).mono ?_
  rintro e w4 ⟨he, k4⟩
  replace he : e = .returned (.agg #[.int .i64 1, .int .i64 0]) := he
  subst he
  have hfd : ∀ w : World, (Instr.field 23 (.agg #[.int .i64 1, .int .i64 0]) 0).run Try.prog w = .ok (.int .i64 1) w := fun _ => by kernel_rfl
  go_wp2
  go_ret
  exact ⟨rfl, kk3.trans k4⟩
theorem quiet_loadW {P : Program} {C : World → Prop} {a : Act} {o : Oper} {K : Act → Prop} (ty : TypeId) (x : Operand) (ho : o.op = .load ty x) (g : Nat) (D : Array Value) (t : Nat) (d : TypeDesc) (n : Nat) (hx : a.eval x = .pointer (some ⟨g, 0, none⟩)) (hb : ∀ w, C w → Blk w g D t)
    (hu : P.underlying ty = some d) (hd : d.isRow = true) (hi : (P.info? ty).map (·.size) = some n) (hn : D.size = n) (hk : K (a.put o.dst (.agg D))) : o.quiet P a C K :=
  quiet_run (fun w hw => by
    unfold execOp
    simp only [ho, hx, Sem.run_bind, run_loadW w g ty D t d n (hb w hw) hu hd hi hn, Result.andThen_ok]
    rfl) hk
set_option maxHeartbeats 8000000 in
theorem storeRecords_call (s : Stt) (x : Bk) (v u : Value) (F : Nat → Prop) (w : World) (h : SliceOf Rep.sg w F v x.j.sg) (h2 : SliceOf Rep.req w F u x.q) (sv : I64 s.v) (sl : I64 s.l) (hv : I64 x.v) (hp : I64 x.p) (hj : I64 x.j.v) :
    Calls Try.prog 3 #[.agg (stV s), .agg (bkV x v u)] w fun e w' => e = .returned (.bool true) ∧ Keep [] w w' := by
  obtain ⟨A, c, rfl, -⟩ := h.form
  obtain ⟨B, d, rfl, -⟩ := h2.form
  replace h := Lib.hid h
  replace h2 := Lib.hid h2
  replace sv := Lib.hid sv
  replace sl := Lib.hid sl
  replace hv := Lib.hid hv
  replace hp := Lib.hid hp
  replace hj := Lib.hid hj
  go_enter Try.func3, Try.ntmps3
  go_upto_region 1 with (first
    | ((with_reducible refine wl_box 23 (.tmp 0) ?_ ?_); (with_reducible rfl); refine sx_box rfl 23 (.tmp 0) rfl (stV s) rfl ?_; intro w1 b1 k1 z1; clear z1; (try simp only [Act.put, List.setIfInBounds_toArray, List.set_cons_zero, List.set_cons_succ]))
    | ((with_reducible refine wl_box 29 (.tmp 1) ?_ ?_); (with_reducible rfl); refine sx_box rfl 29 (.tmp 1) rfl (bkV x (.slice A x.j.sg.length c) (.slice B x.q.length d)) rfl ?_; intro w2 b2 k2 z2; clear z2; (try simp only [Act.put, List.setIfInBounds_toArray, List.set_cons_zero, List.set_cons_succ])))
  have d1 := b1.keep k2 (by simp)
  have kk2 := k1.trans k2
  clear b1 k1 k2
  go_wp2_with fail
  refine (awake10_call _).mono ?_
  rintro e w3 ⟨rfl, k3⟩
  have d3 := d1.keep k3 (by simp)
  have b3 := b2.keep k3 (by simp)
  have kk3 := kk2.trans k3
  clear d1 b2 kk2 k3
  go_wp2_with (first
    | ((with_reducible refine wl_load 29 (.tmp 3) ?_ ?_); (with_reducible rfl); refine sv_loadW 29 (.tmp 3) rfl rfl w1.heap.size (bkV x (.slice A x.j.sg.length c) (.slice B x.q.length d)) _ _ 6 rfl b3 Try.underlying29 rfl zBk_size rfl ?_; (try simp only [Act.put, List.setIfInBounds_toArray, List.set_cons_zero, List.set_cons_succ])))
  refine (fewBlock_call x _ _ F _ (h.out.keep (kk3.at F (by simp))) (h2.out.keep (kk3.at F (by simp)))).mono ?_
  rintro e w4 ⟨rfl, k4⟩
  have d4 := d3.keep k4 (by simp)
  have b4 := b3.keep k4 (by simp)
  have kk4 := kk3.trans k4
  clear d3 b3 kk3 k4
  cases hfew : fewBlock x with
  | false =>
    clear hfew
    go_wp2_with fail
    refine (awake10_call _).mono ?_
    rintro e w5 ⟨rfl, k5⟩
    go_wp2
    go_ret
    exact ⟨rfl, kk4.trans k5⟩
  | true =>
    have hsz := (fewBlock_size x hfew).1
    replace hsz := Lib.hid hsz
    clear hfew
    go_wp2_with fail
    have hA := Lib.hid (fun w' (kq : Keep [] w4 w') => record_call s w')
    have hB := Lib.hid (fun w' (kq : Keep [] w4 w') => rrecord_call s w' sv.out sl.out)
    have hC1 := Lib.hid (fun w' (kq : Keep [] w4 w') => brecord_call x _ _ F w' (h.out.keep ((kk4.trans kq).at F (by simp))) (h2.out.keep ((kk4.trans kq).at F (by simp))) (by have := hsz.out; omega))
    have hD1 := Lib.hid (fun w' (kq : Keep [] w4 w') => rbrecord_call x _ _ F w' (h.out.keep ((kk4.trans kq).at F (by simp))) (h2.out.keep ((kk4.trans kq).at F (by simp))) hv.out hp.out hj.out (by have := hsz.out; omega))
    replace d4 := Lib.hid d4
    replace b4 := Lib.hid b4
    refine wp_region_class (C := fun w' => Keep [] w4 w') (by kernel_rfl) (by kernel_rfl) ((Keep.refl _ _).drew) ?_
    iterate 13 (first
      | go_big_quiet_skip
      | (go_big_quiet_want; first
        | (refine quiet_loadW 23 (.tmp 2) rfl w.heap.size (stV s) _ _ 2 rfl (fun w' hw => d4.out.keep hw (by simp)) Try.underlying23 rfl zSt_size rfl ?_; simp only [Act.put, List.setIfInBounds_toArray, List.set_cons_zero, List.set_cons_succ]; go_big_quiet_on)
        | (refine quiet_loadW 29 (.tmp 3) rfl w1.heap.size (bkV x (.slice A x.j.sg.length c) (.slice B x.q.length d)) _ _ 6 rfl (fun w' hw => b4.out.keep hw (by simp)) Try.underlying29 rfl zBk_size rfl ?_; simp only [Act.put, List.setIfInBounds_toArray, List.set_cons_zero, List.set_cons_succ]; go_big_quiet_on)
        | (go_big_quiet_op; go_big_quiet_on)
        | (refine quiet_run (v := ?_) ?_ ?_; (rotate_left; (intro w' hC; (try dsimp only at hC); go_split_ands; go_simp; with_reducible rfl); simp only [Act.put, List.setIfInBounds_toArray, List.set_cons_zero, List.set_cons_succ]; go_big_quiet_on))
        | (refine quiet_call (v := ?_) (f := ?_) (args := ?_) ?_ ?_ ?_; (rotate_left; rotate_left; rotate_left; (intro w' hC; (try dsimp only at hC); go_split_ands; go_simp; (refine ⟨?_, ?_⟩ <;> with_reducible rfl)); (intro w' hC; first | (go_at_call 10; (with_reducible refine (hA.out _ hC).mono ?_); rintro e w28 ⟨rfl, kq⟩; refine ⟨?_, Keep.trans hC kq⟩; with_reducible rfl) | (go_at_call 11; (with_reducible refine (hB.out _ hC).mono ?_); rintro e w28 ⟨rfl, kq⟩; refine ⟨?_, Keep.trans hC kq⟩; with_reducible rfl) | (go_at_call 12; (with_reducible refine (hC1.out _ hC).mono ?_); rintro e w28 ⟨rfl, kq⟩; refine ⟨?_, Keep.trans hC kq⟩; with_reducible rfl) | (go_at_call 13; (with_reducible refine (hD1.out _ hC).mono ?_); rintro e w28 ⟨rfl, kq⟩; refine ⟨?_, Keep.trans hC kq⟩; with_reducible rfl)); simp only [Act.put, List.setIfInBounds_toArray, List.set_cons_zero, List.set_cons_succ]; go_big_quiet_on))))
    refine wpQuiet_nil ?_
    intro w9 k9
    go_wp2
    go_ret
    exact ⟨rfl, kk4.trans k9⟩
end Go.Proofs.Ytdhhibppcckbkaa
namespace Go.Proofs.Ytdhhibppcckbkaa
open Go.RowKit
set_option linter.unusedVariables false
set_option linter.unusedSimpArgs false
/-! slices.Clone of blocks; the store's Blocks -/
theorem wl_appB {ops : Array Oper} {rest : List Oper} {o : Oper} {act : Act} {Q : Exit → Act → World → Prop} {W : World} (hgd : o.guard = none) (s x : Operand) (ho : o.op = .call { callee := .builtin .append, args := #[s, x], argTypes := #[37, 37] }) (lo : Nat) (G : Nat → Prop) (v : Value) (xs ys : List Bk) (A : Option Addr) (c : Nat) (hs : act.eval s = v) (hx : act.eval x = .slice A ys.length c)
    (hown : RowG Rep.bk 29 W lo G v xs) (hy : ReadsG Rep.bk W G A ys) (hG : ∀ k, G k → k < lo) (hl : (xs.length + ys.length) * 88 ≤ 140737488355328) (hbase : lo ≤ W.heap.size)
    (h : ∀ B cap w', RowG Rep.bk 29 w' lo G (.slice B (xs.length + ys.length) cap) (xs ++ ys) → Keep v.ownBlock.toList W w' → wpList Try.prog ops Q rest (act.put o.dst (.slice B (xs.length + ys.length) cap)) w') : wpList Try.prog ops Q (o :: rest) act W :=
  wpList_plain hgd fun K hK => by
    have hA0 : A = none → ys = [] := by
      intro e
      cases ys with
      | nil => rfl
      | cons y l => obtain ⟨g, o, e1, _⟩ := hy (by simp); rw [e] at e1; exact absurd e1 (by simp)
    obtain ⟨v', w', r1, r2, r3, r4⟩ := run_appG Rep.bk 37 o.type 29 (.agg zBv) 88 lo G Try.underlying37 infoBk rfl (by decide) (by decide) (fun w x cs h => bk_one h) W v xs ys A c hown hy hG hl hbase hA0
    obtain ⟨B, cap, rfl⟩ := r2.form
    rw [List.length_append] at *
    unfold Oper.wp execOp
    simp only [ho, resolve, invoke, builtin, Sem.run_bind, Sem.run_pure, Result.andThen_ok, List.map_toArray, List.map_cons, List.map_nil, hs, hx, r1]
    exact hK _ _ (h B cap w' r2 ((Keep.refl _ W).grown r3 (fun i hi => .inl (by rw [hi]; simp))))
set_option maxHeartbeats 2000000 in
theorem cloneB_call (A : Option Addr) (xs : List Bk) (c : Nat) (G : Nat → Prop) (w : World) (hs : SliceOf Rep.bk w G (.slice A xs.length c) xs) (hG : ∀ k, G k → k < w.heap.size) (hl : xs.length ≤ 1000000) :
    Calls Try.prog 41 #[.slice A xs.length c] w fun e w' => ∃ B cap, e = .returned (.slice B xs.length cap) ∧ SliceOf Rep.bk w' (fun k => G k ∨ w.heap.size ≤ k) (.slice B xs.length cap) xs ∧ Keep [] w w' := by
  cases A with
  | none =>
    have h0 : xs = [] := by
      cases xs with
      | nil => rfl
      | cons y l =>
        obtain ⟨A', c', e, _, h⟩ := hs
        cases e
        obtain ⟨g, o, e, _⟩ := h (by simp)
        exact absurd e (by simp)
    subst h0
    clear hs
    have hne := Lib.run_eql_slice_nil (P := Try.prog) w 37 29 none 0 c 0 0 Try.underlying37
    go_enter Try.func41, Try.ntmps41
    go_wp2
    go_ret
    exact ⟨none, 0, rfl, SliceOf.nil _ _ _ _ _, Keep.refl _ _⟩
  | some ad =>
    have ho : RowG Rep.bk 29 (w.alloc (.cells #[] 29)) w.heap.size G (.slice (some ⟨w.heap.size, 0, none⟩) 0 0) [] := RowG.empty _ _ _ _ _ _ (Blk.new w #[] 29) (Nat.le_refl _)
    have hs' : ReadsG Rep.bk (w.alloc (.cells #[] 29)) G (some ad) xs := SliceOf.reads (hs.keep fun k _ hk => Below.heap_alloc w _ k hk)
    replace ho := Lib.hid ho
    replace hs' := Lib.hid hs'
    replace hG := Lib.hid hG
    clear hs
    have hne := Lib.run_eql_slice_nil (P := Try.prog) w 37 29 (some ad) xs.length c 0 0 Try.underlying37
    go_enter Try.func41, Try.ntmps41
    go_wp2_with (first | (at_builtin; refine wl_appB rfl (.tmp 5) (.tmp 6) rfl w.heap.size G (.slice (some ⟨w.heap.size, 0, none⟩) 0 0) [] xs (some ad) c rfl rfl ho.out hs'.out hG.out (by simp; omega) (by simp) ?_; simp only [List.length_nil, Nat.zero_add, List.nil_append]; intro B cap w' h1 h2) | go_in)
    go_ret
    have hk : Keep [] w w' := ((Keep.refl _ w).alloc _).new h2 (fun i hi => .inr (by simp [Value.ownBlock] at hi; omega))
    exact ⟨B, cap, rfl, (h1.slice (by unfold M47; omega)).mono (fun k hk _ => hk.imp id (fun h => (h1.lt k h).1)), hk⟩
set_option maxHeartbeats 2000000 in
theorem blocks_call (m p : Nat) (s : Stt) (v : Value) (xs : List Bk) (G : Nat → Prop) (w : World) (h : StAt w m p s v) (hs : SliceOf Rep.bk w G v xs) (hG : ∀ k, G k → k < w.heap.size) (hl : xs.length ≤ 1000000) :
    Calls Try.prog 21 #[.pointer (some ⟨m, 0, none⟩)] w fun e w' => ∃ B cap, e = .returned (.slice B xs.length cap) ∧ SliceOf Rep.bk w' (fun k => G k ∨ w.heap.size ≤ k) (.slice B xs.length cap) xs ∧ Keep [] w w' := by
  obtain ⟨A, c, rfl, -⟩ := hs.form
  have c3 : w.cell? ⟨m, 3, none⟩ = some (.slice A xs.length c) := Blk.cell h 3
  replace hs := Lib.hid hs
  replace hG := Lib.hid hG
  clear h
  go_enter Try.func21, Try.ntmps21
  go_wp2_with fail
  refine (cloneB_call A xs c G _ hs.out hG.out hl).mono ?_
  rintro e w' ⟨B, cap, rfl, h1, k⟩
  go_wp2
  go_ret
  exact ⟨B, cap, rfl, h1, k⟩
end Go.Proofs.Ytdhhibppcckbkaa
namespace Go.Proofs.Ytdhhibppcckbkaa
open Go.RowKit
set_option linter.unusedVariables false
set_option linter.unusedSimpArgs false
/-! the reference's Same, of one list told twice -/
theorem quiet_loadR {P : Program} {C : World → Prop} {a : Act} {o : Oper} {K : Act → Prop} (ty : TypeId) (x : Operand) (ho : o.op = .load ty x) (g off : Nat) (D : Array Value) (d : TypeDesc) (n : Nat) (hx : a.eval x = .pointer (some ⟨g, off, none⟩)) (hr : ∀ w, C w → ∀ j v, D[j]? = some v → w.cell? ⟨g, off + j, none⟩ = some v)
    (hu : P.underlying ty = some d) (hd : d.isRow = true) (hi : (P.info? ty).map (·.size) = some n) (hn : D.size = n) (hk : K (a.put o.dst (.agg D))) : o.quiet P a C K :=
  quiet_run (fun w hw => by
    have e : (Instr.loadAt ty (.pointer (some ⟨g, off, none⟩))).run P w = .ok (.agg D) w := by
      have h := run_loadAt_mid (P := P) w g off ty D.toList d (fun j v hj => hr w hw j v (by simpa using hj)) hu hd (by simpa [hn] using hi)
      simpa using h
    unfold execOp
    simp only [ho, hx, Sem.run_bind, e, Result.andThen_ok]
    rfl) hk
theorem SliceOf.bk_at {w : World} {F : Nat → Prop} {A : Option Addr} {n c : Nat} {xs : List Bk} (h : SliceOf Rep.bk w F (.slice A n c) xs) {i : Nat} (hi : i < xs.length) :
    ∃ g o v u, A = some ⟨g, o, none⟩ ∧ (∀ j y, (bkV xs[i] v u)[j]? = some y → w.cell? ⟨g, o + i * 6 + j, none⟩ = some y) ∧ (I64 xs[i].v ∧ I64 xs[i].p ∧ I64 xs[i].j.v) ∧ SliceOf Rep.sg w F v xs[i].j.sg ∧ SliceOf Rep.req w F u xs[i].q := by
  obtain ⟨g, o, cs, rfl, _, _, ⟨v, u, rfl, h1, h2, h3, _, h5, h6⟩, hc⟩ := h.at hi
  exact ⟨g, o, v, u, rfl, fun j y hj => by rw [Nat.add_assoc]; exact hc j y (by simpa using hj), ⟨h1, h2, h3⟩, h5, h6⟩
set_option maxRecDepth 100000 in
set_option maxHeartbeats 8000000 in
theorem sameB_call (A B : Option Addr) (xs : List Bk) (ca cb : Nat) (F G : Nat → Prop) (w : World) (ha : SliceOf Rep.bk w F (.slice A xs.length ca) xs) (hb : SliceOf Rep.bk w G (.slice B xs.length cb) xs) (hsz : ∀ x ∈ xs, (blockF x).size ≤ 1000000) (hl : xs.length ≤ 1000000) :
    Calls Try.prog 19 #[.slice A xs.length ca, .slice B xs.length cb] w fun e w' => e = .returned (.bool true) ∧ Keep [] w w' := by
  replace ha := Lib.hid ha
  replace hb := Lib.hid hb
  replace hsz := Lib.hid hsz
  go_enter Try.func19, Try.ntmps19
  go_wp2_with fail
  go_loopw [5] (fun i wr => ∃ k : Nat, k ≤ xs.length ∧ i = .int .i64 k ∧ Keep [] w wr) (fun i _ => xs.length - (intOf i).toNat)
  case atStart => exact ⟨0, Nat.zero_le _, rfl, Keep.refl _ _⟩
  case round =>
    obtain ⟨k, hk, rfl, kk⟩ := hrel
    by_cases hlt : k < xs.length
    · have hltz : (k : Int) < (xs.length : Int) := by omega
      obtain ⟨ga, oa, va, ua, rfl, hra, hbd, ha5, ha6⟩ := (ha.out.keep (kk.at F (by simp))).bk_at hlt
      obtain ⟨gb, ob, vb, ub, rfl, hrb, -, hb5, hb6⟩ := (hb.out.keep (kk.at G (by simp))).bk_at hlt
      have hz := hsz.out xs[k] (List.getElem_mem hlt)
      generalize xs[k] = x at *
      obtain ⟨A1, c1, rfl, -⟩ := ha5.form
      obtain ⟨A2, c2, rfl, -⟩ := ha6.form
      obtain ⟨B1, d1, rfl, -⟩ := hb5.form
      obtain ⟨B2, d2, rfl, -⟩ := hb6.form
      have hMa := Lib.hid (fun w' (kq : Keep [] wr w') => rblock_call x _ _ F w' (ha5.keep (kq.at F (by simp))) (ha6.keep (kq.at F (by simp))) hbd.1 hbd.2.1 hbd.2.2 (by omega))
      have hMb := Lib.hid (fun w' (kq : Keep [] wr w') => rblock_call x _ _ G w' (hb5.keep (kq.at G (by simp))) (hb6.keep (kq.at G (by simp))) hbd.1 hbd.2.1 hbd.2.2 (by omega))
      replace hra := Lib.hid (fun w' (kq : Keep [] wr w') j y (hj : (bkV x (.slice A1 x.j.sg.length c1) (.slice A2 x.q.length c2))[j]? = some y) => kq.cell (by simp) (hra j y hj))
      replace hrb := Lib.hid (fun w' (kq : Keep [] wr w') j y (hj : (bkV x (.slice B1 x.j.sg.length d1) (.slice B2 x.q.length d2))[j]? = some y) => kq.cell (by simp) (hrb j y hj))
      clear ha5 ha6 hb5 hb6 hbd hz
      go_wp2_with fail
      refine wp_region_class (C := fun w' => Keep [] wr w') (by kernel_rfl) (by kernel_rfl) ((Keep.refl _ _).drew) ?_
      iterate 11 (first
        | go_big_quiet_skip
        | (go_big_quiet_want; first
          | (refine quiet_loadR 29 (.tmp 19) rfl ga (oa + k * 6) (bkV x (.slice A1 x.j.sg.length c1) (.slice A2 x.q.length c2)) _ 6 rfl hra.out Try.underlying29 rfl zBk_size rfl ?_; simp only [Act.put, List.setIfInBounds_toArray, List.set_cons_zero, List.set_cons_succ]; go_big_quiet_on)
          | (refine quiet_loadR 29 (.tmp 24) rfl gb (ob + k * 6) (bkV x (.slice B1 x.j.sg.length d1) (.slice B2 x.q.length d2)) _ 6 rfl hrb.out Try.underlying29 rfl zBk_size rfl ?_; simp only [Act.put, List.setIfInBounds_toArray, List.set_cons_zero, List.set_cons_succ]; go_big_quiet_on)
          | (go_big_quiet_op; go_big_quiet_on)
          | (refine quiet_run (v := ?_) ?_ ?_; (rotate_left; (intro w' hC; (try dsimp only at hC); go_split_ands; go_simp; with_reducible rfl); simp only [Act.put, List.setIfInBounds_toArray, List.set_cons_zero, List.set_cons_succ]; go_big_quiet_on))
          | (refine quiet_call (v := ?_) (f := ?_) (args := ?_) ?_ ?_ ?_; (rotate_left; rotate_left; rotate_left; (intro w' hC; (try dsimp only at hC); go_split_ands; go_simp; (refine ⟨?_, ?_⟩ <;> with_reducible rfl)); (intro w' hC; first | (go_at_call 33; (with_reducible refine (hMa.out _ hC).mono ?_); rintro e w28 ⟨rfl, kq⟩; refine ⟨?_, Keep.trans hC kq⟩; with_reducible rfl) | (go_at_call 33; (with_reducible refine (hMb.out _ hC).mono ?_); rintro e w28 ⟨rfl, kq⟩; refine ⟨?_, Keep.trans hC kq⟩; with_reducible rfl)); simp only [Act.put, List.setIfInBounds_toArray, List.set_cons_zero, List.set_cons_succ]; go_big_quiet_on))))
      refine wpQuiet_nil ?_
      intro w9 k9
      go_wp2
      go_roundw
      case rel => exact ⟨k + 1, by omega, by go_num, kk.trans k9⟩
      case measure => simp [intOf]; omega
    · have hltz : ¬ (k : Int) < (xs.length : Int) := by omega
      go_wp2
      go_ret
      exact ⟨rfl, kk⟩
end Go.Proofs.Ytdhhibppcckbkaa
namespace Go.Proofs.Ytdhhibppcckbkaa
open Go.RowKit
set_option linter.unusedVariables false
set_option linter.unusedSimpArgs false
/-! the law StoreRecalls -/
theorem catT_small : ∀ (l : List ByteArray), (∀ a ∈ l, a.size ≤ 300) → (catT l).size ≤ 304 * l.length
  | [], _ => by show (0 : Nat) ≤ _; omega
  | a :: l, h => by
    have h1 := catT_small l (fun x hx => h x (by simp [hx]))
    have h2 := h a (by simp)
    show (textF a ++ catT l).size ≤ _
    rw [ByteArray.size_append, textF_size, List.length_cons]
    omega
theorem recs_all (l : List ByteArray) (h : ∀ a ∈ l, okR a) : recs (catT l) = l := by
  obtain ⟨m, hm, h1, -, -, -, hj⟩ := recs_cat l h (catT l).size (Nat.le_refl _)
  have e : (catT l).extract 0 (catT l).size = catT l := by simp
  have h2 := hj l.length (Nat.le_refl _) (by rw [List.take_length]; exact Nat.le_refl _)
  rw [e] at h1
  rw [h1, List.take_of_length_le h2]
theorem rc_small {r : ByteArray} {b : Bk} (h : rcF r = .bk b) : (blockF b).size ≤ r.size := by
  have h1 := rc_pos (r := r) (by rw [h]; exact fun e => by cases e)
  have h0 : 0 < r.size := by omega
  by_cases c : (r[0]'h0).toNat = 83
  · by_cases he : (readStF (r.extract 1 r.size)).2 = 0
    · rw [rc_st h0 c he] at h; cases h
    · rw [rc_st_bad h0 c he] at h; cases h
  · by_cases c' : (r[0]'h0).toNat = 66
    · by_cases he : (readBlockF (r.extract 1 r.size)).2 = 0
      · rw [rc_bk h0 c' he] at h
        injection h with h
        rcases B3_holds (r.extract 1 r.size) with e | ⟨x, e, e1, e2⟩
        · rw [e] at he; exact absurd he (by simp)
        · rw [e] at h
          subst h
          show (blockF x).size ≤ _
          rw [e2, ByteArray.size_extract]
          omega
      · rw [rc_bk_bad h0 c' he] at h; cases h
    · rw [rc_other h0 c c'] at h; cases h
theorem recall_small : ∀ (l : List ByteArray) (s : Stt) (xs : List Bk), (∀ a ∈ l, a.size ≤ 300) → (∀ x ∈ xs, (blockF x).size ≤ 300) → (∀ x ∈ (recallF l s xs).2, (blockF x).size ≤ 300) ∧ (recallF l s xs).2.length ≤ xs.length + l.length
  | [], s, xs, _, h => ⟨h, by simp [recallF]⟩
  | r :: l, s, xs, hl, h => by
    unfold recallF
    cases hr : rcF r with
    | no => exact ⟨h, by simp⟩
    | st t =>
      have := recall_small l (gtF s t) xs (fun x hx => hl x (by simp [hx])) h
      exact ⟨this.1, by have := this.2; simp; omega⟩
    | bk b =>
      have := recall_small l s (xs ++ [b]) (fun x hx => hl x (by simp [hx])) (fun x hx => by
        rcases List.mem_append.1 hx with hx | hx
        · exact h x hx
        · obtain rfl : x = b := by simpa using hx
          exact Nat.le_trans (rc_small hr) (hl r (by simp)))
      exact ⟨this.1, by have := this.2; simp at this ⊢; omega⟩
set_option maxRecDepth 100000 in
set_option maxHeartbeats 16000000 in
theorem storeRecalls_call (A : Option Addr) (l : List ByteArray) (c : Nat) (F : Nat → Prop) (w : World) (hs : SliceOf Rep.str w F (.slice A l.length c) l) (hF : ∀ i, F i → i < w.heap.size) (hl47 : l.length ≤ M47) :
    Calls Try.prog 4 #[.slice A l.length c] w fun e w' => e = .returned (.bool true) ∧ Keep [] w w' := by
  have HS := Lib.hid hs
  have HF := Lib.hid hF
  clear hs hF
  unfold M47 at hl47
  go_enter Try.func4, Try.ntmps4
  go_wp2_with fail
  refine (awake10_call _).mono ?_
  rintro e w1 ⟨rfl, k1⟩
  by_cases h20 : 20 < l.length
  · have z20 : (20 : Int) < (l.length : Int) := by omega
    go_wp2_with fail
    refine (awake10_call _).mono ?_
    rintro e w2 ⟨rfl, k2⟩
    go_wp2
    go_ret
    exact ⟨rfl, k1.trans k2⟩
  · have z20 : ¬ (20 : Int) < (l.length : Int) := by omega
    go_wp2_with fail
    go_loopw [3, 4] (fun bv i wr => ∃ k : Nat, k ≤ l.length ∧ i = .int .i64 k ∧ bv = .string (catT (l.take k)) ∧ Keep [] w wr ∧ Hid (∀ a ∈ l.take k, 1 ≤ a.size ∧ a.size ≤ 300)) (fun _ i _ => l.length - (intOf i).toNat)
    case atStart => exact ⟨0, Nat.zero_le _, rfl, rfl, k1, Lib.hid (fun a h => by simp at h)⟩
    case round =>
      obtain ⟨k, hk, rfl, rfl, kk, hok⟩ := hrel
      clear k1
      by_cases hlt : k < l.length
      · have hltz : (k : Int) < (l.length : Int) := by omega
        obtain ⟨g, o, rfl, hc, hsz⟩ := (HS.out.keep (kk.at F (by simp))).str_at hlt
        have htk : l.take (k + 1) = l.take k ++ [l[k]] := by simp
        have hcs := catT_small (l.take k) (fun a h => (hok.out a h).2)
        rw [List.length_take] at hcs
        generalize l[k] = r at *
        by_cases h3 : 300 < r.size
        · have z3 : (300 : Int) < (r.size : Int) := by omega
          clear htk hcs
          go_wp2
          go_ret
          exact ⟨rfl, kk⟩
        · have z3 : ¬ (300 : Int) < (r.size : Int) := by omega
          by_cases h0 : r.size = 0
          · obtain rfl := nil_of_size r h0
            clear htk hcs h0
            go_wp2
            go_ret
            exact ⟨rfl, kk⟩
          · obtain ⟨he1, he2⟩ := ne_nil (r := r) (by omega)
            have hok2 : Hid (∀ a ∈ l.take (k + 1), 1 ≤ a.size ∧ a.size ≤ 300) := Lib.hid (fun a ha => by
              rw [htk] at ha
              rcases List.mem_append.1 ha with ha | ha
              · exact hok.out a ha
              · obtain rfl : a = r := by simpa using ha
                omega)
            have hct : Hid (catT (l.take (k + 1)) = catT (l.take k) ++ textF r) := Lib.hid (by rw [htk, catT_snoc])
            have q1 : (9223372036854775807 < (catT (l.take k)).size + (textF r).size) = False := by rw [textF_size]; simp; omega
            have hr4 : r.size ≤ 4611686018427387904 := by omega
            clear htk hcs
            generalize catT (l.take k) = bb at *
            go_wp2_with fail
            refine (rtext_call r _ hr4).mono ?_
            rintro e w3 ⟨rfl, k3⟩
            go_wp2
            go_roundw
            case rel => exact ⟨k + 1, by omega, by go_num, by rw [hct.out], kk.trans k3, hok2⟩
            case measure => simp [intOf]; omega
      · have hltz : ¬ (k : Int) < (l.length : Int) := by omega
        obtain rfl : k = l.length := by omega
        rw [List.take_length] at hok
        rw [List.take_length]
        have hcs := catT_small l (fun a h => (hok.out a h).2)
        have hra := recs_all l (fun a h => ⟨(hok.out a h).1, by have := (hok.out a h).2; omega⟩)
        have hsm := recall_small l ⟨0, 0⟩ [] (fun a h => (hok.out a h).2) (fun x h => by simp at h)
        generalize catT l = bb at *
        go_wp2_with fail
        refine (recall_call A l c F _ (HS.out.keep (kk.at F (by simp))) (fun i hi => Nat.lt_of_lt_of_le (HF.out i hi) kk.size) (by omega)).mono ?_
        have HR := fun w' (kq : Keep [] w w') => rrecall_call A l c F w' (HS.out.keep (kq.at F (by simp))) (fun i hi => Nat.lt_of_lt_of_le (HF.out i hi) kq.size) (by omega)
        generalize hrf : recallF l ⟨0, 0⟩ [] = rf at *
        obtain ⟨s, xs⟩ := rf
        dsimp only at *
        replace HR := Lib.hid HR
        replace hra := Lib.hid hra
        replace hrf := Lib.hid hrf
        rintro e w3 ⟨v3, rfl, lo, hlo, ho3, k3, -⟩
        obtain ⟨A3, c3, rfl, -⟩ := ho3.form
        have hxl : xs.length ≤ 1000000 := by have := hsm.2; simp at this; omega
        have s3 := (ho3.slice (by unfold M47; omega)).mono (G := fun k => k < w3.heap.size) (fun k _ h => h)
        replace hsm := Lib.hid hsm.1
        replace s3 := Lib.hid s3
        have kk3 := kk.trans k3
        clear ho3 kk k3
        go_upto_region 11 with (first | ((with_reducible refine wl_alloc 23 ?_ ?_); (with_reducible rfl); refine sx_alloc rfl 23 rfl _ 2 zSt zSt_info rfl ?_; intro w4 bw4 kw4 zw4; clear zw4; (try simp only [Act.put, List.setIfInBounds_toArray, List.set_cons_zero, List.set_cons_succ])) | ((with_reducible refine wl_store 23 (.tmp 5) (.tmp 48) ?_ ?_); (with_reducible rfl); refine sx_storeW rfl 23 (.tmp 5) (.tmp 48) rfl w3.heap.size (stV s) zSt _ 2 rfl rfl bw4 zSt_size rfl rfl rfl ?_; intro w5 bw5 kw5 zw5; clear zw5; (try simp only [Act.put, List.setIfInBounds_toArray, List.set_cons_zero, List.set_cons_succ])))
        have k35 := kw4.new kw5 (S := []) (fun i hi => .inr (by simp at hi; omega))
        have b5 := Lib.hid bw5
        have s5 := Lib.hid (s3.out.keep (k35.at _ (by simp)))
        have kk5 := kk3.trans k35
        have z5 := k35.size
        clear bw4 bw5 kw4 kw5 s3 kk3 k35
        go_wp2_with fail
        refine (HR.out _ kk5).mono ?_
        rintro e w6 ⟨v6, rfl, G6, s6, hG6, k6⟩
        obtain ⟨A6, c6, rfl, -⟩ := s6.form
        replace s6 := Lib.hid s6
        replace hG6 := Lib.hid hG6
        go_upto_region 12 with (first | ((with_reducible refine wl_alloc 23 ?_ ?_); (with_reducible rfl); refine sx_alloc rfl 23 rfl _ 2 zSt zSt_info rfl ?_; intro w7 bw7 kw7 zw7; clear zw7; (try simp only [Act.put, List.setIfInBounds_toArray, List.set_cons_zero, List.set_cons_succ])) | ((with_reducible refine wl_store 23 (.tmp 7) (.tmp 53) ?_ ?_); (with_reducible rfl); refine sx_storeW rfl 23 (.tmp 7) (.tmp 53) rfl w6.heap.size (stV s) zSt _ 2 rfl rfl bw7 zSt_size rfl rfl rfl ?_; intro w8 bw8 kw8 zw8; clear zw8; (try simp only [Act.put, List.setIfInBounds_toArray, List.set_cons_zero, List.set_cons_succ])))
        have k68 := kw7.new kw8 (S := []) (fun i hi => .inr (by simp at hi; omega))
        have k58 := k6.trans k68
        have z8 := k68.size
        have b8 := Lib.hid bw8
        have b58 := Lib.hid (b5.out.keep k58 (by simp))
        have s58 := Lib.hid (s5.out.keep (k58.at _ (by simp)))
        have s68 := Lib.hid (s6.out.keep (k68.at _ (by simp)))
        have kk8 := kk5.trans k58
        have g5l := b58.out.lt
        have g8l := b8.out.lt
        have z6 := k6.size
        have z3 := s5.out
        clear z3 bw7 bw8 kw7 kw8 s5 s6 b5 kk5 k68 k58 k6
        go_wp2_with fail
        refine (of_call bb _).mono ?_
        rintro e w9 ⟨p, rfl, hp, h9, k9⟩
        go_wp2_with fail
        refine (open_call p _ _ h9 rfl (by show bb.size ≤ _; omega) (by show bb.size ≤ _; omega)).mono ?_
        dsimp only
        rw [hra.out, hrf.out]
        dsimp only
        rintro e w10 ⟨m, rfl, hm, -, k10, v10, G10, st10, x10, lt10, -⟩
        have k80 : Keep [p] w8 w10 := (k9.mono (by simp)).trans k10
        have b5x := b58.out.keep k80 (by simp; omega)
        have b8x := b8.out.keep k80 (by simp; omega)
        have a0 : w10.cell? ⟨w3.heap.size, 0, none⟩ = some (.int .i64 s.v) := b5x.cell 0
        have a1 : w10.cell? ⟨w3.heap.size, 1, none⟩ = some (.int .i64 s.l) := b5x.cell 1
        have d0 : w10.cell? ⟨w6.heap.size, 0, none⟩ = some (.int .i64 s.v) := b8x.cell 0
        have d1 : w10.cell? ⟨w6.heap.size, 1, none⟩ = some (.int .i64 s.l) := b8x.cell 1
        have sA := (s58.out.mono (G := fun k => k < w8.heap.size) (fun k _ hl => hl)).keep (k80.at _ (fun i hi hf => by simp at hi; have h : i < w8.heap.size := hf; omega))
        have sB := (s68.out.mono (G := fun k => k < w8.heap.size) (fun k _ hl => hl)).keep (k80.at _ (fun i hi hf => by simp at hi; have h : i < w8.heap.size := hf; omega))
        have sX := x10.1.slice (by unfold M47; omega)
        have kkx : Keep [] w w10 := kk8.new k80 (fun i hi => .inr (by have := kk8.size; simp at hi; omega))
        have hsm6 : ∀ x ∈ xs, (blockF x).size ≤ 1000000 := fun x hx => by have := hsm.out x hx; omega
        have hS1 := Lib.hid (fun w' (kq : Keep [] w10 w') => sameB_call A3 A6 xs c3 c6 _ _ w' (sA.keep (kq.at _ (by simp))) (sB.keep (kq.at _ (by simp))) hsm6 hxl)
        have hSt : Hid (∀ w', Keep [] w10 w' → Calls Try.prog 20 #[.pointer (some ⟨m, 0, none⟩)] w' fun e w'' => e = .returned (.agg #[.int .i64 s.v, .int .i64 s.l]) ∧ Keep [] w' w'') := Lib.hid (fun w' (kq : Keep [] w10 w') => state_call m p s v10 w' (Blk.keep st10 kq (by simp)))
        have hBl := Lib.hid (fun w' (kq : Keep [] w10 w') => blocks_call m p s v10 xs _ w' (Blk.keep st10 kq (by simp)) (sX.keep (kq.at _ (by simp))) (fun k hk => by have h1 := kq.size; have h2 := (lt10 k hk.symm).2.1; omega) hxl)
        have hS2 := Lib.hid (fun w' (kq : Keep [] w10 w') B cap H (h : SliceOf Rep.bk w' H (.slice B xs.length cap) xs) => sameB_call B A6 xs cap c6 _ _ w' h (sB.keep (kq.at _ (by simp))) hsm6 hxl)
        clear sA sB sX st10 x10 lt10 b5x b8x k80 k10 k9 h9 kk8 b8 b58 s58 s68 hG6 HR hsm6
        go_wp2_with fail
        go_region_law (go_simp; first
          | (go_at_call 19; (with_reducible refine (hS1.out _ ((Keep.refl _ _).drew)).mono ?_); rintro e w11 ⟨rfl, k11⟩; have k11 : Keep [] w10 w11 := Keep.trans ((Keep.refl _ _).drew) k11; have e0 := k11.cell (by simp) d0; have e1 := k11.cell (by simp) d1)
          | (go_at_call 20; (with_reducible refine (hSt.out w11 k11).mono ?_); rintro e w12 ⟨rfl, k12⟩; have k12 := k11.trans k12; have f0 := k12.cell (by simp) d0; have f1 := k12.cell (by simp) d1)
          | (go_at_call 21; (with_reducible refine (hBl.out w12 k12).mono ?_); rintro e w13 ⟨B13, cap13, rfl, s13, k13⟩; have k13 := k12.trans k13; replace s13 := Lib.hid s13)
          | (go_at_call 19; (with_reducible refine (hS2.out w13 k13 B13 cap13 _ s13.out).mono ?_); rintro e w14 ⟨rfl, k14⟩; have k14 := k13.trans k14))
        all_goals
          go_wp2
          go_ret
          exact ⟨rfl, kkx.trans k14⟩
end Go.Proofs.Ytdhhibppcckbkaa
namespace Go.Proofs.Ytdhhibppcckbkaa.storeRecalls
open Go.ChangeShapes Go.WideShapes Go.ChangeAt Go.RowKit
open Go.ChangeMaps (open_string shut_string)
set_option linter.unusedVariables false
set_option linter.unusedSimpArgs false
theorem own : ownKnob Try.prog.godebug = none := by kernel_rfl
theorem laidOut : laidOutB Try.prog = true := by kernel_rfl
set_option maxRecDepth 100000 in
theorem lifted (os : Os) (started : os.Started) (H : Type) (enc : TypeId × Value → H) :
    ReturnsInHanded {} Try.checked os 4 .any (Rows.storeRecallsSpec.pre6 enc Try.prog Try.f4 Rows.storeRecallsRow.domain false) (Rows.storeRecallsSpec.post enc Try.prog Try.f4 false true false false) := by
  refine returnsInHanded_of_change_sized (C := Try.checked) own started (by kernel_rfl) Try.func4
    (ChangeSpec.witness6 (enc := enc) (C := Try.checked) false ⟨#[], #[.slice none 0 0], []⟩ 8 (by kernel_rfl) (by kernel_rfl) (by kernel_rfl) (by kernel_rfl)) ?_
  intro W base args ds gs before hval0 hW hcnd hsz0 _
  have hsz : (DataW.weightsEach Try.prog (Try.f4.params.toList ++ Rows.storeRecallsSpec.plain.varTypes Try.prog) (ds ++ gs)).all (· ≤ reachBytes) = true := hsz0
  have hval : ∀ (j : Nat) t v, Try.f4.params[j]? = some t → args[j]? = some v → Value.okWide Try.prog W .any base t v := hval0
  have hW' := hW
  obtain ⟨p, q, hA0, hV, rfl, hfz, hnd⟩ := hW
  have hA : DataW.TrodAll enc Try.prog W 0 (fun _ => true) true Try.f4.params.toList args.toList ds p := hA0
  rw [Try.params4] at hA hval hsz
  obtain ⟨v0, vs0, d0, ds0, p0, q0, hargs, rfl, rfl, h0, r0⟩ := trodAll_cons hA
  obtain ⟨rfl, rfl, rfl⟩ := trodAll_nil r0
  obtain rfl : args = #[v0] := by cases args; simp_all
  obtain ⟨rfl, rfl⟩ := trodVars_none hV
  have k0 := h0
  have lt0 : ∀ x ∈ p0, x.block < W.heap.size := by obtain ⟨m, hm⟩ := k0; exact DataW.trod_lt m _ _ _ hm
  obtain ⟨a0, len0, cap0, rfl⟩ := okWide_slice Try.underlying35 (hval 0 35 v0 rfl rfl)
  obtain ⟨fuel0, hf0⟩ := id h0
  obtain ⟨y0, hr0⟩ := open_strs fuel0 _ _ hf0 (fun n hn => of_decide_eq_true (List.all_eq_true.1 hsz n (DataW.weights_mem_each (j := 0) (t := 35) rfl rfl n hn)))
  clear hA0 hval0 hsz0
  obtain ⟨s0, z0, t0⟩ := hr0
  obtain rfl : Value.slice a0 len0 cap0 = s0 := by simpa [Value.cells] using z0
  obtain ⟨A0, m0, x0, l0⟩ := t0.form
  cases x0
  refine (storeRecalls_call a0 y0 cap0 (Inn W) W t0 (fun _ h => h) l0).mono fun e W' ⟨he, kept⟩ => ?_
  subst he
  have bel := kept.below
  exact ⟨_, rfl, _, _, _, [], _, [], hW', trodAll_mk1 (shut_bool Try.underlying4 _), (trodAll_cons_mk (Below.trod laidOut (by kernel_rfl) (of_decide_eq_true (by kernel_rfl)) k0 bel lt0) trodAll_mk0), rfl, bel.frame _, fun h => by cases h⟩
theorem over : Rows.storeRecallsRow.holds Try.pinned (OpenSpec.ofChange Rows.storeRecallsSpec) :=
  OpenClaim.holds_of_wide 4 Try.f4 rfl rfl rfl rfl rfl rfl rfl ⟨rfl, rfl, rfl, rfl, rfl⟩ rfl rfl rfl rfl rfl (by kernel_rfl) Try.func4 (by kernel_rfl)
    (of_decide_eq_true (by kernel_rfl)) (by unfold Func.isWrapper; first | (rw [if_pos (by decide +kernel)]; kernel_rfl) | (rw [if_neg (by decide +kernel)]; exact ⟨rfl, rfl⟩))
    (fun os started H enc _ => lifted os started H enc)
end Go.Proofs.Ytdhhibppcckbkaa.storeRecalls
namespace Go.Proofs.Ytdhhibppcckbkaa
theorem storeRecalls_holds : Rows.StoreRecallsSaid := storeRecalls.over
#print axioms storeRecalls_holds
end Go.Proofs.Ytdhhibppcckbkaa
