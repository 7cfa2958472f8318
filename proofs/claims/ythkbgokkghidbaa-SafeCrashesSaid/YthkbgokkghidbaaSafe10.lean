import Derived.Test.YthkbgokkghidbaaSafeThy
import Derived.Test.YthkbgokkghidbaaLawSafe2
namespace Go.Proofs.Ythkbgokkghidbaa
open Go.RowKit Go.Shelf
set_option linter.unusedVariables false
set_option linter.unusedSimpArgs false
/-! run, begins -/
theorem strs_take {w : World} {F : Nat → Prop} {A : Option Addr} {c : Nat} {xs : List ByteArray} (h : SliceOf Rep.str w F (.slice A xs.length c) xs) (m : Nat) (hm : m ≤ xs.length) : SliceOf Rep.str w F (.slice A m c) (xs.take m) := by
  obtain ⟨A', c', e, hl, h⟩ := h
  cases e
  refine ⟨A, c, by simp [hm], by simp; omega, fun hp => ?_⟩
  simp at hp
  obtain ⟨g, o, rfl, hF, hg, h⟩ := h (by omega)
  refine ⟨g, o, rfl, hF, hg, fun i hi => ?_⟩
  simp at hi
  obtain ⟨cs, hr, hc⟩ := h i (by omega)
  exact ⟨cs, by simpa using hr, hc⟩
set_option maxHeartbeats 2000000 in
theorem begins_call (p : Nat) (x : Lg) (A : Option Addr) (all : List ByteArray) (c : Nat) (F : Nat → Prop) (sy m : Nat) (w : World) (hp : LogAt w p x) (hg : x.g = false) (hb : x.b.size ≤ 1000000) (hs : SliceOf Rep.str w F (.slice A all.length c) all)
    (hc : all.length ≤ c) (hr : recs x.b = all.take m) (hm : m ≤ all.length) (hsy : sy ≤ m) (hal : all.length ≤ 1000000) :
    Calls Try.prog 19 #[.pointer (some ⟨p, 0, none⟩), .slice A all.length c, .int .i64 sy] w fun e w' => ∃ B d, e = .returned (.tuple #[.slice B m d, .bool true]) ∧ m ≤ d ∧ SliceOf Rep.str w' (fun k => w.heap.size ≤ k) (.slice B m d) (all.take m) ∧ Keep [] w w' := by
  have hR := Records_call p x w hp hg hb
  rw [hr] at hR
  have hlm : (all.take m).length = m := by simp; omega
  have ht := strs_take hs m hm
  obtain ⟨xs, hxs⟩ : ∃ xs, xs = all.take m := ⟨_, rfl⟩
  rw [← hxs] at hR hlm ht ⊢
  subst hlm
  clear hxs hr
  have hR := Lib.hid hR
  have ht := Lib.hid ht
  have z1 : ¬ ((xs.length : Int) < (sy : Int)) := by omega
  have z2 : ¬ ((all.length : Int) < (xs.length : Int)) := by omega
  have z3 : (sy : Int) ≤ (xs.length : Int) := by omega
  have z4 : (xs.length : Int) ≤ (all.length : Int) := by omega
  have z5 : (xs.length : Int) ≤ (c : Int) := by omega
  have z6 : (0 : Int) ≤ (xs.length : Int) := by omega
  go_enter Try.func19, Try.ntmps19
  have hS4 := fun A4 c4 w4 (o4 : Own Rep.str 9 w4 w.heap.size (.slice A4 xs.length c4) xs) (k4 : Keep [] w w4) => NewS.slice (w0 := w) (w := w4) (A := A4) (m := xs.length) (c := c4) (xs := xs) ⟨o4, k4⟩ (by omega)
  have hS4 := Lib.hid hS4
  go_wp2_with (first
    | (go_at_call 9; with_reducible refine (hR.out).mono ?_; rintro e w4 ⟨v4, rfl, o4, k4⟩; obtain ⟨A4, c4, rfl, -⟩ := o4.form; have m4 := (hS4.out A4 c4 w4 o4 k4).2.1; have s4 := (hS4.out A4 c4 w4 o4 k4).2.2)
    | (go_at_call 11; refine (same_call A4 A xs c4 c _ _ _ s4 (ht.out.keep (k4.at _ (by simp)))).mono ?_; rintro e w5 ⟨rfl, k5⟩)
    | go_in)
  go_ret2
  exact ⟨A4, c4, by simp, m4, s4.keep (k5.at _ (by simp)), k4.trans k5⟩
section
variable {o : Oper} {act : Act} {K : Act → World → Prop} {Q : Exit → Act → World → Prop}
theorem step_app0 (w0 : World) {ops : Array Oper} {E : Prop} (hgd : o.guard = none) (s x : Operand) (ho : o.op = .call { callee := .builtin .append, args := #[s, x], argTypes := #[25, 25] })
    (W : World) (v : Value) (ys : List ByteArray) (F : Nat → Prop) (A : Option Addr) (c : Nat) (hs : act.eval s = v) (hx : act.eval x = .slice A ys.length c)
    (hown : NewS w0 W v []) (hy : SliceOf Rep.str W F (.slice A ys.length c) ys) (hl : ys.length ≤ 1000000)
    (h : ∀ B cap w', NewS w0 w' (.slice B ys.length cap) ys → K (act.put o.dst (.slice B ys.length cap)) w') :
    if Region.wanted o (yielded ops act.tmps) = true then Oper.wp Try.prog o act W K Q else E :=
  step_appS w0 hgd s x ho W v [] ys F A c hs hx hown hy (by simp; omega) (fun B cap w' h' => by
    have h2 : NewS w0 w' (.slice B ys.length cap) ys := by simpa using h'
    simpa using h B cap w' h2)
theorem step_app0k (w0 : World) {ops : Array Oper} {E : Prop} (hgd : o.guard = none) (s x : Operand) (ho : o.op = .call { callee := .builtin .append, args := #[s, x], argTypes := #[25, 25] })
    (W : World) (v : Value) (ys : List ByteArray) (F : Nat → Prop) (A : Option Addr) (c : Nat) (hs : act.eval s = v) (hx : act.eval x = .slice A ys.length c)
    (hown : NewS w0 W v []) (hy : SliceOf Rep.str W F (.slice A ys.length c) ys) (hl : ys.length ≤ 1000000)
    (h : ∀ B cap w', NewS w0 w' (.slice B ys.length cap) ys → (∀ k, k < W.heap.size → ¬ v.ownBlock = some k → w'.heap[k]? = W.heap[k]?) → K (act.put o.dst (.slice B ys.length cap)) w') :
    if Region.wanted o (yielded ops act.tmps) = true then Oper.wp Try.prog o act W K Q else E := by
  have hw : Region.wanted o (yielded ops act.tmps) = true := by simp [Region.wanted, hgd]
  rw [if_pos hw]
  obtain ⟨v', w', r1, r2, r3, r4⟩ := run_appS W w0.heap.size v [] ys F A c o.type hown.1 hy (by simp; omega) hown.2.size
  rw [List.nil_append] at r2
  obtain ⟨B, cap, rfl, -⟩ := r2.form
  unfold Oper.wp execOp
  simp only [ho, resolve, invoke, builtin, Sem.run_bind, Sem.run_pure, Result.andThen_ok, List.map_toArray, List.map_cons, List.map_nil, hs, hx, r1]
  exact h B cap w' ⟨r2, hown.2.grown r3 (fun i hi => .inr (hown.1.lt i hi).1)⟩ (fun k hk he => r3.block k hk (fun e => he e.symm))
theorem step_app1 (w0 : World) {ops : Array Oper} {E : Prop} (hgd : o.guard = none) (s x : Operand) (ho : o.op = .call { callee := .builtin .append, args := #[s, x], argTypes := #[25, 25] })
    (W : World) (v : Value) (xs : List ByteArray) (y : ByteArray) (F : Nat → Prop) (A : Option Addr) (c : Nat) (hs : act.eval s = v) (hx : act.eval x = .slice A 1 c)
    (hown : NewS w0 W v xs) (hy : SliceOf Rep.str W F (.slice A 1 c) [y]) (hl : xs.length ≤ 1000000)
    (h : ∀ B cap w', NewS w0 w' (.slice B (xs.length + 1) cap) (xs ++ [y]) → K (act.put o.dst (.slice B (xs.length + 1) cap)) w') :
    if Region.wanted o (yielded ops act.tmps) = true then Oper.wp Try.prog o act W K Q else E :=
  step_appS w0 hgd s x ho W v xs [y] F A c hs hx hown hy (by simp; omega) h
end
theorem one_slice (w : World) (s : ByteArray) (hs : s.size ≤ M47) : SliceOf Rep.str (w.alloc (.cells #[.string s] 9)) (fun k => w.heap.size ≤ k) (.slice (some ⟨w.heap.size, 0, none⟩) 1 1) [s] :=
  ((newS_one w s hs).slice (by simp)).2.2
set_option maxRecDepth 100000 in
set_option maxHeartbeats 8000000 in
theorem run_call (p : Nat) (x : Lg) (A : Option Addr) (l : List Op9) (c : Nat) (F : Nat → Prop) (B : Option Addr) (hv : List ByteArray) (d : Nat) (G : Nat → Prop) (w : World) (hp : LogAt w p x) (ha : SliceOf Rep.op9 w F (.slice A l.length c) l) (hF : ¬ F p)
    (hh : SliceOf Rep.str w G (.slice B hv.length d) hv) (hrn : Ran hv.length ⟨x, hv, 0⟩) (hl : l.length ≤ 20) (hl2 : hv.length ≤ 100) (hob : ∀ o ∈ l, o.b.size ≤ 4100) (hxb : x.b.size ≤ 200000) (hxs : x.s ≤ x.b.size) :
    Calls Try.prog 17 #[.pointer (some ⟨p, 0, none⟩), .slice A l.length c, .slice B hv.length d] w fun e w' => ∃ B' d' r, e = .returned (.tuple #[.slice B' r.all.length d', .int .i64 (r.s : Nat)]) ∧ r.all.length ≤ d' ∧
      LogAt w' p r.x ∧ SliceOf Rep.str w' (fun k => w.heap.size ≤ k) (.slice B' r.all.length d') r.all ∧ Ran hv.length r ∧ r.all.length ≤ hv.length + 20 ∧ r.x.b.size ≤ x.b.size + 80080 ∧ r.x.s ≤ r.x.b.size ∧ Keep [p] w w' := by
  obtain ⟨_, _, e0, hla⟩ := ha.form
  clear e0
  have plt := Blk.lt hp
  have n0 := newS_none w
  have k0 : Keep [] w (w.alloc (.cells #[] 9)) := (Keep.refl _ _).alloc _
  have hh0 := hh.keep (k0.at G (by simp))
  have HA := Lib.hid ha
  have Q1 := Lib.hid hob
  have HR := Lib.hid hrn
  clear ha hob hrn hh
  go_enter Try.func17, Try.ntmps17
  go_wp2_with (first | (at_builtin; refine wpList_appS w rfl (.tmp 12) (.tmp 13) rfl _ (.slice (some ⟨w.heap.size, 0, none⟩) 0 0) [] hv G B d (by simp [Act.eval, Act.put]) (by simp [Act.eval, Act.put]) n0 hh0 (by simp; omega) ?_; intro B1 d1 w1 n1) | go_in)
  have k1 := n1.2
  have n1s := n1.slice (by simp; omega)
  have q1 := n1s.2.1
  have s1 := n1s.2.2
  simp only [List.length_nil, Nat.zero_add, List.nil_append] at q1 s1
  have h1 := hp.keep k1 (by simp)
  clear n1s n1 hp n0 k0 hh0
  go_loopw [8, 9, 10] (fun v8 v9 i wr => ∃ k r B' d', k ≤ l.length ∧ i = .int .i64 (k : Nat) ∧ v8 = .slice B' r.all.length d' ∧ v9 = .int .i64 (r.s : Nat) ∧ r.all.length ≤ d' ∧ LogAt wr p r.x ∧ SliceOf Rep.str wr (fun k => w.heap.size ≤ k) (.slice B' r.all.length d') r.all ∧
    Hid (Ran hv.length r ∧ r.all.length ≤ hv.length + k ∧ r.x.b.size ≤ x.b.size + 4004 * k ∧ r.x.s ≤ r.x.b.size) ∧ Keep [p] w wr) (fun _ _ i _ => l.length - (intOf i).toNat)
  case atStart => exact ⟨0, ⟨x, hv, 0⟩, B1, d1, Nat.zero_le _, rfl, by simp, rfl, q1, h1, s1, Lib.hid ⟨HR.out, by simp, by simp, hxs⟩, k1.mono (by simp)⟩
  case round =>
    obtain ⟨k, r, B', d', hk, rfl, rfl, rfl, hd, hpr, hsr, hH, kk⟩ := hrel
    rename World => wr
    by_cases hlt : k < l.length
    · have hltz : (k : Int) < (l.length : Int) := by omega
      have hat0 := HA.out.op9_at hlt
      obtain ⟨g, o, rfl, c0, c1, c2, i1, i2, i3⟩ := hat0
      have hgp : F g := by
        obtain ⟨g', o', cs, e1, h1, _⟩ := HA.out.at hlt
        cases e1
        exact h1
      have hgn : ¬ g = p := fun e => hF (e ▸ hgp)
      have hq4 := Q1.out _ (List.getElem_mem hlt)
      have hmv : ∀ w', Keep [p] w w' → w'.cell? ⟨g, o + k * 3, none⟩ = some (.int .u8 l[k].k) ∧ w'.cell? ⟨g, o + k * 3 + 1, none⟩ = some (.string l[k].b) ∧ w'.cell? ⟨g, o + k * 3 + 2, none⟩ = some (.int .i64 l[k].n) :=
        fun w' h => ⟨h.cell (by simpa using hgn) c0, h.cell (by simpa using hgn) c1, h.cell (by simpa using hgn) c2⟩
      generalize l[k] = op at *
      obtain ⟨d0, d1, d2⟩ := hmv _ kk
      obtain ⟨r1, r2, r3, r4⟩ := hH.out
      have t1 := r1.step op i3.2 i1.1
      have t2 := runS_all r op
      have t3 := runS_size r op r4
      have hc := call_call p r.x op wr hpr i1 r1.f i2 (by omega) r4
      have hE : runS r op = if op.k % 5 > 2 then r else ⟨(stepL r.x op).2, if (stepL r.x op).1 = 0 ∧ op.k % 5 = 0 then r.all ++ [op.b] else r.all, if (stepL r.x op).1 = 0 ∧ op.k % 5 = 1 then r.all.length else r.s⟩ := rfl
      have hT : Hid (Ran hv.length (runS r op) ∧ (runS r op).all.length ≤ hv.length + (k + 1) ∧ (runS r op).x.b.size ≤ x.b.size + 4004 * (k + 1) ∧ (runS r op).x.s ≤ (runS r op).x.b.size) := Lib.hid ⟨t1, by omega, by omega, t3.2⟩
      have hal : r.all.length ≤ 120 := by omega
      generalize runS r op = R at *
      generalize stepL r.x op = X at *
      obtain ⟨X1, X2⟩ := X
      obtain ⟨op1, op2, op3⟩ := op
      obtain ⟨rx, all, sy⟩ := r
      dsimp only at *
      have hkb : (op1.tmod 5 = op1 % 5) := by
        obtain ⟨m, rfl⟩ := Int.eq_ofNat_of_zero_le i1.1
        rfl
      have hmv := Lib.hid hmv
      have hc := Lib.hid hc
      have HL := Lib.hid hsr
      have HP := Lib.hid hpr
      have ho2 : op2.size ≤ M47 := i2
      have HO := Lib.hid ho2
      clear hH t1 t2 t3 i1 i2 i3 r1 r2 r3 r4 c0 c1 c2 hsr hpr hgp ho2 hq4
      by_cases e5 : 2 < op1 % 5
      · rw [if_pos e5] at hE
        subst hE
        go_wp2
        go_roundw
        case rel => exact ⟨k + 1, _, B', d', by omega, by go_num, rfl, rfl, hd, HP.out, HL.out, hT, kk⟩
        case measure => simp [intOf]; omega
      · rw [if_neg e5] at hE
        by_cases hX : X1 = 0
        · subst hX
          by_cases hk0 : op1 % 5 = 0
          · have hz : (op1 % 5 == 0) = true := by simp [hk0]
            have hz1 : (op1 % 5 == 1) = false := by simp [hk0]
            rw [if_pos ⟨rfl, hk0⟩, if_neg (by omega)] at hE
            subst hE
            go_wp2_with (go_at_call 14; refine (hc.out).mono ?_; rintro e w5 ⟨rfl, h5, k5⟩; obtain ⟨d0, d1, d2⟩ := hmv.out _ (kk.trans k5))
            go_cut [8] (fun v8 wx => ∃ B2 d2, v8 = .slice B2 (all.length + 1) d2 ∧ all.length + 1 ≤ d2 ∧ LogAt wx p X2 ∧ SliceOf Rep.str wx (fun k => w.heap.size ≤ k) (.slice B2 (all.length + 1) d2) (all ++ [op2]) ∧ Keep [p] w wx)
            case first =>
              have kd : Hid (∀ V, Keep [] w5.drew V → Keep [] w5 V) := Lib.hid (fun V h => ⟨h.os, h.tape, h.output, h.size, h.block⟩)
              have fin : Hid (∀ (V0 w8 : World) (B8 : Option Addr) (d8 : Nat), w5.heap.size ≤ V0.heap.size → Keep [] w5 w8 → NewS V0 w8 (.slice B8 (all.length + 1) d8) (all ++ [op2]) →
                  ∃ B2 d2, Value.slice B8 (all.length + 1) d8 = .slice B2 (all.length + 1) d2 ∧ all.length + 1 ≤ d2 ∧ LogAt w8 p X2 ∧ SliceOf Rep.str w8 (fun k => w.heap.size ≤ k) (.slice B2 (all.length + 1) d2) (all ++ [op2]) ∧ Keep [p] w w8) := Lib.hid (fun V0 w8 B8 d8 hv8 kf n8 => by
                have q8 := n8.slice (by simp; omega)
                have z5 := (kk.trans k5).size
                exact ⟨B8, d8, rfl, q8.2.1, h5.keep kf (by simp), q8.2.2.mono (fun i hi _ => by have hi : V0.heap.size ≤ i := hi; omega), (kk.trans k5).trans (kf.mono (by simp))⟩)
              have sA5 : Hid (∀ V, Keep [] w5 V → SliceOf Rep.str V (fun k => w.heap.size ≤ k) (.slice B' all.length d') all) := Lib.hid (fun V h => (HL.out.keep (k5.at _ (by simp; omega))).keep (h.at _ (by simp)))
              refine wp_region_held_drew (S := fun w' => Keep [] w5 w') (by kernel_rfl) (Keep.refl _ _).drew (fun hH => ?_)
              refine wpAnyH_takeL (i := 1) (v := ?v1) rfl (by kernel_rfl) (by kernel_rfl) (by kernel_rfl) (fun _ _ _ h => h) (by rfl) ?hy1 (by assumption) ?_
              case hy1 => (intro w' hS'; (try dsimp only at hS'); go_split_ands; go_simp; first | done | with_reducible rfl)
              simp only [Act.put, List.setIfInBounds_toArray, List.set_cons_zero, List.set_cons_succ]
              refine wpAnyH_takeL (i := 3) (v := ?v2) rfl (by kernel_rfl) (by kernel_rfl) (by kernel_rfl) (fun _ _ _ h => h) (by rfl) ?hy2 (by assumption) ?_
              case hy2 => (intro w' hS'; (try dsimp only at hS'); go_split_ands; go_simp; first | done | with_reducible rfl)
              simp only [Act.put, List.setIfInBounds_toArray, List.set_cons_zero, List.set_cons_succ]
              refine wpAnyH_takeL (i := 4) (v := ?v3) rfl (by kernel_rfl) (by kernel_rfl) (by kernel_rfl) (fun _ _ _ h => h) (by rfl) ?hy3 (by assumption) ?_
              case hy3 => (intro w' hS'; (try dsimp only at hS'); go_split_ands; go_simp; first | done | with_reducible rfl)
              simp only [Act.put, List.setIfInBounds_toArray, List.set_cons_zero, List.set_cons_succ]
              refine wpAnyH_takeL (i := 5) (v := ?v4) rfl (by kernel_rfl) (by kernel_rfl) (by kernel_rfl) (fun _ _ _ h => h) (by rfl) ?hy4 (by assumption) ?_
              case hy4 => (intro w' hS'; (try dsimp only at hS'); go_split_ands; go_simp; first | done | with_reducible rfl)
              simp only [Act.put, List.setIfInBounds_toArray, List.set_cons_zero, List.set_cons_succ]
              refine wpAnyH_takeL (i := 6) (v := ?v5) rfl (by kernel_rfl) (by kernel_rfl) (by kernel_rfl) (fun _ _ _ h => h) (by rfl) ?hy5 (by assumption) ?_
              case hy5 => (intro w' hS'; (try dsimp only at hS'); go_split_ands; go_simp; first | done | with_reducible rfl)
              simp only [Act.put, List.setIfInBounds_toArray, List.set_cons_zero, List.set_cons_succ]
              refine wpAnyH_takeL (i := 7) (v := ?v6) rfl (by kernel_rfl) (by kernel_rfl) (by kernel_rfl) (fun _ _ _ h => h) (by rfl) ?hy6 (by assumption) ?_
              case hy6 => (intro w' hS'; (try dsimp only at hS'); go_split_ands; have dd := hS'.cell (by simp) d1; go_simp; first | done | with_reducible rfl)
              simp only [Act.put, List.setIfInBounds_toArray, List.set_cons_zero, List.set_cons_succ]
              refine wpAnyH_ready (rs := [0, 8]) (by kernel_rfl) (by simp) ?_
              refine allReadyL rfl (fun K hK => ?_) (allReadyL rfl (fun K hK => ?_) AllReadyH.nil)
              · go_simp
                have n1 : NewS w5.drew (w5.alloc (.cells #[] 9)).drew (.slice (some ⟨w5.heap.size, 0, none⟩) 0 0) [] := newS_none w5.drew
                have n1V : w5.heap.size < (w5.alloc (.cells #[] 9)).drew.heap.size := by simp
                generalize (w5.alloc (.cells #[] 9)).drew = V at *
                refine hK.out _ _ (kd.out _ n1.2) (fun hHeld => ?_)
                try simp only [Act.put, List.setIfInBounds_toArray, List.set_cons_zero, List.set_cons_succ]
                clear hK K
                have sA := sA5.out V (kd.out _ n1.2)
                refine wpAnyH_ready (rs := [2, 8]) (by kernel_rfl) (by simp) ?_
                refine allReadyL rfl (fun K hK => ?_) (allReadyL rfl (fun K hK => ?_) AllReadyH.nil)
                · refine step_app0 w5.drew rfl (.tmp 45) (.tmp 46) rfl V _ all _ B' d' (by simp [Act.eval, Act.put]) (by simp [Act.eval, Act.put]) n1 sA (by omega) (fun B3 d3 w6 n6 => ?_)
                  refine hK.out _ _ (kd.out _ n6.2) (fun hHeld => ?_)
                  try simp only [Act.put, List.setIfInBounds_toArray, List.set_cons_zero, List.set_cons_succ]
                  clear hK K
                  refine wpAnyH_ready (rs := [8]) (by kernel_rfl) (by simp) ?_
                  refine allReadyL rfl (fun K hK => ?_) AllReadyH.nil
                  go_simp
                  have o7 := one_slice w6 op2 HO.out
                  have n7 := n6.alloc (.cells #[.string op2] 9)
                  generalize w6.alloc (.cells #[.string op2] 9) = w7 at *
                  refine hK.out _ _ (kd.out _ n7.2) (fun hHeld => ?_)
                  try simp only [Act.put, List.setIfInBounds_toArray, List.set_cons_zero, List.set_cons_succ]
                  clear hK K
                  refine wpAnyH_ready (rs := [9]) (by kernel_rfl) (by simp) ?_
                  refine allReadyL rfl (fun K hK => ?_) AllReadyH.nil
                  refine step_app1 w5.drew rfl (.tmp 47) (.tmp 53) rfl w7 _ all op2 _ _ 1 (by simp [Act.eval, Act.put]) (by simp [Act.eval, Act.put]) n7 o7 (by omega) (fun B8 d8 w8 n8 => ?_)
                  have kf := kd.out _ n8.2
                  refine hK.out _ _ kf (fun hHeld => ?_)
                  try simp only [Act.put, List.setIfInBounds_toArray, List.set_cons_zero, List.set_cons_succ]
                  clear hK K
                  refine wpAnyH_takeL (i := 10) (v := ?v7) rfl (by kernel_rfl) (by kernel_rfl) (by kernel_rfl) (fun _ _ _ h => h) (by rfl) ?hy7 (by assumption) ?_
                  case hy7 => (intro w' hS'; (try dsimp only at hS'); go_split_ands; go_simp; first | done | with_reducible rfl)
                  simp only [Act.put, List.setIfInBounds_toArray, List.set_cons_zero, List.set_cons_succ]
                  refine wpAnyH_done (by kernel_rfl) ?_ _
                  go_wp2
                  go_meet
                  exact fin.out w5.drew w8 B8 d8 (Nat.le_refl _) kf n8
                · go_simp
                  have hV6 : w5.heap.size < V.heap.size := n1V
                  have o6 := one_slice V op2 HO.out
                  have n6 := n1.alloc (.cells #[.string op2] 9)
                  have sA6 := sA.keep (((Keep.refl [] V).alloc (.cells #[.string op2] 9)).at _ (by simp))
                  generalize V.alloc (.cells #[.string op2] 9) = w6 at *
                  refine hK.out _ _ (kd.out _ n6.2) (fun hHeld => ?_)
                  try simp only [Act.put, List.setIfInBounds_toArray, List.set_cons_zero, List.set_cons_succ]
                  clear hK K
                  refine wpAnyH_ready (rs := [2]) (by kernel_rfl) (by simp) ?_
                  refine allReadyL rfl (fun K hK => ?_) AllReadyH.nil
                  refine step_app0k w5.drew rfl (.tmp 45) (.tmp 46) rfl w6 _ all _ B' d' (by simp [Act.eval, Act.put]) (by simp [Act.eval, Act.put]) n6 sA6 (by omega) (fun B7 d7 w7 n7 g7 => ?_)
                  have o7 := o6.keep (fun i (hi : V.heap.size ≤ i) hlt => g7 i hlt (fun he => by have hVV := hV6; simp [Value.ownBlock] at he; omega))
                  refine hK.out _ _ (kd.out _ n7.2) (fun hHeld => ?_)
                  try simp only [Act.put, List.setIfInBounds_toArray, List.set_cons_zero, List.set_cons_succ]
                  clear hK K
                  refine wpAnyH_ready (rs := [9]) (by kernel_rfl) (by simp) ?_
                  refine allReadyL rfl (fun K hK => ?_) AllReadyH.nil
                  refine step_app1 w5.drew rfl (.tmp 47) (.tmp 53) rfl w7 _ all op2 _ _ 1 (by simp [Act.eval, Act.put]) (by simp [Act.eval, Act.put]) n7 o7 (by omega) (fun B8 d8 w8 n8 => ?_)
                  have kf := kd.out _ n8.2
                  refine hK.out _ _ kf (fun hHeld => ?_)
                  try simp only [Act.put, List.setIfInBounds_toArray, List.set_cons_zero, List.set_cons_succ]
                  clear hK K
                  refine wpAnyH_takeL (i := 10) (v := ?v8) rfl (by kernel_rfl) (by kernel_rfl) (by kernel_rfl) (fun _ _ _ h => h) (by rfl) ?hy8 (by assumption) ?_
                  case hy8 => (intro w' hS'; (try dsimp only at hS'); go_split_ands; go_simp; first | done | with_reducible rfl)
                  simp only [Act.put, List.setIfInBounds_toArray, List.set_cons_zero, List.set_cons_succ]
                  refine wpAnyH_done (by kernel_rfl) ?_ _
                  go_wp2
                  go_meet
                  exact fin.out w5.drew w8 B8 d8 (Nat.le_refl _) kf n8
              · go_simp
                have oV : SliceOf Rep.str (w5.alloc (.cells #[.string op2] 9)).drew (fun k => w5.heap.size ≤ k) (.slice (some ⟨w5.heap.size, 0, none⟩) 1 1) [op2] := one_slice w5.drew op2 HO.out
                have hkV : Keep [] w5 (w5.alloc (.cells #[.string op2] 9)).drew := kd.out _ (newS_one w5.drew op2 HO.out).2
                generalize (w5.alloc (.cells #[.string op2] 9)).drew = V at *
                refine hK.out _ _ hkV (fun hHeld => ?_)
                try simp only [Act.put, List.setIfInBounds_toArray, List.set_cons_zero, List.set_cons_succ]
                clear hK K
                refine wpAnyH_ready (rs := [0]) (by kernel_rfl) (by simp) ?_
                refine allReadyL rfl (fun K hK => ?_) AllReadyH.nil
                go_simp
                have n6 := newS_none V
                have o6 := oV.keep (n6.2.at _ (by simp))
                have sA6 := sA5.out _ (hkV.trans n6.2)
                generalize V.alloc (.cells #[] 9) = w6 at *
                refine hK.out _ _ (hkV.trans n6.2) (fun hHeld => ?_)
                try simp only [Act.put, List.setIfInBounds_toArray, List.set_cons_zero, List.set_cons_succ]
                clear hK K
                refine wpAnyH_ready (rs := [2]) (by kernel_rfl) (by simp) ?_
                refine allReadyL rfl (fun K hK => ?_) AllReadyH.nil
                refine step_app0 V rfl (.tmp 45) (.tmp 46) rfl w6 _ all _ B' d' (by simp [Act.eval, Act.put]) (by simp [Act.eval, Act.put]) n6 sA6 (by omega) (fun B7 d7 w7 n7 => ?_)
                have o7 := oV.keep (n7.2.at _ (by simp))
                refine hK.out _ _ (hkV.trans n7.2) (fun hHeld => ?_)
                try simp only [Act.put, List.setIfInBounds_toArray, List.set_cons_zero, List.set_cons_succ]
                clear hK K
                refine wpAnyH_ready (rs := [9]) (by kernel_rfl) (by simp) ?_
                refine allReadyL rfl (fun K hK => ?_) AllReadyH.nil
                refine step_app1 V rfl (.tmp 47) (.tmp 53) rfl w7 _ all op2 _ _ 1 (by simp [Act.eval, Act.put]) (by simp [Act.eval, Act.put]) n7 o7 (by omega) (fun B8 d8 w8 n8 => ?_)
                have kf := hkV.trans n8.2
                refine hK.out _ _ kf (fun hHeld => ?_)
                try simp only [Act.put, List.setIfInBounds_toArray, List.set_cons_zero, List.set_cons_succ]
                clear hK K
                refine wpAnyH_takeL (i := 10) (v := ?v9) rfl (by kernel_rfl) (by kernel_rfl) (by kernel_rfl) (fun _ _ _ h => h) (by rfl) ?hy9 (by assumption) ?_
                case hy9 => (intro w' hS'; (try dsimp only at hS'); go_split_ands; go_simp; first | done | with_reducible rfl)
                simp only [Act.put, List.setIfInBounds_toArray, List.set_cons_zero, List.set_cons_succ]
                refine wpAnyH_done (by kernel_rfl) ?_ _
                go_wp2
                go_meet
                exact fin.out V w8 B8 d8 hkV.size kf n8
            case rest =>
              obtain ⟨B2, d2, rfl, hd2, h6, s6, k6⟩ := hcut
              go_wp2
              go_roundw
              case rel => exact ⟨k + 1, _, B2, d2, by omega, by go_num, by simp, rfl, by simpa using hd2, h6, by simpa using s6, hT, k6⟩
              case measure => simp [intOf]; omega
          · by_cases hk1 : op1 % 5 = 1
            · have hz : (op1 % 5 == 0) = false := by simp [hk0]
              have hz1 : (op1 % 5 == 1) = true := by simp [hk1]
              rw [if_neg (by omega), if_pos ⟨rfl, hk1⟩] at hE
              subst hE
              go_wp2_with (go_at_call 14; refine (hc.out).mono ?_; rintro e w5 ⟨rfl, h5, k5⟩; obtain ⟨d0, d1, d2⟩ := hmv.out _ (kk.trans k5))
              go_roundw
              case rel => exact ⟨k + 1, _, B', d', by omega, by go_num, rfl, rfl, hd, h5, HL.out.keep (k5.at _ (by simp; omega)), hT, kk.trans k5⟩
              case measure => simp [intOf]; omega
            · have hz : (op1 % 5 == 0) = false := by simp [hk0]
              have hz1 : (op1 % 5 == 1) = false := by simp [hk1]
              rw [if_neg (by omega), if_neg (by omega)] at hE
              subst hE
              go_wp2_with (go_at_call 14; refine (hc.out).mono ?_; rintro e w5 ⟨rfl, h5, k5⟩; obtain ⟨d0, d1, d2⟩ := hmv.out _ (kk.trans k5))
              go_roundw
              case rel => exact ⟨k + 1, _, B', d', by omega, by go_num, rfl, rfl, hd, h5, HL.out.keep (k5.at _ (by simp; omega)), hT, kk.trans k5⟩
              case measure => simp [intOf]; omega
        · have hx0 : (X1 == 0) = false := by simp [hX]
          rw [if_neg (by omega), if_neg (by omega)] at hE
          subst hE
          go_wp2_with (go_at_call 14; refine (hc.out).mono ?_; rintro e w5 ⟨rfl, h5, k5⟩; obtain ⟨d0, d1, d2⟩ := hmv.out _ (kk.trans k5))
          go_roundw
          case rel => exact ⟨k + 1, _, B', d', by omega, by go_num, rfl, rfl, hd, h5, HL.out.keep (k5.at _ (by simp; omega)), hT, kk.trans k5⟩
          case measure => simp [intOf]; omega
    · have hltz : ¬ (k : Int) < (l.length : Int) := by omega
      obtain rfl : k = l.length := by omega
      go_wp2
      go_ret2
      obtain ⟨r1, r2, r3, r4⟩ := hH.out
      exact ⟨B', d', r, rfl, hd, hpr, hsr, r1, by omega, by omega, r4, kk⟩
/-- the power goes, and what is read then -/
theorem half (p : Nat) (r : Rn) (c : Nat) (keep : Int) (B : Option Addr) (d : Nat) (w : World) (hp : LogAt w p r.x) (R : Ran c r) (ha : r.all.length ≤ 1000) (hd : r.all.length ≤ d) (hb : r.x.b.size ≤ 500000) (hz : r.x.s ≤ r.x.b.size) :
    ∃ (x1 : Lg) (xs : List ByteArray), (∀ a ∈ xs, okR a) ∧ max r.s c ≤ xs.length ∧ xs.length ≤ r.all.length ∧ (cat xs).size ≤ r.x.b.size ∧
      Calls Try.prog 18 #[.pointer (some ⟨p, 0, none⟩), .int .i64 keep] w (fun e w' => e = .returned (.tuple #[]) ∧ LogAt w' p x1 ∧ Keep [p] w w') ∧
      (∀ (w' : World) (G : Nat → Prop) (sy : Nat), sy ≤ xs.length → LogAt w' p x1 → SliceOf Rep.str w' G (.slice B r.all.length d) r.all →
        Calls Try.prog 19 #[.pointer (some ⟨p, 0, none⟩), .slice B r.all.length d, .int .i64 sy] w' fun e w'' => ∃ B' d', e = .returned (.tuple #[.slice B' xs.length d', .bool true]) ∧ xs.length ≤ d' ∧ SliceOf Rep.str w'' (fun k => w'.heap.size ≤ k) (.slice B' xs.length d') xs ∧ Keep [] w' w'') ∧
      (∀ (w' : World), LogAt w' p x1 → Calls Try.prog 10 #[.pointer (some ⟨p, 0, none⟩)] w' fun e w'' => e = .returned (.int .i64 0) ∧ LogAt w'' p ⟨cat xs, (cat xs).size, -1, false⟩ ∧ Keep [p] w' w'') := by
  obtain ⟨m, m1, m2, m3, m4, m5, m6, m7, m8, m9⟩ := torn R keep
  have hC := crash_call p r.x keep w hp (by omega) hz
  generalize crashF r.x keep = x1 at *
  have hlm : (r.all.take m).length = m := by simp; omega
  have hle : (cat (r.all.take m)).size ≤ x1.b.size := by rw [← m9]; exact endR_le _
  refine ⟨x1, r.all.take m, fun a h => R.ok a (List.mem_of_mem_take h), by omega, by omega, by omega, hC, fun w' G sy hsy h hs => ?_, fun w' h => ?_⟩
  · have hB := begins_call p x1 B r.all d G sy m w' h m4 (by omega) hs hd m3 m2 (by omega) (by omega)
    rw [hlm]
    exact hB
  · have hX := Cut_call p x1 w' h m4 (by omega) (by omega)
    rw [m8, m9, m6, m7, Nat.min_eq_right hle] at hX
    exact hX
end Go.Proofs.Ythkbgokkghidbaa
