import Derived.Test.YtaiemagmkfjklaaPool11
import Derived.Deep.DeepCutAuto
import Derived.Deep.CutBlock
namespace Go.Proofs.Ytaiemagmkfjklaa
open Go.RowKit Go.Shelf
set_option linter.unusedVariables false
set_option linter.unusedSimpArgs false
/-! the reference's pool -/
structure Op12 where
  k : Int
  r : Req
  l : List Req
def Rep.op : Rep Op12 where
  sz := 5
  R := fun w F x cs => ∃ v, cs = [.int .u8 x.k, .int .i64 x.r.c, .int .i64 x.r.s, .string x.r.b, v] ∧ (0 ≤ x.k ∧ x.k ≤ 255) ∧ ReqOk x.r ∧ SliceOf Rep.req w F v x.l
  len := by rintro _ _ _ _ ⟨_, rfl, _⟩; rfl
  keep := fun ⟨v, h, h1, h2, h3⟩ k => ⟨v, h, h1, h2, h3.keep k⟩
  mono := fun ⟨v, h, h1, h2, h3⟩ k => ⟨v, h, h1, h2, h3.mono k⟩
theorem SliceOf.op_at {w : World} {F : Nat → Prop} {A : Option Addr} {n c : Nat} {xs : List Op12} (h : SliceOf Rep.op w F (.slice A n c) xs) {i : Nat} (hi : i < xs.length) :
    ∃ g o B d, A = some ⟨g, o, none⟩ ∧ w.cell? ⟨g, o + i * 5, none⟩ = some (.int .u8 xs[i].k) ∧ w.cell? ⟨g, o + i * 5 + 1, none⟩ = some (.int .i64 xs[i].r.c) ∧ w.cell? ⟨g, o + i * 5 + 2, none⟩ = some (.int .i64 xs[i].r.s) ∧ w.cell? ⟨g, o + i * 5 + 3, none⟩ = some (.string xs[i].r.b) ∧
      w.cell? ⟨g, o + i * 5 + 4, none⟩ = some (.slice B xs[i].l.length d) ∧ (0 ≤ xs[i].k ∧ xs[i].k ≤ 255) ∧ ReqOk xs[i].r ∧ SliceOf Rep.req w F (.slice B xs[i].l.length d) xs[i].l := by
  obtain ⟨g, o, cs, rfl, _, _, ⟨v, rfl, h1, h2, h3⟩, hc⟩ := h.at hi
  obtain ⟨B, d, rfl, _⟩ := h3.form
  exact ⟨g, o, B, d, rfl, hc 0 _ rfl, hc 1 _ rfl, hc 2 _ rfl, hc 3 _ rfl, hc 4 _ rfl, h1, h2, h3⟩
/-- q is the reference's pool. -/
def RefAt (w : World) (F : Nat → Prop) (q : Nat) (ws dn : List Req) : Prop :=
  ∃ A c B d, Blk w q #[.slice A ws.length c, .slice B dn.length d] 41 ∧ SliceOf Rep.req w (fun k => F k ∧ k ≠ q) (.slice A ws.length c) ws ∧ SliceOf Rep.req w (fun k => F k ∧ k ≠ q) (.slice B dn.length d) dn ∧ F q ∧ ws.length ≤ 1000000 ∧ dn.length ≤ 1000000
theorem RefAt.turn {w w' : World} {F G : Nat → Prop} {q : Nat} {ws dn : List Req} (h : RefAt w F q ws dn) (k : Turn G w w') (hd : ∀ i, i < w.heap.size → F i → ¬ G i) : RefAt w' F q ws dn := by
  obtain ⟨A, c, B, d, h1, h2, h3, h4, h5⟩ := h
  exact ⟨A, c, B, d, (k.block q h1.lt (hd q h1.lt h4)).trans h1, h2.keep fun i hF hi => k.block i hi (hd i hi hF.1), h3.keep fun i hF hi => k.block i hi (hd i hi hF.1), h4, h5⟩
theorem RefAt.mono {w : World} {F G : Nat → Prop} {q : Nat} {ws dn : List Req} (h : RefAt w F q ws dn) (hF : ∀ i, i < w.heap.size → F i → G i) : RefAt w G q ws dn := by
  obtain ⟨A, c, B, d, h1, h2, h3, h4, h5⟩ := h
  exact ⟨A, c, B, d, h1, h2.mono fun i hi hl => ⟨hF i hl hi.1, hi.2⟩, h3.mono fun i hi hl => ⟨hF i hl hi.1, hi.2⟩, hF q h1.lt h4, h5⟩
/-- A row that is new since w0. -/
def NewRow (w0 w : World) (v : Value) (xs : List Req) : Prop := Own Rep.req 24 w 0 v xs ∧ (∀ i, v.ownBlock = some i → w0.heap.size ≤ i) ∧ Keep [] w0 w
section
variable {o : Oper} {act : Act} {K : Act → World → Prop} {Q : Exit → Act → World → Prop}
theorem step_appN (w0 : World) {ops : Array Oper} {E : Prop} (hgd : o.guard = none) (s x : Operand) (ho : o.op = .call { callee := .builtin .append, args := #[s, x], argTypes := #[31, 31] })
    (W : World) (v : Value) (xs ys : List Req) (F : Nat → Prop) (A : Option Addr) (c : Nat) (hs : act.eval s = v) (hx : act.eval x = .slice A ys.length c)
    (hown : NewRow w0 W v xs) (hy : SliceOf Rep.req W F (.slice A ys.length c) ys) (hl : (xs.length + ys.length) * 32 ≤ 140737488355328)
    (h : ∀ B cap w', NewRow w0 w' (.slice B (xs.length + ys.length) cap) (xs ++ ys) → Turn (fun i => v.ownBlock = some i) W w' → K (act.put o.dst (.slice B (xs.length + ys.length) cap)) w') :
    if Region.wanted o (yielded ops act.tmps) = true then Oper.wp Try.prog o act W K Q else E := by
  obtain ⟨h1, h2, h3⟩ := hown
  refine step_appR hgd s x ho W v xs ys F A c hs hx h1 hy hl fun B cap w' a1 a2 a3 => h B cap w' ⟨a1, fun i hi => ?_, h3.grown a2 fun i hi => .inr (h2 i hi)⟩ ⟨a2.os, a2.tape, a2.output, a2.size, fun k hk hn => a2.block k hk fun e => hn e.symm⟩
  rcases a3 with h | h
  · exact h2 i (by rw [← h]; exact hi)
  · rw [h] at hi
    have := h3.size
    simp at hi
    omega
end
theorem newRow_empty (w0 W : World) (g : Nat) (hb : W.heap[g]? = some (.cells #[] 24 (0, 0))) (hg : w0.heap.size ≤ g) (hk : Keep [] w0 W) : NewRow w0 W (.slice (some ⟨g, 0, none⟩) 0 0) [] :=
  ⟨own_empty W g hb, fun i hi => by simp [Value.ownBlock] at hi; omega, hk⟩
theorem NewRow.alloc {w0 w : World} {v : Value} {xs : List Req} (h : NewRow w0 w v xs) (o : Obj) : NewRow w0 (w.alloc o) v xs :=
  ⟨own_same h.1 fun j hj => Below.heap_alloc _ _ _ (h.1.lt j hj).2, h.2.1, h.2.2.alloc o⟩
theorem row_apart {W W1 : World} {e r : Nat} {cs : Array Value} {T : Nat} (t : Turn (fun i => (Value.slice (some ⟨e, 0, none⟩) 0 0).ownBlock = some i) W W1) (hb : Blk W r cs T) (h : e ≠ r) : Blk W1 r cs T :=
  (t.block r hb.lt (by simpa [Value.ownBlock] using h)).trans hb
theorem blk_slice {w : World} {g : Nat} {r : Req} {T : Nat} (h : Blk w g #[.int .i64 r.c, .int .i64 r.s, .string r.b] T) (hr : ReqOk r) : SliceOf Rep.req w (fun k => k = g) (.slice (some ⟨g, 0, none⟩) [r].length 1) [r] := by
  refine ⟨_, _, rfl, by simp [M47], fun _ => ⟨g, 0, rfl, rfl, h.lt, fun i hi => ?_⟩⟩
  have hi0 : i = 0 := by simp at hi; omega
  subst hi0
  refine ⟨_, ⟨rfl, hr.1, hr.2.1, hr.2.2⟩, fun j v hj => ?_⟩
  rw [show 0 + (0 * Rep.req.sz + j) = j by simp]
  exact (h.cell j).trans (by simpa using hj)
/-- What the reference's pool holds behind a call. -/
def refW (ws dn : List Req) (x : Op12) : List Req := if x.k % 2 = 1 then butR x.l ws else addW ws dn x.r
def opD (dn : List Req) (x : Op12) : List Req := if x.k % 2 = 1 then dn ++ x.l else dn
def opE (ws dn : List Req) (x : Op12) : Int := if x.k % 2 = 1 then 0 else addE ws dn x.r
set_option maxHeartbeats 2000000 in
theorem do_call (w : World) (F : Nat → Prop) (q : Nat) (ws dn : List Req) (x : Op12) (L : Option Addr) (lc : Nat) (G : Nat → Prop) (hq : RefAt w F q ws dn) (hk : 0 ≤ x.k ∧ x.k ≤ 255) (hr : ReqOk x.r) (hs : SliceOf Rep.req w G (.slice L x.l.length lc) x.l)
    (hw : ws.length ≤ 12) (hd : dn.length + x.l.length ≤ 1000000) (hF : ∀ i, F i → i < w.heap.size) (hG : ∀ i, G i → i < w.heap.size) (hGF : ∀ i, G i → ¬ F i) :
    Calls Try.prog 15 #[.pointer (some ⟨q, 0, none⟩), .agg #[.int .u8 x.k, .int .i64 x.r.c, .int .i64 x.r.s, .string x.r.b, .slice L x.l.length lc]] w fun e w' =>
      e = .returned (.int .i64 (opE ws dn x)) ∧ RefAt w' (fun k => F k ∨ w.heap.size ≤ k) q (refW ws dn x) (opD dn x) ∧ Turn (fun k => k = q) w w' := by
  obtain ⟨k, ⟨c, s, b⟩, l⟩ := x
  dsimp only at *
  have HQ := Lib.hid hq
  obtain ⟨A, c1, B, d1, hb, sw, sd, fq, -, -⟩ := hq
  have k0 : Keep [] w (w.alloc (.cells #[.int .u8 k, .int .i64 c, .int .i64 s, .string b, .slice L l.length lc] 33)) := (Keep.refl _ _).alloc _
  have b0 := Blk.new w #[.int .u8 k, .int .i64 c, .int .i64 s, .string b, .slice L l.length lc] 33
  have bq := hb.keep k0 (by simp)
  have sw0 := sw.keep (k0.at _ (by simp))
  have sd0 := sd.keep (k0.at _ (by simp))
  have sl0 := hs.keep (k0.at G (by simp))
  have qlt := hb.lt
  clear hb sw sd hs
  obtain ⟨w1, hw1⟩ : ∃ w1, w1 = w.alloc (.cells #[.int .u8 k, .int .i64 c, .int .i64 s, .string b, .slice L l.length lc] 33) := ⟨_, rfl⟩
  have hw1s : w1.heap.size = w.heap.size + 1 := by rw [hw1]; simp
  rw [← hw1] at k0 b0 bq sw0 sd0 sl0
  have hkb : (k.tmod 2 = k % 2) := by
    obtain ⟨m, rfl⟩ := Int.eq_ofNat_of_zero_le hk.1
    rfl
  by_cases hodd : k % 2 = 1
  · go_enter Try.func15, Try.ntmps15
    go_wp2_with fail
    rw [← hw1]
    clear hw1
    have hz1 : w1.heap.size = w.heap.size + 1 := hw1s
    have bqc := bq.two
    have b0c := b0.cell 4
    simp only [List.getElem?_toArray, List.getElem?_cons_zero, List.getElem?_cons_succ] at b0c
    have e1 : NewRow w1 ((w1.alloc (.cells #[] 24)).drew) (.slice (some ⟨w1.heap.size, 0, none⟩) 0 0) [] := newRow_empty w1 _ _ (Blk.new w1 #[] 24) (Nat.le_refl _) (((Keep.refl _ w1).alloc _).drew)
    have mv : ∀ W, Keep [] w1 W → W.cell? ⟨q, 0, none⟩ = some (.slice A ws.length c1) ∧ W.cell? ⟨q, 1, none⟩ = some (.slice B dn.length d1) ∧ W.frozen? ⟨q, 0, none⟩ = false ∧ W.frozen? ⟨q, 1, none⟩ = false ∧ W.cell? ⟨w.heap.size, 4, none⟩ = some (.slice L l.length lc) ∧ SliceOf Rep.req W (fun k => F k ∧ k ≠ q) (.slice A ws.length c1) ws ∧ SliceOf Rep.req W (fun k => F k ∧ k ≠ q) (.slice B dn.length d1) dn ∧ SliceOf Rep.req W G (.slice L l.length lc) l := by
      intro W k
      have bq' := bq.keep k (by simp)
      have b0' := b0.keep k (by simp)
      exact ⟨bq'.two.1, bq'.two.2, bq'.frozen 0, bq'.frozen 1, b0'.cell 4, sw0.keep (k.at _ (by simp)), sd0.keep (k.at _ (by simp)), sl0.keep (k.at G (by simp))⟩
    have a0 : ∀ o, (w1.alloc o).cell? ⟨q, 1, none⟩ = some (.slice B dn.length d1) := fun o => (mv _ ((Keep.refl _ w1).alloc o)).2.1
    have a1 : ∀ o, (w1.alloc o).cell? ⟨w.heap.size, 4, none⟩ = some (.slice L l.length lc) := fun o => (mv _ ((Keep.refl _ w1).alloc o)).2.2.2.2.1
    go_cut [] (fun wx => ∃ B2 p2, Blk wx q #[.slice A ws.length c1, .slice B2 (dn.length + l.length) p2] 41 ∧ SliceOf Rep.req wx (fun k => w.heap.size + 1 ≤ k) (.slice B2 (dn.length + l.length) p2) (dn ++ l) ∧ SliceOf Rep.req wx (fun k => F k ∧ k ≠ q) (.slice A ws.length c1) ws ∧ SliceOf Rep.req wx G (.slice L l.length lc) l ∧ wx.cell? ⟨w.heap.size, 4, none⟩ = some (.slice L l.length lc) ∧ Turn (fun k => k = q) w wx ∧ w.heap.size ≤ wx.heap.size)
    case first =>
     go_region_law (first
      | (refine step_appN w1 rfl (.tmp 10) (.tmp 14) rfl _ (.slice (some ⟨w1.heap.size, 0, none⟩) 0 0) [] dn _ B d1 (by simp [Act.eval, Act.put]) (by simp [Act.eval, Act.put]) (by first | exact e1) (mv _ (((Keep.refl _ w1).alloc _).drew)).2.2.2.2.2.2.1 (by simp; omega) ?_; simp only [List.length_nil, Nat.zero_add, List.nil_append]; intro B1 p1 W1 n1 t1; obtain ⟨_, v1, _, v3, v4, _, _, v7⟩ := mv W1 n1.2.2)
      | (refine step_appN w1 rfl (.tmp 15) (.tmp 17) rfl _ (.slice B1 dn.length p1) dn l G L lc (by simp [Act.eval, Act.put]) (by simp [Act.eval, Act.put]) n1 v7 (by omega) ?_; intro B2 p2 W2 n2 t2; obtain ⟨_, u1, _, u3, u4, u6, _, u7⟩ := mv W2 n2.2.2))
     all_goals
      go_wp2
      go_meet
      obtain ⟨-, -, h3⟩ := own_sliceF (F := fun k => w.heap.size + 1 ≤ k) n2.1 (by simp; omega) (fun i hi => by have := n2.2.1 i hi; show w.heap.size + 1 ≤ i; omega)
      have bq2 := (bq.keep n2.2.2 (by simp)).set 1 (.slice B2 (dn.length + l.length) p2)
      have ks : Keep [q] W2 (W2.setCell ⟨q, 1, none⟩ (.slice B2 (dn.length + l.length) p2)) := (Keep.refl _ _).setCell _ _ (.inl (by simp))
      have k12 := (k0.trans n2.2.2).mono (T := [q]) (by simp)
      have w2s := n2.2.2.size
      refine ⟨B2, p2, by simpa using bq2, h3.keep (ks.at _ (by simp; omega)), u6.keep (ks.at _ (by simp)), u7.keep (ks.at G (by simp; exact fun hg => hGF q hg fq)), ks.cell (by simp; omega) u4, (k12.trans ks).turn (by simp), by simp [World.setCell]; omega⟩
    case rest =>
      obtain ⟨B2, p2, hb2, s2, sw2, sl2, q4, t2, z2⟩ := hcut
      have c2 := hb2.two
      have f0 := hb2.frozen 0
      have hB := fun w3 (k3 : Keep [] wc w3) => refBut_call A ws c1 _ L l lc G w3 (sw2.keep (k3.at _ (by simp))) (sl2.keep (k3.at G (by simp))) (by omega)
      have hbl := butR_le l ws
      go_wp2_with fail
      go_region_law (go_simp; go_at_call 19; refine (hB _ (Keep.refl _ _).drew).mono ?_; rintro e w3 ⟨C3, m3, p3, rfl, ho3, k3, hn3⟩; have hb3 := hb2.keep (w' := w3) (Keep.trans ((Keep.refl _ _).drew) k3) (by simp); have c3 := hb3.two; have f3 := hb3.frozen 0)
      all_goals
        go_wp2
        go_ret
        have k3 : Keep [] wc w3 := Keep.trans ((Keep.refl _ _).drew) k3
        have hn3 : ∀ i, (Value.slice C3 m3 p3).ownBlock = some i → w.heap.size ≤ i := fun i hi => Nat.le_trans z2 (hn3 i hi)
        obtain ⟨rfl, -, h3⟩ := own_sliceF (F := fun k => (F k ∨ w.heap.size ≤ k) ∧ k ≠ q) ho3 (by omega) (fun i hi => ⟨.inr (hn3 i hi), by have := hn3 i hi; omega⟩)
        have ks : Keep [q] w3 (w3.setCell ⟨q, 0, none⟩ (.slice C3 (butR l ws).length p3)) := (Keep.refl _ _).setCell _ _ (.inl (by simp))
        have e1 : refW ws dn ⟨k, ⟨c, s, b⟩, l⟩ = butR l ws := if_pos hodd
        have e2 : opD dn ⟨k, ⟨c, s, b⟩, l⟩ = dn ++ l := if_pos hodd
        have e3 : opE ws dn ⟨k, ⟨c, s, b⟩, l⟩ = 0 := if_pos hodd
        rw [e1, e2, e3]
        refine ⟨rfl, ⟨C3, p3, B2, p2, ?_, h3.keep (ks.at _ (by simp)), ?_, .inl fq, by omega, by simp; omega⟩, ?_⟩
        · rw [List.length_append]; simpa using hb3.set 0 (.slice C3 (butR l ws).length p3)
        · rw [List.length_append]
          exact ((s2.keep (k3.at _ (by simp))).keep (ks.at _ (by simp; omega))).mono (fun i hi _ => ⟨.inr (by have hi : w.heap.size + 1 ≤ i := hi; omega), by have hi : w.heap.size + 1 ≤ i := hi; omega⟩)
        · exact t2.trans ((k3.turn (F := fun k => k = q) (by simp)).trans (ks.turn (by simp)))
  · have e1 : refW ws dn ⟨k, ⟨c, s, b⟩, l⟩ = addW ws dn ⟨c, s, b⟩ := if_neg hodd
    have e2 : opD dn ⟨k, ⟨c, s, b⟩, l⟩ = dn := if_neg hodd
    have e3 : opE ws dn ⟨k, ⟨c, s, b⟩, l⟩ = addE ws dn ⟨c, s, b⟩ := if_neg hodd
    rw [e1, e2, e3]
    clear e1 e2 e3
    have HE : Hid (addE ws dn ⟨c, s, b⟩ = if rightReq ⟨c, s, b⟩ = false then 1 else if hasR dn c s = true then 9 else if hasR ws c s = true then 6 else if 12 ≤ ws.length then 7 else 0) := Lib.hid rfl
    have HW : Hid (addW ws dn ⟨c, s, b⟩ = if addE ws dn ⟨c, s, b⟩ = 0 then ws ++ [⟨c, s, b⟩] else ws) := Lib.hid rfl
    generalize addE ws dn ⟨c, s, b⟩ = out at *
    generalize addW ws dn ⟨c, s, b⟩ = ws' at *
    have hodd' : (k % 2 == 1) = false := by simp [hodd]
    have hcall := fun w' => rightRef_call ⟨c, s, b⟩ w'
    dsimp only at hcall
    have HSM : Hid (∀ w', Keep [] w1 w' → RefAt w' (fun k => F k ∨ w.heap.size ≤ k) q ws dn ∧ Turn (fun k => k = q) w w') := Lib.hid fun w' k' =>
      ⟨(HQ.out.turn ((k0.trans k').turn (F := fun _ => False) (by simp)) (by simp)).mono (fun i _ h => .inl h), (k0.trans k').turn (by simp)⟩
    have bx1 := b0.cell 1
    have bx2 := b0.cell 2
    have bx3 := b0.cell 3
    simp only [List.getElem?_toArray, List.getElem?_cons_zero, List.getElem?_cons_succ] at bx1 bx2 bx3
    have bqc := bq.two
    cases hright : rightReq ⟨c, s, b⟩ with
    | false =>
      rw [hright] at hcall
      have he : out = 1 := by rw [HE.out, hright]; rfl
      have hw' : ws' = ws := by rw [HW.out, he]; rfl
      subst he hw'
      go_enter Try.func15, Try.ntmps15
      go_wp2_with (go_at_call 27; refine (hcall _).mono ?_; rintro e w2 ⟨rfl, k1⟩)
      rw [← hw1] at k1
      go_ret
      exact ⟨rfl, HSM.out _ k1⟩
    | true =>
      rw [hright] at hcall
      have he1 : out = if hasR dn c s = true then 9 else if hasR ws c s = true then 6 else if 12 ≤ ws.length then 7 else 0 := by rw [HE.out, hright]; rfl
      clear HE
      have HE := Lib.hid he1
      clear he1
      go_enter Try.func15, Try.ntmps15
      go_wp2_with (go_at_call 27; refine (hcall _).mono ?_; rintro e w2 ⟨rfl, k1⟩)
      rw [← hw1] at k1
      clear hw1
      have hz1 : w1.heap.size = w.heap.size + 1 := hw1s
      have hD := fun w3 (k3 : Keep [] w1 w3) => refHas_call B dn d1 _ ⟨c, s, b⟩ w3 (sd0.keep (k3.at _ (by simp)))
      have hW := fun w3 (k3 : Keep [] w1 w3) => refHas_call A ws c1 _ ⟨c, s, b⟩ w3 (sw0.keep (k3.at _ (by simp)))
      dsimp only at hD hW
      refine wp_region_class (C := fun w' => Keep [] w1 w' ∧ w'.cell? ⟨w.heap.size, 1, none⟩ = some (.int .i64 c) ∧ w'.cell? ⟨w.heap.size, 2, none⟩ = some (.int .i64 s) ∧ w'.cell? ⟨w.heap.size, 3, none⟩ = some (.string b) ∧ w'.cell? ⟨q, 0, none⟩ = some (.slice A ws.length c1) ∧ w'.cell? ⟨q, 1, none⟩ = some (.slice B dn.length d1)) (by kernel_rfl) (by kernel_rfl) ⟨k1.drew, k1.cell (by simp) bx1, k1.cell (by simp) bx2, k1.cell (by simp) bx3, k1.cell (by simp) bqc.1, k1.cell (by simp) bqc.2⟩ ?_
      iterate 7 (first
        | go_big_quiet_skip
        | (go_big_quiet_want; first
          | (go_big_quiet_op; go_big_quiet_on)
          | (refine quiet_run (v := ?_) ?_ ?_; (rotate_left; (intro w' hC; (try dsimp only at hC); go_split_ands; go_simp; with_reducible rfl); simp only [Act.put, List.setIfInBounds_toArray, List.set_cons_zero, List.set_cons_succ]; go_big_quiet_on))
          | (refine quiet_call (v := ?_) (f := ?_) (args := ?_) ?_ ?_ ?_; (rotate_left; rotate_left; rotate_left; (intro w' hC; (try dsimp only at hC); go_split_ands; go_simp; (refine ⟨?_, ?_⟩ <;> with_reducible rfl)); (intro w' hC; first | (go_at_call 16; refine (hD _ hC.1).mono ?_; rintro e w8 ⟨rfl, kq⟩; refine ⟨?_, Keep.trans hC.1 kq, kq.cell (by simp) hC.2.1, kq.cell (by simp) hC.2.2.1, kq.cell (by simp) hC.2.2.2.1, kq.cell (by simp) hC.2.2.2.2.1, kq.cell (by simp) hC.2.2.2.2.2⟩; with_reducible rfl)); simp only [Act.put, List.setIfInBounds_toArray, List.set_cons_zero, List.set_cons_succ]; go_big_quiet_on))))
      refine wpQuiet_nil ?_
      intro w3 hC3
      obtain ⟨k13, y1, y2, y3, y4, y5⟩ := hC3
      cases hdone : hasR dn c s with
      | true =>
        have he : out = 9 := by rw [HE.out, hdone]; rfl
        have hw' : ws' = ws := by rw [HW.out, he]; rfl
        subst he hw'
        go_wp2
        go_ret
        exact ⟨rfl, HSM.out _ k13⟩
      | false =>
        have he1 : out = if hasR ws c s = true then 6 else if 12 ≤ ws.length then 7 else 0 := by rw [HE.out, hdone]; rfl
        clear HE
        have HE := Lib.hid he1
        clear he1
        go_wp2_with fail
        refine wp_region_class (C := fun w' => Keep [] w1 w' ∧ w'.cell? ⟨w.heap.size, 1, none⟩ = some (.int .i64 c) ∧ w'.cell? ⟨w.heap.size, 2, none⟩ = some (.int .i64 s) ∧ w'.cell? ⟨w.heap.size, 3, none⟩ = some (.string b) ∧ w'.cell? ⟨q, 0, none⟩ = some (.slice A ws.length c1) ∧ w'.cell? ⟨q, 1, none⟩ = some (.slice B dn.length d1)) (by kernel_rfl) (by kernel_rfl) ⟨k13.drew, y1, y2, y3, y4, y5⟩ ?_
        iterate 7 (first
          | go_big_quiet_skip
          | (go_big_quiet_want; first
            | (go_big_quiet_op; go_big_quiet_on)
            | (refine quiet_run (v := ?_) ?_ ?_; (rotate_left; (intro w' hC; (try dsimp only at hC); go_split_ands; go_simp; with_reducible rfl); simp only [Act.put, List.setIfInBounds_toArray, List.set_cons_zero, List.set_cons_succ]; go_big_quiet_on))
            | (refine quiet_call (v := ?_) (f := ?_) (args := ?_) ?_ ?_ ?_; (rotate_left; rotate_left; rotate_left; (intro w' hC; (try dsimp only at hC); go_split_ands; go_simp; (refine ⟨?_, ?_⟩ <;> with_reducible rfl)); (intro w' hC; first | (go_at_call 16; refine (hW _ hC.1).mono ?_; rintro e w8 ⟨rfl, kq⟩; refine ⟨?_, Keep.trans hC.1 kq, kq.cell (by simp) hC.2.1, kq.cell (by simp) hC.2.2.1, kq.cell (by simp) hC.2.2.2.1, kq.cell (by simp) hC.2.2.2.2.1, kq.cell (by simp) hC.2.2.2.2.2⟩; with_reducible rfl)); simp only [Act.put, List.setIfInBounds_toArray, List.set_cons_zero, List.set_cons_succ]; go_big_quiet_on))))
        refine wpQuiet_nil ?_
        intro w4 hC4
        clear y1 y2 y3 y4 y5
        obtain ⟨k14, y1, y2, y3, y4, y5⟩ := hC4
        cases hwait : hasR ws c s with
        | true =>
          have he : out = 6 := by rw [HE.out, hwait]; rfl
          have hw' : ws' = ws := by rw [HW.out, he]; rfl
          subst he hw'
          go_wp2
          go_ret
          exact ⟨rfl, HSM.out _ k14⟩
        | false =>
          have he1 : out = if 12 ≤ ws.length then 7 else 0 := by rw [HE.out, hwait]; rfl
          clear HE
          by_cases hfull : 12 ≤ ws.length
          · have he : out = 7 := by rw [he1, if_pos hfull]
            have hw' : ws' = ws := by rw [HW.out, he]; rfl
            subst he hw'
            clear he1
            have hfz : ((ws'.length : Int) == 12) = true := by simp; omega
            go_wp2
            go_ret
            exact ⟨rfl, HSM.out _ k14⟩
          · have he : out = 0 := by rw [he1, if_neg hfull]
            have hw' : ws' = ws ++ [⟨c, s, b⟩] := by rw [HW.out, he]; rfl
            subst he hw'
            clear he1
            have hfz : ((ws.length : Int) == 12) = false := beq_eq_false_iff_ne.2 (by omega)
            go_wp2_with fail
            have b4 := bq.keep k14 (by simp)
            obtain ⟨n, hn⟩ : ∃ n, n = w4.heap.size := ⟨_, rfl⟩
            have z4 := k14.size
            have mv : ∀ W, Keep [] w4 W → W.cell? ⟨q, 0, none⟩ = some (.slice A ws.length c1) ∧ W.frozen? ⟨q, 0, none⟩ = false ∧ W.cell? ⟨w.heap.size, 1, none⟩ = some (.int .i64 c) ∧ W.cell? ⟨w.heap.size, 2, none⟩ = some (.int .i64 s) ∧ W.cell? ⟨w.heap.size, 3, none⟩ = some (.string b) ∧ SliceOf Rep.req W (fun k => F k ∧ k ≠ q) (.slice A ws.length c1) ws ∧ SliceOf Rep.req W (fun k => F k ∧ k ≠ q) (.slice B dn.length d1) dn ∧ Blk W q #[.slice A ws.length c1, .slice B dn.length d1] 41 := by
              intro W k
              have bq' := b4.keep k (by simp)
              exact ⟨bq'.two.1, bq'.frozen 0, k.cell (by simp) y1, k.cell (by simp) y2, k.cell (by simp) y3, (sw0.keep (k14.at _ (by simp))).keep (k.at _ (by simp)), (sd0.keep (k14.at _ (by simp))).keep (k.at _ (by simp)), bq'⟩
            have kE1 : Keep [] w4 (w4.alloc (.cells #[] 24)).drew := ((Keep.refl _ w4).alloc _).drew
            have kE2 : Keep [] w4 ((w4.alloc (.cells #[] 24)).alloc (.cells #[.int .i64 c, .int .i64 s, .string b] 24)).drew := (((Keep.refl _ w4).alloc _).alloc _).drew
            have kE3 : Keep [] w4 ((w4.alloc (.cells #[.int .i64 c, .int .i64 s, .string b] 24)).alloc (.cells #[] 24)).drew := (((Keep.refl _ w4).alloc _).alloc _).drew
            have e1 : NewRow w4 (w4.alloc (.cells #[] 24)).drew (.slice (some ⟨w4.heap.size, 0, none⟩) 0 0) [] := newRow_empty w4 _ _ (Blk.new w4 #[] 24) (Nat.le_refl _) kE1
            have e2 : NewRow w4 ((w4.alloc (.cells #[] 24)).alloc (.cells #[.int .i64 c, .int .i64 s, .string b] 24)).drew (.slice (some ⟨w4.heap.size, 0, none⟩) 0 0) [] := newRow_empty w4 _ _ ((Blk.new w4 #[] 24).alloc _) (Nat.le_refl _) kE2
            have e3 : NewRow w4 ((w4.alloc (.cells #[.int .i64 c, .int .i64 s, .string b] 24)).alloc (.cells #[] 24)).drew (.slice (some ⟨w4.heap.size + 1, 0, none⟩) 0 0) [] := newRow_empty w4 _ (w4.heap.size + 1) (by have := Blk.new (w4.alloc (.cells #[.int .i64 c, .int .i64 s, .string b] 24)) #[] 24; rw [World.size_alloc] at this; exact this) (by omega) kE3
            have r2' : Blk ((w4.alloc (.cells #[] 24)).alloc (.cells #[.int .i64 c, .int .i64 s, .string b] 24)).drew (w4.heap.size + 1) #[.int .i64 c, .int .i64 s, .string b] 24 := by
              have := Blk.new (w4.alloc (.cells #[] 24)) #[.int .i64 c, .int .i64 s, .string b] 24; rw [World.size_alloc] at this; exact this
            have r3' : Blk ((w4.alloc (.cells #[.int .i64 c, .int .i64 s, .string b] 24)).alloc (.cells #[] 24)).drew w4.heap.size #[.int .i64 c, .int .i64 s, .string b] 24 := (Blk.new w4 #[.int .i64 c, .int .i64 s, .string b] 24).alloc _
            have R1 := Lib.hid e1
            have R2 := Lib.hid e2
            have R3 := Lib.hid e3
            have S2 := Lib.hid r2'
            have S3 := Lib.hid r3'
            clear e1 e2 e3 r2' r3' hn n
            have a0 : ∀ o, (w4.alloc o).cell? ⟨q, 0, none⟩ = some (.slice A ws.length c1) := fun o => (mv _ ((Keep.refl _ w4).alloc o)).1
            have a1 : ∀ o, (w4.alloc o).cell? ⟨w.heap.size, 1, none⟩ = some (.int .i64 c) := fun o => (mv _ ((Keep.refl _ w4).alloc o)).2.2.1
            have a2 : ∀ o, (w4.alloc o).cell? ⟨w.heap.size, 2, none⟩ = some (.int .i64 s) := fun o => (mv _ ((Keep.refl _ w4).alloc o)).2.2.2.1
            have a3 : ∀ o, (w4.alloc o).cell? ⟨w.heap.size, 3, none⟩ = some (.string b) := fun o => (mv _ ((Keep.refl _ w4).alloc o)).2.2.2.2.1
            have a4 : ∀ o o', ((w4.alloc o).alloc o').cell? ⟨q, 0, none⟩ = some (.slice A ws.length c1) := fun o o' => (mv _ (((Keep.refl _ w4).alloc o).alloc o')).1
            have MV := Lib.hid mv
            clear mv
            go_cut [] (fun wx => ∃ B2 p2, Blk wx q #[.slice B2 (ws.length + 1) p2, .slice B dn.length d1] 41 ∧ SliceOf Rep.req wx (fun k => w.heap.size + 1 ≤ k) (.slice B2 (ws.length + 1) p2) (ws ++ [⟨c, s, b⟩]) ∧ SliceOf Rep.req wx (fun k => F k ∧ k ≠ q) (.slice B dn.length d1) dn ∧ Turn (fun k => k = q) w wx)
            case first =>
             go_region_law (first
              | (refine step_appN w4 rfl (.tmp 56) (.tmp 60) rfl _ (.slice (some ⟨w4.heap.size, 0, none⟩) 0 0) [] ws _ A c1 (by simp [Act.eval, Act.put]) (by simp [Act.eval, Act.put]) (by exact R1.out) (MV.out _ kE1).2.2.2.2.2.1 (by simp; omega) ?_; simp only [List.length_nil, Nat.zero_add, List.nil_append]; intro B1 p1 W1 n1 t1; obtain ⟨v1, v2, v3, v4, v5, _, _, _⟩ := MV.out W1 n1.2.2)
              | (refine step_appN w4 rfl (.tmp 56) (.tmp 60) rfl _ (.slice (some ⟨w4.heap.size, 0, none⟩) 0 0) [] ws _ A c1 (by simp [Act.eval, Act.put]) (by simp [Act.eval, Act.put]) (by exact R2.out) (MV.out _ kE2).2.2.2.2.2.1 (by simp; omega) ?_; simp only [List.length_nil, Nat.zero_add, List.nil_append]; intro B1 p1 W1 n1 t1; obtain ⟨v1, v2, v3, v4, v5, _, _, _⟩ := MV.out W1 n1.2.2; have sr := blk_slice (r := ⟨c, s, b⟩) (row_apart t1 S2.out (by omega)) hr)
              | (refine step_appN w4 rfl (.tmp 56) (.tmp 60) rfl _ (.slice (some ⟨w4.heap.size + 1, 0, none⟩) 0 0) [] ws _ A c1 (by simp [Act.eval, Act.put]) (by simp [Act.eval, Act.put]) (by exact R3.out) (MV.out _ kE3).2.2.2.2.2.1 (by simp; omega) ?_; simp only [List.length_nil, Nat.zero_add, List.nil_append]; intro B1 p1 W1 n1 t1; obtain ⟨v1, v2, v3, v4, v5, _, _, _⟩ := MV.out W1 n1.2.2; have sr := blk_slice (r := ⟨c, s, b⟩) (row_apart t1 S3.out (by omega)) hr)
              | (refine step_appN w4 rfl (.tmp 61) (.tmp 64) rfl _ (.slice B1 ws.length p1) ws [⟨c, s, b⟩] _ _ 1 (by simp [Act.eval, Act.put]) ?hx n1 sr (by simp; omega) ?_; (case hx => simp [Act.eval, Act.put]); simp only [List.length_cons, List.length_nil, Nat.zero_add]; intro B2 p2 W2 n2 t2; obtain ⟨u1, u2, u3, u4, u5, _, u7, u8⟩ := MV.out W2 n2.2.2)
              | (refine step_appN w4 rfl (.tmp 61) (.tmp 64) rfl _ (.slice B1 ws.length p1) ws [⟨c, s, b⟩] _ (some ⟨W1.heap.size, 0, none⟩) 1 (by simp [Act.eval, Act.put]) (by simp [Act.eval, Act.put]) (n1.alloc _) (blk_slice (r := ⟨c, s, b⟩) (Blk.new W1 #[.int .i64 c, .int .i64 s, .string b] 24) hr) (by simp; omega) ?_; simp only [List.length_cons, List.length_nil, Nat.zero_add]; intro B2 p2 W2 n2 t2; obtain ⟨u1, u2, u3, u4, u5, _, u7, u8⟩ := MV.out W2 n2.2.2))
             all_goals
              go_wp2
              go_meet
              obtain ⟨-, -, h3⟩ := own_sliceF (F := fun k => w.heap.size + 1 ≤ k) n2.1 (by simp; omega) (fun i hi => by have := n2.2.1 i hi; show w.heap.size + 1 ≤ i; omega)
              have bq2 := u8.set 0 (.slice B2 (ws.length + 1) p2)
              have ks : Keep [q] W2 (W2.setCell ⟨q, 0, none⟩ (.slice B2 (ws.length + 1) p2)) := (Keep.refl _ _).setCell _ _ (.inl (by simp))
              have k12 := ((k0.trans k14).trans n2.2.2).mono (T := [q]) (by simp)
              exact ⟨B2, p2, by simpa using bq2, h3.keep (ks.at _ (by simp; omega)), u7.keep (ks.at _ (by simp)), (k12.trans ks).turn (by simp)⟩
            case rest =>
              obtain ⟨B2, p2, hb2, s2, sd2, t2⟩ := hcut
              go_wp2
              go_ret
              refine ⟨rfl, ⟨B2, p2, B, d1, by rw [List.length_append]; exact hb2, by rw [List.length_append]; exact s2.mono (fun i hi _ => ⟨.inr (by have hi : w.heap.size + 1 ≤ i := hi; omega), by have hi : w.heap.size + 1 ≤ i := hi; omega⟩), sd2.mono (fun i hi _ => ⟨.inl hi.1, hi.2⟩), .inl fq, by simp; omega, by omega⟩, t2⟩
end Go.Proofs.Ytaiemagmkfjklaa
