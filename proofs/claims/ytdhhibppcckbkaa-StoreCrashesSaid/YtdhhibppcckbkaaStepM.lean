import Derived.Test.YtdhhibppcckbkaaOwn
import Derived.Deep.RegionLaw
import Derived.Deep.AppendLies
import Derived.Maps.AppendAt
import Derived.Below
import Derived.Test.YtdhhibppcckbkaaStrcR
import Derived.Great.BuildSlice
namespace Go.Proofs.Ytdhhibppcckbkaa
open Go.RowKit
set_option linter.unusedVariables false
set_option linter.unusedSimpArgs false
/-! rows of a call's own whose elements hold blocks that lie elsewhere (older ones, G) -/
def RowG {α : Type} (a : Rep α) (e : TypeId) (w : World) (lo : Nat) (G : Nat → Prop) (v : Value) (xs : List α) : Prop :=
  ∃ css : List (List Value), w.ownsRow lo e a.sz v xs.length css.flatten ∧ css.length = xs.length ∧ ∀ (i : Nat) x cs, xs[i]? = some x → css[i]? = some cs → a.R w G x cs
theorem RowG.nil {α : Type} (a : Rep α) (e : TypeId) (w : World) (lo : Nat) (G : Nat → Prop) : RowG a e w lo G (.slice none 0 0) [] :=
  ⟨[], World.ownsRow_nil w lo e a.sz, rfl, fun i x cs h => by simp at h⟩
theorem RowG.empty {α : Type} (a : Rep α) (e : TypeId) (w : World) (lo : Nat) (G : Nat → Prop) (g : Nat) (hb : Blk w g #[] e) (hg : lo ≤ g) : RowG a e w lo G (.slice (some ⟨g, 0, none⟩) 0 0) [] :=
  ⟨[], ⟨by simp, .inr ⟨g, 0, #[], rfl, hg, hb, Nat.le_refl _, by decide, by simp, by simp⟩⟩, rfl, fun i x cs h => by simp at h⟩
theorem RowG.lt {α : Type} {a : Rep α} {e : TypeId} {w : World} {lo : Nat} {G : Nat → Prop} {v : Value} {xs : List α} (h : RowG a e w lo G v xs) : ∀ k, v.ownBlock = some k → lo ≤ k ∧ k < w.heap.size := by
  obtain ⟨css, h1, _⟩ := h
  exact h1.lt
theorem RowG.form {α : Type} {a : Rep α} {e : TypeId} {w : World} {lo : Nat} {G : Nat → Prop} {v : Value} {xs : List α} (h : RowG a e w lo G v xs) : ∃ A c, v = .slice A xs.length c := by
  obtain ⟨css, h1, _⟩ := h
  rcases h1.2 with ⟨rfl, h0⟩ | ⟨g, cap, cur, rfl, _⟩
  · exact ⟨none, 0, by rw [h0]⟩
  · exact ⟨_, cap, rfl⟩
theorem RowG.keep {α : Type} {a : Rep α} {e : TypeId} {w w' : World} {lo : Nat} {G : Nat → Prop} {v : Value} {xs : List α} (h : RowG a e w lo G v xs)
    (hk : ∀ k, (v.ownBlock = some k ∨ G k) → k < w.heap.size → w'.heap[k]? = w.heap[k]?) : RowG a e w' lo G v xs := by
  obtain ⟨css, h1, h2, h3⟩ := h
  refine ⟨css, ⟨h1.1, ?_⟩, h2, fun i x cs hx hc => a.keep (h3 i x cs hx hc) fun k hF hl => hk k (.inr hF) hl⟩
  rcases h1.2 with hn | ⟨g, cap, cur, rfl, hb, hg, rest⟩
  · exact .inl hn
  · exact .inr ⟨g, cap, cur, rfl, hb, (hk g (.inl rfl) (Array.getElem?_eq_some_iff.1 hg).1).trans hg, rest⟩
theorem RowG.slice {α : Type} {a : Rep α} {e : TypeId} {w : World} {lo : Nat} {G : Nat → Prop} {v : Value} {xs : List α} (h : RowG a e w lo G v xs) (hb : xs.length ≤ M47) : SliceOf a w (fun k => G k ∨ v.ownBlock = some k) v xs := by
  obtain ⟨css, h1, h2, h3⟩ := h
  have hlen : ∀ cs ∈ css, cs.length = a.sz := by
    intro cs hcs
    obtain ⟨i, hi, rfl⟩ := List.getElem_of_mem hcs
    exact a.len (h3 i xs[i] _ (List.getElem?_eq_getElem (by omega)) (List.getElem?_eq_getElem hi))
  have hcells := fun g hg => h1.cells (g := g) hg
  rcases h1.2 with ⟨rfl, h0⟩ | ⟨g, cap, cur, rfl, hbg, hg, _⟩
  · obtain rfl : xs = [] := List.eq_nil_of_length_eq_zero h0
    exact SliceOf.nil a w _ none 0
  · refine ⟨_, cap, rfl, hb, fun hp => ⟨g, 0, rfl, .inr rfl, (Array.getElem?_eq_some_iff.1 hg).1, fun i hi => ?_⟩⟩
    have hic : i < css.length := by omega
    refine ⟨css[i], a.mono (h3 i _ _ (List.getElem?_eq_getElem hi) (List.getElem?_eq_getElem hic)) (fun k hk _ => .inl hk), fun j v hj => ?_⟩
    have hjl : j < a.sz := by rw [← hlen css[i] (List.getElem_mem hic)]; exact (List.getElem?_eq_some_iff.1 hj).1
    have := hcells g rfl (i * a.sz + j) v (by rw [flatten_at a.sz css hlen i j css[i] (List.getElem?_eq_getElem hic) hjl]; exact hj)
    have hadd : (⟨g, 0, none⟩ : Addr).add (i * a.sz + j) = ⟨g, 0 + (i * a.sz + j), none⟩ := by unfold Addr.add; split <;> simp_all
    rw [← hadd]
    exact this
/-- What is to be appended: its cells lie at A, what they hold in G. -/
def ReadsG {α : Type} (a : Rep α) (w : World) (G : Nat → Prop) (A : Option Addr) (ys : List α) : Prop :=
  0 < ys.length → ∃ g o, A = some ⟨g, o, none⟩ ∧ ∀ i (hi : i < ys.length), ∃ cs, a.R w G ys[i] cs ∧ ∀ j v, cs[j]? = some v → w.cell? ⟨g, o + (i * a.sz + j), none⟩ = some v
theorem SliceOf.reads {α : Type} {a : Rep α} {w : World} {G : Nat → Prop} {A : Option Addr} {n c : Nat} {ys : List α} (h : SliceOf a w G (.slice A n c) ys) : ReadsG a w G A ys := by
  obtain ⟨A', c', e, _, h⟩ := h
  cases e
  intro hp
  obtain ⟨g, o, rfl, _, _, h⟩ := h hp
  exact ⟨g, o, rfl, h⟩
theorem reads_one {α : Type} {a : Rep α} {w : World} {G : Nat → Prop} {g t : Nat} {cs : Array Value} {y : α} (hb : Blk w g cs t) (hr : a.R w G y cs.toList) : ReadsG a w G (some ⟨g, 0, none⟩) [y] := by
  intro _
  refine ⟨g, 0, rfl, fun i hi => ⟨cs.toList, ?_, fun j v hj => ?_⟩⟩
  · obtain rfl : i = 0 := by simpa using hi
    exact hr
  · obtain rfl : i = 0 := by simpa using hi
    rw [hb.cell]
    simpa using hj
theorem ReadsG.choose {α : Type} {a : Rep α} {w : World} {G : Nat → Prop} {g o : Nat} {ys : List α} (h : ∀ i (hi : i < ys.length), ∃ cs, a.R w G ys[i] cs ∧ ∀ j v, cs[j]? = some v → w.cell? ⟨g, o + (i * a.sz + j), none⟩ = some v) :
    ∃ css : List (List Value), css.length = ys.length ∧ (∀ (i : Nat) x cs, ys[i]? = some x → css[i]? = some cs → a.R w G x cs) ∧ (∀ cs ∈ css, cs.length = a.sz) ∧ (∀ (i : Nat) cs, css[i]? = some cs → ∀ j v, cs[j]? = some v → w.cell? ⟨g, o + (i * a.sz + j), none⟩ = some v) := by
  refine ⟨List.ofFn (fun i : Fin ys.length => (h i.1 i.2).choose), by simp, fun i x cs hx hc => ?_, fun cs hc => ?_, fun i cs hc => ?_⟩
  · obtain ⟨hi, rfl⟩ := List.getElem?_eq_some_iff.1 hx
    simp only [List.getElem?_ofFn, hi, dif_pos, Option.some.injEq] at hc
    subst hc
    exact (h i hi).choose_spec.1
  · simp only [List.mem_ofFn] at hc
    obtain ⟨i, rfl⟩ := hc
    exact a.len (h i.1 i.2).choose_spec.1
  · have hi : i < ys.length := by have := (List.getElem?_eq_some_iff.1 hc).1; simpa using this
    simp only [List.getElem?_ofFn, hi, dif_pos, Option.some.injEq] at hc
    subst hc
    exact (h i hi).choose_spec.2
theorem flat_read {sz : Nat} (h0 : 0 < sz) : ∀ (css : List (List Value)), (∀ cs ∈ css, cs.length = sz) → ∀ (j : Nat) u, css.flatten[j]? = some u → ∃ i k cs, j = i * sz + k ∧ css[i]? = some cs ∧ cs[k]? = some u
  | [], _, j, u, h => by simp at h
  | c :: css, hl, j, u, h => by
    have hc := hl c (by simp)
    rw [List.flatten_cons] at h
    by_cases hj : j < c.length
    · rw [List.getElem?_append_left hj] at h
      exact ⟨0, j, c, by omega, rfl, h⟩
    · rw [List.getElem?_append_right (by omega)] at h
      obtain ⟨i, k, cs, e, h1, h2⟩ := flat_read h0 css (fun c hc => hl c (by simp [hc])) _ u h
      exact ⟨i + 1, k, cs, by rw [Nat.add_mul]; omega, h1, h2⟩
theorem flat_len {sz : Nat} : ∀ (css : List (List Value)), (∀ cs ∈ css, cs.length = sz) → css.flatten.length = css.length * sz
  | [], _ => by simp
  | c :: css, hl => by
    rw [List.flatten_cons, List.length_append, hl c (by simp), flat_len css (fun c hc => hl c (by simp [hc])), List.length_cons, Nat.add_mul]
    omega
theorem run_appG {α : Type} (a : Rep α) (t ty e : TypeId) (z : Value) (bytes lo : Nat) (G : Nat → Prop) (ht : Try.prog.underlying t = some (.slice e)) (hi : (Try.prog.info? e).map (fun i => (i.zero, i.size, i.bytes)) = some (some z, a.sz, bytes))
    (hz : z.cells.size = a.sz) (hs0 : 0 < a.sz) (hb0 : 0 < bytes) (hone : ∀ w x cs, a.R w G x cs → ∀ u ∈ cs, u.oneCell' = true) (W : World) (v : Value) (xs ys : List α) (A : Option Addr) (c : Nat) (hown : RowG a e W lo G v xs) (hy : ReadsG a W G A ys)
    (hG : ∀ k, G k → k < lo) (hbytes : (xs.length + ys.length) * bytes ≤ 140737488355328) (hbase : lo ≤ W.heap.size) (hA0 : A = none → ys = []) :
    ∃ v' w', (Builtin.append_ #[t, t] ty #[v, .slice A ys.length c]).run Try.prog W = .ok v' w' ∧ RowG a e w' lo G v' (xs ++ ys) ∧ W.grownBy w' v.ownBlock ∧ (v'.ownBlock = v.ownBlock ∨ v'.ownBlock = some W.heap.size) := by
  obtain ⟨css, o1, o2, o3⟩ := hown
  obtain ⟨i0, hi0, hzz⟩ := Option.map_eq_some_iff.1 hi
  simp only [Prod.mk.injEq] at hzz
  obtain ⟨hz0, hz1, hz2⟩ := hzz
  have hlen : xs.length + ys.length ≤ 140737488355328 := Nat.le_trans (Nat.le_mul_of_pos_right _ hb0) hbytes
  cases A with
  | some ad =>
    have hex : ∃ cy : List (List Value), cy.length = ys.length ∧ (∀ (i : Nat) x cs, ys[i]? = some x → cy[i]? = some cs → a.R W G x cs) ∧ (∀ cs ∈ cy, cs.length = a.sz) ∧ (∀ (i : Nat) cs, cy[i]? = some cs → ∀ j v, cs[j]? = some v → W.cell? (ad.add (i * a.sz + j)) = some v) := by
      by_cases hp : 0 < ys.length
      · obtain ⟨g, o, e1, h⟩ := hy hp
        obtain rfl := Option.some.inj e1
        obtain ⟨cy, q1, q2, q3, q4⟩ := ReadsG.choose h
        exact ⟨cy, q1, q2, q3, fun i cs hc j v hj => by
          have hadd : (⟨g, o, none⟩ : Addr).add (i * a.sz + j) = ⟨g, o + (i * a.sz + j), none⟩ := by unfold Addr.add; split <;> simp_all
          rw [hadd]
          exact q4 i cs hc j v hj⟩
      · obtain rfl : ys = [] := List.eq_nil_of_length_eq_zero (by omega)
        exact ⟨[], rfl, fun i x cs h => by simp at h, fun cs h => by simp at h, fun i cs h => by simp at h⟩
    obtain ⟨cy, q1, q2, q3, q4⟩ := hex
    obtain ⟨v', w', r1, r2, r3, -, r5⟩ := run_append_own_at (P := Try.prog) W lo t ty e i0 z a.sz bytes ht hi0 hz0 hz1 hz2 hz hs0 v xs.length css.flatten o1 ad ys.length c cy.flatten (by rw [flat_len cy q3, q1])
      (fun j u hu => by
        obtain ⟨i, k, cs, rfl, h1, h2⟩ := flat_read hs0 cy q3 j u hu
        exact q4 i cs h1 k u h2)
      (fun u hu => by
        obtain ⟨cs, hc, hu⟩ := List.mem_flatten.1 hu
        obtain ⟨i, hi, rfl⟩ := List.getElem_of_mem hc
        exact hone _ _ _ (q2 i ys[i] _ (List.getElem?_eq_getElem (by omega)) (List.getElem?_eq_getElem hi)) u hu)
      (by simp only [maxLen]; omega) hbytes hbase
    have mv : ∀ x cs, a.R W G x cs → a.R w' G x cs := fun x cs hr => a.keep hr fun k hk hl => r3.block k hl (fun he => by
      have h1 := (o1.lt k he.symm).1
      have h2 := hG k hk
      omega)
    refine ⟨v', w', r1, ⟨css ++ cy, by simpa using r2, by simp [o2, q1], fun i x c hx hc => ?_⟩, r3, r5⟩
    by_cases hlt : i < xs.length
    · rw [List.getElem?_append_left hlt] at hx
      rw [List.getElem?_append_left (by omega)] at hc
      exact mv x c (o3 i x c hx hc)
    · rw [List.getElem?_append_right (by omega)] at hx
      rw [List.getElem?_append_right (by omega), o2] at hc
      exact mv x c (q2 _ x c hx hc)
  | none =>
    obtain rfl := hA0 rfl
    obtain ⟨hl0, hv⟩ := o1
    have hrun : ∀ B n cap, n ≤ cap → (Builtin.append_ #[t, t] ty #[.slice B n cap, .slice none 0 c]).run Try.prog W = .ok (.slice B n cap) W := by
      intro B n cap hc
      simp [Builtin.append_, run_underlying ht, Builtin.lenOf, Builtin.firstCells, sizeOf, typeInfo, hi0, hc]
      cases B <;> simp [storeCells]
    rcases hv with ⟨rfl, e0⟩ | ⟨g, cap, cur, rfl, hlo, hb, h3, h4, h5, h6⟩
    · exact ⟨_, W, hrun none 0 0 (Nat.le_refl _), ⟨css, by rw [List.append_nil]; exact ⟨hl0, .inl ⟨rfl, e0⟩⟩, by simpa using o2, fun i x cs hx hc => o3 i x cs (by simpa using hx) hc⟩, World.grownBy.refl W _, .inl rfl⟩
    · exact ⟨_, W, hrun _ _ _ h3, ⟨css, by rw [List.append_nil]; exact ⟨hl0, .inr ⟨g, cap, cur, rfl, hlo, hb, h3, h4, h5, h6⟩⟩, by simpa using o2, fun i x cs hx hc => o3 i x cs (by simpa using hx) hc⟩, World.grownBy.refl W _, .inl rfl⟩
end Go.Proofs.Ytdhhibppcckbkaa
namespace Go.Proofs.Ytdhhibppcckbkaa
open Go.RowKit
set_option linter.unusedVariables false
set_option linter.unusedSimpArgs false
/-! steps of a region that draws its order, over rows of messages: the world behind is a letter -/
theorem msg_one {w : World} {G : Nat → Prop} {x : Ms} {cs : List Value} (h : Rep.ms.R w G x cs) : ∀ u ∈ cs, u.oneCell' = true := by
  obtain ⟨v1, v2, v3, v4, rfl, hm⟩ := h
  obtain ⟨A1, c1, rfl, -⟩ := hm.bs.form
  obtain ⟨A2, c2, rfl, -⟩ := hm.bq.form
  obtain ⟨A3, c3, rfl, -⟩ := hm.cs.form
  obtain ⟨A4, c4, rfl, -⟩ := hm.st.form
  intro u hu
  have h : (msgV x (.slice A1 x.b.j.sg.length c1) (.slice A2 x.b.q.length c2) (.slice A3 x.c.sg.length c3) (.slice A4 x.s.ts.length c4)).toList.all (fun u => u.oneCell') = true := by simp [msgV, Value.oneCell']
  exact List.all_eq_true.1 h u hu
section
variable {o : Oper} {act : Act} {K : Act → World → Prop} {Q : Exit → Act → World → Prop} {ops : Array Oper} {E : Prop} {W : World}
theorem step_loadM (hgd : o.guard = none) (ty : TypeId) (x : Operand) (ho : o.op = .load ty x) (g off : Nat) (C : Array Value) (d : TypeDesc) (n : Nat) (hx : act.eval x = .pointer (some ⟨g, off, none⟩))
    (hr : ∀ j v, C[j]? = some v → W.cell? ⟨g, off + j, none⟩ = some v) (hu : Try.prog.underlying ty = some d) (hd : d.isRow = true) (hi : (Try.prog.info? ty).map (·.size) = some n) (hn : C.size = n) (h : K (act.put o.dst (.agg C)) W) :
    if Region.wanted o (yielded ops act.tmps) = true then Oper.wp Try.prog o act W K Q else E := by
  have hw : Region.wanted o (yielded ops act.tmps) = true := by simp [Region.wanted, hgd]
  rw [if_pos hw]
  have e := run_loadAt_mid (P := Try.prog) W g off ty C.toList d (fun j v hj => hr j v (by simpa using hj)) hu hd (by simpa [hn] using hi)
  have e : (Instr.loadAt ty (.pointer (some ⟨g, off, none⟩))).run Try.prog W = .ok (.agg C) W := by simpa using e
  unfold Oper.wp execOp
  simp only [ho, hx, Sem.run_bind, e, Result.andThen_ok]
  exact h
theorem run_empty (t e : TypeId) (i : TypeInfo) (z : Value) (hu : Try.prog.underlying t = some (.slice e)) (hie : Try.prog.info? e = some i) (hz : i.zero = some z) : (Instr.buildSlice t 0 #[]).run Try.prog W = .ok (.slice (some ⟨W.heap.size, 0, none⟩) 0 0) (W.alloc (.cells #[] e)) := by
  simp [Instr.buildSlice, run_underlying hu, sizeOf, typeInfo, zeroValue, hie, hz, newRow, Instr.fill]
  exact congrArg (fun c => W.alloc (.cells c e)) (Array.eq_empty_of_size_eq_zero (by simp))
theorem step_none (hgd : o.guard = none) (t e : TypeId) (ho : o.op = .buildSlice t 0 #[]) (z : Value) (n m : Nat) (hu : Try.prog.underlying t = some (.slice e)) (hi : (Try.prog.info? e).map (fun i => (i.zero, i.size, i.bytes)) = some (some z, n, m))
    (h : ∀ w', Blk w' W.heap.size #[] e → Keep [] W w' → w'.heap.size = W.heap.size + 1 → K (act.put o.dst (.slice (some ⟨W.heap.size, 0, none⟩) 0 0)) w') :
    if Region.wanted o (yielded ops act.tmps) = true then Oper.wp Try.prog o act W K Q else E := by
  have hw : Region.wanted o (yielded ops act.tmps) = true := by simp [Region.wanted, hgd]
  rw [if_pos hw]
  obtain ⟨i0, hi0, hzz⟩ := Option.map_eq_some_iff.1 hi
  simp only [Prod.mk.injEq] at hzz
  unfold Oper.wp execOp
  have e0 := run_empty (W := W) t e i0 z hu hi0 hzz.1
  simp only [ho, Sem.run_bind, List.map_toArray, List.map_nil, e0, Result.andThen_ok]
  exact h _ (Blk.new W #[] e) ((Keep.refl [] W).alloc _) (by simp)
theorem fill_one (z C : Array Value) (h : C.size = 21) (hz : z.size = 21) : Instr.fill (fun i => some (i * 21, 21)) z [(0, .agg C)] = some C := by
  obtain ⟨c⟩ := C
  obtain ⟨zz⟩ := z
  simp only [List.size_toArray] at h hz
  obtain ⟨a0, a1, a2, a3, a4, a5, a6, a7, a8, a9, a10, a11, a12, a13, a14, a15, a16, a17, a18, a19, a20, rfl⟩ : ∃ a0 a1 a2 a3 a4 a5 a6 a7 a8 a9 a10 a11 a12 a13 a14 a15 a16 a17 a18 a19 a20, c = [a0, a1, a2, a3, a4, a5, a6, a7, a8, a9, a10, a11, a12, a13, a14, a15, a16, a17, a18, a19, a20] := by
    match c, h with
    | [a0, a1, a2, a3, a4, a5, a6, a7, a8, a9, a10, a11, a12, a13, a14, a15, a16, a17, a18, a19, a20], _ => exact ⟨a0, a1, a2, a3, a4, a5, a6, a7, a8, a9, a10, a11, a12, a13, a14, a15, a16, a17, a18, a19, a20, rfl⟩
  obtain ⟨b0, b1, b2, b3, b4, b5, b6, b7, b8, b9, b10, b11, b12, b13, b14, b15, b16, b17, b18, b19, b20, rfl⟩ : ∃ b0 b1 b2 b3 b4 b5 b6 b7 b8 b9 b10 b11 b12 b13 b14 b15 b16 b17 b18 b19 b20, zz = [b0, b1, b2, b3, b4, b5, b6, b7, b8, b9, b10, b11, b12, b13, b14, b15, b16, b17, b18, b19, b20] := by
    match zz, hz with
    | [b0, b1, b2, b3, b4, b5, b6, b7, b8, b9, b10, b11, b12, b13, b14, b15, b16, b17, b18, b19, b20], _ => exact ⟨b0, b1, b2, b3, b4, b5, b6, b7, b8, b9, b10, b11, b12, b13, b14, b15, b16, b17, b18, b19, b20, rfl⟩
  simp [Instr.fill, Value.cells]
end
end Go.Proofs.Ytdhhibppcckbkaa
