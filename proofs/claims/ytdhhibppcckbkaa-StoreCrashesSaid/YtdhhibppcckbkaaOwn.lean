import Derived.Test.YtdhhibppcckbkaaBase
namespace Go.Proofs.Ytdhhibppcckbkaa
open Go.RowKit
set_option linter.unusedVariables false
set_option linter.unusedSimpArgs false
/-! rows that grow -/
/-- The call's own row: its elements' own rows lie from lo on, and apart from the row's block. -/
def Off (lo : Nat) (v : Value) : Nat → Prop := fun k => lo ≤ k ∧ some k ≠ v.ownBlock
def Own {α : Type} (a : Rep α) (e : TypeId) (w : World) (lo : Nat) (v : Value) (xs : List α) : Prop :=
  ∃ css : List (List Value), w.ownsRow lo e a.sz v xs.length css.flatten ∧ css.length = xs.length ∧ ∀ (i : Nat) x cs, xs[i]? = some x → css[i]? = some cs → a.R w (Off lo v) x cs
theorem Own.nil {α : Type} (a : Rep α) (e : TypeId) (w : World) (lo : Nat) : Own a e w lo (.slice none 0 0) [] :=
  ⟨[], World.ownsRow_nil w lo e a.sz, rfl, fun i x cs h => by simp at h⟩
theorem Own.lt {α : Type} {a : Rep α} {e : TypeId} {w : World} {lo : Nat} {v : Value} {xs : List α} (h : Own a e w lo v xs) : ∀ k, v.ownBlock = some k → lo ≤ k ∧ k < w.heap.size := by
  obtain ⟨css, h1, _⟩ := h
  exact h1.lt
theorem Own.kept {α : Type} {a : Rep α} {e : TypeId} {w w' : World} {lo : Nat} {v : Value} {xs : List α} (h : Own a e w lo v xs)
    (hk : ∀ k, lo ≤ k → k < w.heap.size → w'.heap[k]? = w.heap[k]?) (hs : w.heap.size ≤ w'.heap.size) : Own a e w' lo v xs := by
  obtain ⟨css, h1, h2, h3⟩ := h
  refine ⟨css, ?_, h2, fun i x cs hx hc => a.keep (h3 i x cs hx hc) fun k hF hl => hk k hF.1 hl⟩
  refine ⟨h1.1, ?_⟩
  rcases h1.2 with hn | ⟨g, cap, cur, rfl, hb, hg, rest⟩
  · exact .inl hn
  · exact .inr ⟨g, cap, cur, rfl, hb, (hk g hb (Array.getElem?_eq_some_iff.1 hg).1).trans hg, rest⟩
theorem Own.keep {α : Type} {a : Rep α} {e : TypeId} {S : List Nat} {w w' : World} {lo : Nat} {v : Value} {xs : List α} (h : Own a e w lo v xs) (k : Keep S w w') (hS : ∀ i, i ∈ S → i < lo) : Own a e w' lo v xs :=
  h.kept (fun j hj hl => k.block j hl (fun hm => by have := hS j hm; omega)) k.size
theorem Own.form {α : Type} {a : Rep α} {e : TypeId} {w : World} {lo : Nat} {v : Value} {xs : List α} (h : Own a e w lo v xs) : ∃ A c, v = .slice A xs.length c ∧ xs.length ≤ 9223372036854775807 := by
  obtain ⟨css, h1, _⟩ := h
  rcases h1.2 with ⟨rfl, h0⟩ | ⟨g, cap, cur, rfl, _, _, h2, h3, _⟩
  · exact ⟨none, 0, by rw [h0], by omega⟩
  · exact ⟨_, cap, rfl, by simp only [maxLen] at h3; omega⟩
theorem flatten_at {α : Type} (sz : Nat) : ∀ (css : List (List α)), (∀ cs ∈ css, cs.length = sz) → ∀ (i j : Nat) cs, css[i]? = some cs → j < sz → css.flatten[i * sz + j]? = cs[j]?
  | [], _, i, j, cs, h, _ => by simp at h
  | c :: css, hl, i, j, cs, h, hj => by
    have hc := hl c (by simp)
    cases i with
    | zero =>
      simp at h; subst h
      simp only [List.flatten_cons, Nat.zero_mul, Nat.zero_add]
      rw [List.getElem?_append_left (by omega)]
    | succ i =>
      simp only [List.getElem?_cons_succ] at h
      simp only [List.flatten_cons]
      rw [List.getElem?_append_right (by rw [hc, Nat.add_mul]; omega), hc]
      rw [show (i + 1) * sz + j - sz = i * sz + j by rw [Nat.add_mul]; omega]
      exact flatten_at sz css (fun c hc => hl c (by simp [hc])) i j cs h hj
/-- Told as what it reads. -/
theorem Own.slice {α : Type} {a : Rep α} {e : TypeId} {w : World} {lo : Nat} {v : Value} {xs : List α} (h : Own a e w lo v xs) (hb : xs.length ≤ M47) : SliceOf a w (fun k => lo ≤ k) v xs := by
  obtain ⟨css, h1, h2, h3⟩ := h
  have hlen : ∀ cs ∈ css, cs.length = a.sz := by
    intro cs hcs
    obtain ⟨i, hi, rfl⟩ := List.getElem_of_mem hcs
    exact a.len (h3 i xs[i] _ (List.getElem?_eq_getElem (by omega)) (List.getElem?_eq_getElem hi))
  have hcells := fun g hg => h1.cells (g := g) hg
  rcases h1.2 with ⟨rfl, h0⟩ | ⟨g, cap, cur, rfl, hbg, hg, _⟩
  · obtain rfl : xs = [] := List.eq_nil_of_length_eq_zero h0
    exact SliceOf.nil a w _ none 0
  · refine ⟨_, cap, rfl, hb, fun hp => ⟨g, 0, rfl, hbg, (Array.getElem?_eq_some_iff.1 hg).1, fun i hi => ?_⟩⟩
    have hic : i < css.length := by omega
    refine ⟨css[i], a.mono (h3 i _ _ (List.getElem?_eq_getElem hi) (List.getElem?_eq_getElem hic)) (fun k hk _ => hk.1), fun j v hj => ?_⟩
    have hjl : j < a.sz := by rw [← hlen css[i] (List.getElem_mem hic)]; exact (List.getElem?_eq_some_iff.1 hj).1
    have := hcells g rfl (i * a.sz + j) v (by rw [flatten_at a.sz css hlen i j css[i] (List.getElem?_eq_getElem hic) hjl]; exact hj)
    have hadd : (⟨g, 0, none⟩ : Addr).add (i * a.sz + j) = ⟨g, 0 + (i * a.sz + j), none⟩ := by unfold Addr.add; split <;> simp_all
    rwa [hadd] at this
theorem run_app {P : Program} {α : Type} (a : Rep α) (t ty e : TypeId) (z : Value) (bytes lo : Nat) (ht : P.underlying t = some (.slice e)) (hi : (P.info? e).map (fun i => (i.zero, i.size, i.bytes)) = some (some z, a.sz, bytes))
    (hz : z.cells.size = a.sz) (hs0 : 0 < a.sz) (hb0 : 0 < bytes) (W : World) (v : Value) (xs : List α) (hown : Own a e W lo v xs) (y : α) (cs : Array Value) (hy : a.R W (Off lo v) y cs.toList)
    (h1 : ∀ u ∈ cs.toList, u.oneCell' = true) (hbytes : (xs.length + 1) * bytes ≤ 140737488355328) (hbase : lo ≤ W.heap.size) :
    ∃ g cap w', (Builtin.append_ #[t, t] ty #[v, .slice (some ⟨W.heap.size, 0, none⟩) 1 1]).run P (W.alloc (.cells cs e)) = .ok (.slice (some ⟨g, 0, none⟩) (xs.length + 1) cap) w' ∧
      Own a e w' lo (.slice (some ⟨g, 0, none⟩) (xs.length + 1) cap) (xs ++ [y]) ∧ W.grownBy w' v.ownBlock ∧ (v.ownBlock = some g ∨ W.heap.size < g) ∧ g < w'.heap.size ∧ lo ≤ g := by
  obtain ⟨css, o1, o2, o3⟩ := hown
  obtain ⟨i0, hi0, hzz⟩ := Option.map_eq_some_iff.1 hi
  simp only [Prod.mk.injEq] at hzz
  obtain ⟨hz0, hz1, hz2⟩ := hzz
  have hlen : xs.length + 1 ≤ 140737488355328 := Nat.le_trans (Nat.le_mul_of_pos_right _ hb0) hbytes
  obtain ⟨g, cap, w', r1, r2, r3, r4, r5⟩ := run_append_lies (P := P) (W.alloc (.cells cs e)) t ty lo e i0 z a.sz bytes ht hi0 hz0 hz1 hz2 hz hs0 v xs.length css.flatten (o1.alloc _)
    ⟨W.heap.size, 0, none⟩ 1 1 cs.toList (by rw [a.len hy]; omega) (World.news_of_block (cs := cs) (t := e) (fr := (0, 0)) (heap_alloc_new W _)) h1 (by omega) (by simp only [maxLen]; omega) hbytes (by simp; omega) (W.heap.size + 1) (by simp)
  have hg : W.grownBy w' v.ownBlock := World.grownBy.trans (World.grownBy_alloc W _ _) r3
  have hlo : lo ≤ g := (r2.lt g rfl).1
  have hat : v.ownBlock = some g ∨ W.heap.size < g := r4.imp_right fun h => by omega
  refine ⟨g, cap, w', r1, ⟨css ++ [cs.toList], by simpa using r2, by simp [o2], ?_⟩, hg, hat, r5, hlo⟩
  have mv : ∀ x cs, a.R W (Off lo v) x cs → a.R w' (Off lo (.slice (some ⟨g, 0, none⟩) (xs.length + 1) cap)) x cs := by
    intro x cs hr
    refine a.mono (F := fun k => Off lo v k ∧ k < W.heap.size) (a.keep (a.mono hr fun k hk hl => ⟨hk, hl⟩) fun k hk hl => hg.block k hl hk.1.2) fun k hk _ => ⟨hk.1.1, ?_⟩
    intro he
    rcases hat with h | h
    · exact hk.1.2 (by rw [h]; exact he)
    · have : k = g := by simpa [Value.ownBlock] using he
      omega
  intro i x c hx hc
  by_cases hlt : i < xs.length
  · rw [List.getElem?_append_left hlt] at hx
    rw [List.getElem?_append_left (by omega)] at hc
    exact mv x c (o3 i x c hx hc)
  · rw [List.getElem?_append_right (by omega)] at hx
    rw [List.getElem?_append_right (by omega), o2] at hc
    have hi0 : i - xs.length = 0 := by
      have := (List.getElem?_eq_some_iff.1 hx).1
      simp at this
      omega
    rw [hi0] at hx hc
    simp at hx hc
    subst hx hc
    exact mv y _ hy
section
variable {P : Program}
theorem wp_app {o : Oper} {act : Act} {K : Act → World → Prop} {Q : Exit → Act → World → Prop} {α : Type} (a : Rep α) (s x : Operand) (t e : TypeId) (z : Value) (bytes lo : Nat)
    (ho : o.op = .call { callee := .builtin .append, args := #[s, x], argTypes := #[t, t] })
    (ht : P.underlying t = some (.slice e)) (hi : (P.info? e).map (fun i => (i.zero, i.size, i.bytes)) = some (some z, a.sz, bytes))
    (hz : z.cells.size = a.sz) (hs0 : 0 < a.sz) (hb0 : 0 < bytes) (W : World) (v : Value) (xs : List α) (y : α) (cs : Array Value) (hs : act.eval s = v) (hx : act.eval x = .slice (some ⟨W.heap.size, 0, none⟩) 1 1)
    (hown : Own a e W lo v xs) (hy : a.R W (Off lo v) y cs.toList)
    (h1 : ∀ u ∈ cs.toList, u.oneCell' = true) (hbytes : (xs.length + 1) * bytes ≤ 140737488355328) (hbase : lo ≤ W.heap.size)
    (h : ∀ g cap w', Own a e w' lo (.slice (some ⟨g, 0, none⟩) (xs.length + 1) cap) (xs ++ [y]) → W.grownBy w' v.ownBlock → (v.ownBlock = some g ∨ W.heap.size < g) → g < w'.heap.size → lo ≤ g → K (act.put o.dst (.slice (some ⟨g, 0, none⟩) (xs.length + 1) cap)) w') :
    Oper.wp P o act (W.alloc (.cells cs e)) K Q := by
  obtain ⟨g, cap, w', r1, r2, r3, r4, r5, r6⟩ := run_app (P := P) a t o.type e z bytes lo ht hi hz hs0 hb0 W v xs hown y cs hy h1 hbytes hbase
  unfold Oper.wp execOp
  simp only [ho, resolve, invoke, builtin, Sem.run_bind, Sem.run_pure, Result.andThen_ok, List.map_toArray, List.map_cons, List.map_nil, hs, hx, r1]
  exact h g cap w' r2 r3 r4 r5 r6
theorem wpList_app {ops : Array Oper} {rest : List Oper} {o : Oper} {act : Act} {Q : Exit → Act → World → Prop} {α : Type} (a : Rep α) (hgd : o.guard = none) (s x : Operand) (t e : TypeId) (z : Value) (bytes lo : Nat)
    (ho : o.op = .call { callee := .builtin .append, args := #[s, x], argTypes := #[t, t] })
    (ht : P.underlying t = some (.slice e)) (hi : (P.info? e).map (fun i => (i.zero, i.size, i.bytes)) = some (some z, a.sz, bytes))
    (hz : z.cells.size = a.sz) (hs0 : 0 < a.sz) (hb0 : 0 < bytes) (W : World) (v : Value) (xs : List α) (y : α) (cs : Array Value) (hs : act.eval s = v) (hx : act.eval x = .slice (some ⟨W.heap.size, 0, none⟩) 1 1)
    (hown : Own a e W lo v xs) (hy : a.R W (Off lo v) y cs.toList)
    (h1 : ∀ u ∈ cs.toList, u.oneCell' = true) (hbytes : (xs.length + 1) * bytes ≤ 140737488355328) (hbase : lo ≤ W.heap.size)
    (h : ∀ g cap w', Own a e w' lo (.slice (some ⟨g, 0, none⟩) (xs.length + 1) cap) (xs ++ [y]) → W.grownBy w' v.ownBlock → (v.ownBlock = some g ∨ W.heap.size < g) → g < w'.heap.size → lo ≤ g → wpList P ops Q rest (act.put o.dst (.slice (some ⟨g, 0, none⟩) (xs.length + 1) cap)) w') :
    wpList P ops Q (o :: rest) act (W.alloc (.cells cs e)) :=
  wpList_plain hgd fun _ hK => wp_app a s x t e z bytes lo ho ht hi hz hs0 hb0 W v xs y cs hs hx hown hy h1 hbytes hbase fun g cap w' a1 a2 a3 a4 a5 => hK _ _ (h g cap w' a1 a2 a3 a4 a5)
theorem step_app {ops : Array Oper} {o : Oper} {act : Act} {K : Act → World → Prop} {Q : Exit → Act → World → Prop} {E : Prop} {α : Type} (a : Rep α) (hgd : o.guard = none) (s x : Operand) (t e : TypeId) (z : Value) (bytes lo : Nat)
    (ho : o.op = .call { callee := .builtin .append, args := #[s, x], argTypes := #[t, t] })
    (ht : P.underlying t = some (.slice e)) (hi : (P.info? e).map (fun i => (i.zero, i.size, i.bytes)) = some (some z, a.sz, bytes))
    (hz : z.cells.size = a.sz) (hs0 : 0 < a.sz) (hb0 : 0 < bytes) (W : World) (v : Value) (xs : List α) (y : α) (cs : Array Value) (hs : act.eval s = v) (hx : act.eval x = .slice (some ⟨W.heap.size, 0, none⟩) 1 1)
    (hown : Own a e W lo v xs) (hy : a.R W (Off lo v) y cs.toList)
    (h1 : ∀ u ∈ cs.toList, u.oneCell' = true) (hbytes : (xs.length + 1) * bytes ≤ 140737488355328) (hbase : lo ≤ W.heap.size)
    (h : ∀ g cap w', Own a e w' lo (.slice (some ⟨g, 0, none⟩) (xs.length + 1) cap) (xs ++ [y]) → W.grownBy w' v.ownBlock → (v.ownBlock = some g ∨ W.heap.size < g) → g < w'.heap.size → lo ≤ g → K (act.put o.dst (.slice (some ⟨g, 0, none⟩) (xs.length + 1) cap)) w') :
    if Region.wanted o (yielded ops act.tmps) = true then Oper.wp P o act (W.alloc (.cells cs e)) K Q else E := by
  have hw : Region.wanted o (yielded ops act.tmps) = true := by simp [Region.wanted, hgd]
  rw [if_pos hw]
  exact wp_app a s x t e z bytes lo ho ht hi hz hs0 hb0 W v xs y cs hs hx hown hy h1 hbytes hbase h
end
end Go.Proofs.Ytdhhibppcckbkaa
