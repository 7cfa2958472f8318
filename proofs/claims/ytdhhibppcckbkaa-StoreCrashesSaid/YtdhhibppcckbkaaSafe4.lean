import Derived.Test.YtdhhibppcckbkaaSafe3
namespace Go.Proofs.Ytdhhibppcckbkaa
open Go.RowKit Go.Shelf
set_option linter.unusedVariables false
set_option linter.unusedSimpArgs false
/-! append of strings that lie elsewhere -/
theorem str_flat {w : World} {lo : Nat} {v : Value} {xs : List ByteArray} (h : Own Rep.str 9 w lo v xs) : w.ownsRow lo 9 1 v xs.length (xs.map Value.string) ∧ ∀ x ∈ xs, x.size ≤ M47 := by
  obtain ⟨css, h1, h2, h3⟩ := h
  have h4 : ∀ i (hi : i < xs.length) (hi' : i < css.length), css[i] = [.string xs[i]] ∧ xs[i].size ≤ M47 := fun i hi hi' => by
    obtain ⟨e, a⟩ := h3 i xs[i] css[i] (List.getElem?_eq_getElem hi) (List.getElem?_eq_getElem hi')
    exact ⟨e, a⟩
  have e : css = xs.map fun s => [Value.string s] := by
    apply List.ext_getElem
    · simp [h2]
    · intro i hi hi'
      simp only [List.getElem_map]
      exact (h4 i (by omega) hi).1
  have e2 : (xs.map fun s => [Value.string s]).flatten = xs.map Value.string := by
    clear h1 h2 h3 h4 e
    induction xs with
    | nil => rfl
    | cons a l ih => simp [ih]
  refine ⟨by rw [← e2, ← e]; exact h1, fun x hx => ?_⟩
  obtain ⟨i, hi, rfl⟩ := List.getElem_of_mem hx
  exact (h4 i hi (by omega)).2
theorem strs_cells {w : World} {F : Nat → Prop} {A : Option Addr} {c : Nat} {ys : List ByteArray} (h : SliceOf Rep.str w F (.slice A ys.length c) ys) (ad : Addr) (hA : A = some ad) : ∀ j u, (ys.map Value.string)[j]? = some u → w.cell? (ad.add j) = some u := by
  intro j u hu
  have hj : j < ys.length := by simpa using (List.getElem?_eq_some_iff.1 hu).1
  obtain ⟨g, o, rfl, c0, _⟩ := h.str_at hj
  obtain rfl := Option.some.inj hA
  have : (⟨g, o, none⟩ : Addr).add j = ⟨g, o + j, none⟩ := by unfold Addr.add; split <;> simp_all
  rw [this, c0, ← hu]
  simp [hj]
theorem run_appS (W : World) (lo : Nat) (v : Value) (xs ys : List ByteArray) (F : Nat → Prop) (A : Option Addr) (c : Nat) (ty : TypeId) (hown : Own Rep.str 9 W lo v xs) (hy : SliceOf Rep.str W F (.slice A ys.length c) ys)
    (hl : (xs.length + ys.length) * 16 ≤ 140737488355328) (hlo : lo ≤ W.heap.size) :
    ∃ v' w', (Builtin.append_ #[35, 35] ty #[v, .slice A ys.length c]).run Try.prog W = .ok v' w' ∧ Own Rep.str 9 w' lo v' (xs ++ ys) ∧ W.grownBy w' v.ownBlock ∧ (v'.ownBlock = v.ownBlock ∨ v'.ownBlock = some W.heap.size) := by
  obtain ⟨i0, hi0, hzz⟩ := Option.map_eq_some_iff.1 infoStrS
  simp only [Prod.mk.injEq] at hzz
  obtain ⟨hz0, hz1, hz2⟩ := hzz
  have hyo : ∀ y ∈ ys, y.size ≤ M47 := fun y hy' => by
    obtain ⟨i, hi, rfl⟩ := List.getElem_of_mem hy'
    obtain ⟨g, o, _, _, h1⟩ := hy.str_at hi
    exact h1
  obtain ⟨ho, hxo⟩ := str_flat hown
  cases A with
  | some ad =>
    obtain ⟨v', w', h1, h2, h3, -, h5⟩ := run_append_own_at (P := Try.prog) W lo 35 ty 9 i0 _ 1 16 Try.underlying35 hi0 hz0 hz1 hz2 rfl (by decide) v xs.length _ ho ad ys.length c (ys.map Value.string) (by simp)
      (strs_cells hy ad rfl) (fun u hu => by simp at hu; obtain ⟨s, _, rfl⟩ := hu; rfl) (by simp only [maxLen]; omega) hl hlo
    refine ⟨v', w', h1, own_strs (by rw [List.length_append, List.map_append]; exact h2) (fun x hx => ?_), h3, h5⟩
    rcases List.mem_append.1 hx with hx | hx
    · exact hxo x hx
    · exact hyo x hx
  | none =>
    have h0 : ys = [] := by
      cases ys with
      | nil => rfl
      | cons y l => obtain ⟨g, o, e, _⟩ := hy.str_at (i := 0) (by simp); simp at e
    subst h0
    obtain ⟨hlen, hv⟩ := ho
    have hrun : ∀ B n cap, n ≤ cap → (Builtin.append_ #[35, 35] ty #[.slice B n cap, .slice none 0 c]).run Try.prog W = .ok (.slice B n cap) W := by
      intro B n cap hc
      simp [Builtin.append_, run_underlying Try.underlying35, Builtin.lenOf, Builtin.firstCells, sizeOf, typeInfo, hi0, hc]
      cases B <;> simp [storeCells]
    rcases hv with ⟨rfl, e0⟩ | ⟨g, cap, cur, rfl, _, hb, h3, h4, h5, h6⟩
    · have h0' : xs = [] := List.eq_nil_of_length_eq_zero e0
      subst h0'
      exact ⟨_, W, hrun none 0 0 (Nat.le_refl _), Own.nil _ _ _ _, World.grownBy.refl W _, .inl rfl⟩
    · exact ⟨_, W, hrun _ _ _ h3, by rw [List.append_nil]; exact hown, World.grownBy.refl W _, .inl rfl⟩
/-- A row of strings that is new since w0. -/
def NewS (w0 w : World) (v : Value) (xs : List ByteArray) : Prop := Own Rep.str 9 w w0.heap.size v xs ∧ Keep [] w0 w
theorem NewS.alloc {w0 w : World} {v : Value} {xs : List ByteArray} (h : NewS w0 w v xs) (o : Obj) : NewS w0 (w.alloc o) v xs :=
  ⟨h.1.kept (fun k _ hk => Below.heap_alloc _ _ _ hk) (by simp), h.2.alloc o⟩
theorem NewS.keep {w0 w w' : World} {v : Value} {xs : List ByteArray} (h : NewS w0 w v xs) (k : Keep [] w w') : NewS w0 w' v xs :=
  ⟨h.1.kept (fun j _ hj => k.block j hj (by simp)) k.size, h.2.trans k⟩
theorem NewS.slice {w0 w : World} {A : Option Addr} {m c : Nat} {xs : List ByteArray} (h : NewS w0 w (.slice A m c) xs) (hb : xs.length ≤ 1000000) : m = xs.length ∧ m ≤ c ∧ SliceOf Rep.str w (fun k => w0.heap.size ≤ k) (.slice A m c) xs := by
  obtain ⟨h1, h2⟩ := h
  have hc : m ≤ c := by
    obtain ⟨css, h1, _⟩ := h1
    rcases h1.2 with ⟨e, h0⟩ | ⟨g, cap, cur, e, _, _, h3, _⟩
    · cases e; omega
    · cases e; exact h3
  have h3 := h1.slice (by rw [M47_eq]; omega)
  obtain ⟨A', c', e, -⟩ := h3.form
  cases e
  exact ⟨rfl, hc, h3⟩
section
variable {o : Oper} {act : Act} {K : Act → World → Prop} {Q : Exit → Act → World → Prop}
theorem wp_appS (w0 : World) (s x : Operand) (ho : o.op = .call { callee := .builtin .append, args := #[s, x], argTypes := #[35, 35] })
    (W : World) (v : Value) (xs ys : List ByteArray) (F : Nat → Prop) (A : Option Addr) (c : Nat) (hs : act.eval s = v) (hx : act.eval x = .slice A ys.length c)
    (hown : NewS w0 W v xs) (hy : SliceOf Rep.str W F (.slice A ys.length c) ys) (hl : (xs.length + ys.length) * 16 ≤ 140737488355328)
    (h : ∀ B cap w', NewS w0 w' (.slice B (xs.length + ys.length) cap) (xs ++ ys) → K (act.put o.dst (.slice B (xs.length + ys.length) cap)) w') :
    Oper.wp Try.prog o act W K Q := by
  obtain ⟨v', w', r1, r2, r3, r4⟩ := run_appS W w0.heap.size v xs ys F A c o.type hown.1 hy hl hown.2.size
  obtain ⟨B, cap, rfl, -⟩ := r2.form
  rw [List.length_append] at *
  unfold Oper.wp execOp
  simp only [ho, resolve, invoke, builtin, Sem.run_bind, Sem.run_pure, Result.andThen_ok, List.map_toArray, List.map_cons, List.map_nil, hs, hx, r1]
  exact h B cap w' ⟨r2, hown.2.grown r3 (fun i hi => .inr (hown.1.lt i hi).1)⟩
theorem wpList_appS (w0 : World) {ops : Array Oper} {rest : List Oper} (hgd : o.guard = none) (s x : Operand) (ho : o.op = .call { callee := .builtin .append, args := #[s, x], argTypes := #[35, 35] })
    (W : World) (v : Value) (xs ys : List ByteArray) (F : Nat → Prop) (A : Option Addr) (c : Nat) (hs : act.eval s = v) (hx : act.eval x = .slice A ys.length c)
    (hown : NewS w0 W v xs) (hy : SliceOf Rep.str W F (.slice A ys.length c) ys) (hl : (xs.length + ys.length) * 16 ≤ 140737488355328)
    (h : ∀ B cap w', NewS w0 w' (.slice B (xs.length + ys.length) cap) (xs ++ ys) → wpList Try.prog ops Q rest (act.put o.dst (.slice B (xs.length + ys.length) cap)) w') :
    wpList Try.prog ops Q (o :: rest) act W :=
  wpList_plain hgd fun _ hK => wp_appS w0 s x ho W v xs ys F A c hs hx hown hy hl fun B cap w' a1 => hK _ _ (h B cap w' a1)
theorem step_appS (w0 : World) {ops : Array Oper} {E : Prop} (hgd : o.guard = none) (s x : Operand) (ho : o.op = .call { callee := .builtin .append, args := #[s, x], argTypes := #[35, 35] })
    (W : World) (v : Value) (xs ys : List ByteArray) (F : Nat → Prop) (A : Option Addr) (c : Nat) (hs : act.eval s = v) (hx : act.eval x = .slice A ys.length c)
    (hown : NewS w0 W v xs) (hy : SliceOf Rep.str W F (.slice A ys.length c) ys) (hl : (xs.length + ys.length) * 16 ≤ 140737488355328)
    (h : ∀ B cap w', NewS w0 w' (.slice B (xs.length + ys.length) cap) (xs ++ ys) → K (act.put o.dst (.slice B (xs.length + ys.length) cap)) w') :
    if Region.wanted o (yielded ops act.tmps) = true then Oper.wp Try.prog o act W K Q else E := by
  have hw : Region.wanted o (yielded ops act.tmps) = true := by simp [Region.wanted, hgd]
  rw [if_pos hw]
  exact wp_appS w0 s x ho W v xs ys F A c hs hx hown hy hl h
end
theorem newS_one (w : World) (s : ByteArray) (hs : s.size ≤ M47) : NewS w (w.alloc (.cells #[.string s] 9)) (.slice (some ⟨w.heap.size, 0, none⟩) 1 1) [s] :=
  ⟨own_strs (l := [s]) ⟨rfl, .inr ⟨w.heap.size, 1, #[.string s], rfl, Nat.le_refl _, heap_alloc_new w _, Nat.le_refl _, by decide, rfl, rfl⟩⟩ (by simpa using hs), (Keep.refl _ _).alloc _⟩
theorem newS_none (w : World) : NewS w (w.alloc (.cells #[] 9)) (.slice (some ⟨w.heap.size, 0, none⟩) 0 0) [] :=
  ⟨own_strs (l := []) ⟨rfl, .inr ⟨w.heap.size, 0, #[], rfl, Nat.le_refl _, heap_alloc_new w _, Nat.le_refl _, by decide, rfl, rfl⟩⟩ (by simp), (Keep.refl _ _).alloc _⟩
/-! two lists that are one -/
end Go.Proofs.Ytdhhibppcckbkaa
