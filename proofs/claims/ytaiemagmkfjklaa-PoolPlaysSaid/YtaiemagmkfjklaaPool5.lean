import Derived.Test.YtaiemagmkfjklaaPool4
namespace Go.Proofs.Ytaiemagmkfjklaa
open Go.RowKit Go.Shelf
set_option linter.unusedVariables false
set_option linter.unusedSimpArgs false
/-! append of requests that lie elsewhere; slices.Clone -/
theorem infoReq : (Try.prog.info? 24).map (fun i => (i.zero, i.size, i.bytes)) = some (some (.agg #[.int .i64 0, .int .i64 0, .string ⟨#[]⟩]), 3, 32) := by kernel_rfl
theorem flat_one {ys : List Req} {v : Value} (h : v ∈ ys.flatMap reqCells) : v.oneCell' = true := by
  simp only [List.mem_flatMap, reqCells] at h
  obtain ⟨r, _, h⟩ := h
  simp at h
  rcases h with rfl | rfl | rfl <;> rfl
theorem add_none (g o j : Nat) : (⟨g, o, none⟩ : Addr).add j = ⟨g, o + j, none⟩ := by unfold Addr.add; split <;> simp_all
theorem slice_flat {w : World} {F : Nat → Prop} {A : Option Addr} {c : Nat} {ys : List Req} (h : SliceOf Rep.req w F (.slice A ys.length c) ys) (ad : Addr) (hA : A = some ad) : ∀ j u, (ys.flatMap reqCells)[j]? = some u → w.cell? (ad.add j) = some u := by
  intro j u hu
  have hj : j < ys.length * 3 := by rw [← flat_length]; exact (List.getElem?_eq_some_iff.1 hu).1
  have hi : j / 3 < ys.length := by omega
  obtain ⟨g, o, rfl, c0, c1, c2, -, -, -⟩ := h.req_at hi
  obtain rfl := Option.some.inj hA
  have b := flat_cells ys (j / 3) hi
  rw [add_none]
  have : j = j / 3 * 3 ∨ j = j / 3 * 3 + 1 ∨ j = j / 3 * 3 + 2 := by omega
  rcases this with e | e | e <;> rw [e] at hu ⊢
  · rw [c0, ← hu, b.1]
  · rw [← Nat.add_assoc, c1, ← hu, b.2.1]
  · rw [← Nat.add_assoc, c2, ← hu, b.2.2]
theorem run_appR (W : World) (v : Value) (xs ys : List Req) (F : Nat → Prop) (A : Option Addr) (c : Nat) (ty : TypeId) (hown : Own Rep.req 24 W 0 v xs) (hy : SliceOf Rep.req W F (.slice A ys.length c) ys)
    (hl : (xs.length + ys.length) * 32 ≤ 140737488355328) :
    ∃ v' w', (Builtin.append_ #[31, 31] ty #[v, .slice A ys.length c]).run Try.prog W = .ok v' w' ∧ Own Rep.req 24 w' 0 v' (xs ++ ys) ∧ W.grownBy w' v.ownBlock ∧ (v'.ownBlock = v.ownBlock ∨ v'.ownBlock = some W.heap.size) := by
  obtain ⟨i0, hi0, hzz⟩ := Option.map_eq_some_iff.1 infoReq
  simp only [Prod.mk.injEq] at hzz
  obtain ⟨hz0, hz1, hz2⟩ := hzz
  have hyo : ∀ y ∈ ys, ReqOk y := fun y hy' => by
    obtain ⟨i, hi, rfl⟩ := List.getElem_of_mem hy'
    obtain ⟨g, o, _, _, _, _, h1, h2, h3⟩ := hy.req_at hi
    exact ⟨h1, h2, h3⟩
  obtain ⟨ho, hxo⟩ := own_flat hown
  cases A with
  | some ad =>
    obtain ⟨v', w', h1, h2, h3, -, h5⟩ := run_append_own_at (P := Try.prog) W 0 31 ty 24 i0 _ 3 32 Try.underlying31 hi0 hz0 hz1 hz2 rfl (by decide) v xs.length _ ho ad ys.length c (ys.flatMap reqCells) (flat_length ys)
      (slice_flat hy ad rfl) (fun u hu => flat_one hu) (by simp only [maxLen]; omega) hl (Nat.zero_le _)
    refine ⟨v', w', h1, own_of_flat (by rw [List.length_append, List.flatMap_append]; exact h2) (fun x hx => ?_), h3, h5⟩
    rcases List.mem_append.1 hx with hx | hx
    · exact hxo x hx
    · exact hyo x hx
  | none =>
    have h0 : ys = [] := by
      cases ys with
      | nil => rfl
      | cons y l => obtain ⟨g, o, e, _⟩ := hy.req_at (i := 0) (by simp); simp at e
    subst h0
    obtain ⟨hlen, hv⟩ := ho
    have hrun : ∀ B n cap, n ≤ cap → (Builtin.append_ #[31, 31] ty #[.slice B n cap, .slice none 0 c]).run Try.prog W = .ok (.slice B n cap) W := by
      intro B n cap hc
      simp [Builtin.append_, run_underlying Try.underlying31, Builtin.lenOf, Builtin.firstCells, sizeOf, typeInfo, hi0, hc]
      cases B <;> simp [storeCells]
    rcases hv with ⟨rfl, e0⟩ | ⟨g, cap, cur, rfl, _, hb, h3, h4, h5, h6⟩
    · have h0' : xs = [] := List.eq_nil_of_length_eq_zero e0
      subst h0'
      exact ⟨_, W, hrun none 0 0 (Nat.le_refl _), Own.nil _ _ _ _, World.grownBy.refl W _, .inl rfl⟩
    · exact ⟨_, W, hrun _ _ _ h3, by rw [List.append_nil]; exact hown, World.grownBy.refl W _, .inl rfl⟩
section
variable {o : Oper} {act : Act} {K : Act → World → Prop} {Q : Exit → Act → World → Prop}
theorem wp_appR (s x : Operand) (ho : o.op = .call { callee := .builtin .append, args := #[s, x], argTypes := #[31, 31] })
    (W : World) (v : Value) (xs ys : List Req) (F : Nat → Prop) (A : Option Addr) (c : Nat) (hs : act.eval s = v) (hx : act.eval x = .slice A ys.length c)
    (hown : Own Rep.req 24 W 0 v xs) (hy : SliceOf Rep.req W F (.slice A ys.length c) ys) (hl : (xs.length + ys.length) * 32 ≤ 140737488355328)
    (h : ∀ B cap w', Own Rep.req 24 w' 0 (.slice B (xs.length + ys.length) cap) (xs ++ ys) → W.grownBy w' v.ownBlock → ((Value.slice B (xs.length + ys.length) cap).ownBlock = v.ownBlock ∨ (Value.slice B (xs.length + ys.length) cap).ownBlock = some W.heap.size) →
      K (act.put o.dst (.slice B (xs.length + ys.length) cap)) w') :
    Oper.wp Try.prog o act W K Q := by
  obtain ⟨v', w', r1, r2, r3, r4⟩ := run_appR W v xs ys F A c o.type hown hy hl
  obtain ⟨B, cap, rfl, -⟩ := r2.form
  rw [List.length_append] at *
  unfold Oper.wp execOp
  simp only [ho, resolve, invoke, builtin, Sem.run_bind, Sem.run_pure, Result.andThen_ok, List.map_toArray, List.map_cons, List.map_nil, hs, hx, r1]
  exact h B cap w' r2 r3 r4
theorem wpList_appR {ops : Array Oper} {rest : List Oper} (hgd : o.guard = none) (s x : Operand) (ho : o.op = .call { callee := .builtin .append, args := #[s, x], argTypes := #[31, 31] })
    (W : World) (v : Value) (xs ys : List Req) (F : Nat → Prop) (A : Option Addr) (c : Nat) (hs : act.eval s = v) (hx : act.eval x = .slice A ys.length c)
    (hown : Own Rep.req 24 W 0 v xs) (hy : SliceOf Rep.req W F (.slice A ys.length c) ys) (hl : (xs.length + ys.length) * 32 ≤ 140737488355328)
    (h : ∀ B cap w', Own Rep.req 24 w' 0 (.slice B (xs.length + ys.length) cap) (xs ++ ys) → W.grownBy w' v.ownBlock → ((Value.slice B (xs.length + ys.length) cap).ownBlock = v.ownBlock ∨ (Value.slice B (xs.length + ys.length) cap).ownBlock = some W.heap.size) →
      wpList Try.prog ops Q rest (act.put o.dst (.slice B (xs.length + ys.length) cap)) w') :
    wpList Try.prog ops Q (o :: rest) act W :=
  wpList_plain hgd fun _ hK => wp_appR s x ho W v xs ys F A c hs hx hown hy hl fun B cap w' a1 a2 a3 => hK _ _ (h B cap w' a1 a2 a3)
theorem step_appR {ops : Array Oper} {E : Prop} (hgd : o.guard = none) (s x : Operand) (ho : o.op = .call { callee := .builtin .append, args := #[s, x], argTypes := #[31, 31] })
    (W : World) (v : Value) (xs ys : List Req) (F : Nat → Prop) (A : Option Addr) (c : Nat) (hs : act.eval s = v) (hx : act.eval x = .slice A ys.length c)
    (hown : Own Rep.req 24 W 0 v xs) (hy : SliceOf Rep.req W F (.slice A ys.length c) ys) (hl : (xs.length + ys.length) * 32 ≤ 140737488355328)
    (h : ∀ B cap w', Own Rep.req 24 w' 0 (.slice B (xs.length + ys.length) cap) (xs ++ ys) → W.grownBy w' v.ownBlock → ((Value.slice B (xs.length + ys.length) cap).ownBlock = v.ownBlock ∨ (Value.slice B (xs.length + ys.length) cap).ownBlock = some W.heap.size) →
      K (act.put o.dst (.slice B (xs.length + ys.length) cap)) w') :
    if Region.wanted o (yielded ops act.tmps) = true then Oper.wp Try.prog o act W K Q else E := by
  have hw : Region.wanted o (yielded ops act.tmps) = true := by simp [Region.wanted, hgd]
  rw [if_pos hw]
  exact wp_appR s x ho W v xs ys F A c hs hx hown hy hl h
end
theorem own_empty (W : World) (g : Nat) (hb : W.heap[g]? = some (.cells #[] 24 (0, 0))) : Own Rep.req 24 W 0 (.slice (some ⟨g, 0, none⟩) 0 0) [] :=
  own_of_flat (xs := []) ⟨by simp, .inr ⟨g, 0, #[], rfl, Nat.zero_le _, hb, Nat.le_refl _, Nat.zero_le _, rfl, by simp⟩⟩ (by simp)
theorem clone_call (A : Option Addr) (xs : List Req) (c : Nat) (F : Nat → Prop) (w : World) (hs : SliceOf Rep.req w F (.slice A xs.length c) xs) (hl : xs.length ≤ 1000000) :
    Calls Try.prog 28 #[.slice A xs.length c] w fun e w' => ∃ B m cap, e = .returned (.slice B m cap) ∧ Own Rep.req 24 w' 0 (.slice B m cap) xs ∧ Keep [] w w' ∧ ∀ i, (Value.slice B m cap).ownBlock = some i → w.heap.size ≤ i := by
  cases A with
  | none =>
    have h0 : xs = [] := by
      cases xs with
      | nil => rfl
      | cons y l => obtain ⟨g, o, e, _⟩ := hs.req_at (i := 0) (by simp); simp at e
    subst h0
    clear hs
    have hne := Lib.run_eql_slice_nil (P := Try.prog) w 31 24 none 0 c 0 0 Try.underlying31
    go_enter Try.func28, Try.ntmps28
    go_wp2
    go_ret
    exact ⟨none, 0, 0, rfl, Own.nil _ _ _ _, Keep.refl _ _, by simp [Value.ownBlock]⟩
  | some ad =>
    have ho := own_empty (w.alloc (.cells #[] 24)) w.heap.size (Blk.new w #[] 24)
    have hs' : SliceOf Rep.req (w.alloc (.cells #[] 24)) F (.slice (some ad) xs.length c) xs := hs.keep fun k _ hk => Below.heap_alloc w _ k hk
    clear hs
    have hne := Lib.run_eql_slice_nil (P := Try.prog) w 31 24 (some ad) xs.length c 0 0 Try.underlying31
    go_enter Try.func28, Try.ntmps28
    go_wp2_with (first | (at_builtin; refine wpList_appR rfl (.tmp 5) (.tmp 6) rfl _ (.slice (some ⟨w.heap.size, 0, none⟩) 0 0) [] xs F (some ad) c (by simp [Act.eval, Act.put]) (by simp [Act.eval, Act.put]) ho hs' (by simp; omega) ?_; intro B cap w' h1 h2 h3) | go_in)
    go_ret
    simp only [List.length_nil, Nat.zero_add, List.nil_append] at *
    refine ⟨B, _, cap, rfl, h1, ((Keep.refl _ w).alloc _).grown h2 (fun i hi => .inr (by simp [Value.ownBlock] at hi; omega)), fun i hi => ?_⟩
    rcases h3 with h3 | h3
    · rw [h3] at hi; simp [Value.ownBlock] at hi; omega
    · rw [h3] at hi; simp at hi; omega
end Go.Proofs.Ytaiemagmkfjklaa
