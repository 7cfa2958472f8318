import Derived.Test.YtaiemagmkfjklaaPool2
import Derived.Lib.SlKept
import Derived.Lib.SliceRun
namespace Go.Proofs.Ytaiemagmkfjklaa
open Go.RowKit Go.Shelf
set_option linter.unusedVariables false
set_option linter.unusedSimpArgs false
/-! slices.ContainsFunc, slices.DeleteFunc over requests -/
theorem idxR_none (pr : Req → Bool) : ∀ (xs : List Req) (i : Nat), xs.any pr = false → idxR pr xs i = -1
  | [], _, _ => rfl
  | x :: l, i, h => by
    simp only [List.any_cons, Bool.or_eq_false_iff] at h
    simp [idxR, h.1, idxR_none pr l (i + 1) h.2]
theorem idxR_some (pr : Req → Bool) : ∀ (xs : List Req) (i : Nat), xs.any pr = true → ∃ k, k < xs.length ∧ idxR pr xs i = ((i + k : Nat) : Int) ∧ (∀ x, xs[k]? = some x → pr x = true) ∧ ∀ j, j < k → ∀ x, xs[j]? = some x → pr x = false
  | [], _, h => by simp at h
  | x :: l, i, h => by
    cases hx : pr x with
    | true => exact ⟨0, by simp, by simp [idxR, hx], fun y hy => by simp at hy; rw [← hy]; exact hx, fun j hj => absurd hj (Nat.not_lt_zero _)⟩
    | false =>
      simp only [List.any_cons, hx, Bool.false_or] at h
      obtain ⟨k, hk, e, h1, h2⟩ := idxR_some pr l (i + 1) h
      refine ⟨k + 1, by simp; omega, by simp only [idxR, hx]; rw [if_neg (by simp), e]; congr 1; omega, fun y hy => h1 y (by simpa using hy), fun j hj y hy => ?_⟩
      cases j with
      | zero => simp at hy; rw [← hy]; exact hx
      | succ j => exact h2 j (by omega) y (by simpa using hy)
theorem containsFunc_call (A : Option Addr) (xs : List Req) (c : Nat) (F : Nat → Prop) (k : FuncId) (cap : Array Value) (pr : Req → Bool) (w : World) (hs : SliceOf Rep.req w F (.slice A xs.length c) xs)
    (hp : PredOn w [] k cap pr) (eg : ∀ args w, (callFunc k args).run Try.prog w = .ok (.enter k args) w) :
    Calls Try.prog 25 #[.slice A xs.length c, .func (.func k) #[] cap] w fun e w' => e = .returned (.bool (xs.any pr)) ∧ Keep [] w w' := by
  have hI := indexFunc_call A xs c F k cap pr w hs hp eg
  clear hs hp
  cases ha : xs.any pr with
  | false =>
    rw [idxR_none pr xs 0 ha] at hI
    go_enter Try.func25, Try.ntmps25
    go_wp2_with (go_at_call 31; refine hI.mono ?_; rintro e w' ⟨rfl, kq⟩)
    go_ret
    exact ⟨rfl, kq⟩
  | true =>
    obtain ⟨m, hm, e, -, -⟩ := idxR_some pr xs 0 ha
    rw [e] at hI
    clear e
    simp only [Nat.zero_add] at hI
    go_enter Try.func25, Try.ntmps25
    go_wp2_with (go_at_call 31; refine hI.mono ?_; rintro e w' ⟨rfl, kq⟩)
    go_ret
    exact ⟨by simp, kq⟩
/-! a row of requests in a block of its own -/
def reqCells (r : Req) : List Value := [.int .i64 r.c, .int .i64 r.s, .string r.b]
instance : Inhabited Req := ⟨⟨0, 0, ByteArray.empty⟩⟩
def RowAt (w : World) (g c : Nat) (ys : Array Req) : Prop :=
  ∃ cur, w.heap[g]? = some (.cells cur 24 (0, 0)) ∧ cur.size = c * 3 ∧ c ≤ maxLen ∧ ys.size ≤ c ∧ (∀ i (hi : i < ys.size), cur[i * 3]? = some (.int .i64 ys[i].c) ∧ cur[i * 3 + 1]? = some (.int .i64 ys[i].s) ∧ cur[i * 3 + 2]? = some (.string ys[i].b)) ∧ ∀ i (hi : i < ys.size), ReqOk ys[i]
theorem flat_cells : ∀ (xs : List Req) (i : Nat) (hi : i < xs.length), (xs.flatMap reqCells)[i * 3]? = some (.int .i64 xs[i].c) ∧ (xs.flatMap reqCells)[i * 3 + 1]? = some (.int .i64 xs[i].s) ∧ (xs.flatMap reqCells)[i * 3 + 2]? = some (.string xs[i].b)
  | [], _, h => by simp at h
  | x :: l, 0, _ => by simp [reqCells]
  | x :: l, i + 1, h => by
    have := flat_cells l i (by simpa using h)
    have e : ∀ j, (reqCells x ++ l.flatMap reqCells)[(i + 1) * 3 + j]? = (l.flatMap reqCells)[i * 3 + j]? := fun j => by
      rw [List.getElem?_append_right (by simp [reqCells]; omega)]
      congr 1
      simp [reqCells]; omega
    simp only [List.flatMap_cons, List.getElem_cons_succ]
    exact ⟨(e 0).trans this.1, (e 1).trans this.2.1, (e 2).trans this.2.2⟩
theorem flat_length (xs : List Req) : (xs.flatMap reqCells).length = xs.length * 3 := by
  induction xs with
  | nil => rfl
  | cons x l ih => simp only [List.flatMap_cons, List.length_append, ih, List.length_cons]; simp [reqCells]; omega
theorem own_flat {w : World} {v : Value} {xs : List Req} (h : Own Rep.req 24 w 0 v xs) : w.ownsRow 0 24 3 v xs.length (xs.flatMap reqCells) ∧ ∀ x ∈ xs, ReqOk x := by
  obtain ⟨css, h1, h2, h3⟩ := h
  have h4 : ∀ i (hi : i < xs.length) (hi' : i < css.length), css[i] = reqCells xs[i] ∧ ReqOk xs[i] := fun i hi hi' => by
    obtain ⟨e, a, b, c⟩ := h3 i xs[i] css[i] (List.getElem?_eq_getElem hi) (List.getElem?_eq_getElem hi')
    exact ⟨e, a, b, c⟩
  have e : css = xs.map reqCells := by
    apply List.ext_getElem
    · simp [h2]
    · intro i hi hi'
      simp only [List.getElem_map]
      exact (h4 i (by omega) hi).1
  refine ⟨by rw [List.flatMap_def, ← e]; exact h1, fun x hx => ?_⟩
  obtain ⟨i, hi, rfl⟩ := List.getElem_of_mem hx
  exact (h4 i hi (by omega)).2
theorem own_of_flat {w : World} {v : Value} {xs : List Req} (h : w.ownsRow 0 24 3 v xs.length (xs.flatMap reqCells)) (ho : ∀ x ∈ xs, ReqOk x) : Own Rep.req 24 w 0 v xs := by
  refine ⟨xs.map reqCells, by rw [← List.flatMap_def]; exact h, by simp, fun i x cs hx hc => ?_⟩
  rw [List.getElem?_map, hx] at hc
  simp at hc
  subst hc
  have := ho x (List.mem_of_getElem? hx)
  exact ⟨rfl, this.1, this.2.1, this.2.2⟩
theorem Own.rowAt {w : World} {A : Option Addr} {n c : Nat} {xs : List Req} (h : Own Rep.req 24 w 0 (.slice A n c) xs) : n = xs.length ∧ ((A = none ∧ xs = [] ∧ c = 0) ∨ ∃ g, A = some ⟨g, 0, none⟩ ∧ RowAt w g c xs.toArray) := by
  obtain ⟨h1, h2⟩ := own_flat h
  obtain ⟨hl, h1⟩ := h1
  rcases h1 with ⟨e, h0⟩ | ⟨g, cap, cur, e, _, hb, h3, h4, h5, h6⟩
  · cases e
    exact ⟨h0.symm, .inl ⟨rfl, List.eq_nil_of_length_eq_zero h0, rfl⟩⟩
  · cases e
    refine ⟨rfl, .inr ⟨g, rfl, cur, hb, h5, h4, by simpa using h3, fun i hi => ?_, fun i hi => h2 _ (by simp)⟩⟩
    have hi' : i < xs.length := by simpa using hi
    have hf := flat_cells xs i hi'
    rw [← h6] at hf
    simp only [List.getElem?_take, List.getElem_toArray] at hf ⊢
    rw [if_pos (by omega), if_pos (by omega), if_pos (by omega)] at hf
    simpa using hf
theorem RowAt.own {w : World} {g c : Nat} {ys : Array Req} (h : RowAt w g c ys) : Own Rep.req 24 w 0 (.slice (some ⟨g, 0, none⟩) ys.size c) ys.toList := by
  obtain ⟨cur, hb, h1, h2, h3, h4, h5⟩ := h
  refine own_of_flat ⟨by rw [flat_length], .inr ⟨g, c, cur, by simp, Nat.zero_le _, hb, by simpa using h3, h2, h1, ?_⟩⟩ (fun x hx => ?_)
  · apply List.ext_getElem?
    intro j
    rw [List.getElem?_take]
    simp only [Array.length_toList, Array.getElem?_toList]
    by_cases hj : j < ys.size * 3
    · rw [if_pos hj]
      have hi : j / 3 < ys.size := by omega
      have a := h4 (j / 3) hi
      have b := flat_cells ys.toList (j / 3) (by simpa using hi)
      simp only [Array.getElem_toList] at b
      have : j = j / 3 * 3 ∨ j = j / 3 * 3 + 1 ∨ j = j / 3 * 3 + 2 := by omega
      rcases this with e | e | e <;> rw [e]
      · rw [a.1, b.1]
      · rw [a.2.1, b.2.1]
      · rw [a.2.2, b.2.2]
    · rw [if_neg hj, List.getElem?_eq_none (by rw [flat_length]; simp; omega)]
  · obtain ⟨i, hi, rfl⟩ := List.getElem_of_mem hx
    exact h5 i (by simpa using hi)
theorem RowAt.lt {w : World} {g c : Nat} {ys : Array Req} (h : RowAt w g c ys) : g < w.heap.size := by
  obtain ⟨cur, hb, _⟩ := h
  exact (Array.getElem?_eq_some_iff.1 hb).1
theorem RowAt.same {w w' : World} {g c : Nat} {ys : Array Req} (h : RowAt w g c ys) (he : w'.heap[g]? = w.heap[g]?) : RowAt w' g c ys := by
  obtain ⟨cur, hb, h⟩ := h
  exact ⟨cur, he.trans hb, h⟩
theorem RowAt.cells {w : World} {g c : Nat} {ys : Array Req} (h : RowAt w g c ys) {i : Nat} (hi : i < ys.size) :
    w.cell? ⟨g, i * 3, none⟩ = some (.int .i64 ys[i].c) ∧ w.cell? ⟨g, i * 3 + 1, none⟩ = some (.int .i64 ys[i].s) ∧ w.cell? ⟨g, i * 3 + 2, none⟩ = some (.string ys[i].b) ∧
      w.frozen? ⟨g, i * 3, none⟩ = false ∧ w.frozen? ⟨g, i * 3 + 1, none⟩ = false ∧ w.frozen? ⟨g, i * 3 + 2, none⟩ = false ∧ ReqOk ys[i] := by
  obtain ⟨cur, hb, _, _, _, h4, h5⟩ := h
  have b : Blk w g cur 24 := hb
  obtain ⟨a1, a2, a3⟩ := h4 i hi
  exact ⟨(b.cell _).trans a1, (b.cell _).trans a2, (b.cell _).trans a3, b.frozen _, b.frozen _, b.frozen _, h5 i hi⟩
theorem RowAt.put {w : World} {g c : Nat} {ys : Array Req} (h : RowAt w g c ys) (i : Nat) (r : Req) (hr : ReqOk r) :
    RowAt (((w.setCell ⟨g, i * 3, none⟩ (.int .i64 r.c)).setCell ⟨g, i * 3 + 1, none⟩ (.int .i64 r.s)).setCell ⟨g, i * 3 + 2, none⟩ (.string r.b)) g c (ys.setIfInBounds i r) := by
  obtain ⟨cur, hb, h1, h2, h3, h4, h5⟩ := h
  have b : Blk w g cur 24 := hb
  refine ⟨_, ((b.set _ _).set _ _).set _ _, by simp [h1], h2, by simpa using h3, fun j hj => ?_, fun j hj => ?_⟩
  · have hj' : j < ys.size := by simpa using hj
    obtain ⟨a1, a2, a3⟩ := h4 j hj'
    have hc : j * 3 + 2 < cur.size := by rw [h1]; omega
    by_cases e : i = j
    · subst e
      simp only [Array.getElem_setIfInBounds_self]
      refine ⟨?_, ?_, ?_⟩
      · rw [Array.getElem?_setIfInBounds_ne (by omega), Array.getElem?_setIfInBounds_ne (by omega), Array.getElem?_setIfInBounds_self_of_lt (by omega)]
      · rw [Array.getElem?_setIfInBounds_ne (by omega), Array.getElem?_setIfInBounds_self_of_lt (by simp; omega)]
      · rw [Array.getElem?_setIfInBounds_self_of_lt (by simp; omega)]
    · rw [Array.getElem_setIfInBounds_ne (h := e)]
      refine ⟨?_, ?_, ?_⟩ <;> rw [Array.getElem?_setIfInBounds_ne (by omega), Array.getElem?_setIfInBounds_ne (by omega), Array.getElem?_setIfInBounds_ne (by omega)] <;> assumption
  · have hj' : j < ys.size := by simpa using hj
    by_cases e : i = j
    · subst e; simpa using hr
    · rw [Array.getElem_setIfInBounds_ne (h := e)]; exact h5 j hj'
theorem setCells_block (g : Nat) : ∀ (vs : List Value) (o : Nat) (w : World) (cur : Array Value) (t : Nat), Blk w g cur t → ∃ cur', Blk (w.setCells g o vs) g cur' t ∧ cur'.size = cur.size ∧ ∀ j, j < o → cur'[j]? = cur[j]?
  | [], _, _, cur, _, h => ⟨cur, h, rfl, fun _ _ => rfl⟩
  | v :: vs, o, w, cur, t, h => by
    obtain ⟨cur', h1, h2, h3⟩ := setCells_block g vs (o + 1) _ _ t (h.set o v)
    exact ⟨cur', h1, by simpa using h2, fun j hj => by rw [h3 j (by omega), Array.getElem?_setIfInBounds_ne (by omega)]⟩
theorem Keep.setCells {S : List Nat} {a : World} (g : Nat) (hg : g ∈ S ∨ a.heap.size ≤ g) : ∀ (vs : List Value) (o : Nat) (b : World), Keep S a b → Keep S a (b.setCells g o vs)
  | [], _, _, h => h
  | v :: vs, o, b, h => Keep.setCells g hg vs (o + 1) _ (h.setCell _ _ hg)
theorem Keep.set3r {S : List Nat} {a b : World} (h : Keep S a b) (g o o' o'' : Nat) (x y z : Value) (hp : g ∈ S ∨ a.heap.size ≤ g) : Keep S a (((b.setCell ⟨g, o, none⟩ x).setCell ⟨g, o', none⟩ y).setCell ⟨g, o'', none⟩ z) :=
  ((h.setCell _ _ hp).setCell _ _ hp).setCell _ _ hp
theorem RowAt.cut {w : World} {g c : Nat} {ys : Array Req} (h : RowAt w g c ys) (i : Nat) (hi : i ≤ ys.size) (vs : List Value) : RowAt (w.setCells g (i * 3) vs) g c (ys.extract 0 i) := by
  obtain ⟨cur, hb, h1, h2, h3, h4, h5⟩ := h
  obtain ⟨cur', b', s', e'⟩ := setCells_block g vs (i * 3) w cur 24 hb
  refine ⟨cur', b', s'.trans h1, h2, by simp; omega, fun j hj => ?_, fun j hj => ?_⟩
  · have hj' : j < i := by simp at hj; omega
    obtain ⟨a1, a2, a3⟩ := h4 j (by omega)
    rw [e' _ (by omega), e' _ (by omega), e' _ (by omega)]
    simpa using ⟨a1, a2, a3⟩
  · have hj' : j < i := by simp at hj; omega
    simpa using h5 j (by omega)
theorem zeroReqV (w : World) : (zeroValue 24).run Try.prog w = .ok (.agg #[.int .i64 0, .int .i64 0, .string ⟨#[]⟩]) w := by kernel_rfl
theorem run_clearR (w : World) (ty : TypeId) (b o n c : Nat) (hn : 0 < n) (hc : ∀ j, j < n * 3 → (w.cell? ⟨b, o + j, none⟩).isSome = true) (hf : ∀ j, j < n * 3 → w.frozen? ⟨b, o + j, none⟩ = false) :
    (Builtin.clear_ #[31] ty #[.slice (some ⟨b, o, none⟩) n c]).run Try.prog w = .ok (.tuple #[]) (w.setCells b o (Builtin.zeroCells #[.int .i64 0, .int .i64 0, .string ⟨#[]⟩] n).toList) := by
  have hlen : (Builtin.zeroCells #[.int .i64 0, .int .i64 0, .string ⟨#[]⟩] n).toList.length = n * 3 := by simp [Builtin.zeroCells]
  have hone : ∀ v ∈ (Builtin.zeroCells #[.int .i64 0, .int .i64 0, .string ⟨#[]⟩] n).toList, v.oneCell' = true := by
    intro v hv
    simp only [Builtin.zeroCells, Array.toList_map, List.mem_map] at hv
    obtain ⟨i, -, rfl⟩ := hv
    have : i % 3 = 0 ∨ i % 3 = 1 ∨ i % 3 = 2 := by omega
    rcases this with e | e | e <;> simp [e, Value.oneCell']
  have hst := run_storeCells_cells (P := Try.prog) b o (Builtin.zeroCells #[.int .i64 0, .int .i64 0, .string ⟨#[]⟩] n).toList 0 w (by rw [hlen]; simpa using hc) (by rw [hlen]; simpa using hf) hone
  simp only [Nat.add_zero] at hst
  obtain ⟨m, rfl⟩ : ∃ m, n = m + 1 := ⟨n - 1, by omega⟩
  simp [Builtin.clear_, run_underlying Try.underlying31, zeroReqV, Value.cells, hst]
end Go.Proofs.Ytaiemagmkfjklaa
