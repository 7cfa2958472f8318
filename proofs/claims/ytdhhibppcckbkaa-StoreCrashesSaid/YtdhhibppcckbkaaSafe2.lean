import Derived.Test.YtdhhibppcckbkaaSafe1
namespace Go.Proofs.Ytdhhibppcckbkaa
open Go.RowKit Go.Shelf
set_option linter.unusedVariables false
set_option linter.unusedSimpArgs false
attribute [local go_sem] Oper.semAt_some
/-! logs: Records -/
theorem records_in (F : Fence) (n : Nat) (hF : F.fn 58) (hro : F.round = none) (p : Nat) (w : World) :
    CallsIn F n Try.prog 58 #[.pointer (some ⟨p, 0, none⟩)] w fun e w' => e = .returned (.func (.func 76) #[] #[.pointer (some ⟨w.heap.size, 0, none⟩)]) ∧ w' = w.alloc (.cells #[.pointer (some ⟨p, 0, none⟩)] 44) := by
  have hmf : ∀ (fn : Fn) (first cap : Array Value) (w : World), (Instr.makeFunc fn first cap).run Try.prog w = .ok (.func fn first cap) w := fun _ _ _ _ => rfl
  refine callsIn_of_wp Try.func58 rfl hF ?_ hro
  simp only [Try.ntmps58, List.size_toArray, List.length_cons, List.length_nil, Nat.reduceAdd, Nat.reduceSub, Array.replicate_succ, Array.replicate_zero, List.push_toArray, List.append_toArray, List.nil_append, List.cons_append]
  gi_wp2
  go_ret
  exact ⟨rfl, rfl⟩
theorem records_stops (F : Fence) (n : Nat) (hF : F.fn 76) (hro : F.round = none) (hn : 1 ≤ n) (p vb : Nat) (b : ByteArray) (hb : b.size ≤ 140737488355328) (w : World) (hp : p < w.heap.size) (hvb : vb < w.heap.size)
    (hv : w.cell? ⟨vb, 0, none⟩ = some (.pointer (some ⟨p, 0, none⟩))) (hc : w.cell? ⟨p, 0, none⟩ = some (.string b)) :
    SeqStopsK F n Try.prog 76 #[.pointer (some ⟨vb, 0, none⟩)] (fun x : Nat × ByteArray => #[Value.int .i64 (x.1 : Nat), .string x.2]) (KpL p vb) (fun ys => ys = recsAt b 0) (fun pre => pre <+: recsAt b 0) (recsAt b 0).length w := fun l J Jx W hW hJ _ hY h0 =>
  rec1_in F n hF hro hn l p vb b hb J Jx hY W hJ (cell_of_heap (hW.block vb hvb) hv) (cell_of_heap (hW.block p hp) hc) h0
theorem kpL_b {w : World} {p vb : Nat} (hp : p < w.heap.size) (hvb : vb < w.heap.size) (W : World) (l : Nat) (o o' : Obj) (hl : w.heap.size ≤ l) (_ : W.heap[l]? = some o) (_ : o.isCells = false) (_ : o.isWalk = false) : KpL p vb W (W.putObj l o') :=
  ⟨World.putObj_heap_other (by omega), World.putObj_heap_other (by omega)⟩
theorem infoStrS : (Try.prog.info? 9).map (fun i => (i.zero, i.size, i.bytes)) = some (some (.string ⟨#[]⟩), 1, 16) := by kernel_rfl
def strsOf (l : List (Nat × ByteArray)) : List Value := l.map fun x => .string x.2
theorem recsAt_len (b : ByteArray) : ∀ k i, (recsN k b i).length ≤ b.size
  | 0, i => Nat.zero_le _
  | k + 1, i => by
    have H : ∀ k i, (recsN k b i).length * 5 ≤ b.size - i := by
      intro k
      induction k with
      | zero => intro i; simp [recsN]
      | succ k ih =>
        intro i
        unfold recsN
        cases h : nextR b i with
        | none => simp
        | some n =>
          have := ih (i + 4 + n)
          obtain ⟨h1, -, h3, -, h5⟩ := nextR_some h
          dsimp only
          simp only [List.length_cons]
          omega
    have := H (k + 1) i
    omega
set_option maxRecDepth 100000 in
set_option maxHeartbeats 2000000 in
theorem Records_in (F : Fence) (n : Nat) (h3 : F.fn 40) (h4 : F.fn 58) (h5 : F.fn 76) (hro : F.round = none) (hn : 3 ≤ n) (p : Nat) (x : Lg) (w : World) (hp : LogAt w p x) (hg : x.g = false) (hb : x.b.size ≤ 1000000) :
    CallsIn F n Try.prog 40 #[.pointer (some ⟨p, 0, none⟩)] w fun e W' => ∃ v, e = .returned (.tuple #[v, .int .i64 0]) ∧ W'.ownsRow w.heap.size 9 1 v (recsAt x.b 0).length (strsOf (recsAt x.b 0)) ∧ Below w.heap.size w W' := by
  have h1 : 1 ≤ n := by omega
  have hlen : (recsAt x.b 0).length ≤ 1000000 := Nat.le_trans (recsAt_len x.b _ _) hb
  obtain ⟨b, s, f, g⟩ := x
  dsimp only at hg hb hlen ⊢
  subst hg
  obtain ⟨c0, c1, c2, c3⟩ := hp.cells
  have hpl := Blk.lt hp
  dsimp only at c0 c1 c2 c3
  obtain ⟨i0, hi, hz0, hz1, hz2⟩ := info_parts infoStrS
  refine callsIn_of_wp_marks Try.func40 rfl h3 ?_ hro
  simp only [Try.ntmps40, List.size_toArray, List.length_cons, List.length_nil, Nat.reduceAdd, Nat.reduceSub, Array.replicate_succ, Array.replicate_zero, List.push_toArray, List.append_toArray, List.nil_append, List.cons_append]
  gi_wp2_with (gi_at_call 58; refine (records_in F (n - 1) h4 hro _ _).mono ?_; rintro e w' ⟨rfl, rfl⟩)
  have bO := Boxed.new w 35 (.slice none 0 0)
  have bN := Boxed.new (w.alloc (.cells #[.slice none 0 0] 35)) 44 (.pointer (some ⟨p, 0, none⟩))
  rw [World.size_alloc] at bN
  have hB0 : Below w.heap.size w ((w.alloc (.cells #[.slice none 0 0] 35)).alloc (.cells #[.pointer (some ⟨p, 0, none⟩)] 44)) := ((Below.refl _ w).alloc (Nat.le_refl _) _).alloc (by simp) _
  have c0' := cell_of_heap (hB0.block p hpl) c0
  refine wpIn_rangeFunc_ownG hro h1 (gf := 76) (lb := #[.pointer (some ⟨w.heap.size + 1, 0, none⟩)]) rfl h5 (enters_of Try.func76 (by kernel_rfl) rfl)
    (records_stops F (n - 1) h5 hro (by omega) p (w.heap.size + 1) b (by omega) _ (by simp; omega) (by simp) bN.cell c0') (fun h k => ⟨k.1.trans h.1, k.2.trans h.2⟩) (kpL_b (by simp; omega) (by simp)) (Below.refl _ _) (fun _ => rfl)
    (fun pre W => ((∃ v, Boxed W w.heap.size 35 v ∧ W.ownsRow w.heap.size 9 1 v pre.length (strsOf pre) ∧ True) ∧ Boxed W (w.heap.size + 1) 44 (.pointer (some ⟨p, 0, none⟩))) ∧ Below w.heap.size w W)
    (fun _ _ _ => False)
    (OwnFrom.and (OwnFrom.and (Own.from (holdsRow_own w.heap.size w.heap.size 35 9 1 (fun pre => pre.length) strsOf (fun _ _ => True)) _) (Own.from (boxed_own _ _ _) _)) (ownFrom_below (Nat.le_refl _) (by simp; omega)))
    (fun _ _ _ _ _ hs _ _ => hs)
    ⟨⟨⟨_, bO.alloc _, World.ownsRow_nil _ _ _ _, trivial⟩, bN⟩, hB0⟩
    (fun x => { tmps := #[.pointer (some ⟨p, 0, none⟩), undef, .slice none 0 0, .int .i64 0, .pointer (some ⟨w.heap.size, 0, none⟩), undef, .string x.2, .pointer (some ⟨p, 0, none⟩), .pointer (some ⟨p, 0, none⟩), .pointer (some ⟨p, 3, none⟩), .bool false, .pointer (some ⟨p, 0, none⟩), .func (.func 76) #[] #[.pointer (some ⟨w.heap.size + 1, 0, none⟩)], .int .i64 (x.1 : Nat), .string x.2, undef, undef, undef, undef, undef], defers := [] }) ?assign ?body ?done ?stop
  case assign =>
    intro l x W K hK
    gi_wp2
    exact hK
  case body =>
    rintro l pre x W ⟨⟨⟨v, hv, hrow, _⟩, hbx⟩, hB⟩ hlt
    have hc := hv.cell
    obtain ⟨x1, x2⟩ := x
    dsimp only
    gi_wp2_with (gi_at_builtin; refine wpListIn_append_own _ rfl _ _ 35 rfl w.heap.size 9 i0 (.string ⟨#[]⟩) 1 16 Try.underlying35 hi hz0 hz1 hz2 rfl (by decide) _ _ _ rfl (hrow.alloc _) ⟨W.heap.size, 0, none⟩ 1 1 [.string x2] rfl rfl (cell_one_new _ _ _) (by simp [Value.oneCell']) (by simp only [maxLen]; omega) (by omega) (by have := hB.size; simp; omega) ?_; intro v' w1 hown' hgrow _; obtain ⟨g', cap', rfl⟩ := ownsRow_succ hown'; obtain ⟨hv1, hv2, hr2, hk2, hb2⟩ := hv.appended (by decide) hrow hB.size (Nat.le_refl _) hown' hgrow; have hc1 := hv1.cell; have hf1 := hv1.frozen)
    have hb1 : Boxed w1 (w.heap.size + 1) 44 (.pointer (some ⟨p, 0, none⟩)) := (hbx.alloc _).kept hgrow (hbx.not_row (by decide) hrow)
    have hb3 := hb1.other (show w.heap.size + 1 ≠ w.heap.size by omega) (.slice (some ⟨g', 0, none⟩) (pre.length + 1) cap')
    exact ⟨hk2.from _, ⟨hb2.block p hpl, Eq.trans hb3 hbx.symm⟩, ⟨⟨_, hv2, by simpa [strsOf] using hr2, trivial⟩, hb3⟩, hB.trans hb2⟩
  case done =>
    rintro D ys W hD rfl ⟨⟨⟨v, hv, hrow, _⟩, hbx⟩, hB⟩ hK
    have hc := hv.cell
    gi_wp2
    refine ⟨by simp, .inl ⟨_, _, rfl, run_takeDeferred hK, ?_⟩⟩
    exact ⟨_, results_tmp2 rfl _ _ _, v, rfl, ownsRow_putObj hrow _ hK rfl, hB.trans (belowK_b (w := w) (Nat.le_refl _) W D _ _ (by simp at hD; omega) hK rfl rfl)⟩
  case stop =>
    rintro D c pre W _ _ h _
    exact h.elim
/-- A row of strings that the call owns, as a list. -/
theorem own_strs {w : World} {lo : Nat} {v : Value} {l : List ByteArray} (h : w.ownsRow lo 9 1 v l.length (l.map Value.string)) (hs : ∀ s ∈ l, s.size ≤ M47) : Own Rep.str 9 w lo v l := by
  have e : (l.map fun s => [Value.string s]).flatten = l.map Value.string := by
    clear h hs
    induction l with
    | nil => rfl
    | cons a l ih => simp [ih]
  refine ⟨l.map fun s => [.string s], by rw [e]; exact h, by simp, fun i x cs hx hc => ?_⟩
  rw [List.getElem?_map, hx] at hc
  simp at hc
  subst hc
  exact ⟨rfl, hs x (List.mem_of_getElem? hx)⟩
theorem recsN_mem (b : ByteArray) : ∀ (k i : Nat) x, x ∈ recsN k b i → x.2.size ≤ 4000 ∧ x.1 ≤ b.size
  | 0, _, _, h => by simp [recsN] at h
  | k + 1, i, x, h => by
    unfold recsN at h
    cases hn : nextR b i with
    | none => rw [hn] at h; simp at h
    | some n =>
      rw [hn] at h
      obtain ⟨h1, -, h3, h4, h5⟩ := nextR_some hn
      rcases List.mem_cons.1 h with rfl | h
      · simp; omega
      · exact recsN_mem b k _ x h
/-- The records of bytes. -/
def recs (b : ByteArray) : List ByteArray := (recsAt b 0).map (·.2)
theorem recs_len (b : ByteArray) : (recs b).length ≤ b.size := by simpa [recs, recsAt] using recsAt_len b (b.size + 1) 0
theorem recs_mem (b : ByteArray) : ∀ s ∈ recs b, s.size ≤ 4000 := by
  intro s hs
  simp only [recs, List.mem_map] at hs
  obtain ⟨x, hx, rfl⟩ := hs
  exact (recsN_mem b _ _ x hx).1
theorem Records_call (p : Nat) (x : Lg) (w : World) (hp : LogAt w p x) (hg : x.g = false) (hb : x.b.size ≤ 1000000) :
    Calls Try.prog 40 #[.pointer (some ⟨p, 0, none⟩)] w fun e w' => ∃ v, e = .returned (.tuple #[v, .int .i64 0]) ∧ Own Rep.str 9 w' w.heap.size v (recs x.b) ∧ Keep [] w w' := by
  refine (callsIn_wide (n := 5)).1 ?_
  refine (Records_in Fence.wide 5 trivial trivial trivial rfl (by omega) p x w hp hg hb).mono ?_
  rintro e w' ⟨v, rfl, h1, h2⟩
  exact ⟨v, rfl, own_strs (by simpa [recs, strsOf, Function.comp_def] using h1) (fun s hs => by have := recs_mem x.b s hs; rw [M47_eq]; omega), Keep.of_below h2 _⟩
theorem Records_gone (p : Nat) (x : Lg) (w : World) (hp : LogAt w p x) (hg : x.g = true) :
    Calls Try.prog 40 #[.pointer (some ⟨p, 0, none⟩)] w fun e w' => e = .returned (.tuple #[.slice none 0 0, .int .i64 8]) ∧ Keep [] w w' := by
  obtain ⟨b, s, f, g⟩ := x
  dsimp only at hg
  subst hg
  obtain ⟨c0, c1, c2, c3⟩ := hp.cells
  dsimp only at c0 c1 c2 c3
  go_enter Try.func40, Try.ntmps40
  go_wp2
  go_ret2
  exact ⟨rfl, Keep.refl _ _⟩
end Go.Proofs.Ytdhhibppcckbkaa
