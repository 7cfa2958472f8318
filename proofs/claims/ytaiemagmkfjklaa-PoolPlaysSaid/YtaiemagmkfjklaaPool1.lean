import Derived.Test.YtaiemagmkfjklaaOwn
import Derived.Maps.OwnSet
import Derived.Maps.OwnOps
import Derived.DeepKeys4
namespace Go.Proofs.Ytaiemagmkfjklaa
open Go.RowKit Go.Maps
set_option linter.unusedVariables false
set_option linter.unusedSimpArgs false
/-! pools: the map of keys; what the parts give -/
theorem laidOut : laidOutB Try.prog = true := by kernel_rfl
theorem wideKey : (match Try.prog.underlying 54 with | some (.array _ _) | some (.struct _) => true | _ => false) = true := by rw [Try.underlying54]
theorem rowKey : (54 : TypeId) < Try.prog.types.size := of_decide_eq_true (by kernel_rfl)
theorem lawKey : Keyed Try.prog 54 := Keyed.of_law (deep_law_laid laidOut (m := 2) (by omega) rowKey (by kernel_rfl) wideKey)
def klOf (c s : Int) : Lit := .string (keyBytes [.int .i64 c, .int .i64 s])
theorem keyDeep : Try.prog.keyType 54 = true := by kernel_rfl
theorem cellsKey : Try.prog.cellsOf 54 = 2 := by kernel_rfl
theorem cellsInt : Try.prog.cellsOf 3 = 1 := by kernel_rfl
theorem typesSize : ∃ m, Try.prog.types.size = m + 1 := ⟨_, (Nat.sub_add_cancel (Nat.lt_of_le_of_lt (Nat.zero_le _) rowKey)).symm⟩
theorem wf_i64 {c : Int} (h : I64 c) : (Lit.int .i64 c).wf = true := by
  exact WalkArith.wf_i64 h
theorem keyOf_key {c s : Int} (hc : I64 c) (hs : I64 s) : keyOf Try.prog 54 (.agg #[.int .i64 c, .int .i64 s]) = some (klOf c s) := by
  have hf : (Value.agg #[.int .i64 c, .int .i64 s]).formed Try.prog 54 = true := by simp [Value.formed, Try.underlying54, cellsKey]
  obtain ⟨m, hm⟩ := typesSize
  have w1 := wf_i64 hc
  have w2 := wf_i64 hs
  unfold keyOf
  rw [Try.underlying54]
  simp only [keyDeep, hf, Bool.and_self, if_true, hm]
  simp [Program.keyLits, Try.underlying54, Try.underlying3, cellsKey, cellsInt, Value.cells, w1, w2, klOf]
theorem klOf_inj {c s c' s' : Int} (hc : I64 c) (hs : I64 s) (hc' : I64 c') (hs' : I64 s') (h : klOf c s = klOf c' s') : c = c' ∧ s = s' := by
  have h1 := keyOf_key hc hs
  have h2 := keyOf_key hc' hs'
  rw [h] at h1
  have := lawKey.inj h1 h2
  simpa using this
/-- Is a client's number in a list? -/
def hasR (l : List Req) (c s : Int) : Bool := l.any fun r => r.c == c && r.s == s
theorem hasR_app (l m : List Req) (c s : Int) : hasR (l ++ m) c s = (hasR l c s || hasR m c s) := by simp [hasR]
/-- Block b is the map of what is done. -/
def MapAt (w : World) (b n : Nat) (dn : List Req) : Prop :=
  ∃ D : DataW Unit, w.ownsMap Try.prog 54 (plainElem Try.prog 3) b n D ∧ IsMap D ∧
    ∀ c s, I64 c → I64 s → D.atKey (klOf c s) (.lit (.int .i64 0)) = .lit (.int .i64 (if hasR dn c s then 1 else 0))
theorem MapAt.lt {w : World} {b n : Nat} {dn : List Req} (h : MapAt w b n dn) : b < w.heap.size := by
  obtain ⟨D, h, _⟩ := h
  exact h.lt
theorem MapAt.same {w w' : World} {b n : Nat} {dn : List Req} (h : MapAt w b n dn) (he : w'.heap[b]? = w.heap[b]?) : MapAt w' b n dn := by
  obtain ⟨D, ⟨es, clock, hb, F, hs, hD⟩, h2⟩ := h
  exact ⟨D, ⟨es, clock, he.trans hb, F, hs, hD⟩, h2⟩
theorem MapAt.keep {S : List Nat} {w w' : World} {b n : Nat} {dn : List Req} (h : MapAt w b n dn) (k : Keep S w w') (hb : b ∉ S) : MapAt w' b n dn := h.same (k.block b h.lt hb)
theorem MapAt.mono {w : World} {b n m : Nat} {dn : List Req} (h : MapAt w b n dn) (hn : n ≤ m) : MapAt w b m dn := by
  obtain ⟨D, h1, h2⟩ := h
  exact ⟨D, h1.mono hn, h2⟩
theorem MapAt.made (w : World) : MapAt (w.alloc (.map #[] 0)) w.heap.size 0 [] :=
  ⟨.map [], World.ownsMap_made _ _ _ _, isMap_empty, fun c s _ _ => by simp [hasR, DataW.atKey]⟩
theorem zeroInt (w : World) : (zeroValue 3).run Try.prog w = .ok (.int .i64 0) w := by kernel_rfl
theorem MapAt.look {w : World} {b n : Nat} {dn : List Req} (h : MapAt w b n dn) {c s : Int} (hc : I64 c) (hs : I64 s) :
    (Instr.lookup 50 (.map (some b)) (.agg #[.int .i64 c, .int .i64 s]) false).run Try.prog w = .ok (.int .i64 (if hasR dn c s then 1 else 0)) w := by
  obtain ⟨D, h, _, hl⟩ := h
  obtain ⟨x, hrun, hat, _⟩ := h.lookup_int lawKey Try.underlying50 Try.underlying3 (zeroInt w) (keyOf_key hc hs)
  rw [hl c s hc hs] at hat
  simp only [DataW.lit.injEq, Lit.int.injEq, true_and] at hat
  rw [hrun, hat]
theorem MapAt.put {w : World} {b n : Nat} {dn : List Req} (h : MapAt w b n dn) (hn : n < maxLen) {r : Req} (hc : I64 r.c) (hs : I64 r.s) :
    ∃ w', (Instr.mapUpdate 50 (.map (some b)) (.agg #[.int .i64 r.c, .int .i64 r.s]) (.int .i64 1)).run Try.prog w = .ok () w' ∧ MapAt w' b (n + 1) (dn ++ [r]) ∧ w.grownBy w' (some b) := by
  obtain ⟨D, h, hm, hl⟩ := h
  obtain ⟨w', h1, h2, h3⟩ := h.update lawKey Try.underlying50 hn (keyOf_key hc hs) (plainElem_int Try.underlying3 (wf_i64 (c := 1) (by unfold I64; omega)))
  refine ⟨w', h1, ⟨_, h2, hm.put _ _, fun c s hc' hs' => ?_⟩, h3⟩
  by_cases he : c = r.c ∧ s = r.s
  · obtain ⟨rfl, rfl⟩ := he
    rw [atKey_put_same hm (lawKey.key (keyOf_key hc hs))]
    simp [hasR]
  · rw [atKey_put_other (fun e => he (klOf_inj hc' hs' hc hs e)), hl c s hc' hs', hasR_app]
    have : hasR [r] c s = false := by
      simp only [hasR, List.any_cons, List.any_nil, Bool.or_false, Bool.and_eq_false_iff, beq_eq_false_iff_ne]
      by_cases h1 : r.c = c
      · right; intro h2; exact he ⟨h1.symm, h2.symm⟩
      · exact .inl h1
    rw [this, Bool.or_false]
/-- The blocks that are not in F have not turned. -/
structure Turn (F : Nat → Prop) (w w' : World) : Prop where
  os : w'.os = w.os
  tape : w'.tape = w.tape
  output : w'.output = w.output
  size : w.heap.size ≤ w'.heap.size
  block : ∀ k, k < w.heap.size → ¬ F k → w'.heap[k]? = w.heap[k]?
theorem Turn.refl (F : Nat → Prop) (w : World) : Turn F w w := ⟨rfl, rfl, rfl, Nat.le_refl _, fun _ _ _ => rfl⟩
theorem Turn.trans {F : Nat → Prop} {a b c : World} (h : Turn F a b) (k : Turn F b c) : Turn F a c :=
  ⟨k.os.trans h.os, k.tape.trans h.tape, k.output.trans h.output, Nat.le_trans h.size k.size,
    fun i hi hn => (k.block i (Nat.lt_of_lt_of_le hi h.size) hn).trans (h.block i hi hn)⟩
theorem Turn.mono {F G : Nat → Prop} {a b : World} (h : Turn F a b) (hs : ∀ k, k < a.heap.size → F k → G k) : Turn G a b :=
  ⟨h.os, h.tape, h.output, h.size, fun i hi hn => h.block i hi fun hm => hn (hs i hi hm)⟩
/-- What turns old blocks of F and new ones. -/
theorem Turn.then {F G : Nat → Prop} {a b c : World} (h : Turn F a b) (k : Turn G b c) (hG : ∀ i, i < a.heap.size → G i → F i) : Turn F a c :=
  ⟨k.os.trans h.os, k.tape.trans h.tape, k.output.trans h.output, Nat.le_trans h.size k.size,
    fun i hi hn => (k.block i (Nat.lt_of_lt_of_le hi h.size) (fun hm => hn (hG i hi hm))).trans (h.block i hi hn)⟩
theorem Keep.turn {S : List Nat} {F : Nat → Prop} {a b : World} (h : Keep S a b) (hS : ∀ i, i ∈ S → F i ∨ a.heap.size ≤ i) : Turn F a b :=
  ⟨h.os, h.tape, h.output, h.size, fun i hi hn => h.block i hi fun hm => (hS i hm).elim hn (by omega)⟩
theorem Turn.keep {F : Nat → Prop} {a b : World} (h : Turn F a b) (hF : ∀ k, k < a.heap.size → ¬ F k) : Keep [] a b :=
  ⟨h.os, h.tape, h.output, h.size, fun i hi _ => h.block i hi (hF i hi)⟩
theorem Turn.grown {F : Nat → Prop} {a b c : World} {row : Option Nat} (h : Turn F a b) (k : b.grownBy c row) (hT : ∀ i, row = some i → F i ∨ a.heap.size ≤ i) : Turn F a c :=
  ⟨k.os.trans h.os, k.tape.trans h.tape, k.output.trans h.output, Nat.le_trans h.size k.size,
    fun i hi hn => (k.block i (Nat.lt_of_lt_of_le hi h.size) (fun hm => (hT i hm.symm).elim hn (by omega))).trans (h.block i hi hn)⟩
/-- It is a request as memory has it. -/
def ReqOk (r : Req) : Prop := I64 r.c ∧ I64 r.s ∧ r.b.size ≤ 140737488355328
/-- p is a pool: what waits, what is done; its blocks lie in F. -/
def PoolAt (w : World) (F : Nat → Prop) (p n : Nat) (ws dn : List Req) : Prop :=
  ∃ V mb, Blk w p #[V, .map (some mb)] 52 ∧ Own Rep.req 24 w 0 V ws ∧ MapAt w mb n dn ∧ F p ∧ F mb ∧ p ≠ mb ∧ ∀ k, V.ownBlock = some k → F k ∧ k ≠ p ∧ k ≠ mb
theorem PoolAt.turn {w w' : World} {F G : Nat → Prop} {p n : Nat} {ws dn : List Req} (h : PoolAt w F p n ws dn) (k : Turn G w w') (hd : ∀ i, i < w.heap.size → F i → ¬ G i) : PoolAt w' F p n ws dn := by
  obtain ⟨V, mb, h1, h2, h3, h4, h5, h6, h7⟩ := h
  have hV : ∀ i, V.ownBlock = some i → w'.heap[i]? = w.heap[i]? := fun i hi => k.block i (h2.lt i hi).2 (hd i (h2.lt i hi).2 (h7 i hi).1)
  refine ⟨V, mb, (k.block p h1.lt (hd p h1.lt h4)).trans h1, ?_, h3.same (k.block mb h3.lt (hd mb h3.lt h5)), h4, h5, h6, h7⟩
  obtain ⟨css, o1, o2, o3⟩ := h2
  refine ⟨css, ⟨o1.1, ?_⟩, o2, fun i x cs hx hc => o3 i x cs hx hc⟩
  rcases o1.2 with hn | ⟨g, cap, cur, rfl, hb, hg, rest⟩
  · exact .inl hn
  · exact .inr ⟨g, cap, cur, rfl, hb, (hV g rfl).trans hg, rest⟩
theorem PoolAt.mono {w : World} {F G : Nat → Prop} {p n m : Nat} {ws dn : List Req} (h : PoolAt w F p n ws dn) (hF : ∀ i, i < w.heap.size → F i → G i) (hn : n ≤ m) : PoolAt w G p m ws dn := by
  obtain ⟨V, mb, h1, h2, h3, h4, h5, h6, h7⟩ := h
  exact ⟨V, mb, h1, h2, h3.mono hn, hF _ h1.lt h4, hF _ h3.lt h5, h6, fun k hk => ⟨hF _ (h2.lt k hk).2 (h7 k hk).1, (h7 k hk).2⟩⟩
end Go.Proofs.Ytaiemagmkfjklaa
