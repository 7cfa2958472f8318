import Derived.Test.YtdhhibppcckbkaaProg
import Derived.WalkKit
import Derived.Outline
import Derived.Below
import Derived.Laws.OwnMore
import Derived.OwnWalk
import Derived.WalkSpells
import Derived.WalkLawsBesides
import Derived.Lib.Hide
import Derived.Deep.RegionHeld3
import Derived.Deep.AppendLies
import Derived.BigQuiet
import Derived.Laws.BytesArg
import Derived.Laws.BitsLemmas
namespace Go.Proofs.Ytdhhibppcckbkaa
open Go.RowKit
set_option linter.unusedVariables false
set_option linter.unusedSimpArgs false

/-- Of the blocks that were there none has turned but those in the list; the streams are as they were. -/
structure Keep (S : List Nat) (w w' : World) : Prop where
  os : w'.os = w.os
  tape : w'.tape = w.tape
  output : w'.output = w.output
  size : w.heap.size ≤ w'.heap.size
  block : ∀ k, k < w.heap.size → k ∉ S → w'.heap[k]? = w.heap[k]?

theorem Keep.refl (S : List Nat) (w : World) : Keep S w w := ⟨rfl, rfl, rfl, Nat.le_refl _, fun _ _ _ => rfl⟩
theorem Keep.trans {S : List Nat} {a b c : World} (h : Keep S a b) (k : Keep S b c) : Keep S a c :=
  ⟨k.os.trans h.os, k.tape.trans h.tape, k.output.trans h.output, Nat.le_trans h.size k.size,
    fun i hi hn => (k.block i (Nat.lt_of_lt_of_le hi h.size) hn).trans (h.block i hi hn)⟩
theorem Keep.mono {S T : List Nat} {a b : World} (h : Keep S a b) (hs : ∀ k, k < a.heap.size → k ∈ S → k ∈ T) : Keep T a b :=
  ⟨h.os, h.tape, h.output, h.size, fun i hi hn => h.block i hi fun hm => hn (hs i hi hm)⟩
theorem Keep.drew {S : List Nat} {a b : World} (h : Keep S a b) : Keep S a b.drew := ⟨h.os, h.tape, h.output, h.size, h.block⟩
theorem Keep.drewN {S : List Nat} {a b : World} (h : Keep S a b) (n : Nat) : Keep S a (b.drewN n) := ⟨h.os, h.tape, h.output, h.size, h.block⟩
theorem Keep.alloc {S : List Nat} {a b : World} (h : Keep S a b) (o : Obj) : Keep S a (b.alloc o) :=
  ⟨h.os, h.tape, h.output, by have := h.size; simp; omega, fun i hi hn => (Below.heap_alloc b o i (Nat.lt_of_lt_of_le hi h.size)).trans (h.block i hi hn)⟩
theorem Keep.setCell {S : List Nat} {a b : World} (h : Keep S a b) (p : Addr) (v : Value) (hp : p.block ∈ S ∨ a.heap.size ≤ p.block) : Keep S a (b.setCell p v) := by
  refine ⟨h.os, h.tape, h.output, ?_, fun i hi hn => ?_⟩
  · have := h.size; simpa [World.setCell] using this
  · refine (Below.heap_setCell b p v i ?_).trans (h.block i hi hn)
    rintro rfl
    rcases hp with hp | hp
    · exact hn hp
    · omega
theorem Keep.of_below {w w' : World} (h : Below w.heap.size w w') (S : List Nat) : Keep S w w' := ⟨h.os, h.tape, h.output, h.size, fun i hi _ => h.block i hi⟩
theorem Keep.below {w w' : World} (h : Keep [] w w') : Below w.heap.size w w' := ⟨h.os, h.tape, h.output, h.size, fun i hi => h.block i hi (by simp)⟩
/-- What only turned new blocks turned nothing. -/
theorem Keep.new {S T : List Nat} {a b c : World} (h : Keep S a b) (k : Keep T b c) (hT : ∀ i, i ∈ T → i ∈ S ∨ a.heap.size ≤ i) : Keep S a c :=
  ⟨k.os.trans h.os, k.tape.trans h.tape, k.output.trans h.output, Nat.le_trans h.size k.size,
    fun i hi hn => (k.block i (Nat.lt_of_lt_of_le hi h.size) (fun hm => (hT i hm).elim hn (by omega))).trans (h.block i hi hn)⟩
theorem Keep.grown {S : List Nat} {a b c : World} {row : Option Nat} (h : Keep S a b) (k : b.grownBy c row) (hT : ∀ i, row = some i → i ∈ S ∨ a.heap.size ≤ i) : Keep S a c :=
  ⟨k.os.trans h.os, k.tape.trans h.tape, k.output.trans h.output, Nat.le_trans h.size k.size,
    fun i hi hn => (k.block i (Nat.lt_of_lt_of_le hi h.size) (fun hm => (hT i hm.symm).elim hn (by omega))).trans (h.block i hi hn)⟩

/-- Block g is cells. -/
def Blk (w : World) (g : Nat) (cs : Array Value) (t : Nat) : Prop := w.heap[g]? = some (.cells cs t (0, 0))
theorem Blk.lt {w : World} {g : Nat} {cs : Array Value} {t : Nat} (h : Blk w g cs t) : g < w.heap.size := (Array.getElem?_eq_some_iff.1 h).1
theorem Blk.cell {w : World} {g : Nat} {cs : Array Value} {t : Nat} (h : Blk w g cs t) (i : Nat) : w.cell? ⟨g, i, none⟩ = cs[i]? := by
  unfold Blk at h; simp [World.cell?, h]
theorem Blk.frozen {w : World} {g : Nat} {cs : Array Value} {t : Nat} (h : Blk w g cs t) (i : Nat) : w.frozen? ⟨g, i, none⟩ = false := by
  unfold Blk at h; simp [World.frozen?, h]
theorem Blk.keep {S : List Nat} {w w' : World} {g : Nat} {cs : Array Value} {t : Nat} (h : Blk w g cs t) (k : Keep S w w') (hg : g ∉ S) : Blk w' g cs t :=
  (k.block g h.lt hg).trans h
theorem Blk.alloc {w : World} {g : Nat} {cs : Array Value} {t : Nat} (h : Blk w g cs t) (o : Obj) : Blk (w.alloc o) g cs t :=
  (Below.heap_alloc w o g h.lt).trans h
theorem Blk.new (w : World) (cs : Array Value) (t : Nat) : Blk (w.alloc (.cells cs t)) w.heap.size cs t := heap_alloc_new w _
theorem Blk.set {w : World} {g : Nat} {cs : Array Value} {t : Nat} (h : Blk w g cs t) (i : Nat) (v : Value) : Blk (w.setCell ⟨g, i, none⟩ v) g (cs.setIfInBounds i v) t := by
  unfold Blk at *
  simp [World.setCell, Array.getElem?_modify, h]
theorem Blk.other {w : World} {g : Nat} {cs : Array Value} {t : Nat} (h : Blk w g cs t) (p : Addr) (v : Value) (hg : g ≠ p.block) : Blk (w.setCell p v) g cs t :=
  (Below.heap_setCell w p v g hg).trans h
theorem Blk.set3 {w : World} {g : Nat} {a b c : Value} {t : Nat} (h : Blk w g #[a, b, c] t) (x y z : Value) : Blk (((w.setCell ⟨g, 0, none⟩ x).setCell ⟨g, 1, none⟩ y).setCell ⟨g, 2, none⟩ z) g #[x, y, z] t := by
  simpa using ((h.set 0 x).set 1 y).set 2 z
theorem Blk.set2 {w : World} {g : Nat} {a b : Value} {t : Nat} (h : Blk w g #[a, b] t) (x y : Value) : Blk ((w.setCell ⟨g, 0, none⟩ x).setCell ⟨g, 1, none⟩ y) g #[x, y] t := by
  simpa using (h.set 0 x).set 1 y
theorem Blk.set6 {w : World} {g : Nat} {a b c d e f : Value} {t : Nat} (h : Blk w g #[a, b, c, d, e, f] t) (x y z x' y' z' : Value) :
    Blk ((((((w.setCell ⟨g, 0, none⟩ x).setCell ⟨g, 1, none⟩ y).setCell ⟨g, 2, none⟩ z).setCell ⟨g, 3, none⟩ x').setCell ⟨g, 4, none⟩ y').setCell ⟨g, 5, none⟩ z') g #[x, y, z, x', y', z'] t := by
  simpa using ((((((h.set 0 x).set 1 y).set 2 z).set 3 x').set 4 y').set 5 z')
theorem Keep.set2 {S : List Nat} {a b : World} (h : Keep S a b) (g : Nat) (x y : Value) (hp : g ∈ S ∨ a.heap.size ≤ g) : Keep S a ((b.setCell ⟨g, 0, none⟩ x).setCell ⟨g, 1, none⟩ y) :=
  (h.setCell _ _ hp).setCell _ _ hp
theorem Keep.set3 {S : List Nat} {a b : World} (h : Keep S a b) (g : Nat) (x y z : Value) (hp : g ∈ S ∨ a.heap.size ≤ g) : Keep S a (((b.setCell ⟨g, 0, none⟩ x).setCell ⟨g, 1, none⟩ y).setCell ⟨g, 2, none⟩ z) :=
  ((h.setCell _ _ hp).setCell _ _ hp).setCell _ _ hp
theorem Keep.set6 {S : List Nat} {a b : World} (h : Keep S a b) (g : Nat) (x y z x' y' z' : Value) (hp : g ∈ S ∨ a.heap.size ≤ g) :
    Keep S a ((((((b.setCell ⟨g, 0, none⟩ x).setCell ⟨g, 1, none⟩ y).setCell ⟨g, 2, none⟩ z).setCell ⟨g, 3, none⟩ x').setCell ⟨g, 4, none⟩ y').setCell ⟨g, 5, none⟩ z') :=
  (((((h.setCell _ _ hp).setCell _ _ hp).setCell _ _ hp).setCell _ _ hp).setCell _ _ hp).setCell _ _ hp
theorem Blk.six {w : World} {g : Nat} {a b c d e f : Value} {t : Nat} (h : Blk w g #[a, b, c, d, e, f] t) : w.cell? ⟨g, 0, none⟩ = some a ∧ w.cell? ⟨g, 1, none⟩ = some b ∧ w.cell? ⟨g, 2, none⟩ = some c ∧ w.cell? ⟨g, 3, none⟩ = some d ∧ w.cell? ⟨g, 4, none⟩ = some e ∧ w.cell? ⟨g, 5, none⟩ = some f :=
  ⟨h.cell 0, h.cell 1, h.cell 2, h.cell 3, h.cell 4, h.cell 5⟩
theorem Blk.drew {w : World} {g : Nat} {cs : Array Value} {t : Nat} (h : Blk w g cs t) : Blk w.drew g cs t := h
theorem Blk.drewN {w : World} {g : Nat} {cs : Array Value} {t : Nat} (h : Blk w g cs t) (n : Nat) : Blk (w.drewN n) g cs t := h

theorem Keep.cell {S : List Nat} {w w' : World} (k : Keep S w w') {b o : Nat} {v : Value} (hS : b ∉ S) (h : w.cell? ⟨b, o, none⟩ = some v) : w'.cell? ⟨b, o, none⟩ = some v :=
  (World.cell?_of_block (w := w) (a := ⟨b, o, none⟩) (k.block b (World.block_lt_of_cell? w _ h) hS)).trans h

/-! ### Regions that draw their order, walked once: whatever the class of worlds -/
section
variable {P : Program} {C : World → Prop} {a : Act} {o : Oper} {K : Act → Prop}
theorem quiet_run {v : Value} (h : ∀ w, C w → (execOp a.eval o).run P w = .ok (.value v) w) (hk : K (a.put o.dst v)) : o.quiet P a C K :=
  ⟨v, fun w hw => by unfold Oper.quietAt; rw [h w hw]; exact ⟨rfl, rfl⟩, hk⟩
theorem quiet_call {v : Value} {f : FuncId} {args : Array Value} (h : ∀ w, C w → (execOp a.eval o).run P w = .ok (.enter f args) w)
    (hc : ∀ w, C w → Calls P f args w fun e w' => e = .returned v ∧ C w') (hk : K (a.put o.dst v)) : o.quiet P a C K :=
  ⟨v, fun w hw => by unfold Oper.quietAt; rw [h w hw]; exact ⟨rfl, hc w hw⟩, hk⟩
theorem wp_region_class {ops : List Oper} {id : Nat} {Q : Exit → Act → World → Prop} {w : World} (hm : P.follows .mixedOrders = true) (hB : Region.lexB .any ops.toArray = true) (hC : C w.drew)
    (h : wpQuiet P ops.toArray C (fun a' => ∀ w', C w' → Q .normal a' w') ops a) : (Code.region id ops.toArray true).wp P Q a w :=
  wp_region_quiet hm hB hC (by simpa using h)
end
/-! ### Data as memory has it -/
/-- 2^47 -/
def M47 : Nat := 140737488355328
theorem M47_eq : M47 = 140737488355328 := rfl
/-- How values of a kind lie in cells; F: blocks that they may lie in. -/
structure Rep (α : Type) where
  sz : Nat
  R : World → (Nat → Prop) → α → List Value → Prop
  len : ∀ {w F x cs}, R w F x cs → cs.length = sz
  keep : ∀ {w w' F x cs}, R w F x cs → (∀ k, F k → k < w.heap.size → w'.heap[k]? = w.heap[k]?) → R w' F x cs
  mono : ∀ {w F G x cs}, R w F x cs → (∀ k, F k → k < w.heap.size → G k) → R w G x cs
/-- A slice's value that reads as a list. -/
def SliceOf {α : Type} (a : Rep α) (w : World) (F : Nat → Prop) (v : Value) (xs : List α) : Prop :=
  ∃ A c, v = .slice A xs.length c ∧ xs.length ≤ M47 ∧
    (0 < xs.length → ∃ g o, A = some ⟨g, o, none⟩ ∧ F g ∧ g < w.heap.size ∧
      ∀ i (hi : i < xs.length), ∃ cs, a.R w F xs[i] cs ∧ ∀ j v, cs[j]? = some v → w.cell? ⟨g, o + (i * a.sz + j), none⟩ = some v)
theorem SliceOf.keep {α : Type} {a : Rep α} {w w' : World} {F : Nat → Prop} {v : Value} {xs : List α} (h : SliceOf a w F v xs)
    (hk : ∀ k, F k → k < w.heap.size → w'.heap[k]? = w.heap[k]?) : SliceOf a w' F v xs := by
  obtain ⟨A, c, rfl, hl, h⟩ := h
  refine ⟨A, c, rfl, hl, fun hp => ?_⟩
  obtain ⟨g, o, rfl, hF, hg, h⟩ := h hp
  have hb := hk g hF hg
  refine ⟨g, o, rfl, hF, ?_, fun i hi => ?_⟩
  · have h2 : w.heap[g]? = some w.heap[g] := Array.getElem?_eq_getElem hg
    exact (Array.getElem?_eq_some_iff.1 (hb.trans h2)).1
  · obtain ⟨cs, hr, hc⟩ := h i hi
    exact ⟨cs, a.keep hr hk, fun j v hj => (World.cell?_of_block (w := w) (a := ⟨g, _, none⟩) hb).trans (hc j v hj)⟩
theorem SliceOf.mono {α : Type} {a : Rep α} {w : World} {F G : Nat → Prop} {v : Value} {xs : List α} (h : SliceOf a w F v xs)
    (hk : ∀ k, F k → k < w.heap.size → G k) : SliceOf a w G v xs := by
  obtain ⟨A, c, rfl, hl, h⟩ := h
  refine ⟨A, c, rfl, hl, fun hp => ?_⟩
  obtain ⟨g, o, rfl, hF, hg, h⟩ := h hp
  refine ⟨g, o, rfl, hk g hF hg, hg, fun i hi => ?_⟩
  obtain ⟨cs, hr, hc⟩ := h i hi
  exact ⟨cs, a.mono hr hk, hc⟩
theorem SliceOf.nil {α : Type} (a : Rep α) (w : World) (F : Nat → Prop) (A : Option Addr) (c : Nat) : SliceOf a w F (.slice A 0 c) [] := ⟨A, c, rfl, Nat.zero_le _, fun h => by simp at h⟩
theorem SliceOf.at {α : Type} {a : Rep α} {w : World} {F : Nat → Prop} {A : Option Addr} {n c : Nat} {xs : List α} (h : SliceOf a w F (.slice A n c) xs) {i : Nat} (hi : i < xs.length) :
    ∃ g o cs, A = some ⟨g, o, none⟩ ∧ F g ∧ g < w.heap.size ∧ a.R w F xs[i] cs ∧ ∀ j v, cs[j]? = some v → w.cell? ⟨g, o + (i * a.sz + j), none⟩ = some v := by
  obtain ⟨A', c', e, hl, h⟩ := h
  cases e
  obtain ⟨g, o, rfl, hF, hg, h⟩ := h (by omega)
  obtain ⟨cs, hr, hc⟩ := h i hi
  exact ⟨g, o, cs, rfl, hF, hg, hr, hc⟩
theorem SliceOf.form {α : Type} {a : Rep α} {w : World} {F : Nat → Prop} {v : Value} {xs : List α} (h : SliceOf a w F v xs) : ∃ A c, v = .slice A xs.length c ∧ xs.length ≤ 140737488355328 := by
  obtain ⟨A, c, rfl, hl, _⟩ := h
  exact ⟨A, c, rfl, hl⟩
/-- The blocks that were not there in w. -/
def New (w : World) : Nat → Prop := fun k => w.heap.size ≤ k
theorem Keep.at {S : List Nat} {w w' : World} (k : Keep S w w') (F : Nat → Prop) (hS : ∀ i, i ∈ S → ¬ F i) : ∀ i, F i → i < w.heap.size → w'.heap[i]? = w.heap[i]? :=
  fun i hF hi => k.block i hi fun hm => hS i hm hF

def Rep.int : Rep Int where
  sz := 1
  R := fun _ _ n cs => cs = [.int .i64 n] ∧ -9223372036854775808 ≤ n ∧ n ≤ 9223372036854775807
  len := by rintro _ _ _ _ ⟨rfl, _⟩; rfl
  keep := fun h _ => h
  mono := fun h _ => h
def Rep.str : Rep ByteArray where
  sz := 1
  R := fun _ _ s cs => cs = [.string s] ∧ s.size ≤ M47
  len := by rintro _ _ _ _ ⟨rfl, _⟩; rfl
  keep := fun h _ => h
  mono := fun h _ => h
structure Req where
  c : Int
  s : Int
  b : ByteArray
structure Sg where
  f : Int
  ts : List ByteArray
structure Ct where
  v : Int
  h : ByteArray
  sg : List Sg
structure Bk where
  v : Int
  p : Int
  j : Ct
  q : List Req
structure Ms where
  k : Int
  f : Int
  t : Int
  v : Int
  h : ByteArray
  b : Bk
  c : Ct
  s : Sg
  r : Req
  i : Int
  g : ByteArray
/-- It is an int. -/
def I64 (n : Int) : Prop := -9223372036854775808 ≤ n ∧ n ≤ 9223372036854775807
def Rep.req : Rep Req where
  sz := 3
  R := fun _ _ x cs => cs = [.int .i64 x.c, .int .i64 x.s, .string x.b] ∧ I64 x.c ∧ I64 x.s ∧ x.b.size ≤ M47
  len := by rintro _ _ _ _ ⟨rfl, _⟩; rfl
  keep := fun h _ => h
  mono := fun h _ => h
def Rep.sg : Rep Sg where
  sz := 2
  R := fun w F x cs => ∃ v, cs = [.int .i64 x.f, v] ∧ I64 x.f ∧ SliceOf Rep.str w F v x.ts
  len := by rintro _ _ _ _ ⟨_, rfl, _⟩; rfl
  keep := fun ⟨v, h, h1, h2⟩ k => ⟨v, h, h1, h2.keep k⟩
  mono := fun ⟨v, h, h1, h2⟩ k => ⟨v, h, h1, h2.mono k⟩
def Rep.ct : Rep Ct where
  sz := 3
  R := fun w F x cs => ∃ v, cs = [.int .i64 x.v, .string x.h, v] ∧ I64 x.v ∧ x.h.size ≤ M47 ∧ SliceOf Rep.sg w F v x.sg
  len := by rintro _ _ _ _ ⟨_, rfl, _⟩; rfl
  keep := fun ⟨v, h, h1, h2, h3⟩ k => ⟨v, h, h1, h2, h3.keep k⟩
  mono := fun ⟨v, h, h1, h2, h3⟩ k => ⟨v, h, h1, h2, h3.mono k⟩
def Rep.bk : Rep Bk where
  sz := 6
  R := fun w F x cs => ∃ v u, cs = [.int .i64 x.v, .int .i64 x.p, .int .i64 x.j.v, .string x.j.h, v, u] ∧ I64 x.v ∧ I64 x.p ∧ I64 x.j.v ∧ x.j.h.size ≤ M47 ∧ SliceOf Rep.sg w F v x.j.sg ∧ SliceOf Rep.req w F u x.q
  len := by rintro _ _ _ _ ⟨_, _, rfl, _⟩; rfl
  keep := fun ⟨v, u, h, h1, h2, h3, h4, h5, h6⟩ k => ⟨v, u, h, h1, h2, h3, h4, h5.keep k, h6.keep k⟩
  mono := fun ⟨v, u, h, h1, h2, h3, h4, h5, h6⟩ k => ⟨v, u, h, h1, h2, h3, h4, h5.mono k, h6.mono k⟩
theorem SliceOf.str_at {w : World} {F : Nat → Prop} {A : Option Addr} {n c : Nat} {xs : List ByteArray} (h : SliceOf Rep.str w F (.slice A n c) xs) {i : Nat} (hi : i < xs.length) :
    ∃ g o, A = some ⟨g, o, none⟩ ∧ w.cell? ⟨g, o + i, none⟩ = some (.string xs[i]) ∧ xs[i].size ≤ 140737488355328 := by
  obtain ⟨g, o, cs, rfl, _, _, ⟨rfl, hm⟩, hc⟩ := h.at hi
  exact ⟨g, o, rfl, by simpa [Rep.str] using hc 0 _ rfl, hm⟩
theorem SliceOf.req_at {w : World} {F : Nat → Prop} {A : Option Addr} {n c : Nat} {xs : List Req} (h : SliceOf Rep.req w F (.slice A n c) xs) {i : Nat} (hi : i < xs.length) :
    ∃ g o, A = some ⟨g, o, none⟩ ∧ w.cell? ⟨g, o + i * 3, none⟩ = some (.int .i64 xs[i].c) ∧ w.cell? ⟨g, o + i * 3 + 1, none⟩ = some (.int .i64 xs[i].s) ∧ w.cell? ⟨g, o + i * 3 + 2, none⟩ = some (.string xs[i].b) ∧
      I64 xs[i].c ∧ I64 xs[i].s ∧ xs[i].b.size ≤ 140737488355328 := by
  obtain ⟨g, o, cs, rfl, _, _, ⟨rfl, h1, h2, hm⟩, hc⟩ := h.at hi
  exact ⟨g, o, rfl, hc 0 _ rfl, hc 1 _ rfl, hc 2 _ rfl, h1, h2, hm⟩
theorem SliceOf.sg_at {w : World} {F : Nat → Prop} {A : Option Addr} {n c : Nat} {xs : List Sg} (h : SliceOf Rep.sg w F (.slice A n c) xs) {i : Nat} (hi : i < xs.length) :
    ∃ g o v, A = some ⟨g, o, none⟩ ∧ w.cell? ⟨g, o + i * 2, none⟩ = some (.int .i64 xs[i].f) ∧ w.cell? ⟨g, o + i * 2 + 1, none⟩ = some v ∧
      I64 xs[i].f ∧ SliceOf Rep.str w F v xs[i].ts := by
  obtain ⟨g, o, cs, rfl, _, _, ⟨v, rfl, h1, h2⟩, hc⟩ := h.at hi
  exact ⟨g, o, v, rfl, hc 0 _ rfl, hc 1 _ rfl, h1, h2⟩
end Go.Proofs.Ytdhhibppcckbkaa
