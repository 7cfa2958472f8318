import Derived.Test.YtaiemagmkfjklaaPool14
namespace Go.Proofs.Ytaiemagmkfjklaa
open Go.RowKit Go.Shelf
set_option linter.unusedVariables false
set_option linter.unusedSimpArgs false
/-! a pool and the reference's beside each other -/
/-- p is a pool as t tells, q the reference's as u tells; their blocks are new since w0, and apart. -/
def Pair (w0 w : World) (p q n : Nat) (t u : PS) : Prop :=
  ∃ F G : Nat → Prop, PoolAt w F p n t.1 t.2 ∧ RefAt w G q u.1 u.2 ∧ (∀ i, F i → w0.heap.size ≤ i ∧ i < w.heap.size) ∧ (∀ i, G i → w0.heap.size ≤ i ∧ i < w.heap.size) ∧ (∀ i, F i → ¬ G i) ∧ Keep [] w0 w
theorem Pair.keep {w0 w w' : World} {p q n : Nat} {t u : PS} (h : Pair w0 w p q n t u) (k : Keep [] w w') : Pair w0 w' p q n t u := by
  obtain ⟨F, G, h1, h2, h3, h4, h5, h6⟩ := h
  have hz := k.size
  exact ⟨F, G, h1.turn (k.turn (F := fun _ => False) (by simp)) (by simp), h2.turn (k.turn (F := fun _ => False) (by simp)) (by simp), fun i hi => ⟨(h3 i hi).1, by have := (h3 i hi).2; omega⟩, fun i hi => ⟨(h4 i hi).1, by have := (h4 i hi).2; omega⟩, h5, h6.trans k⟩
theorem Pair.drew {w0 w : World} {p q n : Nat} {t u : PS} (h : Pair w0 w p q n t u) : Pair w0 w.drew p q n t u := h.keep (Keep.refl _ _).drew
theorem Pair.base {w0 w : World} {p q n : Nat} {t u : PS} (h : Pair w0 w p q n t u) : Keep [] w0 w := by
  obtain ⟨F, G, h1, h2, h3, h4, h5, h6⟩ := h
  exact h6
/-- What the walk reads of the two. -/
theorem Pair.cell {w0 w : World} {p q n : Nat} {t u : PS} (h : Pair w0 w p q n t u) : ∃ A c G, w.cell? ⟨q, 0, none⟩ = some (.slice A u.1.length c) ∧ SliceOf Rep.req w G (.slice A u.1.length c) u.1 ∧ ∀ i, G i → i < w.heap.size := by
  obtain ⟨F, G, h1, ⟨A, c, B, d, b, s1, s2, _⟩, h3, h4, h5, h6⟩ := h
  exact ⟨A, c, _, b.two.1, s1, fun i hi => (h4 i hi.1).2⟩
theorem Pair.has {w0 w : World} {p q n : Nat} {t u : PS} (h : Pair w0 w p q n t u) (c s : Int) (hl : t.1.length ≤ 1000000) : Calls Try.prog 13 #[.pointer (some ⟨p, 0, none⟩), .int .i64 c, .int .i64 s] w fun e w' => e = .returned (.bool (hasR t.1 c s)) ∧ Keep [] w w' := by
  obtain ⟨F, G, h1, _⟩ := h
  exact has_call w F p n t.1 t.2 c s h1 hl
theorem Pair.len {w0 w : World} {p q n : Nat} {t u : PS} (h : Pair w0 w p q n t u) : Calls Try.prog 14 #[.pointer (some ⟨p, 0, none⟩)] w fun e w' => e = .returned (.int .i64 t.1.length) ∧ Keep [] w w' := by
  obtain ⟨F, G, h1, _⟩ := h
  exact len_call w F p n t.1 t.2 h1
theorem Pair.all {w0 w : World} {p q n : Nat} {t u : PS} (h : Pair w0 w p q n t u) (hl : t.1.length ≤ 1000000) : Calls Try.prog 18 #[.pointer (some ⟨p, 0, none⟩)] w fun e w' => ∃ B cap, e = .returned (.slice B t.1.length cap) ∧ SliceOf Rep.req w' (fun k => w.heap.size ≤ k) (.slice B t.1.length cap) t.1 ∧ Keep [] w w' := by
  obtain ⟨F, G, h1, _⟩ := h
  refine (all_call w F p n t.1 t.2 h1 hl).mono ?_
  rintro e w' ⟨B, m, cap, rfl, h2, h3, h4⟩
  obtain ⟨rfl, -, h5⟩ := own_sliceF (F := fun k => w.heap.size ≤ k) h2 hl h4
  exact ⟨B, cap, rfl, h5, h3⟩
theorem Pair.take {w0 w : World} {p q n : Nat} {t u : PS} (h : Pair w0 w p q n t u) (hl : t.1.length ≤ 1000000) (x : Int) (hx : I64 x) (B : Option Addr) (but : List Req) (cq : Nat) (G : Nat → Prop) (hs : SliceOf Rep.req w G (.slice B but.length cq) but) (hG : ∀ i, G i → i < w.heap.size) :
    Calls Try.prog 20 #[.pointer (some ⟨p, 0, none⟩), .int .i64 x, .slice B but.length cq] w fun e w' => ∃ C m c', e = .returned (.slice C m c') ∧ SliceOf Rep.req w' (fun k => w.heap.size ≤ k) (.slice C m c') (firstR x (butR but t.1)) ∧ Keep [] w w' := by
  obtain ⟨F, G', h1, _⟩ := h
  exact take_call w F p n t.1 t.2 x B but cq G h1 hl hx hs hG
theorem pair_call {w0 w : World} {p q n : Nat} {t u : PS} (h : Pair w0 w p q n t u) (x : Op12) (L : Option Addr) (lc : Nat) (G : Nat → Prop) (h0 : 0 ≤ x.k ∧ x.k ≤ 255) (hr : ReqOk x.r) (hs : SliceOf Rep.req w G (.slice L x.l.length lc) x.l)
    (hG : ∀ i, G i → i < w0.heap.size) (hi : InvP t) (hn : n + 10 ≤ 1000000) (hl : x.l.length ≤ 10) :
    Calls Try.prog 10 #[.pointer (some ⟨p, 0, none⟩), .agg #[.int .u8 x.k, .int .i64 x.r.c, .int .i64 x.r.s, .string x.r.b, .slice L x.l.length lc]] w fun e w' =>
      e = .returned (.int .i64 (opE t.1 t.2 x)) ∧ Pair w0 w' p q (n + 10) (stepP t x) u := by
  obtain ⟨F, G', h1, h2, h3, h4, h5, h6⟩ := h
  refine (call_call w F G p n t.1 t.2 x L lc h1 h0 hr hs (by have := hi.2; omega) (by omega) (fun i h => (h3 i h).2) (fun i hg hf => by have := hG i hg; have := (h3 i hf).1; omega)).mono ?_
  rintro e w' ⟨rfl, a1, a2⟩
  have hz := a2.size
  have hz0 := h6.size
  refine ⟨rfl, fun i => (F i ∨ w.heap.size ≤ i) ∧ i < w'.heap.size, G', a1.mono (fun i hi h => ⟨h, hi⟩) (by omega), h2.turn a2 (fun i _ hg hf => h5 i hf hg), ?_, fun i hi => ⟨(h4 i hi).1, by have := (h4 i hi).2; omega⟩, ?_, ?_⟩
  · rintro i ⟨h | h, h'⟩
    · exact ⟨(h3 i h).1, h'⟩
    · exact ⟨by omega, h'⟩
  · rintro i ⟨h | h, h'⟩ hg
    · exact h5 i h hg
    · have := (h4 i hg).2; omega
  · exact ((h6.turn (F := fun i => w0.heap.size ≤ i) (by simp)).trans (a2.mono (fun i _ h => (h3 i h).1))).keep (fun i hi => by omega)
theorem pair_do {w0 w : World} {p q n : Nat} {t u : PS} (h : Pair w0 w p q n t u) (x : Op12) (L : Option Addr) (lc : Nat) (G : Nat → Prop) (h0 : 0 ≤ x.k ∧ x.k ≤ 255) (hr : ReqOk x.r) (hs : SliceOf Rep.req w G (.slice L x.l.length lc) x.l)
    (hG : ∀ i, G i → i < w0.heap.size) (hi : InvP u) (hd : u.2.length + 10 ≤ 1000000) (hl : x.l.length ≤ 10) :
    Calls Try.prog 15 #[.pointer (some ⟨q, 0, none⟩), .agg #[.int .u8 x.k, .int .i64 x.r.c, .int .i64 x.r.s, .string x.r.b, .slice L x.l.length lc]] w fun e w' =>
      e = .returned (.int .i64 (opE u.1 u.2 x)) ∧ Pair w0 w' p q n t (stepP u x) := by
  obtain ⟨F, G', h1, h2, h3, h4, h5, h6⟩ := h
  have hz0 := h6.size
  refine (do_call w G' q u.1 u.2 x L lc G h2 h0 hr hs hi.2 (by omega) (fun i h => (h4 i h).2) (fun i h => by have := hG i h; omega) (fun i hg hf => by have := hG i hg; have := (h4 i hf).1; omega)).mono ?_
  rintro e w' ⟨rfl, a1, a2⟩
  have hz := a2.size
  rw [← opW_ref hi] at a1
  have gq : G' q := by obtain ⟨_, _, _, _, _, _, _, h, _⟩ := h2; exact h
  refine ⟨rfl, F, fun i => (G' i ∨ w.heap.size ≤ i) ∧ i < w'.heap.size, h1.turn a2 (fun i _ hf hg => h5 i hf (by rw [hg]; exact gq)), a1.mono (fun i hi h => ⟨h, hi⟩), fun i hi => ⟨(h3 i hi).1, by have := (h3 i hi).2; omega⟩, ?_, ?_, ?_⟩
  · rintro i ⟨h | h, h'⟩
    · exact ⟨(h4 i h).1, h'⟩
    · exact ⟨by omega, h'⟩
  · rintro i hf ⟨h | h, h'⟩
    · exact h5 i hf h
    · have := (h3 i hf).2; omega
  · exact ((h6.turn (F := fun i => w0.heap.size ≤ i) (by simp)).trans (a2.mono (fun i _ h => by rw [h]; exact (h4 q gq).1))).keep (fun i hi => by omega)
theorem pair_new {w0 w1 : World} {p q : Nat} (hp : PoolAt w1 (fun k => w0.heap.size ≤ k) p 0 [] []) (k : Keep [] w0 w1) (hq : q = w1.heap.size) : Pair w0 (w1.alloc (.cells #[.slice none 0 0, .slice none 0 0] 41)) p q 0 ([], []) ([], []) := by
  subst hq
  have hz := k.size
  refine ⟨fun i => w0.heap.size ≤ i ∧ i < w1.heap.size, fun i => i = w1.heap.size, (hp.mono (fun i hi h => ⟨h, hi⟩) (Nat.le_refl _)).turn (((Keep.refl [] w1).alloc _).turn (F := fun _ => False) (by simp)) (by simp), ⟨none, 0, none, 0, Blk.new w1 _ _, SliceOf.nil _ _ _ _ _, SliceOf.nil _ _ _ _ _, rfl, by simp, by simp⟩, ?_, ?_, ?_, k.alloc _⟩
  · rintro i ⟨a, b⟩; exact ⟨a, by simp; omega⟩
  · rintro i rfl; exact ⟨hz, by simp⟩
  · rintro i ⟨a, b⟩ e; omega
end Go.Proofs.Ytaiemagmkfjklaa
