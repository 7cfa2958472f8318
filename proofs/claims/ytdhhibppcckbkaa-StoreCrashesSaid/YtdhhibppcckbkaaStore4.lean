import Derived.Test.YtdhhibppcckbkaaStore3
import Derived.Test.YtdhhibppcckbkaaSafe7
import Derived.Test.YtdhhibppcckbkaaSafeThy
import Derived.Test.YtdhhibppcckbkaaStepM
namespace Go.Proofs.Ytdhhibppcckbkaa
open Go.RowKit
set_option linter.unusedVariables false
set_option linter.unusedSimpArgs false
/-! the store: what it is in memory; Open, State -/
/-- A row of its own, its elements' blocks in G, apart from the row's. -/
def RowX {α : Type} (a : Rep α) (e : TypeId) (w : World) (G : Nat → Prop) (v : Value) (xs : List α) : Prop := RowG a e w 0 G v xs ∧ ∀ k, v.ownBlock = some k → ¬ G k
theorem Own.rowX {α : Type} {a : Rep α} {e : TypeId} {w : World} {lo : Nat} {v : Value} {xs : List α} (h : Own a e w lo v xs) : RowX a e w (fun k => Off lo v k ∧ k < w.heap.size) v xs := by
  obtain ⟨css, h1, h2, h3⟩ := h
  refine ⟨⟨css, ⟨h1.1, ?_⟩, h2, fun i x cs hx hc => a.mono (h3 i x cs hx hc) (fun k hk hl => ⟨hk, hl⟩)⟩, fun k hk hg => hg.1.2 hk.symm⟩
  rcases h1.2 with hn | ⟨g, cap, cur, rfl, hb, rest⟩
  · exact .inl hn
  · exact .inr ⟨g, cap, cur, rfl, Nat.zero_le _, rest⟩
theorem RowX.keep {α : Type} {a : Rep α} {e : TypeId} {w w' : World} {G : Nat → Prop} {v : Value} {xs : List α} (h : RowX a e w G v xs)
    (hk : ∀ k, (v.ownBlock = some k ∨ G k) → k < w.heap.size → w'.heap[k]? = w.heap[k]?) : RowX a e w' G v xs := ⟨h.1.keep hk, h.2⟩
def StAt (w : World) (m p : Nat) (s : Stt) (v : Value) : Prop := Blk w m #[.pointer (some ⟨p, 0, none⟩), .int .i64 s.v, .int .i64 s.l, v] 75
theorem state_call (m p : Nat) (s : Stt) (v : Value) (w : World) (h : StAt w m p s v) : Calls Try.prog 20 #[.pointer (some ⟨m, 0, none⟩)] w fun e w' => e = .returned (.agg (stV s)) ∧ Keep [] w w' := by
  have c1 : w.cell? ⟨m, 1, none⟩ = some (.int .i64 s.v) := Blk.cell h 1
  have hm := Blk.lt h
  go_enter Try.func20, Try.ntmps20
  go_wp2_with (first
    | ((with_reducible refine wl_alloc 23 ?_ ?_); (with_reducible rfl); refine sx_alloc rfl 23 rfl _ 2 zSt zSt_info rfl ?_; intro w2 b2 k2 z2; clear z2; have h2 := Blk.keep h k2 (by simp); clear c1; have c1 : w2.cell? ⟨m, 1, none⟩ = some (.int .i64 s.v) := Blk.cell h2 1; (try simp only [Act.put, List.setIfInBounds_toArray, List.set_cons_zero, List.set_cons_succ]))
    | ((with_reducible refine wl_load 23 (.tmp 5) ?_ ?_); (with_reducible rfl); refine sx_load rfl 23 (.tmp 5) rfl m 1 _ (stV s) _ _ rfl h2 Try.underlying23 rfl zSt_size rfl ?_; (try simp only [Act.put, List.setIfInBounds_toArray, List.set_cons_zero, List.set_cons_succ]))
    | ((with_reducible refine wl_store 23 (.tmp 2) (.tmp 6) ?_ ?_); (with_reducible rfl); refine sx_storeW rfl 23 (.tmp 2) (.tmp 6) rfl w.heap.size (stV s) zSt _ 2 rfl rfl b2 zSt_size rfl rfl rfl ?_; intro w3 b3 k3 z3; clear z3; (try simp only [Act.put, List.setIfInBounds_toArray, List.set_cons_zero, List.set_cons_succ])))
  refine ret_cell rfl rfl rfl b3 Try.underlying23 rfl zSt_size ?_
  exact ⟨rfl, k2.new k3 (fun i hi => .inr (by simp at hi; omega))⟩
theorem LogAt.keepS {S : List Nat} {w w' : World} {p : Nat} {x : Lg} (h : LogAt w p x) (k : Keep S w w') (hp : p ∉ S) : LogAt w' p x := Blk.keep h k hp
set_option maxRecDepth 100000 in
set_option maxHeartbeats 4000000 in
theorem open_call (p : Nat) (x : Lg) (w : World) (hp : LogAt w p x) (hg : x.g = false) (hb : x.b.size ≤ 1000000) (hs : x.s ≤ 1000000) :
    Calls Try.prog 17 #[.pointer (some ⟨p, 0, none⟩)] w fun e w' => ∃ m, e = .returned (.tuple #[.pointer (some ⟨m, 0, none⟩), .int .i64 0]) ∧ w.heap.size ≤ m ∧ LogAt w' p ⟨x.b.extract 0 (endR x.b), min x.s (endR x.b), x.f, false⟩ ∧ Keep [p] w w' ∧
      ∃ v G, StAt w' m p (recallF (recs x.b) ⟨0, 0⟩ []).1 v ∧ RowX Rep.bk 29 w' G v (recallF (recs x.b) ⟨0, 0⟩ []).2 ∧ (∀ k, (v.ownBlock = some k ∨ G k) → w.heap.size ≤ k ∧ k < w'.heap.size ∧ k ≠ m) ∧ ((recallF (recs x.b) ⟨0, 0⟩ []).2 = [] → v = .slice none 0 0) := by
  have hpl := Blk.lt hp
  have hp := Lib.hid hp
  have hg := Lib.hid hg
  have hcut := Lib.hid (recs_cut x.b)
  have he := endR_le x.b
  go_enter Try.func17, Try.ntmps17
  go_wp2_with fail
  refine (Cut_call p x _ hp.out hg.out hb hs).mono ?_
  rintro e w1 ⟨rfl, h1, k1⟩
  go_wp2_with fail
  refine (Records_call p _ _ h1 rfl (by show (x.b.extract 0 (endR x.b)).size ≤ 1000000; rw [ByteArray.size_extract]; omega)).mono ?_
  dsimp only
  rw [hcut.out.1]
  have hrl := recs_len x.b
  rintro e w2 ⟨v2, rfl, ho2, k2⟩
  obtain ⟨A2, c2, rfl, -⟩ := ho2.form
  have s1 := k1.size
  have hs2 := (ho2.slice (by unfold M47; omega)).mono (G := fun k => w1.heap.size ≤ k ∧ k < w2.heap.size) (fun k hk hl => ⟨hk, hl⟩)
  replace hs2 := Lib.hid hs2
  replace ho2 := Lib.hid ho2
  have h2 := h1.keepS k2 (by simp)
  generalize hrs : recs x.b = rs at *
  replace hrs := Lib.hid hrs
  go_wp2_with fail
  refine (recall_call A2 rs c2 _ _ hs2.out (fun i hi => hi.2) (by omega)).mono ?_
  generalize hrc : recallF rs ⟨0, 0⟩ [] = rc at *
  obtain ⟨s, xs⟩ := rc
  replace hrc := Lib.hid hrc
  dsimp only at *
  rintro e w3 ⟨v3, rfl, lo, hlo, ho3, k3, hnil⟩
  replace hnil := Lib.hid hnil
  obtain ⟨A3, c3, rfl, -⟩ := ho3.form
  have s2 := k2.size
  have s3 := k3.size
  have hx3 := ho3.rowX
  have hown := ho3.lt
  clear ho2 hs2
  replace hx3 := Lib.hid hx3
  replace ho3 := Lib.hid ho3
  replace hown := Lib.hid hown
  go_wp2_with (first
    | ((with_reducible refine wl_alloc 23 ?_ ?_); (with_reducible rfl); refine sx_alloc rfl 23 rfl _ 2 zSt zSt_info rfl ?_; intro w4 b4 k4 z4; clear z4; (try simp only [Act.put, List.setIfInBounds_toArray, List.set_cons_zero, List.set_cons_succ]))
    | ((with_reducible refine wl_store 23 (.tmp 7) (.tmp 25) ?_ ?_); (with_reducible rfl); refine sx_storeW rfl 23 (.tmp 7) (.tmp 25) rfl w3.heap.size (stV s) zSt _ 2 rfl rfl b4 zSt_size rfl rfl rfl ?_; intro w5 b5 k5 z5; clear z5; (try simp only [Act.put, List.setIfInBounds_toArray, List.set_cons_zero, List.set_cons_succ]))
    | ((with_reducible refine wl_load 23 (.tmp 7) ?_ ?_); (with_reducible rfl); refine sx_loadW rfl 23 (.tmp 7) rfl w3.heap.size (stV s) _ _ 2 rfl b5 Try.underlying23 rfl zSt_size rfl ?_; (try simp only [Act.put, List.setIfInBounds_toArray, List.set_cons_zero, List.set_cons_succ]))
    | ((with_reducible refine wl_build 75 _ ?_ ?_); (with_reducible rfl); refine sx_build rfl 75 _ rfl #[.pointer (some ⟨p, 0, none⟩), .int .i64 s.v, .int .i64 s.l, .slice A3 xs.length c3] (by kernel_rfl) ?_; (try simp only [Act.put, List.setIfInBounds_toArray, List.set_cons_zero, List.set_cons_succ]))
    | ((with_reducible refine wl_box 75 (.tmp 30) ?_ ?_); (with_reducible rfl); refine sx_box rfl 75 (.tmp 30) rfl #[.pointer (some ⟨p, 0, none⟩), .int .i64 s.v, .int .i64 s.l, .slice A3 xs.length c3] rfl ?_; intro w6 b6 k6 z6; clear z6; (try simp only [Act.put, List.setIfInBounds_toArray, List.set_cons_zero, List.set_cons_succ])))
  go_ret2
  have k36 : Keep [] w3 w6 := (k4.new k5 (fun i hi => .inr (by simp at hi; omega))).trans k6
  have s5 := (k4.new k5 (S := []) (fun i hi => .inr (by simp at hi; omega))).size
  have s6 := k36.size
  rw [hrs.out, hrc.out]
  refine ⟨_, rfl, by omega, (h2.keepS k3 (by simp)).keepS k36 (by simp), ((k1.trans (k2.mono (by simp))).trans (k3.mono (by simp))).trans (k36.mono (by simp)), _, _, b6, hx3.out.keep (fun k hk hl => k36.block k hl (by simp)), fun k hk => ?_, hnil.out⟩
  rcases hk with hk | hk
  · have := hown.out k hk
    omega
  · have := hk.1.1
    have := hk.2
    omega
end Go.Proofs.Ytdhhibppcckbkaa
