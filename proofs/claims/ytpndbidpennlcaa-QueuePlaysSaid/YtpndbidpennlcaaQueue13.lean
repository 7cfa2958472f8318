import Derived.Test.YtpndbidpennlcaaQueue94
import Derived.Test.YtpndbidpennlcaaQueue95
import Derived.Test.YtpndbidpennlcaaQueue9n
namespace Go.Proofs.Ytpndbidpennlcaa
open Go.RowKit
set_option linter.unusedVariables false
set_option linter.unusedSimpArgs false
/-! the reference's Push, as one -/
def pushR (m : Ms) (a b : List Ms) (d : Int) : Int × List Ms × List Ms × Int :=
  if rightMsg m = false then (2, a, b, d)
  else if m.k = 4 ∨ m.k = 5 then (if b.length < 64 then (0, a, b ++ [m], d) else (7, a, b, d + 1))
  else (if a.length < 64 then (0, a ++ [m], b, d) else (7, a, b, d + 1))
/-- The reference's queue as a value. -/
def RqAt (w : World) (G : Nat → Prop) (v : Value) (a b : List Ms) (d : Int) : Prop :=
  ∃ A B ca cb, v = .agg #[.slice A a.length ca, .slice B b.length cb, .int .i64 d] ∧ SliceOf Rep.ms w G (.slice A a.length ca) a ∧ SliceOf Rep.ms w G (.slice B b.length cb) b
theorem RqAt.keep {w w' : World} {G : Nat → Prop} {v : Value} {a b : List Ms} {d : Int} (h : RqAt w G v a b d) (hk : ∀ k, G k → k < w.heap.size → w'.heap[k]? = w.heap[k]?) : RqAt w' G v a b d := by
  obtain ⟨A, B, ca, cb, rfl, h1, h2⟩ := h
  exact ⟨A, B, ca, cb, rfl, h1.keep hk, h2.keep hk⟩
theorem rpush_call (v : Value) (a b : List Ms) (d : Int) (m : Ms) (v1 v2 v3 v4 : Value) (G : Nat → Prop) (w : World) (hq : RqAt w G v a b d) (hok : MsOk w G m v1 v2 v3 v4)
    (hG : ∀ i, G i → i < w.heap.size) (ha2 : a.length ≤ 64) (hb2 : b.length ≤ 64) (hd : 0 ≤ d ∧ d ≤ 1000000) :
    Calls Try.prog 16 #[v, .agg (msgV m v1 v2 v3 v4)] w fun e w' => ∃ v', e = .returned (.tuple #[v', .int .i64 (pushR m a b d).1]) ∧ RqAt w' (fun i => G i ∨ w.heap.size ≤ i) v' (pushR m a b d).2.1 (pushR m a b d).2.2.1 (pushR m a b d).2.2.2 ∧ Keep [] w w' := by
  obtain ⟨A, B, ca, cb, rfl, ha, hb⟩ := hq
  have mv : ∀ w', Keep [] w w' → SliceOf Rep.ms w' (fun i => G i ∨ w.heap.size ≤ i) (.slice A a.length ca) a ∧ SliceOf Rep.ms w' (fun i => G i ∨ w.heap.size ≤ i) (.slice B b.length cb) b := fun w' k =>
    ⟨(ha.keep (k.at G (by simp))).mono (fun i hi _ => .inl hi), (hb.keep (k.at G (by simp))).mono (fun i hi _ => .inl hi)⟩
  unfold pushR
  cases hr : rightMsg m with
  | false =>
    refine (rpush_bad A B ca cb a b d m v1 v2 v3 v4 G w ha hb hok hG ha2 hb2 hd hr).mono ?_
    rintro e w' ⟨rfl, k⟩
    exact ⟨_, rfl, ⟨A, B, ca, cb, rfl, (mv w' k).1, (mv w' k).2⟩, k⟩
  | true =>
    simp only [Bool.true_eq_false, if_false]
    by_cases h45 : m.k = 4 ∨ m.k = 5
    · rw [if_pos h45]
      by_cases hf : b.length < 64
      · rw [if_pos hf]
        have fin : ∀ e w', (∃ B' c', e = Ending.returned (.tuple #[.agg #[.slice A a.length ca, .slice B' (b.length + 1) c', .int .i64 d], .int .i64 0]) ∧ SliceOf Rep.ms w' (fun i => G i ∨ w.heap.size ≤ i) (.slice B' (b.length + 1) c') (b ++ [m]) ∧ Keep [] w w') →
            ∃ v', e = .returned (.tuple #[v', .int .i64 0]) ∧ RqAt w' (fun i => G i ∨ w.heap.size ≤ i) v' a (b ++ [m]) d ∧ Keep [] w w' := by
          rintro e w' ⟨B', c', rfl, h1, k⟩
          exact ⟨_, rfl, ⟨A, B', ca, c', by simp, (mv w' k).1, by simpa using h1⟩, k⟩
        rcases h45 with h4 | h5
        · exact (rpush_ok4 A B ca cb a b d m v1 v2 v3 v4 G w ha hb hok hG ha2 hb2 hd hr h4 hf).mono fin
        · exact (rpush_ok5 A B ca cb a b d m v1 v2 v3 v4 G w ha hb hok hG ha2 hb2 hd hr h5 hf).mono fin
      · rw [if_neg hf]
        have fin : ∀ e w', (e = Ending.returned (.tuple #[.agg #[.slice A a.length ca, .slice B b.length cb, .int .i64 (d + 1)], .int .i64 7]) ∧ Keep [] w w') →
            ∃ v', e = .returned (.tuple #[v', .int .i64 7]) ∧ RqAt w' (fun i => G i ∨ w.heap.size ≤ i) v' a b (d + 1) ∧ Keep [] w w' := by
          rintro e w' ⟨rfl, k⟩
          exact ⟨_, rfl, ⟨A, B, ca, cb, rfl, (mv w' k).1, (mv w' k).2⟩, k⟩
        rcases h45 with h4 | h5
        · exact (rpush_full4 A B ca cb a b d m v1 v2 v3 v4 G w ha hb hok hG ha2 hb2 hd hr h4 (by omega)).mono fin
        · exact (rpush_full5 A B ca cb a b d m v1 v2 v3 v4 G w ha hb hok hG ha2 hb2 hd hr h5 (by omega)).mono fin
    · rw [if_neg h45]
      have h4 : m.k ≠ 4 := fun h => h45 (.inl h)
      have h5 : m.k ≠ 5 := fun h => h45 (.inr h)
      by_cases hf : a.length < 64
      · rw [if_pos hf]
        refine (rpush_okn A B ca cb a b d m v1 v2 v3 v4 G w ha hb hok hG ha2 hb2 hd hr h4 h5 hf).mono ?_
        rintro e w' ⟨B', c', rfl, h1, k⟩
        exact ⟨_, rfl, ⟨B', B, c', cb, by simp, by simpa using h1, (mv w' k).2⟩, k⟩
      · rw [if_neg hf]
        refine (rpush_fulln A B ca cb a b d m v1 v2 v3 v4 G w ha hb hok hG ha2 hb2 hd hr h4 h5 (by omega)).mono ?_
        rintro e w' ⟨rfl, k⟩
        exact ⟨_, rfl, ⟨A, B, ca, cb, rfl, (mv w' k).1, (mv w' k).2⟩, k⟩
end Go.Proofs.Ytpndbidpennlcaa
namespace Go.Proofs.Ytpndbidpennlcaa
open Go.RowKit
set_option linter.unusedVariables false
set_option linter.unusedSimpArgs false
/-! the plain law: the queue's bytes are the reference's messages, written -/
theorem laneF_client (m : Ms) : laneF m.k = 0 ↔ ¬ (m.k = 4 ∨ m.k = 5) := by
  unfold laneF
  by_cases h : m.k = 4 ∨ m.k = 5
  · simp [h]
  · simp [h]
theorem push_same (m : Ms) (hr : rightMsg m = true) (a b : List Ms) (d : Int) :
    pushQ (msgF m) (a.map msgF) (b.map msgF) d = ((pushR m a b d).1, (pushR m a b d).2.1.map msgF, (pushR m a b d).2.2.1.map msgF, (pushR m a b d).2.2.2) := by
  have h0 : ¬ rightMsg m = false := by simp [hr]
  by_cases hc : m.k = 4 ∨ m.k = 5
  · have hl : ¬ laneF m.k = 0 := fun h => (laneF_client m).1 h hc
    by_cases hf : b.length < 64
    · have e : pushR m a b d = (0, a, b ++ [m], d) := by unfold pushR; rw [if_neg h0, if_pos hc, if_pos hf]
      rw [e, pqK hr, if_neg hl, if_pos (by simpa using hf)]; simp
    · have e : pushR m a b d = (7, a, b, d + 1) := by unfold pushR; rw [if_neg h0, if_pos hc, if_neg hf]
      rw [e, pqK hr, if_neg hl, if_neg (by simpa using hf)]
  · have hl : laneF m.k = 0 := (laneF_client m).2 hc
    by_cases hf : a.length < 64
    · have e : pushR m a b d = (0, a ++ [m], b, d) := by unfold pushR; rw [if_neg h0, if_neg hc, if_pos hf]
      rw [e, pqK hr, if_pos hl, if_pos (by simpa using hf)]; simp
    · have e : pushR m a b d = (7, a, b, d + 1) := by unfold pushR; rw [if_neg h0, if_neg hc, if_neg hf]
      rw [e, pqK hr, if_pos hl, if_neg (by simpa using hf)]
theorem pushR_right (m : Ms) (hr : rightMsg m = true) (a b : List Ms) (d : Int) (ha : ∀ x ∈ a, rightMsg x = true) (hb : ∀ x ∈ b, rightMsg x = true) :
    (∀ x ∈ (pushR m a b d).2.1, rightMsg x = true) ∧ (∀ x ∈ (pushR m a b d).2.2.1, rightMsg x = true) := by
  have h1 : ∀ l : List Ms, (∀ x ∈ l, rightMsg x = true) → ∀ x ∈ l ++ [m], rightMsg x = true := fun l hl x hx => by
    rcases List.mem_append.1 hx with h | h
    · exact hl x h
    · simp at h; rw [h]; exact hr
  have h0 : ¬ rightMsg m = false := by simp [hr]
  by_cases hc : m.k = 4 ∨ m.k = 5
  · by_cases hf : b.length < 64
    · have e : pushR m a b d = (0, a, b ++ [m], d) := by unfold pushR; rw [if_neg h0, if_pos hc, if_pos hf]
      rw [e]; exact ⟨ha, h1 b hb⟩
    · have e : pushR m a b d = (7, a, b, d + 1) := by unfold pushR; rw [if_neg h0, if_pos hc, if_neg hf]
      rw [e]; exact ⟨ha, hb⟩
  · by_cases hf : a.length < 64
    · have e : pushR m a b d = (0, a ++ [m], b, d) := by unfold pushR; rw [if_neg h0, if_neg hc, if_pos hf]
      rw [e]; exact ⟨h1 a ha, hb⟩
    · have e : pushR m a b d = (7, a, b, d + 1) := by unfold pushR; rw [if_neg h0, if_neg hc, if_neg hf]
      rw [e]; exact ⟨ha, hb⟩
def popR (p : Nat) (a b : List Ms) : List Ms × List Ms := if p < a.length then (a.eraseIdx p, b) else (a, b.eraseIdx (p - a.length))
theorem map_eraseIdx {α β : Type} (f : α → β) : ∀ (l : List α) (i : Nat), (l.eraseIdx i).map f = (l.map f).eraseIdx i
  | [], _ => rfl
  | _ :: _, 0 => rfl
  | x :: l, i + 1 => by simp [map_eraseIdx f l i]
theorem pop_same (p : Nat) (a b : List Ms) : popQ p (a.map msgF) (b.map msgF) = ((popR p a b).1.map msgF, (popR p a b).2.map msgF) := by
  unfold popQ popR
  by_cases h : p < a.length
  · simp [h, map_eraseIdx]
  · simp [h, map_eraseIdx]
end Go.Proofs.Ytpndbidpennlcaa
namespace Go.Proofs.Ytpndbidpennlcaa
open Go.RowKit
set_option linter.unusedVariables false
set_option linter.unusedSimpArgs false
/-! the reference's Pop -/
/-- Three results, two of them cells. -/
theorem ret_cell3 {P : Program} {fn : Func} {R : Ending → World → Prop} {a : Act} {w : World} {p q u : Tmp} {ty sy : TypeId} {g k : Nat} {C D : Array Value} {t s : Nat} {d f : TypeDesc} (hr : fn.results = #[.cell p ty, .cell q sy, .tmp u]) (hd : a.defers = [])
    (hp : a.tmps.getD p undef = .pointer (some ⟨g, 0, none⟩)) (hb : Blk w g C t) (hu : P.underlying ty = some d) (hrow : d.isRow = true) (hi : (P.info? ty).map (·.size) = some C.size)
    (hq : a.tmps.getD q undef = .pointer (some ⟨k, 0, none⟩)) (hb2 : Blk w k D s) (hu2 : P.underlying sy = some f) (hrow2 : f.isRow = true) (hi2 : (P.info? sy).map (·.size) = some D.size)
    (v : Value) (hv : a.tmps.getD u undef = v) (hR : R (.returned (.tuple #[.agg C, .agg D, v])) w) : bodyPost P fn R .ret a w :=
  bodyPost_ret (v := .tuple #[.agg C, .agg D, v]) (by
    have h := run_loadPart (P := P) w g 0 ty C C t d hb hu hrow hi (by rw [List.drop_zero, List.take_length])
    have h2 := run_loadPart (P := P) w k 0 sy D D s f hb2 hu2 hrow2 hi2 (by rw [List.drop_zero, List.take_length])
    have hp' : a.tmps[p]?.getD undef = .pointer (some ⟨g, 0, none⟩) := by simpa using hp
    have hq' : a.tmps[q]?.getD undef = .pointer (some ⟨k, 0, none⟩) := by simpa using hq
    have hv' : a.tmps[u]?.getD undef = v := by simpa using hv
    simp only [results, hr]
    simp [Sem.run_bind, Result.andThen, hp', hq', asAddr, h, h2, hv']) hd hR
end Go.Proofs.Ytpndbidpennlcaa
namespace Go.Proofs.Ytpndbidpennlcaa
open Go.RowKit
set_option linter.unusedVariables false
set_option linter.unusedSimpArgs false
set_option maxRecDepth 100000 in
set_option maxHeartbeats 16000000 in
theorem rpop_none (A B : Option Addr) (ca cb : Nat) (a b : List Ms) (d i : Int) (G : Nat → Prop) (w : World) (ha : SliceOf Rep.ms w G (.slice A a.length ca) a) (hb : SliceOf Rep.ms w G (.slice B b.length cb) b)
    (hG : ∀ i, G i → i < w.heap.size) (ha2 : a.length = 0) (hb2 : b.length = 0) :
    Calls Try.prog 17 #[.agg #[.slice A a.length ca, .slice B b.length cb, .int .i64 d], .int .i64 i] w fun e w' => e = .returned (.tuple #[.agg #[.slice A a.length ca, .slice B b.length cb, .int .i64 d], .agg zMs, .bool false]) ∧ Keep [] w w' := by
  replace ha := Lib.hid ha
  replace hb := Lib.hid hb
  replace hG := Lib.hid hG
  have hA64 : a.length ≤ 64 := by omega
  have hB64 : b.length ≤ 64 := by omega
  replace ha2 := Lib.hid ha2
  replace hb2 := Lib.hid hb2
  go_enter Try.func17, Try.ntmps17
  go_upto_region 1 with (first
    | ((with_reducible refine wl_box 53 (.tmp 0) ?_ ?_); (with_reducible rfl); refine sx_box rfl 53 (.tmp 0) rfl #[.slice A a.length ca, .slice B b.length cb, .int .i64 d] rfl ?_; intro w1 b1 k1 z1; clear z1; (try simp only [Act.put, List.setIfInBounds_toArray, List.set_cons_zero, List.set_cons_succ]))
    | ((with_reducible refine wl_alloc 53 ?_ ?_); (with_reducible rfl); refine sx_alloc rfl 53 rfl _ 3 zRq zRq_info rfl ?_; intro w2 b2 k2 z2; clear z2; (try simp only [Act.put, List.setIfInBounds_toArray, List.set_cons_zero, List.set_cons_succ]))
    | ((with_reducible refine wl_alloc 38 ?_ ?_); (with_reducible rfl); refine sx_alloc rfl 38 rfl _ 21 zMs zMs_info rfl ?_; intro w4 b4 k4 z4; clear z4; (try simp only [Act.put, List.setIfInBounds_toArray, List.set_cons_zero, List.set_cons_succ])))
  have C1 := (b1.keep k2 (by simp)).keep k4 (by simp)
  have C2 := b2.keep k4 (by simp)
  have kk4 := (k1.trans k2).trans k4
  have l1 := b1.lt
  have l2 := b2.lt
  have l0 : w.heap.size ≤ w2.heap.size := (k1.trans k2).size
  clear b1 b2 k1 k2 k4
  have y0 : w4.cell? ⟨w.heap.size, 0, none⟩ = some (.slice A a.length ca) := C1.cell 0
  have y1 : w4.cell? ⟨w.heap.size, 1, none⟩ = some (.slice B b.length cb) := C1.cell 1
  have ha4 := Lib.hid (ha.out.keep (kk4.at G (by simp)))
  have hb4 := Lib.hid (hb.out.keep (kk4.at G (by simp)))
  have hG4 : Hid (∀ k, G k → k < w4.heap.size) := Lib.hid (fun k hk => Nat.lt_of_lt_of_le (hG.out k hk) kk4.size)
  refine wp_region_any (by kernel_rfl) ?_
  (try (change wpAny _ _ _ _ _ _ _ (World.drew _)))
  have K0 : Keep [] w4 w4.drew := (Keep.refl [] w4).drew
  generalize World.drew w4 = u0 at *
  refine wpAny_take (i := 1) (v := ?_) rfl (by kernel_rfl) (by kernel_rfl) (by kernel_rfl) (fun _ _ _ h => h) (Or.inl ⟨by rfl, ?_⟩) ?_
  rotate_left
  · intro w9
    go_simp
    with_reducible rfl
  refine wpAny_take (i := 4) (v := ?_) rfl (by kernel_rfl) (by kernel_rfl) (by kernel_rfl) (fun _ _ _ h => h) (Or.inl ⟨by rfl, ?_⟩) ?_
  rotate_left
  · intro w9
    go_simp
    with_reducible rfl
  refine wpAny_ready (rs := [0, 2, 5]) (by kernel_rfl) (by simp) ?_
  refine AllReady.cons rfl (fun K hK => ?_) ?_
  · refine step_none rfl 51 38 rfl (.agg zMs) 21 272 Try.underlying51 infoMs ?_
    intro u1 bN kN zN
    clear zN
    have K1 := K0.trans kN
    have R1 : RowG Rep.ms 38 u1 w4.heap.size G (.slice (some ⟨u0.heap.size, 0, none⟩) 0 0) [] := RowG.empty _ _ _ _ _ _ bN K0.size
    replace R1 := Lib.hid R1
    clear bN kN
    refine hK _ _ ?_
    clear hK K
    refine wpAny_ready (rs := [2, 5]) (by kernel_rfl) (by simp) ?_
    refine AllReady.cons rfl (fun K hK => ?_) ?_
    · have cc := K1.cell (by simp) y0
      go_simp
      clear cc
      refine hK _ _ ?_
      clear hK K
      refine wpAny_ready (rs := [3, 5]) (by kernel_rfl) (by simp) ?_
      refine AllReady.cons rfl (fun K hK => ?_) ?_
      · refine step_appM rfl (.tmp 11) (.tmp 13) rfl w4.heap.size G (.slice (some ⟨u0.heap.size, 0, none⟩) 0 0) [] a A ca rfl rfl R1.out (SliceOf.reads (ha4.out.keep (K1.at G (by simp)))) hG4.out (by simp; omega) K1.size ?_
        simp only [List.length_nil, Nat.zero_add, List.nil_append]
        intro B1 p1 u2 rN kN
        have K2 : Keep [] w4 u2 := K1.new kN (fun i hi => .inr (R1.out.lt i (by simpa using hi)).1)
        have R2 := Lib.hid rN
        clear rN kN
        refine hK _ _ ?_
        clear hK K
        refine wpAny_ready (rs := [5]) (by kernel_rfl) (by simp) ?_
        refine AllReady.cons rfl (fun K hK => ?_) ?_
        · have cc := K2.cell (by simp) y1
          go_simp
          clear cc
          refine hK _ _ ?_
          clear hK K
          refine wpAny_ready (rs := [6]) (by kernel_rfl) (by simp) ?_
          refine AllReady.cons rfl (fun K hK => ?_) ?_
          · refine step_appM rfl (.tmp 14) (.tmp 16) rfl w4.heap.size G (.slice B1 a.length p1) a b B cb rfl rfl R2.out (SliceOf.reads (hb4.out.keep (K2.at G (by simp)))) hG4.out (by omega) K2.size ?_
            intro B2 p2 u3 rN kN
            have K3 : Keep [] w4 u3 := K2.new kN (fun i hi => .inr (R2.out.lt i (by simpa using hi)).1)
            have R3 := Lib.hid rN
            clear rN kN
            refine hK _ _ ?_
            clear hK K
            refine wpAny_ready (rs := [7]) (by kernel_rfl) (by simp) ?_
            refine AllReady.cons rfl (fun K hK => ?_) ?_
            · go_simp
              refine hK _ _ ?_
              clear hK K
              refine wpAny_done (by kernel_rfl) ?_ _
              have D1 := C1.keep K3 (by simp)
              have D2 := C2.keep K3 (by simp)
              have D4 := b4.keep K3 (by simp)
              have kk5 := kk4.trans K3
              clear y0 y1
              go_upto_region 3 with fail
              have hzn : a.length + b.length = 0 := by have := ha2.out; have := hb2.out; omega
              have hzi : (a.length : Int) + (b.length : Int) = 0 := by omega
              (try rw [hzi])
              (try rw [hzn])
              clear hzn hzi
              go_wp2_with (first | ((with_reducible refine wl_load 53 (.tmp 2) ?_ ?_); (with_reducible rfl); refine sx_loadW rfl 53 (.tmp 2) rfl w.heap.size #[.slice A a.length ca, .slice B b.length cb, .int .i64 d] _ _ 3 rfl D1 Try.underlying53 rfl zRq_size rfl ?_; (try simp only [Act.put, List.setIfInBounds_toArray, List.set_cons_zero, List.set_cons_succ])) | ((with_reducible refine wl_build 38 _ ?_ ?_); (with_reducible rfl); refine sx_build rfl 38 _ rfl zMs (by kernel_rfl) ?_; (try simp only [Act.put, List.setIfInBounds_toArray, List.set_cons_zero, List.set_cons_succ])) | ((with_reducible refine wl_store 53 (.tmp 4) (.tmp 22) ?_ ?_); (with_reducible rfl); refine sx_storeW rfl 53 (.tmp 4) (.tmp 22) rfl w1.heap.size #[.slice A a.length ca, .slice B b.length cb, .int .i64 d] zRq _ 3 rfl rfl D2 zRq_size rfl rfl rfl ?_; intro w8 b8 k8 z8; clear z8; have D5 := D4.keep k8 (by simp; omega); (try simp only [Act.put, List.setIfInBounds_toArray, List.set_cons_zero, List.set_cons_succ])) | ((with_reducible refine wl_store 38 (.tmp 5) (.tmp 23) ?_ ?_); (with_reducible rfl); refine sx_storeW rfl 38 (.tmp 5) (.tmp 23) rfl w2.heap.size zMs zMs _ 21 rfl rfl D5 zMs_size rfl rfl rfl ?_; intro w9 b9 k9 z9; clear z9; (try simp only [Act.put, List.setIfInBounds_toArray, List.set_cons_zero, List.set_cons_succ])))
              have b10 := b8.keep k9 (by simp; omega)
              refine ret_cell3 rfl rfl rfl b10 Try.underlying53 rfl zRq_size rfl b9 Try.underlying38 rfl zMs_size _ rfl ?_
              exact ⟨rfl, (kk5.new k8 (fun i hi => .inr (by simp at hi; have := l1; omega))).new k9 (fun i hi => .inr (by simp at hi; omega))⟩
            exact AllReady.nil
          exact AllReady.nil
        exact AllReady.nil
      refine AllReady.cons rfl (fun K hK => ?_) ?_
      · have cc := K1.cell (by simp) y1
        go_simp
        clear cc
        refine hK _ _ ?_
        clear hK K
        refine wpAny_ready (rs := [3]) (by kernel_rfl) (by simp) ?_
        refine AllReady.cons rfl (fun K hK => ?_) ?_
        · refine step_appM rfl (.tmp 11) (.tmp 13) rfl w4.heap.size G (.slice (some ⟨u0.heap.size, 0, none⟩) 0 0) [] a A ca rfl rfl R1.out (SliceOf.reads (ha4.out.keep (K1.at G (by simp)))) hG4.out (by simp; omega) K1.size ?_
          simp only [List.length_nil, Nat.zero_add, List.nil_append]
          intro B1 p1 u2 rN kN
          have K2 : Keep [] w4 u2 := K1.new kN (fun i hi => .inr (R1.out.lt i (by simpa using hi)).1)
          have R2 := Lib.hid rN
          clear rN kN
          refine hK _ _ ?_
          clear hK K
          refine wpAny_ready (rs := [6]) (by kernel_rfl) (by simp) ?_
          refine AllReady.cons rfl (fun K hK => ?_) ?_
          · refine step_appM rfl (.tmp 14) (.tmp 16) rfl w4.heap.size G (.slice B1 a.length p1) a b B cb rfl rfl R2.out (SliceOf.reads (hb4.out.keep (K2.at G (by simp)))) hG4.out (by omega) K2.size ?_
            intro B2 p2 u3 rN kN
            have K3 : Keep [] w4 u3 := K2.new kN (fun i hi => .inr (R2.out.lt i (by simpa using hi)).1)
            have R3 := Lib.hid rN
            clear rN kN
            refine hK _ _ ?_
            clear hK K
            refine wpAny_ready (rs := [7]) (by kernel_rfl) (by simp) ?_
            refine AllReady.cons rfl (fun K hK => ?_) ?_
            · go_simp
              refine hK _ _ ?_
              clear hK K
              refine wpAny_done (by kernel_rfl) ?_ _
              have D1 := C1.keep K3 (by simp)
              have D2 := C2.keep K3 (by simp)
              have D4 := b4.keep K3 (by simp)
              have kk5 := kk4.trans K3
              clear y0 y1
              go_upto_region 3 with fail
              have hzn : a.length + b.length = 0 := by have := ha2.out; have := hb2.out; omega
              have hzi : (a.length : Int) + (b.length : Int) = 0 := by omega
              (try rw [hzi])
              (try rw [hzn])
              clear hzn hzi
              go_wp2_with (first | ((with_reducible refine wl_load 53 (.tmp 2) ?_ ?_); (with_reducible rfl); refine sx_loadW rfl 53 (.tmp 2) rfl w.heap.size #[.slice A a.length ca, .slice B b.length cb, .int .i64 d] _ _ 3 rfl D1 Try.underlying53 rfl zRq_size rfl ?_; (try simp only [Act.put, List.setIfInBounds_toArray, List.set_cons_zero, List.set_cons_succ])) | ((with_reducible refine wl_build 38 _ ?_ ?_); (with_reducible rfl); refine sx_build rfl 38 _ rfl zMs (by kernel_rfl) ?_; (try simp only [Act.put, List.setIfInBounds_toArray, List.set_cons_zero, List.set_cons_succ])) | ((with_reducible refine wl_store 53 (.tmp 4) (.tmp 22) ?_ ?_); (with_reducible rfl); refine sx_storeW rfl 53 (.tmp 4) (.tmp 22) rfl w1.heap.size #[.slice A a.length ca, .slice B b.length cb, .int .i64 d] zRq _ 3 rfl rfl D2 zRq_size rfl rfl rfl ?_; intro w8 b8 k8 z8; clear z8; have D5 := D4.keep k8 (by simp; omega); (try simp only [Act.put, List.setIfInBounds_toArray, List.set_cons_zero, List.set_cons_succ])) | ((with_reducible refine wl_store 38 (.tmp 5) (.tmp 23) ?_ ?_); (with_reducible rfl); refine sx_storeW rfl 38 (.tmp 5) (.tmp 23) rfl w2.heap.size zMs zMs _ 21 rfl rfl D5 zMs_size rfl rfl rfl ?_; intro w9 b9 k9 z9; clear z9; (try simp only [Act.put, List.setIfInBounds_toArray, List.set_cons_zero, List.set_cons_succ])))
              have b10 := b8.keep k9 (by simp; omega)
              refine ret_cell3 rfl rfl rfl b10 Try.underlying53 rfl zRq_size rfl b9 Try.underlying38 rfl zMs_size _ rfl ?_
              exact ⟨rfl, (kk5.new k8 (fun i hi => .inr (by simp at hi; have := l1; omega))).new k9 (fun i hi => .inr (by simp at hi; omega))⟩
            exact AllReady.nil
          exact AllReady.nil
        exact AllReady.nil
      exact AllReady.nil
    refine AllReady.cons rfl (fun K hK => ?_) ?_
    · have cc := K1.cell (by simp) y1
      go_simp
      clear cc
      refine hK _ _ ?_
      clear hK K
      refine wpAny_ready (rs := [2]) (by kernel_rfl) (by simp) ?_
      refine AllReady.cons rfl (fun K hK => ?_) ?_
      · have cc := K1.cell (by simp) y0
        go_simp
        clear cc
        refine hK _ _ ?_
        clear hK K
        refine wpAny_ready (rs := [3]) (by kernel_rfl) (by simp) ?_
        refine AllReady.cons rfl (fun K hK => ?_) ?_
        · refine step_appM rfl (.tmp 11) (.tmp 13) rfl w4.heap.size G (.slice (some ⟨u0.heap.size, 0, none⟩) 0 0) [] a A ca rfl rfl R1.out (SliceOf.reads (ha4.out.keep (K1.at G (by simp)))) hG4.out (by simp; omega) K1.size ?_
          simp only [List.length_nil, Nat.zero_add, List.nil_append]
          intro B1 p1 u2 rN kN
          have K2 : Keep [] w4 u2 := K1.new kN (fun i hi => .inr (R1.out.lt i (by simpa using hi)).1)
          have R2 := Lib.hid rN
          clear rN kN
          refine hK _ _ ?_
          clear hK K
          refine wpAny_ready (rs := [6]) (by kernel_rfl) (by simp) ?_
          refine AllReady.cons rfl (fun K hK => ?_) ?_
          · refine step_appM rfl (.tmp 14) (.tmp 16) rfl w4.heap.size G (.slice B1 a.length p1) a b B cb rfl rfl R2.out (SliceOf.reads (hb4.out.keep (K2.at G (by simp)))) hG4.out (by omega) K2.size ?_
            intro B2 p2 u3 rN kN
            have K3 : Keep [] w4 u3 := K2.new kN (fun i hi => .inr (R2.out.lt i (by simpa using hi)).1)
            have R3 := Lib.hid rN
            clear rN kN
            refine hK _ _ ?_
            clear hK K
            refine wpAny_ready (rs := [7]) (by kernel_rfl) (by simp) ?_
            refine AllReady.cons rfl (fun K hK => ?_) ?_
            · go_simp
              refine hK _ _ ?_
              clear hK K
              refine wpAny_done (by kernel_rfl) ?_ _
              have D1 := C1.keep K3 (by simp)
              have D2 := C2.keep K3 (by simp)
              have D4 := b4.keep K3 (by simp)
              have kk5 := kk4.trans K3
              clear y0 y1
              go_upto_region 3 with fail
              have hzn : a.length + b.length = 0 := by have := ha2.out; have := hb2.out; omega
              have hzi : (a.length : Int) + (b.length : Int) = 0 := by omega
              (try rw [hzi])
              (try rw [hzn])
              clear hzn hzi
              go_wp2_with (first | ((with_reducible refine wl_load 53 (.tmp 2) ?_ ?_); (with_reducible rfl); refine sx_loadW rfl 53 (.tmp 2) rfl w.heap.size #[.slice A a.length ca, .slice B b.length cb, .int .i64 d] _ _ 3 rfl D1 Try.underlying53 rfl zRq_size rfl ?_; (try simp only [Act.put, List.setIfInBounds_toArray, List.set_cons_zero, List.set_cons_succ])) | ((with_reducible refine wl_build 38 _ ?_ ?_); (with_reducible rfl); refine sx_build rfl 38 _ rfl zMs (by kernel_rfl) ?_; (try simp only [Act.put, List.setIfInBounds_toArray, List.set_cons_zero, List.set_cons_succ])) | ((with_reducible refine wl_store 53 (.tmp 4) (.tmp 22) ?_ ?_); (with_reducible rfl); refine sx_storeW rfl 53 (.tmp 4) (.tmp 22) rfl w1.heap.size #[.slice A a.length ca, .slice B b.length cb, .int .i64 d] zRq _ 3 rfl rfl D2 zRq_size rfl rfl rfl ?_; intro w8 b8 k8 z8; clear z8; have D5 := D4.keep k8 (by simp; omega); (try simp only [Act.put, List.setIfInBounds_toArray, List.set_cons_zero, List.set_cons_succ])) | ((with_reducible refine wl_store 38 (.tmp 5) (.tmp 23) ?_ ?_); (with_reducible rfl); refine sx_storeW rfl 38 (.tmp 5) (.tmp 23) rfl w2.heap.size zMs zMs _ 21 rfl rfl D5 zMs_size rfl rfl rfl ?_; intro w9 b9 k9 z9; clear z9; (try simp only [Act.put, List.setIfInBounds_toArray, List.set_cons_zero, List.set_cons_succ])))
              have b10 := b8.keep k9 (by simp; omega)
              refine ret_cell3 rfl rfl rfl b10 Try.underlying53 rfl zRq_size rfl b9 Try.underlying38 rfl zMs_size _ rfl ?_
              exact ⟨rfl, (kk5.new k8 (fun i hi => .inr (by simp at hi; have := l1; omega))).new k9 (fun i hi => .inr (by simp at hi; omega))⟩
            exact AllReady.nil
          exact AllReady.nil
        exact AllReady.nil
      exact AllReady.nil
    exact AllReady.nil
  refine AllReady.cons rfl (fun K hK => ?_) ?_
  · have cc := K0.cell (by simp) y0
    go_simp
    clear cc
    refine hK _ _ ?_
    clear hK K
    refine wpAny_ready (rs := [0, 5]) (by kernel_rfl) (by simp) ?_
    refine AllReady.cons rfl (fun K hK => ?_) ?_
    · refine step_none rfl 51 38 rfl (.agg zMs) 21 272 Try.underlying51 infoMs ?_
      intro u1 bN kN zN
      clear zN
      have K1 := K0.trans kN
      have R1 : RowG Rep.ms 38 u1 w4.heap.size G (.slice (some ⟨u0.heap.size, 0, none⟩) 0 0) [] := RowG.empty _ _ _ _ _ _ bN K0.size
      replace R1 := Lib.hid R1
      clear bN kN
      refine hK _ _ ?_
      clear hK K
      refine wpAny_ready (rs := [3, 5]) (by kernel_rfl) (by simp) ?_
      refine AllReady.cons rfl (fun K hK => ?_) ?_
      · refine step_appM rfl (.tmp 11) (.tmp 13) rfl w4.heap.size G (.slice (some ⟨u0.heap.size, 0, none⟩) 0 0) [] a A ca rfl rfl R1.out (SliceOf.reads (ha4.out.keep (K1.at G (by simp)))) hG4.out (by simp; omega) K1.size ?_
        simp only [List.length_nil, Nat.zero_add, List.nil_append]
        intro B1 p1 u2 rN kN
        have K2 : Keep [] w4 u2 := K1.new kN (fun i hi => .inr (R1.out.lt i (by simpa using hi)).1)
        have R2 := Lib.hid rN
        clear rN kN
        refine hK _ _ ?_
        clear hK K
        refine wpAny_ready (rs := [5]) (by kernel_rfl) (by simp) ?_
        refine AllReady.cons rfl (fun K hK => ?_) ?_
        · have cc := K2.cell (by simp) y1
          go_simp
          clear cc
          refine hK _ _ ?_
          clear hK K
          refine wpAny_ready (rs := [6]) (by kernel_rfl) (by simp) ?_
          refine AllReady.cons rfl (fun K hK => ?_) ?_
          · refine step_appM rfl (.tmp 14) (.tmp 16) rfl w4.heap.size G (.slice B1 a.length p1) a b B cb rfl rfl R2.out (SliceOf.reads (hb4.out.keep (K2.at G (by simp)))) hG4.out (by omega) K2.size ?_
            intro B2 p2 u3 rN kN
            have K3 : Keep [] w4 u3 := K2.new kN (fun i hi => .inr (R2.out.lt i (by simpa using hi)).1)
            have R3 := Lib.hid rN
            clear rN kN
            refine hK _ _ ?_
            clear hK K
            refine wpAny_ready (rs := [7]) (by kernel_rfl) (by simp) ?_
            refine AllReady.cons rfl (fun K hK => ?_) ?_
            · go_simp
              refine hK _ _ ?_
              clear hK K
              refine wpAny_done (by kernel_rfl) ?_ _
              have D1 := C1.keep K3 (by simp)
              have D2 := C2.keep K3 (by simp)
              have D4 := b4.keep K3 (by simp)
              have kk5 := kk4.trans K3
              clear y0 y1
              go_upto_region 3 with fail
              have hzn : a.length + b.length = 0 := by have := ha2.out; have := hb2.out; omega
              have hzi : (a.length : Int) + (b.length : Int) = 0 := by omega
              (try rw [hzi])
              (try rw [hzn])
              clear hzn hzi
              go_wp2_with (first | ((with_reducible refine wl_load 53 (.tmp 2) ?_ ?_); (with_reducible rfl); refine sx_loadW rfl 53 (.tmp 2) rfl w.heap.size #[.slice A a.length ca, .slice B b.length cb, .int .i64 d] _ _ 3 rfl D1 Try.underlying53 rfl zRq_size rfl ?_; (try simp only [Act.put, List.setIfInBounds_toArray, List.set_cons_zero, List.set_cons_succ])) | ((with_reducible refine wl_build 38 _ ?_ ?_); (with_reducible rfl); refine sx_build rfl 38 _ rfl zMs (by kernel_rfl) ?_; (try simp only [Act.put, List.setIfInBounds_toArray, List.set_cons_zero, List.set_cons_succ])) | ((with_reducible refine wl_store 53 (.tmp 4) (.tmp 22) ?_ ?_); (with_reducible rfl); refine sx_storeW rfl 53 (.tmp 4) (.tmp 22) rfl w1.heap.size #[.slice A a.length ca, .slice B b.length cb, .int .i64 d] zRq _ 3 rfl rfl D2 zRq_size rfl rfl rfl ?_; intro w8 b8 k8 z8; clear z8; have D5 := D4.keep k8 (by simp; omega); (try simp only [Act.put, List.setIfInBounds_toArray, List.set_cons_zero, List.set_cons_succ])) | ((with_reducible refine wl_store 38 (.tmp 5) (.tmp 23) ?_ ?_); (with_reducible rfl); refine sx_storeW rfl 38 (.tmp 5) (.tmp 23) rfl w2.heap.size zMs zMs _ 21 rfl rfl D5 zMs_size rfl rfl rfl ?_; intro w9 b9 k9 z9; clear z9; (try simp only [Act.put, List.setIfInBounds_toArray, List.set_cons_zero, List.set_cons_succ])))
              have b10 := b8.keep k9 (by simp; omega)
              refine ret_cell3 rfl rfl rfl b10 Try.underlying53 rfl zRq_size rfl b9 Try.underlying38 rfl zMs_size _ rfl ?_
              exact ⟨rfl, (kk5.new k8 (fun i hi => .inr (by simp at hi; have := l1; omega))).new k9 (fun i hi => .inr (by simp at hi; omega))⟩
            exact AllReady.nil
          exact AllReady.nil
        exact AllReady.nil
      refine AllReady.cons rfl (fun K hK => ?_) ?_
      · have cc := K1.cell (by simp) y1
        go_simp
        clear cc
        refine hK _ _ ?_
        clear hK K
        refine wpAny_ready (rs := [3]) (by kernel_rfl) (by simp) ?_
        refine AllReady.cons rfl (fun K hK => ?_) ?_
        · refine step_appM rfl (.tmp 11) (.tmp 13) rfl w4.heap.size G (.slice (some ⟨u0.heap.size, 0, none⟩) 0 0) [] a A ca rfl rfl R1.out (SliceOf.reads (ha4.out.keep (K1.at G (by simp)))) hG4.out (by simp; omega) K1.size ?_
          simp only [List.length_nil, Nat.zero_add, List.nil_append]
          intro B1 p1 u2 rN kN
          have K2 : Keep [] w4 u2 := K1.new kN (fun i hi => .inr (R1.out.lt i (by simpa using hi)).1)
          have R2 := Lib.hid rN
          clear rN kN
          refine hK _ _ ?_
          clear hK K
          refine wpAny_ready (rs := [6]) (by kernel_rfl) (by simp) ?_
          refine AllReady.cons rfl (fun K hK => ?_) ?_
          · refine step_appM rfl (.tmp 14) (.tmp 16) rfl w4.heap.size G (.slice B1 a.length p1) a b B cb rfl rfl R2.out (SliceOf.reads (hb4.out.keep (K2.at G (by simp)))) hG4.out (by omega) K2.size ?_
            intro B2 p2 u3 rN kN
            have K3 : Keep [] w4 u3 := K2.new kN (fun i hi => .inr (R2.out.lt i (by simpa using hi)).1)
            have R3 := Lib.hid rN
            clear rN kN
            refine hK _ _ ?_
            clear hK K
            refine wpAny_ready (rs := [7]) (by kernel_rfl) (by simp) ?_
            refine AllReady.cons rfl (fun K hK => ?_) ?_
            · go_simp
              refine hK _ _ ?_
              clear hK K
              refine wpAny_done (by kernel_rfl) ?_ _
              have D1 := C1.keep K3 (by simp)
              have D2 := C2.keep K3 (by simp)
              have D4 := b4.keep K3 (by simp)
              have kk5 := kk4.trans K3
              clear y0 y1
              go_upto_region 3 with fail
              have hzn : a.length + b.length = 0 := by have := ha2.out; have := hb2.out; omega
              have hzi : (a.length : Int) + (b.length : Int) = 0 := by omega
              (try rw [hzi])
              (try rw [hzn])
              clear hzn hzi
              go_wp2_with (first | ((with_reducible refine wl_load 53 (.tmp 2) ?_ ?_); (with_reducible rfl); refine sx_loadW rfl 53 (.tmp 2) rfl w.heap.size #[.slice A a.length ca, .slice B b.length cb, .int .i64 d] _ _ 3 rfl D1 Try.underlying53 rfl zRq_size rfl ?_; (try simp only [Act.put, List.setIfInBounds_toArray, List.set_cons_zero, List.set_cons_succ])) | ((with_reducible refine wl_build 38 _ ?_ ?_); (with_reducible rfl); refine sx_build rfl 38 _ rfl zMs (by kernel_rfl) ?_; (try simp only [Act.put, List.setIfInBounds_toArray, List.set_cons_zero, List.set_cons_succ])) | ((with_reducible refine wl_store 53 (.tmp 4) (.tmp 22) ?_ ?_); (with_reducible rfl); refine sx_storeW rfl 53 (.tmp 4) (.tmp 22) rfl w1.heap.size #[.slice A a.length ca, .slice B b.length cb, .int .i64 d] zRq _ 3 rfl rfl D2 zRq_size rfl rfl rfl ?_; intro w8 b8 k8 z8; clear z8; have D5 := D4.keep k8 (by simp; omega); (try simp only [Act.put, List.setIfInBounds_toArray, List.set_cons_zero, List.set_cons_succ])) | ((with_reducible refine wl_store 38 (.tmp 5) (.tmp 23) ?_ ?_); (with_reducible rfl); refine sx_storeW rfl 38 (.tmp 5) (.tmp 23) rfl w2.heap.size zMs zMs _ 21 rfl rfl D5 zMs_size rfl rfl rfl ?_; intro w9 b9 k9 z9; clear z9; (try simp only [Act.put, List.setIfInBounds_toArray, List.set_cons_zero, List.set_cons_succ])))
              have b10 := b8.keep k9 (by simp; omega)
              refine ret_cell3 rfl rfl rfl b10 Try.underlying53 rfl zRq_size rfl b9 Try.underlying38 rfl zMs_size _ rfl ?_
              exact ⟨rfl, (kk5.new k8 (fun i hi => .inr (by simp at hi; have := l1; omega))).new k9 (fun i hi => .inr (by simp at hi; omega))⟩
            exact AllReady.nil
          exact AllReady.nil
        exact AllReady.nil
      exact AllReady.nil
    refine AllReady.cons rfl (fun K hK => ?_) ?_
    · have cc := K0.cell (by simp) y1
      go_simp
      clear cc
      refine hK _ _ ?_
      clear hK K
      refine wpAny_ready (rs := [0]) (by kernel_rfl) (by simp) ?_
      refine AllReady.cons rfl (fun K hK => ?_) ?_
      · refine step_none rfl 51 38 rfl (.agg zMs) 21 272 Try.underlying51 infoMs ?_
        intro u1 bN kN zN
        clear zN
        have K1 := K0.trans kN
        have R1 : RowG Rep.ms 38 u1 w4.heap.size G (.slice (some ⟨u0.heap.size, 0, none⟩) 0 0) [] := RowG.empty _ _ _ _ _ _ bN K0.size
        replace R1 := Lib.hid R1
        clear bN kN
        refine hK _ _ ?_
        clear hK K
        refine wpAny_ready (rs := [3]) (by kernel_rfl) (by simp) ?_
        refine AllReady.cons rfl (fun K hK => ?_) ?_
        · refine step_appM rfl (.tmp 11) (.tmp 13) rfl w4.heap.size G (.slice (some ⟨u0.heap.size, 0, none⟩) 0 0) [] a A ca rfl rfl R1.out (SliceOf.reads (ha4.out.keep (K1.at G (by simp)))) hG4.out (by simp; omega) K1.size ?_
          simp only [List.length_nil, Nat.zero_add, List.nil_append]
          intro B1 p1 u2 rN kN
          have K2 : Keep [] w4 u2 := K1.new kN (fun i hi => .inr (R1.out.lt i (by simpa using hi)).1)
          have R2 := Lib.hid rN
          clear rN kN
          refine hK _ _ ?_
          clear hK K
          refine wpAny_ready (rs := [6]) (by kernel_rfl) (by simp) ?_
          refine AllReady.cons rfl (fun K hK => ?_) ?_
          · refine step_appM rfl (.tmp 14) (.tmp 16) rfl w4.heap.size G (.slice B1 a.length p1) a b B cb rfl rfl R2.out (SliceOf.reads (hb4.out.keep (K2.at G (by simp)))) hG4.out (by omega) K2.size ?_
            intro B2 p2 u3 rN kN
            have K3 : Keep [] w4 u3 := K2.new kN (fun i hi => .inr (R2.out.lt i (by simpa using hi)).1)
            have R3 := Lib.hid rN
            clear rN kN
            refine hK _ _ ?_
            clear hK K
            refine wpAny_ready (rs := [7]) (by kernel_rfl) (by simp) ?_
            refine AllReady.cons rfl (fun K hK => ?_) ?_
            · go_simp
              refine hK _ _ ?_
              clear hK K
              refine wpAny_done (by kernel_rfl) ?_ _
              have D1 := C1.keep K3 (by simp)
              have D2 := C2.keep K3 (by simp)
              have D4 := b4.keep K3 (by simp)
              have kk5 := kk4.trans K3
              clear y0 y1
              go_upto_region 3 with fail
              have hzn : a.length + b.length = 0 := by have := ha2.out; have := hb2.out; omega
              have hzi : (a.length : Int) + (b.length : Int) = 0 := by omega
              (try rw [hzi])
              (try rw [hzn])
              clear hzn hzi
              go_wp2_with (first | ((with_reducible refine wl_load 53 (.tmp 2) ?_ ?_); (with_reducible rfl); refine sx_loadW rfl 53 (.tmp 2) rfl w.heap.size #[.slice A a.length ca, .slice B b.length cb, .int .i64 d] _ _ 3 rfl D1 Try.underlying53 rfl zRq_size rfl ?_; (try simp only [Act.put, List.setIfInBounds_toArray, List.set_cons_zero, List.set_cons_succ])) | ((with_reducible refine wl_build 38 _ ?_ ?_); (with_reducible rfl); refine sx_build rfl 38 _ rfl zMs (by kernel_rfl) ?_; (try simp only [Act.put, List.setIfInBounds_toArray, List.set_cons_zero, List.set_cons_succ])) | ((with_reducible refine wl_store 53 (.tmp 4) (.tmp 22) ?_ ?_); (with_reducible rfl); refine sx_storeW rfl 53 (.tmp 4) (.tmp 22) rfl w1.heap.size #[.slice A a.length ca, .slice B b.length cb, .int .i64 d] zRq _ 3 rfl rfl D2 zRq_size rfl rfl rfl ?_; intro w8 b8 k8 z8; clear z8; have D5 := D4.keep k8 (by simp; omega); (try simp only [Act.put, List.setIfInBounds_toArray, List.set_cons_zero, List.set_cons_succ])) | ((with_reducible refine wl_store 38 (.tmp 5) (.tmp 23) ?_ ?_); (with_reducible rfl); refine sx_storeW rfl 38 (.tmp 5) (.tmp 23) rfl w2.heap.size zMs zMs _ 21 rfl rfl D5 zMs_size rfl rfl rfl ?_; intro w9 b9 k9 z9; clear z9; (try simp only [Act.put, List.setIfInBounds_toArray, List.set_cons_zero, List.set_cons_succ])))
              have b10 := b8.keep k9 (by simp; omega)
              refine ret_cell3 rfl rfl rfl b10 Try.underlying53 rfl zRq_size rfl b9 Try.underlying38 rfl zMs_size _ rfl ?_
              exact ⟨rfl, (kk5.new k8 (fun i hi => .inr (by simp at hi; have := l1; omega))).new k9 (fun i hi => .inr (by simp at hi; omega))⟩
            exact AllReady.nil
          exact AllReady.nil
        exact AllReady.nil
      exact AllReady.nil
    exact AllReady.nil
  refine AllReady.cons rfl (fun K hK => ?_) ?_
  · have cc := K0.cell (by simp) y1
    go_simp
    clear cc
    refine hK _ _ ?_
    clear hK K
    refine wpAny_ready (rs := [0, 2]) (by kernel_rfl) (by simp) ?_
    refine AllReady.cons rfl (fun K hK => ?_) ?_
    · refine step_none rfl 51 38 rfl (.agg zMs) 21 272 Try.underlying51 infoMs ?_
      intro u1 bN kN zN
      clear zN
      have K1 := K0.trans kN
      have R1 : RowG Rep.ms 38 u1 w4.heap.size G (.slice (some ⟨u0.heap.size, 0, none⟩) 0 0) [] := RowG.empty _ _ _ _ _ _ bN K0.size
      replace R1 := Lib.hid R1
      clear bN kN
      refine hK _ _ ?_
      clear hK K
      refine wpAny_ready (rs := [2]) (by kernel_rfl) (by simp) ?_
      refine AllReady.cons rfl (fun K hK => ?_) ?_
      · have cc := K1.cell (by simp) y0
        go_simp
        clear cc
        refine hK _ _ ?_
        clear hK K
        refine wpAny_ready (rs := [3]) (by kernel_rfl) (by simp) ?_
        refine AllReady.cons rfl (fun K hK => ?_) ?_
        · refine step_appM rfl (.tmp 11) (.tmp 13) rfl w4.heap.size G (.slice (some ⟨u0.heap.size, 0, none⟩) 0 0) [] a A ca rfl rfl R1.out (SliceOf.reads (ha4.out.keep (K1.at G (by simp)))) hG4.out (by simp; omega) K1.size ?_
          simp only [List.length_nil, Nat.zero_add, List.nil_append]
          intro B1 p1 u2 rN kN
          have K2 : Keep [] w4 u2 := K1.new kN (fun i hi => .inr (R1.out.lt i (by simpa using hi)).1)
          have R2 := Lib.hid rN
          clear rN kN
          refine hK _ _ ?_
          clear hK K
          refine wpAny_ready (rs := [6]) (by kernel_rfl) (by simp) ?_
          refine AllReady.cons rfl (fun K hK => ?_) ?_
          · refine step_appM rfl (.tmp 14) (.tmp 16) rfl w4.heap.size G (.slice B1 a.length p1) a b B cb rfl rfl R2.out (SliceOf.reads (hb4.out.keep (K2.at G (by simp)))) hG4.out (by omega) K2.size ?_
            intro B2 p2 u3 rN kN
            have K3 : Keep [] w4 u3 := K2.new kN (fun i hi => .inr (R2.out.lt i (by simpa using hi)).1)
            have R3 := Lib.hid rN
            clear rN kN
            refine hK _ _ ?_
            clear hK K
            refine wpAny_ready (rs := [7]) (by kernel_rfl) (by simp) ?_
            refine AllReady.cons rfl (fun K hK => ?_) ?_
            · go_simp
              refine hK _ _ ?_
              clear hK K
              refine wpAny_done (by kernel_rfl) ?_ _
              have D1 := C1.keep K3 (by simp)
              have D2 := C2.keep K3 (by simp)
              have D4 := b4.keep K3 (by simp)
              have kk5 := kk4.trans K3
              clear y0 y1
              go_upto_region 3 with fail
              have hzn : a.length + b.length = 0 := by have := ha2.out; have := hb2.out; omega
              have hzi : (a.length : Int) + (b.length : Int) = 0 := by omega
              (try rw [hzi])
              (try rw [hzn])
              clear hzn hzi
              go_wp2_with (first | ((with_reducible refine wl_load 53 (.tmp 2) ?_ ?_); (with_reducible rfl); refine sx_loadW rfl 53 (.tmp 2) rfl w.heap.size #[.slice A a.length ca, .slice B b.length cb, .int .i64 d] _ _ 3 rfl D1 Try.underlying53 rfl zRq_size rfl ?_; (try simp only [Act.put, List.setIfInBounds_toArray, List.set_cons_zero, List.set_cons_succ])) | ((with_reducible refine wl_build 38 _ ?_ ?_); (with_reducible rfl); refine sx_build rfl 38 _ rfl zMs (by kernel_rfl) ?_; (try simp only [Act.put, List.setIfInBounds_toArray, List.set_cons_zero, List.set_cons_succ])) | ((with_reducible refine wl_store 53 (.tmp 4) (.tmp 22) ?_ ?_); (with_reducible rfl); refine sx_storeW rfl 53 (.tmp 4) (.tmp 22) rfl w1.heap.size #[.slice A a.length ca, .slice B b.length cb, .int .i64 d] zRq _ 3 rfl rfl D2 zRq_size rfl rfl rfl ?_; intro w8 b8 k8 z8; clear z8; have D5 := D4.keep k8 (by simp; omega); (try simp only [Act.put, List.setIfInBounds_toArray, List.set_cons_zero, List.set_cons_succ])) | ((with_reducible refine wl_store 38 (.tmp 5) (.tmp 23) ?_ ?_); (with_reducible rfl); refine sx_storeW rfl 38 (.tmp 5) (.tmp 23) rfl w2.heap.size zMs zMs _ 21 rfl rfl D5 zMs_size rfl rfl rfl ?_; intro w9 b9 k9 z9; clear z9; (try simp only [Act.put, List.setIfInBounds_toArray, List.set_cons_zero, List.set_cons_succ])))
              have b10 := b8.keep k9 (by simp; omega)
              refine ret_cell3 rfl rfl rfl b10 Try.underlying53 rfl zRq_size rfl b9 Try.underlying38 rfl zMs_size _ rfl ?_
              exact ⟨rfl, (kk5.new k8 (fun i hi => .inr (by simp at hi; have := l1; omega))).new k9 (fun i hi => .inr (by simp at hi; omega))⟩
            exact AllReady.nil
          exact AllReady.nil
        exact AllReady.nil
      exact AllReady.nil
    refine AllReady.cons rfl (fun K hK => ?_) ?_
    · have cc := K0.cell (by simp) y0
      go_simp
      clear cc
      refine hK _ _ ?_
      clear hK K
      refine wpAny_ready (rs := [0]) (by kernel_rfl) (by simp) ?_
      refine AllReady.cons rfl (fun K hK => ?_) ?_
      · refine step_none rfl 51 38 rfl (.agg zMs) 21 272 Try.underlying51 infoMs ?_
        intro u1 bN kN zN
        clear zN
        have K1 := K0.trans kN
        have R1 : RowG Rep.ms 38 u1 w4.heap.size G (.slice (some ⟨u0.heap.size, 0, none⟩) 0 0) [] := RowG.empty _ _ _ _ _ _ bN K0.size
        replace R1 := Lib.hid R1
        clear bN kN
        refine hK _ _ ?_
        clear hK K
        refine wpAny_ready (rs := [3]) (by kernel_rfl) (by simp) ?_
        refine AllReady.cons rfl (fun K hK => ?_) ?_
        · refine step_appM rfl (.tmp 11) (.tmp 13) rfl w4.heap.size G (.slice (some ⟨u0.heap.size, 0, none⟩) 0 0) [] a A ca rfl rfl R1.out (SliceOf.reads (ha4.out.keep (K1.at G (by simp)))) hG4.out (by simp; omega) K1.size ?_
          simp only [List.length_nil, Nat.zero_add, List.nil_append]
          intro B1 p1 u2 rN kN
          have K2 : Keep [] w4 u2 := K1.new kN (fun i hi => .inr (R1.out.lt i (by simpa using hi)).1)
          have R2 := Lib.hid rN
          clear rN kN
          refine hK _ _ ?_
          clear hK K
          refine wpAny_ready (rs := [6]) (by kernel_rfl) (by simp) ?_
          refine AllReady.cons rfl (fun K hK => ?_) ?_
          · refine step_appM rfl (.tmp 14) (.tmp 16) rfl w4.heap.size G (.slice B1 a.length p1) a b B cb rfl rfl R2.out (SliceOf.reads (hb4.out.keep (K2.at G (by simp)))) hG4.out (by omega) K2.size ?_
            intro B2 p2 u3 rN kN
            have K3 : Keep [] w4 u3 := K2.new kN (fun i hi => .inr (R2.out.lt i (by simpa using hi)).1)
            have R3 := Lib.hid rN
            clear rN kN
            refine hK _ _ ?_
            clear hK K
            refine wpAny_ready (rs := [7]) (by kernel_rfl) (by simp) ?_
            refine AllReady.cons rfl (fun K hK => ?_) ?_
            · go_simp
              refine hK _ _ ?_
              clear hK K
              refine wpAny_done (by kernel_rfl) ?_ _
              have D1 := C1.keep K3 (by simp)
              have D2 := C2.keep K3 (by simp)
              have D4 := b4.keep K3 (by simp)
              have kk5 := kk4.trans K3
              clear y0 y1
              go_upto_region 3 with fail
              have hzn : a.length + b.length = 0 := by have := ha2.out; have := hb2.out; omega
              have hzi : (a.length : Int) + (b.length : Int) = 0 := by omega
              (try rw [hzi])
              (try rw [hzn])
              clear hzn hzi
              go_wp2_with (first | ((with_reducible refine wl_load 53 (.tmp 2) ?_ ?_); (with_reducible rfl); refine sx_loadW rfl 53 (.tmp 2) rfl w.heap.size #[.slice A a.length ca, .slice B b.length cb, .int .i64 d] _ _ 3 rfl D1 Try.underlying53 rfl zRq_size rfl ?_; (try simp only [Act.put, List.setIfInBounds_toArray, List.set_cons_zero, List.set_cons_succ])) | ((with_reducible refine wl_build 38 _ ?_ ?_); (with_reducible rfl); refine sx_build rfl 38 _ rfl zMs (by kernel_rfl) ?_; (try simp only [Act.put, List.setIfInBounds_toArray, List.set_cons_zero, List.set_cons_succ])) | ((with_reducible refine wl_store 53 (.tmp 4) (.tmp 22) ?_ ?_); (with_reducible rfl); refine sx_storeW rfl 53 (.tmp 4) (.tmp 22) rfl w1.heap.size #[.slice A a.length ca, .slice B b.length cb, .int .i64 d] zRq _ 3 rfl rfl D2 zRq_size rfl rfl rfl ?_; intro w8 b8 k8 z8; clear z8; have D5 := D4.keep k8 (by simp; omega); (try simp only [Act.put, List.setIfInBounds_toArray, List.set_cons_zero, List.set_cons_succ])) | ((with_reducible refine wl_store 38 (.tmp 5) (.tmp 23) ?_ ?_); (with_reducible rfl); refine sx_storeW rfl 38 (.tmp 5) (.tmp 23) rfl w2.heap.size zMs zMs _ 21 rfl rfl D5 zMs_size rfl rfl rfl ?_; intro w9 b9 k9 z9; clear z9; (try simp only [Act.put, List.setIfInBounds_toArray, List.set_cons_zero, List.set_cons_succ])))
              have b10 := b8.keep k9 (by simp; omega)
              refine ret_cell3 rfl rfl rfl b10 Try.underlying53 rfl zRq_size rfl b9 Try.underlying38 rfl zMs_size _ rfl ?_
              exact ⟨rfl, (kk5.new k8 (fun i hi => .inr (by simp at hi; have := l1; omega))).new k9 (fun i hi => .inr (by simp at hi; omega))⟩
            exact AllReady.nil
          exact AllReady.nil
        exact AllReady.nil
      exact AllReady.nil
    exact AllReady.nil
  exact AllReady.nil
end Go.Proofs.Ytpndbidpennlcaa
namespace Go.Proofs.Ytpndbidpennlcaa
open Go.RowKit
set_option linter.unusedVariables false
set_option linter.unusedSimpArgs false
/-! the reference's Pop of some: what the loop gathers; steps -/
def sel (p la : Nat) (all : List Ms) : Nat → List Ms × List Ms
  | 0 => ([], [])
  | k + 1 => if k = p then sel p la all k else match all[k]? with
    | none => sel p la all k
    | some x => if k < la then ((sel p la all k).1 ++ [x], (sel p la all k).2) else ((sel p la all k).1, (sel p la all k).2 ++ [x])
theorem sel_skip (p la : Nat) (all : List Ms) (k : Nat) (h : k = p) : sel p la all (k + 1) = sel p la all k := by
  rw [sel, if_pos h]
theorem sel_one (p la : Nat) (all : List Ms) (k : Nat) (h : k ≠ p) (hk : k < all.length) (hl : k < la) : sel p la all (k + 1) = ((sel p la all k).1 ++ [all[k]], (sel p la all k).2) := by
  rw [sel, if_neg h, List.getElem?_eq_getElem hk]
  simp [hl]
theorem sel_two (p la : Nat) (all : List Ms) (k : Nat) (h : k ≠ p) (hk : k < all.length) (hl : ¬ k < la) : sel p la all (k + 1) = ((sel p la all k).1, (sel p la all k).2 ++ [all[k]]) := by
  rw [sel, if_neg h, List.getElem?_eq_getElem hk]
  simp [hl]
theorem sel_len (p la : Nat) (all : List Ms) : ∀ k, (sel p la all k).1.length ≤ k ∧ (sel p la all k).2.length ≤ k
  | 0 => by simp [sel]
  | k + 1 => by
    have ih := sel_len p la all k
    rw [sel]
    split
    · omega
    · split
      · omega
      · split
        · simp; omega
        · simp; omega
theorem take_snoc {α : Type} (l : List α) (k : Nat) (h : k < l.length) : l.take (k + 1) = l.take k ++ [l[k]] := by simp
theorem erase_snoc {α : Type} (l : List α) (x : α) (p : Nat) : (l ++ [x]).eraseIdx p = if p = l.length then l else l.eraseIdx p ++ [x] := by
  by_cases h : p < l.length
  · rw [List.eraseIdx_append_of_lt_length h, if_neg (by omega)]
  · by_cases e : p = l.length
    · rw [if_pos e, List.eraseIdx_append_of_length_le (by omega), e]
      simp
    · rw [if_neg e, List.eraseIdx_of_length_le (by simp; omega), List.eraseIdx_of_length_le (by omega)]
theorem sel_lo (p : Nat) (a b : List Ms) : ∀ k, k ≤ a.length → sel p a.length (a ++ b) k = ((a.take k).eraseIdx p, [])
  | 0, _ => by simp [sel]
  | k + 1, h => by
    have ih := sel_lo p a b k (by omega)
    have hk : k < (a ++ b).length := by simp; omega
    have e : (a ++ b)[k] = a[k]'(by omega) := by rw [List.getElem_append_left]
    by_cases hp : k = p
    · rw [sel_skip _ _ _ _ hp, ih, take_snoc a k (by omega), erase_snoc, if_pos (by simp; omega), List.eraseIdx_of_length_le (by simp; omega)]
    · rw [sel_one _ _ _ _ hp hk (by omega), ih, e, take_snoc a k (by omega), erase_snoc, if_neg (by simp; omega)]
theorem sel_hi (p : Nat) (a b : List Ms) : ∀ j, j ≤ b.length → sel p a.length (a ++ b) (a.length + j) = (a.eraseIdx p, if p < a.length then b.take j else (b.take j).eraseIdx (p - a.length))
  | 0, _ => by rw [Nat.add_zero, sel_lo p a b a.length (Nat.le_refl _)]; simp
  | j + 1, h => by
    have ih := sel_hi p a b j (by omega)
    have hk : a.length + j < (a ++ b).length := by simp; omega
    have e : (a ++ b)[a.length + j] = b[j]'(by omega) := by rw [List.getElem_append_right (by omega)]; simp
    rw [← Nat.add_assoc]
    by_cases hp : a.length + j = p
    · have hl : (b.take j).length = p - a.length := by rw [List.length_take]; omega
      have e1 : (b.take j).eraseIdx (p - a.length) = b.take j := List.eraseIdx_of_length_le (by omega)
      rw [sel_skip _ _ _ _ hp, ih, if_neg (by omega), if_neg (by omega), take_snoc b j (by omega), erase_snoc, if_pos hl.symm, e1]
    · rw [sel_two _ _ _ _ hp hk (by omega), ih, e]
      by_cases hq : p < a.length
      · rw [if_pos hq, if_pos hq, take_snoc b j (by omega)]
      · rw [if_neg hq, if_neg hq, take_snoc b j (by omega), erase_snoc, if_neg (by simp; omega)]
theorem sel_end (p : Nat) (a b : List Ms) (n : Nat) (hn : a.length + b.length = n) : sel p a.length (a ++ b) n = popR p a b := by
  rw [← hn, sel_hi p a b b.length (Nat.le_refl _)]
  unfold popR
  by_cases h : p < a.length
  · simp [h]
  · rw [if_neg h, if_neg h, List.eraseIdx_of_length_le (by omega)]
    simp
theorem RowG.ms_at {t : TypeId} {w : World} {lo : Nat} {G : Nat → Prop} {A : Option Addr} {n c : Nat} {xs : List Ms} (h : RowG Rep.ms t w lo G (.slice A n c) xs) {i : Nat} (hi : i < xs.length) :
    ∃ g v1 v2 v3 v4, A = some ⟨g, 0, none⟩ ∧ (∀ j v, (msgV xs[i] v1 v2 v3 v4)[j]? = some v → w.cell? ⟨g, i * 21 + j, none⟩ = some v) ∧ MsOk w G xs[i] v1 v2 v3 v4 := by
  obtain ⟨css, h1, h2, h3⟩ := h
  have hlen : ∀ cs ∈ css, cs.length = 21 := by
    intro cs hcs
    obtain ⟨i, hi, rfl⟩ := List.getElem_of_mem hcs
    exact Rep.ms.len (h3 i xs[i] _ (List.getElem?_eq_getElem (by omega)) (List.getElem?_eq_getElem hi))
  have hcells := fun g hg => h1.cells (g := g) hg
  have hic : i < css.length := by omega
  obtain ⟨v1, v2, v3, v4, e, hm⟩ := h3 i _ _ (List.getElem?_eq_getElem hi) (List.getElem?_eq_getElem hic)
  rcases h1.2 with ⟨e0, h0⟩ | ⟨g, cap, cur, e0, hbg, hg, _⟩
  · omega
  · cases e0
    refine ⟨g, v1, v2, v3, v4, rfl, fun j v hj => ?_, hm⟩
    have hjl : j < 21 := by have := (Array.getElem?_eq_some_iff.1 hj).1; simpa [msgV] using this
    have hj2 : css[i][j]? = some v := by rw [e]; simpa using hj
    have := hcells g rfl (i * 21 + j) v (by rw [flatten_at 21 css hlen i j css[i] (List.getElem?_eq_getElem hic) hjl]; exact hj2)
    have hadd : (⟨g, 0, none⟩ : Addr).add (i * 21 + j) = ⟨g, 0 + (i * 21 + j), none⟩ := by unfold Addr.add; split <;> simp_all
    rw [← Nat.zero_add (i * 21 + j), ← hadd]
    exact this
section
variable {o : Oper} {act : Act} {K : Act → World → Prop} {Q : Exit → Act → World → Prop} {ops : Array Oper} {E : Prop} {W : World}
/-- as step_appM, and where the row lies then. -/
theorem step_appM2 (hgd : o.guard = none) (s x : Operand) (ho : o.op = .call { callee := .builtin .append, args := #[s, x], argTypes := #[51, 51] }) (lo : Nat) (G : Nat → Prop) (v : Value) (xs ys : List Ms) (A : Option Addr) (c : Nat) (hs : act.eval s = v) (hx : act.eval x = .slice A ys.length c)
    (hown : RowG Rep.ms 38 W lo G v xs) (hy : ReadsG Rep.ms W G A ys) (hG : ∀ k, G k → k < lo) (hl : (xs.length + ys.length) * 272 ≤ 140737488355328) (hbase : lo ≤ W.heap.size)
    (h : ∀ B cap w', RowG Rep.ms 38 w' lo G (.slice B (xs.length + ys.length) cap) (xs ++ ys) → Keep v.ownBlock.toList W w' → ((Value.slice B (xs.length + ys.length) cap).ownBlock = v.ownBlock ∨ (Value.slice B (xs.length + ys.length) cap).ownBlock = some W.heap.size) → K (act.put o.dst (.slice B (xs.length + ys.length) cap)) w') :
    if Region.wanted o (yielded ops act.tmps) = true then Oper.wp Try.prog o act W K Q else E := by
  have hw : Region.wanted o (yielded ops act.tmps) = true := by simp [Region.wanted, hgd]
  rw [if_pos hw]
  have hA0 : A = none → ys = [] := by
    intro e
    cases ys with
    | nil => rfl
    | cons y l => obtain ⟨g, o, e1, _⟩ := hy (by simp); rw [e] at e1; exact absurd e1 (by simp)
  obtain ⟨v', w', r1, r2, r3, r4⟩ := run_appG Rep.ms 51 o.type 38 (.agg zMs) 272 lo G Try.underlying51 infoMs rfl (by decide) (by decide) (fun w x cs h => msg_one h) W v xs ys A c hown hy hG hl hbase hA0
  obtain ⟨B, cap, rfl⟩ := r2.form
  rw [List.length_append] at *
  unfold Oper.wp execOp
  simp only [ho, resolve, invoke, builtin, Sem.run_bind, Sem.run_pure, Result.andThen_ok, List.map_toArray, List.map_cons, List.map_nil, hs, hx, r1]
  exact h B cap w' r2 ((Keep.refl _ W).grown r3 (fun i hi => .inl (by rw [hi]; simp))) r4
theorem step_storeM (hgd : o.guard = none) (ty : TypeId) (x y : Operand) (ho : o.op = .store ty x y) (g : Nat) (C cur : Array Value) (t : Nat) (n : Nat) (hx : act.eval x = .pointer (some ⟨g, 0, none⟩)) (hy : act.eval y = .agg C)
    (hb : Blk W g cur t) (hi : (Try.prog.info? ty).map (·.size) = some n) (hn : C.size = n) (hc : cur.size = n) (h1 : C.toList.all (fun x => x.oneCell') = true)
    (h : ∀ w', Blk w' g C t → Keep [g] W w' → w'.heap.size = W.heap.size → K (act.put o.dst undef) w') :
    if Region.wanted o (yielded ops act.tmps) = true then Oper.wp Try.prog o act W K Q else E := by
  have hw : Region.wanted o (yielded ops act.tmps) = true := by simp [Region.wanted, hgd]
  rw [if_pos hw]
  have hC : spl cur 0 C = C := by
    have e : cur.toList.drop C.size = [] := List.drop_eq_nil_of_le (by simp [hn, hc])
    simp [spl, e]
  unfold Oper.wp execOp
  simp only [ho, hx, hy, Sem.run_bind, Sem.run_pure, run_storePart W g 0 ty cur C (.agg C) rfl t hb (by omega) (by rw [hi, hn]) h1, Result.andThen_ok]
  refine h _ ?_ (Keep.row _ _ _) (setRow_size _ _ _)
  rw [hC]
  exact hb.row _
end
/-- A step behind a name that no elaboration looks into. -/
structure Stp (P : Program) (o : Oper) (ops : Array Oper) (a : Act) (w : World) (K : Act → World → Prop) (Q : Exit → Act → World → Prop) (E : Prop) : Prop where
  out : if Region.wanted o (yielded ops a.tmps) = true then Oper.wp P o a w K Q else E
theorem AllReady.consS {P : Program} {md : Region.Mode} {ops : Array Oper} {Q : Exit → Act → World → Prop} {fuel : Nat} {listed : Array Bool} {a : Act} {w : World} {i : Nat} {o : Oper} {rs : List Nat} (ho : ops[i]? = some o)
    (h : ∀ K' : Act → World → Prop, (∀ a w, wpAny P md ops Q fuel (listed.setIfInBounds i true) a w → K' a w) → Stp P o ops a w K' Q (K' (a.put o.dst undef) w))
    (hs : AllReady P md ops Q fuel listed a w rs) : AllReady P md ops Q fuel listed a w (i :: rs) := AllReady.cons ho (fun K' hK => (h K' hK).out) hs
section
variable {o : Oper} {act : Act} {K : Act → World → Prop} {Q : Exit → Act → World → Prop} {ops : Array Oper} {E : Prop} {W : World}
theorem step_loadMS (hgd : o.guard = none) (ty : TypeId) (x : Operand) (ho : o.op = .load ty x) (g off : Nat) (C : Array Value) (d : TypeDesc) (n : Nat) (hx : act.eval x = .pointer (some ⟨g, off, none⟩))
    (hr : ∀ j v, C[j]? = some v → W.cell? ⟨g, off + j, none⟩ = some v) (hu : Try.prog.underlying ty = some d) (hd : d.isRow = true) (hi : (Try.prog.info? ty).map (·.size) = some n) (hn : C.size = n) (h : K (act.put o.dst (.agg C)) W) :
    Stp Try.prog o ops act W K Q E := ⟨step_loadM hgd ty x ho g off C d n hx hr hu hd hi hn h⟩
theorem step_noneS (hgd : o.guard = none) (t e : TypeId) (ho : o.op = .buildSlice t 0 #[]) (z : Value) (n m : Nat) (hu : Try.prog.underlying t = some (.slice e)) (hi : (Try.prog.info? e).map (fun i => (i.zero, i.size, i.bytes)) = some (some z, n, m))
    (h : ∀ w', Blk w' W.heap.size #[] e → Keep [] W w' → w'.heap.size = W.heap.size + 1 → K (act.put o.dst (.slice (some ⟨W.heap.size, 0, none⟩) 0 0)) w') :
    Stp Try.prog o ops act W K Q E := ⟨step_none hgd t e ho z n m hu hi h⟩
theorem step_oneMS (hgd : o.guard = none) (x : Operand) (ho : o.op = .buildSlice 51 1 #[(0, x)]) (C : Array Value) (hx : act.eval x = .agg C) (hC : C.size = 21)
    (h : ∀ w', Blk w' W.heap.size C 38 → Keep [] W w' → w'.heap.size = W.heap.size + 1 → K (act.put o.dst (.slice (some ⟨W.heap.size, 0, none⟩) 1 1)) w') :
    Stp Try.prog o ops act W K Q E := ⟨step_oneM hgd x ho C hx hC h⟩
theorem step_appMS (hgd : o.guard = none) (s x : Operand) (ho : o.op = .call { callee := .builtin .append, args := #[s, x], argTypes := #[51, 51] }) (lo : Nat) (G : Nat → Prop) (v : Value) (xs ys : List Ms) (A : Option Addr) (c : Nat) (hs : act.eval s = v) (hx : act.eval x = .slice A ys.length c)
    (hown : RowG Rep.ms 38 W lo G v xs) (hy : ReadsG Rep.ms W G A ys) (hG : ∀ k, G k → k < lo) (hl : (xs.length + ys.length) * 272 ≤ 140737488355328) (hbase : lo ≤ W.heap.size)
    (h : ∀ B cap w', RowG Rep.ms 38 w' lo G (.slice B (xs.length + ys.length) cap) (xs ++ ys) → Keep v.ownBlock.toList W w' → K (act.put o.dst (.slice B (xs.length + ys.length) cap)) w') :
    Stp Try.prog o ops act W K Q E := ⟨step_appM hgd s x ho lo G v xs ys A c hs hx hown hy hG hl hbase h⟩
theorem step_appM2S (hgd : o.guard = none) (s x : Operand) (ho : o.op = .call { callee := .builtin .append, args := #[s, x], argTypes := #[51, 51] }) (lo : Nat) (G : Nat → Prop) (v : Value) (xs ys : List Ms) (A : Option Addr) (c : Nat) (hs : act.eval s = v) (hx : act.eval x = .slice A ys.length c)
    (hown : RowG Rep.ms 38 W lo G v xs) (hy : ReadsG Rep.ms W G A ys) (hG : ∀ k, G k → k < lo) (hl : (xs.length + ys.length) * 272 ≤ 140737488355328) (hbase : lo ≤ W.heap.size)
    (h : ∀ B cap w', RowG Rep.ms 38 w' lo G (.slice B (xs.length + ys.length) cap) (xs ++ ys) → Keep v.ownBlock.toList W w' → ((Value.slice B (xs.length + ys.length) cap).ownBlock = v.ownBlock ∨ (Value.slice B (xs.length + ys.length) cap).ownBlock = some W.heap.size) → K (act.put o.dst (.slice B (xs.length + ys.length) cap)) w') :
    Stp Try.prog o ops act W K Q E := ⟨step_appM2 hgd s x ho lo G v xs ys A c hs hx hown hy hG hl hbase h⟩
theorem step_storeMS (hgd : o.guard = none) (ty : TypeId) (x y : Operand) (ho : o.op = .store ty x y) (g : Nat) (C cur : Array Value) (t : Nat) (n : Nat) (hx : act.eval x = .pointer (some ⟨g, 0, none⟩)) (hy : act.eval y = .agg C)
    (hb : Blk W g cur t) (hi : (Try.prog.info? ty).map (·.size) = some n) (hn : C.size = n) (hc : cur.size = n) (h1 : C.toList.all (fun x => x.oneCell') = true)
    (h : ∀ w', Blk w' g C t → Keep [g] W w' → w'.heap.size = W.heap.size → K (act.put o.dst undef) w') :
    Stp Try.prog o ops act W K Q E := ⟨step_storeM hgd ty x y ho g C cur t n hx hy hb hi hn hc h1 h⟩
end
/-- x of the loop: a block with both lists. -/
def XAt (w : World) (X : Nat) (G : Nat → Prop) (s t : List Ms) (d : Int) : Prop :=
  ∃ A B c e, Blk w X #[.slice A s.length c, .slice B t.length e, .int .i64 d] 53 ∧ RowG Rep.ms 38 w (X + 1) G (.slice A s.length c) s ∧ RowG Rep.ms 38 w (X + 1) G (.slice B t.length e) t ∧
    (∀ k, (Value.slice A s.length c).ownBlock = some k → (Value.slice B t.length e).ownBlock ≠ some k)
theorem XAt.begin {w : World} {X : Nat} {G : Nat → Prop} {d : Int} (h : Blk w X #[.slice none 0 0, .slice none 0 0, .int .i64 d] 53) : XAt w X G [] [] d :=
  ⟨none, none, 0, 0, h, RowG.nil _ _ _ _ _, RowG.nil _ _ _ _ _, by simp [Value.ownBlock]⟩
theorem XAt.first {w w1 : World} {X : Nat} {G : Nat → Prop} {s t : List Ms} {x : Ms} {d : Int} {A B C : Option Addr} {c e c' : Nat} (hX : X < w.heap.size) (hG : ∀ k, G k → k < X)
    (hb : Blk w X #[.slice A s.length c, .slice B t.length e, .int .i64 d] 53) (h1 : RowG Rep.ms 38 w (X + 1) G (.slice A s.length c) s) (h2 : RowG Rep.ms 38 w (X + 1) G (.slice B t.length e) t) (h3 : ∀ k, (Value.slice A s.length c).ownBlock = some k → (Value.slice B t.length e).ownBlock ≠ some k)
    (r : RowG Rep.ms 38 w1 (X + 1) G (.slice C (s.length + 1) c') (s ++ [x])) (k : Keep (Value.slice A s.length c).ownBlock.toList w w1) (ho : (Value.slice C (s.length + 1) c').ownBlock = (Value.slice A s.length c).ownBlock ∨ ∃ z, w.heap.size ≤ z ∧ (Value.slice C (s.length + 1) c').ownBlock = some z) :
    XAt (w1.setCell ⟨X, 0, none⟩ (.slice C (s.length + 1) c')) X G (s ++ [x]) t d := by
  have hne : X ∉ (Value.slice A s.length c).ownBlock.toList := fun hm => by have := (h1.lt X (by simpa using hm)).1; omega
  have b1 := (hb.keep k hne).set 0 (.slice C (s.length + 1) c')
  have sk : Keep [X] w1 (w1.setCell ⟨X, 0, none⟩ (.slice C (s.length + 1) c')) := (Keep.refl _ w1).setCell _ _ (.inl (by simp))
  have h2' : RowG Rep.ms 38 w1 (X + 1) G (.slice B t.length e) t := h2.keep (fun i hi hl => k.block i hl (fun hm => by
    have hm' : (Value.slice A s.length c).ownBlock = some i := by simpa using hm
    rcases hi with hi | hi
    · exact h3 i hm' hi
    · have := (h1.lt i hm').1; have := hG i hi; omega))
  have mv : ∀ {v : Value} {l : List Ms}, RowG Rep.ms 38 w1 (X + 1) G v l → RowG Rep.ms 38 (w1.setCell ⟨X, 0, none⟩ (.slice C (s.length + 1) c')) (X + 1) G v l := fun {v l} h => h.keep (fun i hi hl => sk.block i hl (fun hm => by
    obtain rfl : i = X := by simpa using hm
    rcases hi with hi | hi
    · have := (h.lt i hi).1; omega
    · have := hG i hi; omega))
  refine ⟨C, B, c', e, by simpa using b1, by simpa using mv r, mv h2', fun i hi hj => ?_⟩
  have hi' : (Value.slice C (s.length + 1) c').ownBlock = some i := by simpa using hi
  rcases ho with ho | ⟨z, hz, ho⟩
  · exact h3 i (ho ▸ hi') hj
  · have : i = z := by rw [ho] at hi'; simpa using hi'.symm
    have := (h2.lt i hj).2
    omega
theorem XAt.second {w w1 : World} {X : Nat} {G : Nat → Prop} {s t : List Ms} {x : Ms} {d : Int} {A B C : Option Addr} {c e c' : Nat} (hX : X < w.heap.size) (hG : ∀ k, G k → k < X)
    (hb : Blk w X #[.slice A s.length c, .slice B t.length e, .int .i64 d] 53) (h1 : RowG Rep.ms 38 w (X + 1) G (.slice A s.length c) s) (h2 : RowG Rep.ms 38 w (X + 1) G (.slice B t.length e) t) (h3 : ∀ k, (Value.slice A s.length c).ownBlock = some k → (Value.slice B t.length e).ownBlock ≠ some k)
    (r : RowG Rep.ms 38 w1 (X + 1) G (.slice C (t.length + 1) c') (t ++ [x])) (k : Keep (Value.slice B t.length e).ownBlock.toList w w1) (ho : (Value.slice C (t.length + 1) c').ownBlock = (Value.slice B t.length e).ownBlock ∨ ∃ z, w.heap.size ≤ z ∧ (Value.slice C (t.length + 1) c').ownBlock = some z) :
    XAt (w1.setCell ⟨X, 1, none⟩ (.slice C (t.length + 1) c')) X G s (t ++ [x]) d := by
  have hne : X ∉ (Value.slice B t.length e).ownBlock.toList := fun hm => by have := (h2.lt X (by simpa using hm)).1; omega
  have b1 := (hb.keep k hne).set 1 (.slice C (t.length + 1) c')
  have sk : Keep [X] w1 (w1.setCell ⟨X, 1, none⟩ (.slice C (t.length + 1) c')) := (Keep.refl _ w1).setCell _ _ (.inl (by simp))
  have h1' : RowG Rep.ms 38 w1 (X + 1) G (.slice A s.length c) s := h1.keep (fun i hi hl => k.block i hl (fun hm => by
    have hm' : (Value.slice B t.length e).ownBlock = some i := by simpa using hm
    rcases hi with hi | hi
    · exact h3 i hi hm'
    · have := (h2.lt i hm').1; have := hG i hi; omega))
  have mv : ∀ {v : Value} {l : List Ms}, RowG Rep.ms 38 w1 (X + 1) G v l → RowG Rep.ms 38 (w1.setCell ⟨X, 1, none⟩ (.slice C (t.length + 1) c')) (X + 1) G v l := fun {v l} h => h.keep (fun i hi hl => sk.block i hl (fun hm => by
    obtain rfl : i = X := by simpa using hm
    rcases hi with hi | hi
    · have := (h.lt i hi).1; omega
    · have := hG i hi; omega))
  refine ⟨A, C, c, c', by simpa using b1, mv h1', by simpa using mv r, fun i hi hj => ?_⟩
  have hj' : (Value.slice C (t.length + 1) c').ownBlock = some i := by simpa using hj
  rcases ho with ho | ⟨z, hz, ho⟩
  · exact h3 i hi (ho ▸ hj')
  · have : i = z := by rw [ho] at hj'; simpa using hj'.symm
    have := (h1.lt i hi).2
    omega
end Go.Proofs.Ytpndbidpennlcaa
