import Derived.Test.YtaiemagmkfjklaaPool6
import Derived.Deep.RegionLaw
namespace Go.Proofs.Ytaiemagmkfjklaa
open Go.RowKit Go.Shelf
set_option linter.unusedVariables false
set_option linter.unusedSimpArgs false
/-! pools: Done, Add -/
theorem Blk.one {w : World} {g : Nat} {a : Value} {t : Nat} (h : Blk w g #[a] t) : w.cell? ⟨g, 0, none⟩ = some a := h.cell 0
theorem Blk.two {w : World} {g : Nat} {a b : Value} {t : Nat} (h : Blk w g #[a, b] t) : w.cell? ⟨g, 0, none⟩ = some a ∧ w.cell? ⟨g, 1, none⟩ = some b := ⟨h.cell 0, h.cell 1⟩
theorem Blk.three {w : World} {g : Nat} {a b c : Value} {t : Nat} (h : Blk w g #[a, b, c] t) : w.cell? ⟨g, 0, none⟩ = some a ∧ w.cell? ⟨g, 1, none⟩ = some b ∧ w.cell? ⟨g, 2, none⟩ = some c := ⟨h.cell 0, h.cell 1, h.cell 2⟩
set_option maxHeartbeats 1000000 in
theorem donePred (w : World) (S : List Nat) (vb p mb n : Nat) (V : Value) (dn : List Req) (hv : Blk w vb #[.pointer (some ⟨p, 0, none⟩)] 27) (hb : Blk w p #[V, .map (some mb)] 52) (hm : MapAt w mb n dn)
    (h1 : vb ∉ S) (h2 : p ∉ S) (h3 : mb ∉ S) : PredOn w S 23 #[.pointer (some ⟨vb, 0, none⟩)] (fun r => hasR dn r.c r.s) := by
  intro w1 x k1 hx
  obtain ⟨xc, xs, xb⟩ := x
  obtain ⟨x1, x2, -⟩ := hx
  dsimp only at x1 x2
  have ka : Keep [] w1 (w1.alloc (.cells #[.int .i64 xc, .int .i64 xs, .string xb] 24)) := (Keep.refl _ _).alloc _
  have hv1 := ((hv.keep k1 h1).keep ka (by simp)).one
  have hb1 := ((hb.keep k1 h2).keep ka (by simp)).two
  have hm1 := (hm.keep k1 h3).keep ka (by simp)
  have bn := Blk.three (Blk.new w1 #[.int .i64 xc, .int .i64 xs, .string xb] 24)
  show Calls Try.prog _ #[.agg #[.int .i64 xc, .int .i64 xs, .string xb], .pointer (some ⟨vb, 0, none⟩)] w1 _
  dsimp only
  clear hv hb hm
  have hlk : ∃ z : Int, (if hasR dn xc xs then 1 else 0) = z ∧ decide (0 < z) = hasR dn xc xs := by cases hasR dn xc xs <;> simp
  obtain ⟨z, hz, hz2⟩ := hlk
  rw [← hz2]
  have hz := Lib.hid hz
  clear hz2
  go_enter Try.func23, Try.ntmps23
  go_wp2_with fail
  refine wp_region_class (C := fun w' => Keep [] w1 w' ∧ MapAt w' mb n dn ∧ w'.cell? ⟨w1.heap.size, 0, none⟩ = some (.int .i64 xc) ∧ w'.cell? ⟨w1.heap.size, 1, none⟩ = some (.int .i64 xs) ∧ w'.cell? ⟨w1.heap.size, 2, none⟩ = some (.string xb) ∧ w'.cell? ⟨vb, 0, none⟩ = some (.pointer (some ⟨p, 0, none⟩)) ∧ w'.cell? ⟨p, 0, none⟩ = some V ∧ w'.cell? ⟨p, 1, none⟩ = some (.map (some mb))) (by kernel_rfl) (by kernel_rfl) ⟨ka.drew, hm1, bn.1, bn.2.1, bn.2.2, hv1, hb1.1, hb1.2⟩ ?_
  iterate 6 (first
    | go_big_quiet_skip
    | (go_big_quiet_want; first
      | (go_big_quiet_op; go_big_quiet_on)
      | (refine quiet_run (v := ?_) ?_ ?_; (rotate_left; (intro w' hC; (try dsimp only at hC); go_split_ands; go_simp; with_reducible rfl); simp only [Act.put, List.setIfInBounds_toArray, List.set_cons_zero, List.set_cons_succ]; go_big_quiet_on))
      | (refine quiet_call (v := ?_) (f := ?_) (args := ?_) ?_ ?_ ?_; (rotate_left; rotate_left; rotate_left; (intro w' hC; (try dsimp only at hC); go_split_ands; go_simp; (refine ⟨?_, ?_⟩ <;> with_reducible rfl)); (intro w' hC; first | (go_at_call 21; refine (keyOf_call ⟨xc, xs, xb⟩ _).mono ?_; rintro e w8 ⟨rfl, kq⟩; refine ⟨?_, Keep.trans hC.1 kq, hC.2.1.keep kq (by simp), kq.cell (by simp) hC.2.2.1, kq.cell (by simp) hC.2.2.2.1, kq.cell (by simp) hC.2.2.2.2.1, kq.cell (by simp) hC.2.2.2.2.2.1, kq.cell (by simp) hC.2.2.2.2.2.2.1, kq.cell (by simp) hC.2.2.2.2.2.2.2⟩; with_reducible rfl)); simp only [Act.put, List.setIfInBounds_toArray, List.set_cons_zero, List.set_cons_succ]; go_big_quiet_on))))
  go_big_quiet_want
  refine quiet_run (v := .int .i64 z) ?_ ?_
  · intro w' hC
    have hlook := hC.2.1.look x1 x2
    rw [hz.out] at hlook
    simp [execOp, Act.eval, Act.put, hlook]
  simp only [Act.put, List.setIfInBounds_toArray, List.set_cons_zero, List.set_cons_succ]
  go_big_quiet_on
  iterate 2 (first
    | go_big_quiet_skip
    | (go_big_quiet_want; first
      | (go_big_quiet_op; go_big_quiet_on)
      | (refine quiet_run (v := ?_) ?_ ?_; (rotate_left; (intro w' hC; (try dsimp only at hC); go_split_ands; go_simp; with_reducible rfl); simp only [Act.put, List.setIfInBounds_toArray, List.set_cons_zero, List.set_cons_succ]; go_big_quiet_on))
      | (refine quiet_call (v := ?_) (f := ?_) (args := ?_) ?_ ?_ ?_; (rotate_left; rotate_left; rotate_left; (intro w' hC; (try dsimp only at hC); go_split_ands; go_simp; (refine ⟨?_, ?_⟩ <;> with_reducible rfl)); (intro w' hC; fail); simp only [Act.put, List.setIfInBounds_toArray, List.set_cons_zero, List.set_cons_succ]; go_big_quiet_on))))
  refine wpQuiet_nil ?_
  intro w2 hC2
  have kk := hC2.1
  clear hC2
  go_wp2
  go_ret
  exact ⟨rfl, kk⟩
theorem own_same {w w' : World} {V : Value} {ws : List Req} (h : Own Rep.req 24 w 0 V ws) (hV : ∀ k, V.ownBlock = some k → w'.heap[k]? = w.heap[k]?) : Own Rep.req 24 w' 0 V ws := by
  obtain ⟨css, o1, o2, o3⟩ := h
  refine ⟨css, ⟨o1.1, ?_⟩, o2, fun i x cs hx hc => o3 i x cs hx hc⟩
  rcases o1.2 with hn | ⟨g, cap, cur, rfl, hb, hg, rest⟩
  · exact .inl hn
  · exact .inr ⟨g, cap, cur, rfl, hb, (hV g rfl).trans hg, rest⟩
set_option maxHeartbeats 2000000 in
theorem done_call (w : World) (F G : Nat → Prop) (p n : Nat) (ws dn l : List Req) (A : Option Addr) (c : Nat) (hp : PoolAt w F p n ws dn) (hs : SliceOf Rep.req w G (.slice A l.length c) l) (hG : ∀ i, G i → ¬ F i)
    (hn : n + l.length ≤ 1000000) (hw : ws.length ≤ 1000000) :
    Calls Try.prog 11 #[.pointer (some ⟨p, 0, none⟩), .slice A l.length c] w fun e w' =>
      e = .returned (.tuple #[]) ∧ PoolAt w' F p (n + l.length) (ws.filter fun r => !hasR (dn ++ l) r.c r.s) (dn ++ l) ∧ Turn F w w' := by
  obtain ⟨V, mb, hb, ho, hm, f1, f2, f3, f4⟩ := hp
  have hmf : ∀ (fn : Fn) (first cap : Array Value) (w : World), (Instr.makeFunc fn first cap).run Try.prog w = .ok (.func fn first cap) w := fun _ _ _ _ => rfl
  have hl0 : l.length ≤ 1000000 := by omega
  have HS := Lib.hid hs
  have HO := Lib.hid ho
  have HM := Lib.hid hm
  have HB := Lib.hid hb
  have bp := hb.lt
  have bm := hm.lt
  have bv := Blk.new w #[.pointer (some ⟨p, 0, none⟩)] 27
  have HV := Lib.hid bv
  have HG := Lib.hid hG
  clear hs ho hm hb bv hG
  go_enter Try.func11, Try.ntmps11
  go_wp2
  go_loopw [8] (fun i wr => ∃ k : Nat, k ≤ l.length ∧ i = .int .i64 k ∧ Blk wr w.heap.size #[.pointer (some ⟨p, 0, none⟩)] 27 ∧ Hid (MapAt wr mb (n + k) (dn ++ l.take k)) ∧ Keep [mb] w wr) (fun i _ => l.length - (intOf i).toNat)
  case atStart => exact ⟨0, Nat.zero_le _, rfl, HV.out, Lib.hid (by simpa using HM.out.keep (S := []) ((Keep.refl _ _).alloc _) (by simp)), (Keep.refl _ _).alloc _⟩
  case round =>
    obtain ⟨k, hk, rfl, hv, hM, kk⟩ := hrel
    have vlt := hv.lt
    have hsz := kk.size
    by_cases hlt : k < l.length
    · have hltz : (k : Int) < (l.length : Int) := by omega
      obtain ⟨g, o, rfl, c0, c1, c2, i1, i2, i3⟩ := (HS.out.keep (kk.at G (fun i hi hGi => HG.out i hGi (by simp at hi; rw [hi]; exact f2)))).req_at hlt
      generalize hx : l[k] = x at *
      have hx := Lib.hid hx
      obtain ⟨xc, xs, xb⟩ := x
      dsimp only at *
      have ka : Keep [] wr (wr.alloc (.cells #[.int .i64 xc, .int .i64 xs, .string xb] 24)) := (Keep.refl _ _).alloc _
      have bn := Blk.three (Blk.new wr #[.int .i64 xc, .int .i64 xs, .string xb] 24)
      have hv1 := (hv.keep ka (by simp)).one
      have hb1 := (((HB.out.keep kk (by simp; exact f3)).keep ka (by simp))).two
      go_wp2_with fail
      go_region_law (go_simp; go_at_call 21; refine (keyOf_call ⟨xc, xs, xb⟩ _).mono ?_; rintro e w3 ⟨rfl, k3⟩; have k4 : Keep [] wr w3 := (Keep.drew ka).trans k3; obtain ⟨w4, hrun, hm4, hg4⟩ := (hM.out.keep k4 (by simp)).put (by simp only [maxLen]; omega) (r := ⟨xc, xs, xb⟩) i1 i2; dsimp only at hrun; have hv3 := (hv.keep k4 (by simp)).one; obtain ⟨d30, d31⟩ := ((HB.out.keep kk (by simp; exact f3)).keep k4 (by simp)).two)
      all_goals
        go_wp2
        go_roundw
        case rel =>
          have k5 : Keep [mb] w w4 := (kk.trans (k4.mono (by simp))).grown hg4 (fun i hi => .inl (by simp at hi; simp [hi]))
          refine ⟨k + 1, by omega, by go_num, ?_, Lib.hid ?_, k5⟩
          · have hv3 := hv.keep k4 (by simp)
            exact (hg4.block _ hv3.lt (by simp; omega)).trans hv3
          · rw [List.take_succ_eq_append_getElem hlt, hx.out, ← List.append_assoc, ← Nat.add_assoc]
            exact hm4
        case measure => simp [intOf]; omega
    · have hltz : ¬ (k : Int) < (l.length : Int) := by omega
      obtain rfl : k = l.length := by omega
      have hM := hM.out
      rw [List.take_length] at hM
      have hb1 := HB.out.keep kk (by simp; exact f3)
      have ho1 : Own Rep.req 24 wr 0 V ws := own_same HO.out fun j hj => kk.block j (HO.out.lt j hj).2 (by have := (f4 j hj).2.2; simpa using this)
      have hP := donePred wr [] w.heap.size p mb (n + l.length) V (dn ++ l) hv hb1 hM (by simp) (by simp) (by simp)
      have hPg : ∀ g, V.ownBlock = some g → PredOn wr [g] 23 #[.pointer (some ⟨w.heap.size, 0, none⟩)] (fun r => hasR (dn ++ l) r.c r.s) := fun g hg =>
        donePred wr [g] w.heap.size p mb (n + l.length) V (dn ++ l) hv hb1 hM (by have := (HO.out.lt g hg).2; simp; omega) (by have := (f4 g hg).2.1; simp; exact fun e => this e.symm) (by have := (f4 g hg).2.2; simp; exact fun e => this e.symm)
      have eg : ∀ args w, (callFunc 23 args).run Try.prog w = .ok (.enter 23 args) w := enters_of Try.func23 (by kernel_rfl) rfl
      obtain ⟨B, cap, rfl, hl'⟩ := HO.out.form
      have hD := fun w3 (k3 : Keep [] wr w3) => deleteFunc_call B ws.length cap ws 23 #[.pointer (some ⟨w.heap.size, 0, none⟩)] (fun r => hasR (dn ++ l) r.c r.s) w3
        (own_same ho1 fun j hj => k3.block j (ho1.lt j hj).2 (by simp)) (by omega) (fun g hg => (hPg g (by rw [hg]; rfl)).later (k3.mono (by simp)) (fun i hi => .inl hi)) (hP.later k3 (by simp)) eg
      have HP := Lib.hid hP
      have HPg := Lib.hid hPg
      have HH := Lib.hid (And.intro hM ho1)
      have hv1 := hv.one
      have hb2 := hb1.two
      have q0 := hb1.frozen 0
      have HB1 := Lib.hid hb1
      clear hP hPg hM ho1 hb1
      go_wp2_with fail
      go_region_law (go_simp; go_at_call 22; refine (hD _ ((Keep.refl _ _).drew)).mono ?_; rintro e w3 ⟨m, rfl, ho3, k3⟩; have hv3 : Blk w3 w.heap.size #[.pointer (some ⟨p, 0, none⟩)] 27 := (k3.block w.heap.size hv.lt (fun he => by have := (HO.out.lt _ he).2; omega)).trans hv; have hb3 : Blk w3 p _ _ := (k3.block p HB1.out.lt (fun he => (f4 p he).2.1 rfl)).trans HB1.out; have hv4 := hv3.one; obtain ⟨d30, d31⟩ := hb3.two; have d32 := hb3.frozen 0)
      all_goals
        go_wp2
        go_end0
        have hp3 := HB1.out.lt
        have k3 : Turn (fun i => (Value.slice B ws.length cap).ownBlock = some i) wr w3 := ⟨k3.os, k3.tape, k3.output, k3.size, k3.block⟩
        have hOB : ∀ k, (Value.slice B m cap).ownBlock = some k → (Value.slice B ws.length cap).ownBlock = some k := fun k hk => by cases B <;> exact hk
        have kf : Turn F w w3 := (kk.turn (F := F) (fun i hi => .inl (by simp at hi; rw [hi]; exact f2))).then k3 (fun i _ hi => (f4 i hi).1)
        refine ⟨rfl, ⟨_, mb, by simpa using hb3.set 0 (.slice B m cap), own_same ho3 (fun j hj => Below.heap_setCell _ _ _ _ (f4 j (hOB j hj)).2.1), ?_, f1, f2, f3, fun k hk => f4 k (hOB k hk)⟩, ?_⟩
        · refine HH.out.1.same ((Below.heap_setCell _ _ _ _ (fun e => f3 e.symm)).trans (k3.block mb HH.out.1.lt (fun he => (f4 mb he).2.2 rfl)))
        · exact kf.trans ((Keep.setCell (S := [p]) (Keep.refl _ _) _ _ (by simp)).turn (fun i hi => .inl (by simp at hi; rw [hi]; exact f1)))
end Go.Proofs.Ytaiemagmkfjklaa
