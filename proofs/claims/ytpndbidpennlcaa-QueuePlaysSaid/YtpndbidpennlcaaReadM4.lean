import Derived.Test.YtpndbidpennlcaaReadM3
namespace Go.Proofs.Ytpndbidpennlcaa
open Go.RowKit
set_option linter.unusedVariables false
set_option linter.unusedSimpArgs false
def zM : Ms := ⟨0, 0, 0, 0, ⟨#[]⟩, zBk, ⟨0, ⟨#[]⟩, []⟩, ⟨0, []⟩, ⟨0, 0, ⟨#[]⟩⟩, 0, ⟨#[]⟩⟩
def readMsgF (b : ByteArray) : Ms × Int := if (msgR ⟨b, false⟩).2.ok = true then ((msgR ⟨b, false⟩).1, 0) else (zM, 2)
theorem zMs_eq : zMs = msgV zM (.slice none 0 0) (.slice none 0 0) (.slice none 0 0) (.slice none 0 0) := rfl
theorem zM_ok (w : World) (F : Nat → Prop) (A1 A2 A3 A4 : Option Addr) (c1 c2 c3 c4 : Nat) : MsOk w F zM (.slice A1 0 c1) (.slice A2 0 c2) (.slice A3 0 c3) (.slice A4 0 c4) := by
  have h0 : I64 0 := by unfold I64; decide
  have h1 : (⟨#[]⟩ : ByteArray).size ≤ M47 := by unfold M47; decide
  exact ⟨h0, h0, h0, h0, h1, h0, h0, h0, h1, SliceOf.nil _ _ _ _ _, SliceOf.nil _ _ _ _ _, h0, h1, SliceOf.nil _ _ _ _ _, h0, SliceOf.nil _ _ _ _ _, h0, h0, h1, h0, h1⟩
set_option maxHeartbeats 4000000 in
theorem readMsg_call (b : ByteArray) (w : World) :
    Calls Try.prog 29 #[.string b] w fun e w' => ∃ v1 v2 v3 v4, e = .returned (.tuple #[.agg (msgV (readMsgF b).1 v1 v2 v3 v4), .int .i64 (readMsgF b).2]) ∧ MsOk w' (New w) (readMsgF b).1 v1 v2 v3 v4 ∧ Keep [] w w' := by
  have HE : Hid (readMsgF b = if (msgR ⟨b, false⟩).2.ok = true then ((msgR ⟨b, false⟩).1, 0) else (zM, 2)) := Lib.hid rfl
  generalize readMsgF b = out at *
  go_enter Try.func29, Try.ntmps29
  go_wp2_with (first | (refine sx_alloc rfl 38 rfl _ 21 zMs zMs_info rfl ?_; intro w0 b0 k0 z0; (try simp only [Act.put, List.setIfInBounds_toArray, List.set_cons_zero, List.set_cons_succ])))
  have bb := Blk.new w0 #[.string b, .bool false] 83
  rw [z0] at bb
  have bz := b0.alloc (.cells #[.string b, .bool false] 83)
  have kz : Keep [] w (w0.alloc (.cells #[.string b, .bool false] 83)) := k0.alloc _
  have zz : (w0.alloc (.cells #[.string b, .bool false] 83)).heap.size = w0.heap.size + 1 := by simp
  refine (msgR_call (w.heap.size + 1) ⟨b, false⟩ _ bb).mono ?_
  generalize w0.alloc (.cells #[.string b, .bool false] 83) = wz at *
  rintro e w1 ⟨_, _, _, _, rfl, hok, r1, k1⟩
  generalize msgR ⟨b, false⟩ = a at *
  obtain ⟨x, s1⟩ := a
  dsimp only at *
  obtain ⟨A1, c1, rfl, -⟩ := hok.bs.form
  obtain ⟨A2, c2, rfl, -⟩ := hok.bq.form
  obtain ⟨A3, c3, rfl, -⟩ := hok.cs.form
  obtain ⟨A4, c4, rfl, -⟩ := hok.st.form
  replace bz := bz.keep k1 (by simp)
  have kk : Keep [] w w1 := kz.new k1 (fun i hi => .inr (by simp at hi; omega))
  have z1 := k1.size
  have HS := Lib.hid hok
  clear hok kz bb b0 k0
  unfold msgV
  go_wp2_with (first
    | (refine sx_alloc rfl 38 rfl _ 21 zMs zMs_info rfl ?_; intro w2 b2 k2 z2; (try simp only [Act.put, List.setIfInBounds_toArray, List.set_cons_zero, List.set_cons_succ]))
    | (refine sx_store rfl 38 (.tmp 5) (.tmp 10) rfl w1.heap.size 0 _ #[.int .i64 x.k, .int .i64 x.f, .int .i64 x.t, .int .i64 x.v, .string x.h, .int .i64 x.b.v, .int .i64 x.b.p, .int .i64 x.b.j.v, .string x.b.j.h, .slice A1 x.b.j.sg.length c1, .slice A2 x.b.q.length c2, .int .i64 x.c.v, .string x.c.h, .slice A3 x.c.sg.length c3, .int .i64 x.s.f, .slice A4 x.s.ts.length c4, .int .i64 x.r.c, .int .i64 x.r.s, .string x.r.b, .int .i64 x.i, .string x.g] zMs #[.int .i64 x.k, .int .i64 x.f, .int .i64 x.t, .int .i64 x.v, .string x.h, .int .i64 x.b.v, .int .i64 x.b.p, .int .i64 x.b.j.v, .string x.b.j.h, .slice A1 x.b.j.sg.length c1, .slice A2 x.b.q.length c2, .int .i64 x.c.v, .string x.c.h, .slice A3 x.c.sg.length c3, .int .i64 x.s.f, .slice A4 x.s.ts.length c4, .int .i64 x.r.c, .int .i64 x.r.s, .string x.r.b, .int .i64 x.i, .string x.g] _ rfl rfl rfl b2 zMs_size rfl rfl rfl ?_; intro w3 b3 k3 z3; (try simp only [Act.put, List.setIfInBounds_toArray, List.set_cons_zero, List.set_cons_succ]); have r3 : Rd w3 (w.heap.size + 1) s1.b s1.bad := Blk.keep (Blk.keep r1 k2 (by simp)) k3 (by simp; omega)))
  refine (done_call (w.heap.size + 1) s1 _ r3).mono ?_
  rintro e w4 ⟨rfl, hw4⟩
  obtain rfl := hw4
  have br3 : Blk w3 w.heap.size zMs 38 := (bz.keep k2 (by simp)).keep k3 (by simp; omega)
  have kk3 : Keep [] w w3 := (kk.trans k2).new k3 (fun i hi => .inr (by simp at hi; omega))
  have HO : Hid ((!s1.bad && s1.b.toList.isEmpty) = s1.ok) := Lib.hid rfl
  rw [HO.out]
  generalize s1.ok = ok at *
  cases ok
  · have HE2 := Lib.hid (HE.out.trans (if_neg (by simp)))
    go_wp2_with (first
      | (refine sx_build rfl 38 _ rfl zMs (by kernel_rfl) ?_; (try simp only [Act.put, List.setIfInBounds_toArray, List.set_cons_zero, List.set_cons_succ]))
      | (refine sx_store rfl 38 (.tmp 2) (.tmp 14) rfl w.heap.size 0 _ zMs zMs zMs _ rfl rfl rfl br3 zMs_size rfl rfl rfl ?_; intro w5 b5 k5 z5; (try simp only [Act.put, List.setIfInBounds_toArray, List.set_cons_zero, List.set_cons_succ])))
    refine ret_cell2 rfl rfl rfl b5 Try.underlying38 rfl zMs_size _ rfl ?_
    obtain rfl := HE2.out
    exact ⟨.slice none 0 0, .slice none 0 0, .slice none 0 0, .slice none 0 0, rfl, zM_ok _ _ _ _ _ _ _ _ _ _, kk3.new k5 (fun i hi => .inr (by simp at hi; omega))⟩
  · have HE2 := Lib.hid (HE.out.trans (if_pos rfl))
    go_wp2_with (first
      | (refine sx_load rfl 38 (.tmp 5) rfl w1.heap.size 0 #[.int .i64 x.k, .int .i64 x.f, .int .i64 x.t, .int .i64 x.v, .string x.h, .int .i64 x.b.v, .int .i64 x.b.p, .int .i64 x.b.j.v, .string x.b.j.h, .slice A1 x.b.j.sg.length c1, .slice A2 x.b.q.length c2, .int .i64 x.c.v, .string x.c.h, .slice A3 x.c.sg.length c3, .int .i64 x.s.f, .slice A4 x.s.ts.length c4, .int .i64 x.r.c, .int .i64 x.r.s, .string x.r.b, .int .i64 x.i, .string x.g] #[.int .i64 x.k, .int .i64 x.f, .int .i64 x.t, .int .i64 x.v, .string x.h, .int .i64 x.b.v, .int .i64 x.b.p, .int .i64 x.b.j.v, .string x.b.j.h, .slice A1 x.b.j.sg.length c1, .slice A2 x.b.q.length c2, .int .i64 x.c.v, .string x.c.h, .slice A3 x.c.sg.length c3, .int .i64 x.s.f, .slice A4 x.s.ts.length c4, .int .i64 x.r.c, .int .i64 x.r.s, .string x.r.b, .int .i64 x.i, .string x.g] _ _ rfl b3 Try.underlying38 rfl zMs_size rfl ?_; (try simp only [Act.put, List.setIfInBounds_toArray, List.set_cons_zero, List.set_cons_succ]))
      | (refine sx_store rfl 38 (.tmp 2) (.tmp 15) rfl w.heap.size 0 _ #[.int .i64 x.k, .int .i64 x.f, .int .i64 x.t, .int .i64 x.v, .string x.h, .int .i64 x.b.v, .int .i64 x.b.p, .int .i64 x.b.j.v, .string x.b.j.h, .slice A1 x.b.j.sg.length c1, .slice A2 x.b.q.length c2, .int .i64 x.c.v, .string x.c.h, .slice A3 x.c.sg.length c3, .int .i64 x.s.f, .slice A4 x.s.ts.length c4, .int .i64 x.r.c, .int .i64 x.r.s, .string x.r.b, .int .i64 x.i, .string x.g] zMs #[.int .i64 x.k, .int .i64 x.f, .int .i64 x.t, .int .i64 x.v, .string x.h, .int .i64 x.b.v, .int .i64 x.b.p, .int .i64 x.b.j.v, .string x.b.j.h, .slice A1 x.b.j.sg.length c1, .slice A2 x.b.q.length c2, .int .i64 x.c.v, .string x.c.h, .slice A3 x.c.sg.length c3, .int .i64 x.s.f, .slice A4 x.s.ts.length c4, .int .i64 x.r.c, .int .i64 x.r.s, .string x.r.b, .int .i64 x.i, .string x.g] _ rfl rfl rfl br3 zMs_size rfl rfl rfl ?_; intro w5 b5 k5 z5; (try simp only [Act.put, List.setIfInBounds_toArray, List.set_cons_zero, List.set_cons_succ])))
    refine ret_cell2 rfl rfl rfl b5 Try.underlying38 rfl zMs_size _ rfl ?_
    obtain rfl := HE2.out
    have hm : ∀ i, New wz i → i < w1.heap.size → i ≠ w1.heap.size ∧ i ≠ w.heap.size ∧ New w i := fun i hi hl => by
      have hi : wz.heap.size ≤ i := hi
      refine ⟨by omega, by omega, ?_⟩
      show w.heap.size ≤ i
      omega
    have hk5 : MsOk w5 (New w) x (.slice A1 x.b.j.sg.length c1) (.slice A2 x.b.q.length c2) (.slice A3 x.c.sg.length c3) (.slice A4 x.s.ts.length c4) :=
      ((((HS.out.mono hm).keep (k2.at _ (by simp))).keep (k3.at _ (by simp))).keep (k5.at _ (by simp))).mono (fun i hi _ => hi.2.2)
    exact ⟨_, _, _, _, rfl, hk5, kk3.new k5 (fun i hi => .inr (by simp at hi; omega))⟩
end Go.Proofs.Ytpndbidpennlcaa
