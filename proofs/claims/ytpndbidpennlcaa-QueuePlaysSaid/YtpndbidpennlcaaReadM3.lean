import Derived.Test.YtpndbidpennlcaaReadM2
import Derived.Test.YtpndbidpennlcaaStrc
namespace Go.Proofs.Ytpndbidpennlcaa
open Go.RowKit
set_option linter.unusedVariables false
set_option linter.unusedSimpArgs false
theorem textR_le (n : Int) (hn : 0 ≤ n) (s : St) : ((textR n s).1.size : Int) ≤ n := by
  have h := numR_bound 0 n s
  unfold textR
  dsimp only
  generalize numR 0 n s = a at *
  obtain ⟨m, s1⟩ := a
  dsimp only at *
  have hm : 0 ≤ m ∧ m ≤ n := by omega
  obtain ⟨m, rfl⟩ := Int.eq_ofNat_of_zero_le hm.1
  have := cutF_len m s1
  omega
theorem shortR_le (n : Int) (hn : 0 ≤ n) (s : St) : ((shortR n s).1.size : Int) ≤ n := textR_le n hn s
def zMs : Array Value := #[.int .i64 0, .int .i64 0, .int .i64 0, .int .i64 0, .string ⟨#[]⟩, .int .i64 0, .int .i64 0, .int .i64 0, .string ⟨#[]⟩, .slice none 0 0, .slice none 0 0, .int .i64 0, .string ⟨#[]⟩, .slice none 0 0, .int .i64 0, .slice none 0 0, .int .i64 0, .int .i64 0, .string ⟨#[]⟩, .int .i64 0, .string ⟨#[]⟩]
theorem zMs_info : (Try.prog.info? 38).map (fun i => (i.zero, i.size)) = some (some (.agg zMs), 21) := by kernel_rfl
theorem zMs_size : (Try.prog.info? 38).map (·.size) = some 21 := by kernel_rfl
theorem bkSize : (Try.prog.info? 33).map (·.size) = some 6 := by kernel_rfl
theorem ctSize : (Try.prog.info? 30).map (·.size) = some 3 := by kernel_rfl
theorem sgSize : (Try.prog.info? 36).map (·.size) = some 2 := by kernel_rfl
theorem rqSize : (Try.prog.info? 27).map (·.size) = some 3 := by kernel_rfl
theorem inSize : (Try.prog.info? 3).map (·.size) = some 1 := by kernel_rfl
theorem stSize : (Try.prog.info? 9).map (·.size) = some 1 := by kernel_rfl
set_option maxHeartbeats 8000000 in
theorem msgR_call (g : Nat) (s : St) (w : World) (h : Rd w g s.b s.bad) :
    Calls Try.prog 38 #[.pointer (some ⟨g, 0, none⟩)] w fun e w' => ∃ v1 v2 v3 v4, e = .returned (.agg (msgV (msgR s).1 v1 v2 v3 v4)) ∧ MsOk w' (New w) (msgR s).1 v1 v2 v3 v4 ∧ Rd w' g (msgR s).2.b (msgR s).2.bad ∧ Keep [g] w w' := by
  have HE : ∃ out, Hid (msgR s = out) := ⟨_, Lib.hid rfl⟩
  obtain ⟨out, HO⟩ := HE
  have HE : Hid (out = msgR s) := Lib.hid HO.out.symm
  rw [HO.out]
  clear HO
  have HE := Lib.hid (show out = _ from HE.out.trans (by unfold msgR; dsimp only))
  have hg := h.lt
  go_enter Try.func38, Try.ntmps38
  go_wp2_with (first | (refine sx_alloc rfl 38 rfl _ 21 zMs zMs_info rfl ?_; intro w0 b0 k0 z0))
  have nbk := numR_bound 1 7 s
  refine (numR_call g s 1 7 _ (Blk.keep h k0 (by simp)) (by unfold I64; omega) (by unfold I64; omega)).mono ?_
  rintro e w1 ⟨rfl, r1, k1⟩
  generalize numR 1 7 s = a at *
  obtain ⟨k, s1⟩ := a
  dsimp only at *
  go_wp2_with fail
  have nbf := numR_bound 0 20 s1
  refine (numR_call g s1 0 20 _ r1 (by unfold I64; omega) (by unfold I64; omega)).mono ?_
  rintro e w2 ⟨rfl, r2, k2⟩
  generalize numR 0 20 s1 = a at *
  obtain ⟨f, s2⟩ := a
  dsimp only at *
  go_wp2_with fail
  have nbt := numR_bound 0 20 s2
  refine (numR_call g s2 0 20 _ r2 (by unfold I64; omega) (by unfold I64; omega)).mono ?_
  rintro e w3 ⟨rfl, r3, k3⟩
  generalize numR 0 20 s2 = a at *
  obtain ⟨t, s3⟩ := a
  dsimp only at *
  go_wp2_with fail
  have nbv := numR_bound 0 1000000 s3
  refine (numR_call g s3 0 1000000 _ r3 (by unfold I64; omega) (by unfold I64; omega)).mono ?_
  rintro e w4 ⟨rfl, r4, k4⟩
  generalize numR 0 1000000 s3 = a at *
  obtain ⟨v, s4⟩ := a
  dsimp only at *
  go_wp2_with fail
  have nbh := shortR_le 32 (by omega) s4
  refine (shortR_call g s4 32 _ r4 (by unfold I64; omega)).mono ?_
  rintro e w5 ⟨rfl, r5, k5⟩
  generalize shortR 32 s4 = a at *
  obtain ⟨hh, s5⟩ := a
  dsimp only at *
  have kw : Keep [g] w w5 := (((((k0.mono (T := [g]) (by simp)).trans k1).trans k2).trans k3).trans k4).trans k5
  have br : Blk w5 w.heap.size zMs 38 := ((((b0.keep k1 (by simp; omega)).keep k2 (by simp; omega)).keep k3 (by simp; omega)).keep k4 (by simp; omega)).keep k5 (by simp; omega)
  have zw : w.heap.size < w5.heap.size := br.lt
  clear k0 k1 k2 k3 k4 k5 b0 z0 r1 r2 r3 r4 h
  have hb5 : Hid (I64 k ∧ I64 f ∧ I64 t ∧ I64 v ∧ hh.size ≤ M47) := Lib.hid (by unfold I64 M47; omega)
  clear nbk nbf nbt nbv nbh
  go_upto_region 2 with (first
    | (refine sx_build rfl 38 _ rfl #[.int .i64 k, .int .i64 f, .int .i64 t, .int .i64 v, .string hh, .int .i64 0, .int .i64 0, .int .i64 0, .string ⟨#[]⟩, .slice none 0 0, .slice none 0 0, .int .i64 0, .string ⟨#[]⟩, .slice none 0 0, .int .i64 0, .slice none 0 0, .int .i64 0, .int .i64 0, .string ⟨#[]⟩, .int .i64 0, .string ⟨#[]⟩] (by kernel_rfl) ?_)
    | (refine sx_alloc rfl 38 rfl _ 21 zMs zMs_info rfl ?_; intro w6 b6 k6 z6)
    | (refine sx_store rfl 38 (.tmp 3) (.tmp 14) rfl _ 0 _ #[.int .i64 k, .int .i64 f, .int .i64 t, .int .i64 v, .string hh, .int .i64 0, .int .i64 0, .int .i64 0, .string ⟨#[]⟩, .slice none 0 0, .slice none 0 0, .int .i64 0, .string ⟨#[]⟩, .slice none 0 0, .int .i64 0, .slice none 0 0, .int .i64 0, .int .i64 0, .string ⟨#[]⟩, .int .i64 0, .string ⟨#[]⟩] zMs #[.int .i64 k, .int .i64 f, .int .i64 t, .int .i64 v, .string hh, .int .i64 0, .int .i64 0, .int .i64 0, .string ⟨#[]⟩, .slice none 0 0, .slice none 0 0, .int .i64 0, .string ⟨#[]⟩, .slice none 0 0, .int .i64 0, .slice none 0 0, .int .i64 0, .int .i64 0, .string ⟨#[]⟩, .int .i64 0, .string ⟨#[]⟩] _ rfl rfl rfl b6 zMs_size rfl rfl rfl ?_; intro w7 b7 k7 z7))
  (try simp only [Act.put, List.setIfInBounds_toArray, List.set_cons_zero, List.set_cons_succ])
  have r7 : Rd w7 g s5.b s5.bad := (Blk.keep (Blk.keep r5 k6 (by simp)) k7 (by simp; omega))
  have br7 := (br.keep k6 (by simp)).keep k7 (by simp; omega)
  have kw7 : Keep [g] w w7 := (kw.trans (k6.mono (by simp))).new k7 (fun i hi => .inr (by simp at hi; omega))
  have zp7 : w5.heap.size < w7.heap.size := by omega
  clear r5 br kw k6 k7 b6 z6 z7
  obtain ⟨p, hp⟩ : ∃ p, p = w5.heap.size := ⟨_, rfl⟩
  rw [← hp] at b7 zw zp7 ⊢
  clear hp
  go_upto_if 16 with (go_at_call 45; (with_reducible refine (thereR_call g s5 _ r7).mono ?_); rintro e w10 ⟨rfl, r8, k8⟩)
  have HB : Hid (optB s5 = if (thereR s5).1 = true then blockR (thereR s5).2 else (zBk, (thereR s5).2)) := Lib.hid rfl
  generalize thereR s5 = a at *
  obtain ⟨th, sa⟩ := a
  generalize optB s5 = a at *
  obtain ⟨bk, s6⟩ := a
  dsimp only at *
  replace b7 := b7.keep k8 (by simp; omega)
  replace br7 := br7.keep k8 (by simp; omega)
  replace kw7 := kw7.trans k8
  replace zp7 : p < w10.heap.size := Nat.lt_of_lt_of_le zp7 k8.size
  replace r7 := r8
  clear r8 k8
  go_cut [] (fun wx => ∃ v1 v2, Blk wx p #[.int .i64 k, .int .i64 f, .int .i64 t, .int .i64 v, .string hh, .int .i64 bk.v, .int .i64 bk.p, .int .i64 bk.j.v, .string bk.j.h, v1, v2, .int .i64 0, .string ⟨#[]⟩, .slice none 0 0, .int .i64 0, .slice none 0 0, .int .i64 0, .int .i64 0, .string ⟨#[]⟩, .int .i64 0, .string ⟨#[]⟩] 38 ∧ Blk wx w.heap.size zMs 38 ∧ Rd wx g s6.b s6.bad ∧ Keep [g] w wx ∧ p < wx.heap.size ∧ SliceOf Rep.sg wx (fun i => p < i) v1 bk.j.sg ∧ SliceOf Rep.req wx (fun i => p < i) v2 bk.q ∧ Hid ((I64 k ∧ I64 f ∧ I64 t ∧ I64 v ∧ hh.size ≤ M47) ∧ I64 bk.v ∧ I64 bk.p ∧ I64 bk.j.v ∧ bk.j.h.size ≤ M47))
  case first =>
    cases th
    · have e1 := HB.out
      rw [if_neg (by simp)] at e1
      obtain ⟨rfl, rfl⟩ : bk = zBk ∧ s6 = sa := by simpa using e1
      clear HB e1
      go_wp2_with fail
      go_meet
      exact ⟨.slice none 0 0, .slice none 0 0, b7, br7, r7, kw7, zp7, SliceOf.nil _ _ _ _ _, SliceOf.nil _ _ _ _ _, Lib.hid ⟨hb5.out, by unfold I64 zBk; decide, by unfold I64 zBk; decide, by unfold I64 zBk; decide, by unfold M47 zBk; decide⟩⟩
    · have e1 := HB.out
      rw [if_pos rfl] at e1
      have hC := blockR_call g sa _ r7
      rw [← e1] at hC
      dsimp only at hC
      have hC := Lib.hid hC
      clear e1 HB
      go_wp2_with (first | (go_at_call 46; (with_reducible refine (hC.out).mono ?_); rintro e w11 ⟨_, _, rfl, hs1, hs2, i1, i2, i3, i4, r10, k10⟩; obtain ⟨A1, c1, rfl, _⟩ := hs1.form; obtain ⟨A2, c2, rfl, _⟩ := hs2.form; have b10 := b7.keep k10 (by simp; omega)) | (refine sx_store rfl 33 (.tmp 19) (.tmp 18) rfl p 5 _ #[.int .i64 bk.v, .int .i64 bk.p, .int .i64 bk.j.v, .string bk.j.h, .slice A1 bk.j.sg.length c1, .slice A2 bk.q.length c2] #[.int .i64 k, .int .i64 f, .int .i64 t, .int .i64 v, .string hh, .int .i64 0, .int .i64 0, .int .i64 0, .string ⟨#[]⟩, .slice none 0 0, .slice none 0 0, .int .i64 0, .string ⟨#[]⟩, .slice none 0 0, .int .i64 0, .slice none 0 0, .int .i64 0, .int .i64 0, .string ⟨#[]⟩, .int .i64 0, .string ⟨#[]⟩] #[.int .i64 k, .int .i64 f, .int .i64 t, .int .i64 v, .string hh, .int .i64 bk.v, .int .i64 bk.p, .int .i64 bk.j.v, .string bk.j.h, .slice A1 bk.j.sg.length c1, .slice A2 bk.q.length c2, .int .i64 0, .string ⟨#[]⟩, .slice none 0 0, .int .i64 0, .slice none 0 0, .int .i64 0, .int .i64 0, .string ⟨#[]⟩, .int .i64 0, .string ⟨#[]⟩] _ rfl rfl rfl b10 bkSize rfl rfl rfl ?_; intro w12 b11 k11 z11; have r11 := Blk.keep r10 k11 (by simp; omega); (try simp only [Act.put, List.setIfInBounds_toArray, List.set_cons_zero, List.set_cons_succ])) | go_in)
      have br11 := (br7.keep k10 (by simp; omega)).keep k11 (by simp; omega)
      have kw11 := (kw7.trans k10).new k11 (fun i hi => .inr (by simp at hi; omega))
      have zp11 := Nat.lt_of_lt_of_le (Nat.lt_of_lt_of_le zp7 k10.size) (Nat.le_of_eq z11.symm)
      have hn10 : ∀ i, New w10 i → i < w11.heap.size → p < i := fun i hi _ => Nat.lt_of_lt_of_le zp7 hi
      have hv1 := (hs1.mono hn10).keep (k11.at _ (by simp))
      have hv2 := (hs2.mono hn10).keep (k11.at _ (by simp))
      go_meet
      exact ⟨.slice A1 bk.j.sg.length c1, .slice A2 bk.q.length c2, b11, br11, r11, kw11, zp11, hv1, hv2, Lib.hid ⟨hb5.out, i1, i2, i3, i4⟩⟩
  case rest =>
  clear hb5 b7 br7 r7 kw7 zp7 HB
  obtain ⟨v1, v2, b7, br7, r7, kw7, zp7, hv1, hv2, hb5⟩ := hcut
  go_upto_if 21 with (go_at_call 45; (with_reducible refine (thereR_call g s6 _ r7).mono ?_); rintro e w20 ⟨rfl, r8, k8⟩)
  have HB : Hid (optC s6 = if (thereR s6).1 = true then certR (thereR s6).2 else ((⟨0, ⟨#[]⟩, []⟩ : Ct), (thereR s6).2)) := Lib.hid rfl
  generalize thereR s6 = a at *
  obtain ⟨th, sa⟩ := a
  generalize optC s6 = a at *
  obtain ⟨ct, s7⟩ := a
  dsimp only at *
  replace b7 := b7.keep k8 (by simp; omega)
  replace br7 := br7.keep k8 (by simp; omega)
  replace kw7 := kw7.trans k8
  replace zp7 : p < w20.heap.size := Nat.lt_of_lt_of_le zp7 k8.size
  replace hv1 := hv1.keep (k8.at _ (by simp; omega))
  replace hv2 := hv2.keep (k8.at _ (by simp; omega))
  replace r7 := r8
  clear r8 k8
  go_cut [] (fun wx => ∃ v3, Blk wx p #[.int .i64 k, .int .i64 f, .int .i64 t, .int .i64 v, .string hh, .int .i64 bk.v, .int .i64 bk.p, .int .i64 bk.j.v, .string bk.j.h, v1, v2, .int .i64 ct.v, .string ct.h, v3, .int .i64 0, .slice none 0 0, .int .i64 0, .int .i64 0, .string ⟨#[]⟩, .int .i64 0, .string ⟨#[]⟩] 38 ∧ Blk wx w.heap.size zMs 38 ∧ Rd wx g s7.b s7.bad ∧ Keep [g] w wx ∧ p < wx.heap.size ∧ SliceOf Rep.sg wx (fun i => p < i) v1 bk.j.sg ∧ SliceOf Rep.req wx (fun i => p < i) v2 bk.q ∧ SliceOf Rep.sg wx (fun i => p < i) v3 ct.sg ∧ Hid (((I64 k ∧ I64 f ∧ I64 t ∧ I64 v ∧ hh.size ≤ M47) ∧ I64 bk.v ∧ I64 bk.p ∧ I64 bk.j.v ∧ bk.j.h.size ≤ M47) ∧ I64 ct.v ∧ ct.h.size ≤ M47))
  case first =>
    cases th
    · have e1 := HB.out
      rw [if_neg (by simp)] at e1
      obtain ⟨rfl, rfl⟩ : ct = (⟨0, ⟨#[]⟩, []⟩ : Ct) ∧ s7 = sa := by simpa using e1
      clear HB e1
      go_wp2_with fail
      go_meet
      exact ⟨.slice none 0 0, b7, br7, r7, kw7, zp7, hv1, hv2, SliceOf.nil _ _ _ _ _, Lib.hid ⟨hb5.out, by unfold I64; decide, by unfold M47; decide⟩⟩
    · have e1 := HB.out
      rw [if_pos rfl] at e1
      have hC := certR_call g sa _ r7
      rw [← e1] at hC
      dsimp only at hC
      have hC := Lib.hid hC
      clear e1 HB
      go_wp2_with (first | (go_at_call 47; (with_reducible refine (hC.out).mono ?_); rintro e w21 ⟨_, rfl, hs3, i1, i2, r10, k10⟩; obtain ⟨A3, c3, rfl, _⟩ := hs3.form; have b10 := b7.keep k10 (by simp; omega)) | (refine sx_store rfl 30 (.tmp 24) (.tmp 23) rfl p 11 _ #[.int .i64 ct.v, .string ct.h, .slice A3 ct.sg.length c3] #[.int .i64 k, .int .i64 f, .int .i64 t, .int .i64 v, .string hh, .int .i64 bk.v, .int .i64 bk.p, .int .i64 bk.j.v, .string bk.j.h, v1, v2, .int .i64 0, .string ⟨#[]⟩, .slice none 0 0, .int .i64 0, .slice none 0 0, .int .i64 0, .int .i64 0, .string ⟨#[]⟩, .int .i64 0, .string ⟨#[]⟩] #[.int .i64 k, .int .i64 f, .int .i64 t, .int .i64 v, .string hh, .int .i64 bk.v, .int .i64 bk.p, .int .i64 bk.j.v, .string bk.j.h, v1, v2, .int .i64 ct.v, .string ct.h, .slice A3 ct.sg.length c3, .int .i64 0, .slice none 0 0, .int .i64 0, .int .i64 0, .string ⟨#[]⟩, .int .i64 0, .string ⟨#[]⟩] _ rfl rfl rfl b10 ctSize rfl rfl rfl ?_; intro w22 b11 k11 z11; have r11 := Blk.keep r10 k11 (by simp; omega); (try simp only [Act.put, List.setIfInBounds_toArray, List.set_cons_zero, List.set_cons_succ])) | go_in)
      have br11 := (br7.keep k10 (by simp; omega)).keep k11 (by simp; omega)
      have kw11 := (kw7.trans k10).new k11 (fun i hi => .inr (by simp at hi; omega))
      have zp11 := Nat.lt_of_lt_of_le (Nat.lt_of_lt_of_le zp7 k10.size) (Nat.le_of_eq z11.symm)
      have hn10 : ∀ i, New w20 i → i < w21.heap.size → p < i := fun i hi _ => Nat.lt_of_lt_of_le zp7 hi
      replace hv1 := (hv1.keep (k10.at _ (by simp; omega))).keep (k11.at _ (by simp))
      replace hv2 := (hv2.keep (k10.at _ (by simp; omega))).keep (k11.at _ (by simp))
      have hv3 := (hs3.mono hn10).keep (k11.at _ (by simp))
      go_meet
      exact ⟨.slice A3 ct.sg.length c3, b11, br11, r11, kw11, zp11, hv1, hv2, hv3, Lib.hid ⟨hb5.out, i1, i2⟩⟩
  case rest =>
  clear hb5 b7 br7 r7 kw7 zp7 HB
  clear hv1 hv2
  obtain ⟨v3, b7, br7, r7, kw7, zp7, hv1, hv2, hv3, hb5⟩ := hcut
  go_upto_if 26 with (go_at_call 45; (with_reducible refine (thereR_call g s7 _ r7).mono ?_); rintro e w30 ⟨rfl, r8, k8⟩)
  have HB : Hid (optS s7 = if (thereR s7).1 = true then ((sigR (thereR s7).2).1, (sigR (thereR s7).2).2.check (!zeroSig (sigR (thereR s7).2).1)) else ((⟨0, []⟩ : Sg), (thereR s7).2)) := Lib.hid rfl
  generalize thereR s7 = a at *
  obtain ⟨th, sa⟩ := a
  generalize optS s7 = a at *
  obtain ⟨sg, s8⟩ := a
  dsimp only at *
  replace b7 := b7.keep k8 (by simp; omega)
  replace br7 := br7.keep k8 (by simp; omega)
  replace kw7 := kw7.trans k8
  replace zp7 : p < w30.heap.size := Nat.lt_of_lt_of_le zp7 k8.size
  replace hv1 := hv1.keep (k8.at _ (by simp; omega))
  replace hv2 := hv2.keep (k8.at _ (by simp; omega))
  replace hv3 := hv3.keep (k8.at _ (by simp; omega))
  replace r7 := r8
  clear r8 k8
  go_cut [] (fun wx => ∃ v4, Blk wx p #[.int .i64 k, .int .i64 f, .int .i64 t, .int .i64 v, .string hh, .int .i64 bk.v, .int .i64 bk.p, .int .i64 bk.j.v, .string bk.j.h, v1, v2, .int .i64 ct.v, .string ct.h, v3, .int .i64 sg.f, v4, .int .i64 0, .int .i64 0, .string ⟨#[]⟩, .int .i64 0, .string ⟨#[]⟩] 38 ∧ Blk wx w.heap.size zMs 38 ∧ Rd wx g s8.b s8.bad ∧ Keep [g] w wx ∧ p < wx.heap.size ∧ SliceOf Rep.sg wx (fun i => p < i) v1 bk.j.sg ∧ SliceOf Rep.req wx (fun i => p < i) v2 bk.q ∧ SliceOf Rep.sg wx (fun i => p < i) v3 ct.sg ∧ SliceOf Rep.str wx (fun i => p < i) v4 sg.ts ∧ Hid ((((I64 k ∧ I64 f ∧ I64 t ∧ I64 v ∧ hh.size ≤ M47) ∧ I64 bk.v ∧ I64 bk.p ∧ I64 bk.j.v ∧ bk.j.h.size ≤ M47) ∧ I64 ct.v ∧ ct.h.size ≤ M47) ∧ I64 sg.f))
  case first =>
    cases th
    · have e1 := HB.out
      rw [if_neg (by simp)] at e1
      obtain ⟨rfl, rfl⟩ : sg = (⟨0, []⟩ : Sg) ∧ s8 = sa := by simpa using e1
      clear HB e1
      go_wp2_with fail
      go_meet
      exact ⟨.slice none 0 0, b7, br7, r7, kw7, zp7, hv1, hv2, hv3, SliceOf.nil _ _ _ _ _, Lib.hid ⟨hb5.out, by unfold I64; decide⟩⟩
    · have e1 := HB.out
      rw [if_pos rfl] at e1
      have hC := sigR_call g sa _ r7
      generalize sigR sa = q at *
      obtain ⟨x, sb⟩ := q
      dsimp only at *
      obtain ⟨rfl, rfl⟩ : sg = x ∧ s8 = sb.check (!zeroSig x) := by simpa using e1
      have hC := Lib.hid hC
      clear e1 HB
      go_wp2_with (first | (go_at_call 48; (with_reducible refine (hC.out).mono ?_); rintro e w31 ⟨_, rfl, hs4, i1, r10, k10⟩; obtain ⟨A4, c4, rfl, _⟩ := hs4.form; have b10 := b7.keep k10 (by simp; omega)) | (refine sx_store rfl 36 (.tmp 29) (.tmp 28) rfl p 14 _ #[.int .i64 sg.f, .slice A4 sg.ts.length c4] #[.int .i64 k, .int .i64 f, .int .i64 t, .int .i64 v, .string hh, .int .i64 bk.v, .int .i64 bk.p, .int .i64 bk.j.v, .string bk.j.h, v1, v2, .int .i64 ct.v, .string ct.h, v3, .int .i64 0, .slice none 0 0, .int .i64 0, .int .i64 0, .string ⟨#[]⟩, .int .i64 0, .string ⟨#[]⟩] #[.int .i64 k, .int .i64 f, .int .i64 t, .int .i64 v, .string hh, .int .i64 bk.v, .int .i64 bk.p, .int .i64 bk.j.v, .string bk.j.h, v1, v2, .int .i64 ct.v, .string ct.h, v3, .int .i64 sg.f, .slice A4 sg.ts.length c4, .int .i64 0, .int .i64 0, .string ⟨#[]⟩, .int .i64 0, .string ⟨#[]⟩] _ rfl rfl rfl b10 sgSize rfl rfl rfl ?_; intro w32 b11 k11 z11; have r11 := Blk.keep r10 k11 (by simp; omega); (try simp only [Act.put, List.setIfInBounds_toArray, List.set_cons_zero, List.set_cons_succ])) | (refine sx_load rfl 36 (.tmp 31) rfl p 14 #[.int .i64 k, .int .i64 f, .int .i64 t, .int .i64 v, .string hh, .int .i64 bk.v, .int .i64 bk.p, .int .i64 bk.j.v, .string bk.j.h, v1, v2, .int .i64 ct.v, .string ct.h, v3, .int .i64 sg.f, .slice A4 sg.ts.length c4, .int .i64 0, .int .i64 0, .string ⟨#[]⟩, .int .i64 0, .string ⟨#[]⟩] #[.int .i64 sg.f, .slice A4 sg.ts.length c4] _ _ rfl b11 Try.underlying36 rfl sgSize rfl ?_; (try simp only [Act.put, List.setIfInBounds_toArray, List.set_cons_zero, List.set_cons_succ])) | (go_at_call 50; (with_reducible refine (wzeroSig_call sg A4 c4 _).mono ?_); rintro e w33 ⟨rfl, k13⟩; have r13 : Rd w33 g sb.b sb.bad := Blk.keep r11 k13 (by simp)) | (go_at_call 49; (with_reducible refine (check_call g sb (!zeroSig sg) _ r13).mono ?_); rintro e w34 ⟨rfl, r12, k14⟩; have k12 := (k13.mono (T := [g]) (by simp)).trans k14) | go_in)
      have br11 := (br7.keep k10 (by simp; omega)).keep k11 (by simp; omega)
      have kw11 := (kw7.trans k10).new k11 (fun i hi => .inr (by simp at hi; omega))
      have zp11 := Nat.lt_of_lt_of_le (Nat.lt_of_lt_of_le zp7 k10.size) (Nat.le_of_eq z11.symm)
      have hn10 : ∀ i, New w30 i → i < w31.heap.size → p < i := fun i hi _ => Nat.lt_of_lt_of_le zp7 hi
      replace hv1 := (hv1.keep (k10.at _ (by simp; omega))).keep (k11.at _ (by simp))
      replace hv2 := (hv2.keep (k10.at _ (by simp; omega))).keep (k11.at _ (by simp))
      replace hv3 := (hv3.keep (k10.at _ (by simp; omega))).keep (k11.at _ (by simp))
      have hv4 := (hs4.mono hn10).keep (k11.at _ (by simp))
      replace b11 := b11.keep k12 (by simp; omega)
      replace br11 := br11.keep k12 (by simp; omega)
      replace kw11 := kw11.trans k12
      replace zp11 := Nat.lt_of_lt_of_le zp11 k12.size
      replace hv1 := hv1.keep (k12.at _ (by simp; omega))
      replace hv2 := hv2.keep (k12.at _ (by simp; omega))
      replace hv3 := hv3.keep (k12.at _ (by simp; omega))
      replace hv4 := hv4.keep (k12.at _ (by simp; omega))
      have r11 := r12
      go_meet
      exact ⟨.slice A4 sg.ts.length c4, b11, br11, r11, kw11, zp11, hv1, hv2, hv3, hv4, Lib.hid ⟨hb5.out, i1⟩⟩
  case rest =>
  clear hb5 b7 br7 r7 kw7 zp7 HB
  clear hv1 hv2 hv3
  obtain ⟨v4, b7, br7, r7, kw7, zp7, hv1, hv2, hv3, hv4, hb5⟩ := hcut
  go_upto_if 37 with (go_at_call 45; (with_reducible refine (thereR_call g s8 _ r7).mono ?_); rintro e w40 ⟨rfl, r8, k8⟩)
  have HB : Hid (optR s8 = if (thereR s8).1 = true then reqR (thereR s8).2 else ((⟨0, 0, ⟨#[]⟩⟩ : Req), (thereR s8).2)) := Lib.hid rfl
  generalize thereR s8 = a at *
  obtain ⟨th, sa⟩ := a
  generalize optR s8 = a at *
  obtain ⟨rq, s9⟩ := a
  dsimp only at *
  replace b7 := b7.keep k8 (by simp; omega)
  replace br7 := br7.keep k8 (by simp; omega)
  replace kw7 := kw7.trans k8
  replace zp7 : p < w40.heap.size := Nat.lt_of_lt_of_le zp7 k8.size
  replace hv1 := hv1.keep (k8.at _ (by simp; omega))
  replace hv2 := hv2.keep (k8.at _ (by simp; omega))
  replace hv3 := hv3.keep (k8.at _ (by simp; omega))
  replace hv4 := hv4.keep (k8.at _ (by simp; omega))
  replace r7 := r8
  clear r8 k8
  go_cut [] (fun wx => Blk wx p #[.int .i64 k, .int .i64 f, .int .i64 t, .int .i64 v, .string hh, .int .i64 bk.v, .int .i64 bk.p, .int .i64 bk.j.v, .string bk.j.h, v1, v2, .int .i64 ct.v, .string ct.h, v3, .int .i64 sg.f, v4, .int .i64 rq.c, .int .i64 rq.s, .string rq.b, .int .i64 0, .string ⟨#[]⟩] 38 ∧ Blk wx w.heap.size zMs 38 ∧ Rd wx g s9.b s9.bad ∧ Keep [g] w wx ∧ p < wx.heap.size ∧ SliceOf Rep.sg wx (fun i => p < i) v1 bk.j.sg ∧ SliceOf Rep.req wx (fun i => p < i) v2 bk.q ∧ SliceOf Rep.sg wx (fun i => p < i) v3 ct.sg ∧ SliceOf Rep.str wx (fun i => p < i) v4 sg.ts ∧ Hid (((((I64 k ∧ I64 f ∧ I64 t ∧ I64 v ∧ hh.size ≤ M47) ∧ I64 bk.v ∧ I64 bk.p ∧ I64 bk.j.v ∧ bk.j.h.size ≤ M47) ∧ I64 ct.v ∧ ct.h.size ≤ M47) ∧ I64 sg.f) ∧ I64 rq.c ∧ I64 rq.s ∧ rq.b.size ≤ M47))
  case first =>
    cases th
    · have e1 := HB.out
      rw [if_neg (by simp)] at e1
      obtain ⟨rfl, rfl⟩ : rq = (⟨0, 0, ⟨#[]⟩⟩ : Req) ∧ s9 = sa := by simpa using e1
      clear HB e1
      go_wp2_with fail
      go_meet
      exact ⟨b7, br7, r7, kw7, zp7, hv1, hv2, hv3, hv4, Lib.hid ⟨hb5.out, by unfold I64; decide, by unfold I64; decide, by unfold M47; decide⟩⟩
    · have e1 := HB.out
      rw [if_pos rfl] at e1
      have hC := reqR_call g sa _ r7
      rw [← e1] at hC
      dsimp only at hC
      have hq := reqR_rep sa w40 (fun _ => True)
      rw [← e1] at hq
      obtain ⟨-, i1, i2, i3⟩ := hq
      dsimp only at i1 i2 i3
      have hC := Lib.hid hC
      clear e1 HB
      go_wp2_with (first | (go_at_call 51; (with_reducible refine (hC.out).mono ?_); rintro e w41 ⟨rfl, r10, k10⟩; have b10 := b7.keep k10 (by simp; omega)) | (refine sx_store rfl 27 (.tmp 40) (.tmp 39) rfl p 16 _ #[.int .i64 rq.c, .int .i64 rq.s, .string rq.b] #[.int .i64 k, .int .i64 f, .int .i64 t, .int .i64 v, .string hh, .int .i64 bk.v, .int .i64 bk.p, .int .i64 bk.j.v, .string bk.j.h, v1, v2, .int .i64 ct.v, .string ct.h, v3, .int .i64 sg.f, v4, .int .i64 0, .int .i64 0, .string ⟨#[]⟩, .int .i64 0, .string ⟨#[]⟩] #[.int .i64 k, .int .i64 f, .int .i64 t, .int .i64 v, .string hh, .int .i64 bk.v, .int .i64 bk.p, .int .i64 bk.j.v, .string bk.j.h, v1, v2, .int .i64 ct.v, .string ct.h, v3, .int .i64 sg.f, v4, .int .i64 rq.c, .int .i64 rq.s, .string rq.b, .int .i64 0, .string ⟨#[]⟩] _ rfl rfl rfl b10 rqSize rfl rfl rfl ?_; intro w42 b11 k11 z11; have r11 := Blk.keep r10 k11 (by simp; omega); (try simp only [Act.put, List.setIfInBounds_toArray, List.set_cons_zero, List.set_cons_succ])) | go_in)
      have br11 := (br7.keep k10 (by simp; omega)).keep k11 (by simp; omega)
      have kw11 := (kw7.trans k10).new k11 (fun i hi => .inr (by simp at hi; omega))
      have zp11 := Nat.lt_of_lt_of_le (Nat.lt_of_lt_of_le zp7 k10.size) (Nat.le_of_eq z11.symm)
      replace hv1 := (hv1.keep (k10.at _ (by simp; omega))).keep (k11.at _ (by simp))
      replace hv2 := (hv2.keep (k10.at _ (by simp; omega))).keep (k11.at _ (by simp))
      replace hv3 := (hv3.keep (k10.at _ (by simp; omega))).keep (k11.at _ (by simp))
      replace hv4 := (hv4.keep (k10.at _ (by simp; omega))).keep (k11.at _ (by simp))
      go_meet
      exact ⟨b11, br11, r11, kw11, zp11, hv1, hv2, hv3, hv4, Lib.hid ⟨hb5.out, i1, i2, i3⟩⟩
  case rest =>
  clear hb5 b7 br7 r7 kw7 zp7 HB
  clear hv1 hv2 hv3 hv4
  obtain ⟨b7, br7, r7, kw7, zp7, hv1, hv2, hv3, hv4, hb5⟩ := hcut
  obtain ⟨A1, c1, rfl, -⟩ := hv1.form
  obtain ⟨A2, c2, rfl, -⟩ := hv2.form
  obtain ⟨A3, c3, rfl, -⟩ := hv3.form
  obtain ⟨A4, c4, rfl, -⟩ := hv4.form
  have nbi := numR_bound 0 2147483647 s9
  go_wp2_with fail
  refine (numR_call g s9 0 2147483647 _ r7 (by unfold I64; omega) (by unfold I64; omega)).mono ?_
  rintro e w50 ⟨rfl, r8, k8⟩
  generalize numR 0 2147483647 s9 = a at *
  obtain ⟨ii, s10⟩ := a
  dsimp only at *
  replace b7 := b7.keep k8 (by simp; omega)
  replace br7 := br7.keep k8 (by simp; omega)
  replace hv1 := hv1.keep (k8.at _ (by simp; omega))
  replace hv2 := hv2.keep (k8.at _ (by simp; omega))
  replace hv3 := hv3.keep (k8.at _ (by simp; omega))
  replace hv4 := hv4.keep (k8.at _ (by simp; omega))
  replace kw7 := kw7.trans k8
  replace zp7 := Nat.lt_of_lt_of_le zp7 k8.size
  have iok : I64 ii := by unfold I64; omega
  clear r7 k8
  go_wp2_with (first | (refine sx_store rfl 3 (.tmp 43) (.tmp 42) rfl p 19 _ #[.int .i64 ii] #[.int .i64 k, .int .i64 f, .int .i64 t, .int .i64 v, .string hh, .int .i64 bk.v, .int .i64 bk.p, .int .i64 bk.j.v, .string bk.j.h, .slice A1 bk.j.sg.length c1, .slice A2 bk.q.length c2, .int .i64 ct.v, .string ct.h, .slice A3 ct.sg.length c3, .int .i64 sg.f, .slice A4 sg.ts.length c4, .int .i64 rq.c, .int .i64 rq.s, .string rq.b, .int .i64 0, .string ⟨#[]⟩] #[.int .i64 k, .int .i64 f, .int .i64 t, .int .i64 v, .string hh, .int .i64 bk.v, .int .i64 bk.p, .int .i64 bk.j.v, .string bk.j.h, .slice A1 bk.j.sg.length c1, .slice A2 bk.q.length c2, .int .i64 ct.v, .string ct.h, .slice A3 ct.sg.length c3, .int .i64 sg.f, .slice A4 sg.ts.length c4, .int .i64 rq.c, .int .i64 rq.s, .string rq.b, .int .i64 ii, .string ⟨#[]⟩] _ rfl rfl rfl b7 inSize rfl rfl rfl ?_; intro w51 b8 k9 z9; (try simp only [Act.put, List.setIfInBounds_toArray, List.set_cons_zero, List.set_cons_succ])))
  replace r8 := Blk.keep r8 k9 (by simp; omega)
  replace br7 := br7.keep k9 (by simp; omega)
  replace kw7 := kw7.new k9 (fun i hi => .inr (by simp at hi; omega))
  replace zp7 := Nat.lt_of_lt_of_le zp7 k9.size
  replace hv1 := hv1.keep (k9.at _ (by simp))
  replace hv2 := hv2.keep (k9.at _ (by simp))
  replace hv3 := hv3.keep (k9.at _ (by simp))
  replace hv4 := hv4.keep (k9.at _ (by simp))
  clear k9 z9 b7
  have nbg := shortR_le 16 (by omega) s10
  refine (shortR_call g s10 16 _ r8 (by unfold I64; omega)).mono ?_
  rintro e w52 ⟨rfl, r7, k8⟩
  generalize shortR 16 s10 = a at *
  obtain ⟨gg, s11⟩ := a
  dsimp only at *
  have b7 := b8
  replace b7 := b7.keep k8 (by simp; omega)
  replace br7 := br7.keep k8 (by simp; omega)
  replace hv1 := hv1.keep (k8.at _ (by simp; omega))
  replace hv2 := hv2.keep (k8.at _ (by simp; omega))
  replace hv3 := hv3.keep (k8.at _ (by simp; omega))
  replace hv4 := hv4.keep (k8.at _ (by simp; omega))
  replace kw7 := kw7.trans k8
  replace zp7 := Nat.lt_of_lt_of_le zp7 k8.size
  have gok : gg.size ≤ M47 := by unfold M47; omega
  clear r8 k8 b8 nbg nbi
  go_wp2_with (first | (refine sx_store rfl 9 (.tmp 46) (.tmp 45) rfl p 20 _ #[.string gg] #[.int .i64 k, .int .i64 f, .int .i64 t, .int .i64 v, .string hh, .int .i64 bk.v, .int .i64 bk.p, .int .i64 bk.j.v, .string bk.j.h, .slice A1 bk.j.sg.length c1, .slice A2 bk.q.length c2, .int .i64 ct.v, .string ct.h, .slice A3 ct.sg.length c3, .int .i64 sg.f, .slice A4 sg.ts.length c4, .int .i64 rq.c, .int .i64 rq.s, .string rq.b, .int .i64 ii, .string ⟨#[]⟩] #[.int .i64 k, .int .i64 f, .int .i64 t, .int .i64 v, .string hh, .int .i64 bk.v, .int .i64 bk.p, .int .i64 bk.j.v, .string bk.j.h, .slice A1 bk.j.sg.length c1, .slice A2 bk.q.length c2, .int .i64 ct.v, .string ct.h, .slice A3 ct.sg.length c3, .int .i64 sg.f, .slice A4 sg.ts.length c4, .int .i64 rq.c, .int .i64 rq.s, .string rq.b, .int .i64 ii, .string gg] _ rfl rfl rfl b7 stSize rfl rfl rfl ?_; intro w53 b9 k9 z9; have br9 := br7.keep k9 (by simp; omega); (try simp only [Act.put, List.setIfInBounds_toArray, List.set_cons_zero, List.set_cons_succ])) | (refine sx_load rfl 38 (.tmp 3) rfl p 0 #[.int .i64 k, .int .i64 f, .int .i64 t, .int .i64 v, .string hh, .int .i64 bk.v, .int .i64 bk.p, .int .i64 bk.j.v, .string bk.j.h, .slice A1 bk.j.sg.length c1, .slice A2 bk.q.length c2, .int .i64 ct.v, .string ct.h, .slice A3 ct.sg.length c3, .int .i64 sg.f, .slice A4 sg.ts.length c4, .int .i64 rq.c, .int .i64 rq.s, .string rq.b, .int .i64 ii, .string gg] #[.int .i64 k, .int .i64 f, .int .i64 t, .int .i64 v, .string hh, .int .i64 bk.v, .int .i64 bk.p, .int .i64 bk.j.v, .string bk.j.h, .slice A1 bk.j.sg.length c1, .slice A2 bk.q.length c2, .int .i64 ct.v, .string ct.h, .slice A3 ct.sg.length c3, .int .i64 sg.f, .slice A4 sg.ts.length c4, .int .i64 rq.c, .int .i64 rq.s, .string rq.b, .int .i64 ii, .string gg] _ _ rfl b9 Try.underlying38 rfl zMs_size rfl ?_; (try simp only [Act.put, List.setIfInBounds_toArray, List.set_cons_zero, List.set_cons_succ])) | (refine sx_store rfl 38 (.tmp 2) (.tmp 47) rfl w.heap.size 0 _ #[.int .i64 k, .int .i64 f, .int .i64 t, .int .i64 v, .string hh, .int .i64 bk.v, .int .i64 bk.p, .int .i64 bk.j.v, .string bk.j.h, .slice A1 bk.j.sg.length c1, .slice A2 bk.q.length c2, .int .i64 ct.v, .string ct.h, .slice A3 ct.sg.length c3, .int .i64 sg.f, .slice A4 sg.ts.length c4, .int .i64 rq.c, .int .i64 rq.s, .string rq.b, .int .i64 ii, .string gg] zMs #[.int .i64 k, .int .i64 f, .int .i64 t, .int .i64 v, .string hh, .int .i64 bk.v, .int .i64 bk.p, .int .i64 bk.j.v, .string bk.j.h, .slice A1 bk.j.sg.length c1, .slice A2 bk.q.length c2, .int .i64 ct.v, .string ct.h, .slice A3 ct.sg.length c3, .int .i64 sg.f, .slice A4 sg.ts.length c4, .int .i64 rq.c, .int .i64 rq.s, .string rq.b, .int .i64 ii, .string gg] _ rfl rfl rfl br9 zMs_size rfl rfl rfl ?_; intro w54 b10 k10 z10; (try simp only [Act.put, List.setIfInBounds_toArray, List.set_cons_zero, List.set_cons_succ])))
  refine ret_cell rfl rfl rfl b10 Try.underlying38 rfl zMs_size ?_
  obtain rfl := HE.out
  have r9 : Rd w54 g s11.b s11.bad := Blk.keep (Blk.keep r7 k9 (by simp; omega)) k10 (by simp; omega)
  have kw9 : Keep [g] w w54 := (kw7.new k9 (fun i hi => .inr (by simp at hi; omega))).new k10 (fun i hi => .inr (by simp at hi; omega))
  have hm : ∀ i, p < i → i < w54.heap.size → New w i := fun i hi _ => by show w.heap.size ≤ i; omega
  replace hv1 := ((hv1.keep (k9.at _ (by simp))).keep (k10.at _ (by simp; omega))).mono hm
  replace hv2 := ((hv2.keep (k9.at _ (by simp))).keep (k10.at _ (by simp; omega))).mono hm
  replace hv3 := ((hv3.keep (k9.at _ (by simp))).keep (k10.at _ (by simp; omega))).mono hm
  replace hv4 := ((hv4.keep (k9.at _ (by simp))).keep (k10.at _ (by simp; omega))).mono hm
  obtain ⟨⟨⟨⟨⟨q1, q2, q3, q4, q5⟩, q6, q7, q8, q9⟩, q10, q11⟩, q12⟩, q13, q14, q15⟩ := hb5.out
  exact ⟨_, _, _, _, rfl, ⟨q1, q2, q3, q4, q5, q6, q7, q8, q9, hv1, hv2, q10, q11, hv3, q12, hv4, q13, q14, q15, iok, gok⟩, r9, kw9⟩
end Go.Proofs.Ytpndbidpennlcaa
