import Derived.Test.YtmpkhjfklgcmbaaRead4
namespace Go.Proofs.Ytmpkhjfklgcmbaa
open Go.RowKit
set_option linter.unusedVariables false
set_option linter.unusedSimpArgs false
def readCertF (b : ByteArray) : Ct × Int := if (certR ⟨b, false⟩).2.ok = true then ((certR ⟨b, false⟩).1, 0) else (⟨0, ⟨#[]⟩, []⟩, 2)
set_option maxHeartbeats 1000000 in
theorem readCert_call (b : ByteArray) (w : World) :
    Calls Try.prog 24 #[.string b] w fun e w' => ∃ v, e = .returned (.tuple #[.agg #[.int .i64 (readCertF b).1.v, .string (readCertF b).1.h, v], .int .i64 (readCertF b).2]) ∧ SliceOf Rep.sg w' (New w) v (readCertF b).1.sg ∧ Keep [] w w' := by
  have HE : Hid (readCertF b = if (certR ⟨b, false⟩).2.ok = true then ((certR ⟨b, false⟩).1, 0) else (⟨0, ⟨#[]⟩, []⟩, 2)) := Lib.hid rfl
  generalize readCertF b = out at *
  go_enter Try.func24, Try.ntmps24
  go_wp2_with fail
  have bb := (Blk.new (w.alloc (.cells #[.int .i64 0, .string ⟨#[]⟩, .slice none 0 0] 28)) #[.string b, .bool false] 63)
  simp only [World.size_alloc] at bb
  refine (certR_call (w.heap.size + 1) ⟨b, false⟩ _ bb).mono ?_
  rintro e w1 ⟨v, rfl, hsl, hv, hh, r1, k1⟩
  generalize certR ⟨b, false⟩ = a at *
  obtain ⟨x, s1⟩ := a
  dsimp only at *
  obtain ⟨A, c, rfl, hd⟩ := hsl.form
  have b0 := (((Blk.new w #[.int .i64 0, .string ⟨#[]⟩, .slice none 0 0] 28).alloc (.cells #[.string b, .bool false] 63)).keep k1 (by simp))
  have hlt := k1.size
  simp only [World.size_alloc] at hlt
  go_wp2_with fail
  have b1 := b0.alloc (.cells #[.int .i64 x.v, .string x.h, .slice A x.sg.length c] 28)
  refine (done_call (w.heap.size + 1) s1 _ (Blk.alloc r1 _)).mono ?_
  rintro e w2 ⟨rfl, rfl⟩
  have f0 := b1.frozen 0
  have f1 := b1.frozen 1
  have f2 := b1.frozen 2
  have c0 := b1.cell 0
  have c1 := b1.cell 1
  have c2 := b1.cell 2
  simp only [List.getElem?_toArray, List.getElem?_cons_zero, List.getElem?_cons_succ] at c0 c1 c2
  have kk : Keep [] w (w1.alloc (.cells #[.int .i64 x.v, .string x.h, .slice A x.sg.length c] 28)) := (((((Keep.refl _ w).alloc _).alloc _).new k1 (by simp))).alloc _
  have HO : Hid ((!s1.bad && s1.b.toList.isEmpty) = s1.ok) := Lib.hid rfl
  rw [HO.out]
  generalize s1.ok = ok at *
  cases ok
  · have HE2 := Lib.hid (HE.out.trans (if_neg (by simp)))
    go_wp2
    have b3 := b1.set3 (.int .i64 0) (.string ⟨#[]⟩) (.slice none 0 0)
    have q0 := b3.cell 0
    have q1 := b3.cell 1
    have q2 := b3.cell 2
    simp only [List.getElem?_toArray, List.getElem?_cons_zero, List.getElem?_cons_succ] at q0 q1 q2
    refine bodyPost_ret (v := .tuple #[.agg #[.int .i64 0, .string ⟨#[]⟩, .slice none 0 0], .int .i64 2]) (by simp [results, Try.results24, go_sem, q0, q1, q2]) rfl ?_
    rw [HE2.out]
    exact ⟨_, rfl, SliceOf.nil _ _ _ _ _, kk.set3 _ _ _ _ (.inr (Nat.le_refl _))⟩
  · have HE2 := Lib.hid (HE.out.trans (if_pos rfl))
    go_wp2
    have b3 := b1.set3 (.int .i64 x.v) (.string x.h) (.slice A x.sg.length c)
    have q0 := b3.cell 0
    have q1 := b3.cell 1
    have q2 := b3.cell 2
    simp only [List.getElem?_toArray, List.getElem?_cons_zero, List.getElem?_cons_succ] at q0 q1 q2
    refine bodyPost_ret (v := .tuple #[.agg #[.int .i64 x.v, .string x.h, .slice A x.sg.length c], .int .i64 0]) (by simp [results, Try.results24, go_sem, q0, q1, q2]) rfl ?_
    rw [HE2.out]
    refine ⟨_, rfl, SliceOf.mono (SliceOf.keep hsl (fun j hj hl => ?_)) (fun j hj _ => ?_), kk.set3 _ _ _ _ (.inr (Nat.le_refl _))⟩
    · have hj : w.heap.size + 2 ≤ j := by simpa [New] using hj
      exact ((((Keep.refl [w.heap.size] w1).alloc _).set3 w.heap.size _ _ _ (.inl (by simp)))).block j hl (by simp; omega)
    · have hj : w.heap.size + 2 ≤ j := by simpa [New] using hj
      show w.heap.size ≤ j
      omega
/-- requests, what is left -/
def reqsR : Nat → St → List Req × St
  | 0, s => ([], s)
  | k + 1, s => ((reqsR k s).1 ++ [(reqR (reqsR k s).2).1], (reqR (reqsR k s).2).2)
theorem reqsR_len (k : Nat) (s : St) : (reqsR k s).1.length = k := by
  induction k with
  | zero => rfl
  | succ k ih => simp [reqsR, ih]
def blockR (s : St) : Bk × St :=
  let a := numR 1 1000000 s
  let b := numR 0 6 a.2
  let c := certR b.2
  let d := c.2.check (decide (c.1.v < a.1))
  let n := numR 0 3 d
  let q := reqsR n.1.toNat n.2
  (⟨a.1, b.1, c.1, q.1⟩, q.2)
theorem infoReq : (Try.prog.info? 34).map (fun i => (i.zero, i.size, i.bytes)) = some (some (.agg #[.int .i64 0, .int .i64 0, .string ⟨#[]⟩]), Rep.req.sz, 32) := by kernel_rfl
theorem reqR_rep (s : St) (w : World) (F : Nat → Prop) : Rep.req.R w F (reqR s).1 [.int .i64 (reqR s).1.c, .int .i64 (reqR s).1.s, .string (reqR s).1.b] := by
  refine ⟨rfl, ?_, ?_, ?_⟩
  · have := numR_bound 0 3 s
    show I64 (numR 0 3 s).1
    unfold I64; omega
  · have := numR_bound 1 2147483647 (numR 0 3 s).2
    show I64 (numR 1 2147483647 (numR 0 3 s).2).1
    unfold I64; omega
  · have h1 := numR_bound 0 40 (numR 1 2147483647 (numR 0 3 s).2).2
    show (cutF (numR 0 40 (numR 1 2147483647 (numR 0 3 s).2).2).1 (numR 0 40 (numR 1 2147483647 (numR 0 3 s).2).2).2).1.size ≤ M47
    have h2 : 0 ≤ (numR 0 40 (numR 1 2147483647 (numR 0 3 s).2).2).1 := by omega
    obtain ⟨m, hm⟩ := Int.eq_ofNat_of_zero_le h2
    rw [hm]
    have := cutF_len m (numR 0 40 (numR 1 2147483647 (numR 0 3 s).2).2).2
    rw [M47_eq]; omega
end Go.Proofs.Ytmpkhjfklgcmbaa
