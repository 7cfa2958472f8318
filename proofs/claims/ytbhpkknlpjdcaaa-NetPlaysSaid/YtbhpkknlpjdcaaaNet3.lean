import Derived.Test.YtbhpkknlpjdcaaaNet2
import Derived.Test.YtbhpkknlpjdcaaaStrcR
namespace Go.Proofs.Ytbhpkknlpjdcaaa
open Go.RowKit
set_option linter.unusedVariables false
set_option linter.unusedSimpArgs false
/-! net: Put -/
theorem right_self (m : Ms) : readMsgF (msgF m) = (m, 0) ↔ rightMsg m = true := by
  constructor
  · intro h
    rcases M3_holds (msgF m) with h1 | ⟨x, h1, h2, h3⟩
    · rw [h1] at h; simp at h
    · rw [h1] at h
      simp only [Prod.mk.injEq, and_true] at h
      rw [← h]; exact h2
  · exact M2_holds m
/-- A message is put in: what is then, and how many were. -/
def putS (x : List ByteArray × Nat) (m : Ms) : List ByteArray × Nat := if rightMsg m = true ∧ x.1.length < 2000 then (x.1 ++ [msgF m], x.2 + 1) else x
def putL (xs : List ByteArray) (l : List Ms) : List ByteArray × Nat := l.foldl putS (xs, 0)
theorem putL_take (xs : List ByteArray) (l : List Ms) (k : Nat) (hk : k < l.length) : putL xs (l.take (k + 1)) = putS (putL xs (l.take k)) l[k] := by
  unfold putL
  rw [List.take_succ_eq_append_getElem hk, List.foldl_append]
  rfl
theorem putS_le (x : List ByteArray × Nat) (m : Ms) : (putS x m).2 ≤ x.2 + 1 := by
  unfold putS; split <;> simp
theorem putL_le (xs : List ByteArray) (l : List Ms) : ∀ k, k ≤ l.length → (putL xs (l.take k)).2 ≤ k := by
  intro k
  induction k with
  | zero => intro _; simp [putL]
  | succ k ih => intro hk; rw [putL_take xs l k hk]; have := putS_le (putL xs (l.take k)) l[k]; have := ih (by omega); omega
/-- What Put asks of a message. -/
structure MsBig (m : Ms) : Prop where
  sz : MsSz m
  le : (msgF m).size ≤ M47
def NP (w0 w : World) (S0 : List Nat) (n : Nat) (xs : List ByteArray) (s : Int) : Prop := ∃ S, NS w S n xs s ∧ (∀ k, k ∈ S → k ∈ S0 ∨ w0.heap.size ≤ k) ∧ Keep S0 w0 w
theorem NP.next {w0 w w' : World} {S0 : List Nat} {n : Nat} {xs : List ByteArray} {s : Int} (h : NP w0 w S0 n xs s) (k : Keep [] w w') : NP w0 w' S0 n xs s := by
  obtain ⟨S, h1, h2, h3⟩ := h
  exact ⟨S, h1.keep k (by simp), h2, h3.new k (by simp)⟩
theorem NP.add {w0 w : World} {S0 : List Nat} {n : Nat} {xs : List ByteArray} {s : Int} (h : NP w0 w S0 n xs s) (b : ByteArray) (hb : b.size ≤ M47) :
    Calls Try.prog 38 #[.pointer (some ⟨n, 0, none⟩), .string b] w fun e w' => e = .returned (.bool (decide (xs.length < 2000))) ∧ NP w0 w' S0 n (addN xs b) s := by
  obtain ⟨S, h1, h2, h3⟩ := h
  refine (nadd_NS b h1 hb).mono ?_
  rintro e w' ⟨rfl, S', q1, q2, q3⟩
  refine ⟨rfl, S', q1, fun k hk => ?_, h3.new q3 h2⟩
  rcases q2 k hk with h | h
  · exact h2 k h
  · exact .inr (Nat.le_trans h3.size h)
set_option maxHeartbeats 4000000 in
theorem nput_call (n : Nat) (A : Option Addr) (c : Nat) (l : List Ms) (F : Nat → Prop) (S : List Nat) (xs : List ByteArray) (s : Int) (w : World) (h : NS w S n xs s) (hl : SliceOf Rep.ms w F (.slice A l.length c) l)
    (hF : ∀ i, F i → i < w.heap.size → i ∉ S) (hm : ∀ m, m ∈ l → MsBig m) (hs : 0 ≤ s ∧ s ≤ 1000000) (hn : l.length ≤ 1000000) :
    Calls Try.prog 11 #[.pointer (some ⟨n, 0, none⟩), .slice A l.length c] w fun e w' => e = .returned (.int .i64 ((putL xs l).2 : Nat)) ∧ NP w w' S n (putL xs l).1 (s + (putL xs l).2) := by
  have HL := Lib.hid hl
  have HF := Lib.hid hF
  have HM := Lib.hid hm
  have H0 : NP w w S n xs s := ⟨S, h, fun k hk => .inl hk, Keep.refl _ _⟩
  replace H0 := Lib.hid H0
  obtain ⟨hs1, hs2⟩ := hs
  clear hl hF hm h
  go_enter Try.func11, Try.ntmps11
  go_wp2_with fail
  go_loopw [5, 11] (fun cc i wr => ∃ k : Nat, k ≤ l.length ∧ i = .int .i64 k ∧ ∃ ys q, cc = .int .i64 (q : Nat) ∧ q ≤ k ∧ Hid (putL xs (l.take k) = (ys, q)) ∧ Hid (NP w wr S n ys s)) (fun _ i _ => l.length - (intOf i).toNat)
  case atStart => exact ⟨0, Nat.zero_le _, rfl, xs, 0, rfl, Nat.le_refl _, Lib.hid rfl, H0⟩
  case round =>
    obtain ⟨k, hk, rfl, ys, q, rfl, hq, hput, hnp⟩ := hrel
    by_cases hlt : k < l.length
    · have hltz : (k : Int) < (l.length : Int) := by omega
      obtain ⟨S1, n1, n2, n3⟩ := hnp.out
      have hl1 := HL.out.keep (fun i hFi hi => n3.block i hi (HF.out i hFi hi))
      obtain ⟨g, o, v1, v2, v3, v4, rfl, hr, hok⟩ := hl1.ms_at hlt
      have hbig := HM.out l[k] (List.getElem_mem hlt)
      have hput2 := putL_take xs l k hlt
      rw [hput.out] at hput2
      generalize l[k] = m at *
      obtain ⟨A1, c1, rfl, -⟩ := hok.bs.form
      obtain ⟨A2, c2, rfl, -⟩ := hok.bq.form
      obtain ⟨A3, c3, rfl, -⟩ := hok.cs.form
      obtain ⟨A4, c4, rfl, -⟩ := hok.st.form
      replace hput2 := Lib.hid hput2
      replace hok := Lib.hid hok
      replace hr := Lib.hid hr
      clear n1 n2 n3 hl1
      go_upto_region 5 with (first
        | ((with_reducible refine wl_load 39 (.tmp 13) ?_ ?_); (with_reducible rfl); refine sx_loadR rfl 39 (.tmp 13) rfl g (o + k * 21) (msgV m (.slice A1 m.b.j.sg.length c1) (.slice A2 m.b.q.length c2) (.slice A3 m.c.sg.length c3) (.slice A4 m.s.ts.length c4)) _ 21 rfl hr.out Try.underlying39 rfl zMs_size rfl ?_; (try simp only [Act.put, List.setIfInBounds_toArray, List.set_cons_zero, List.set_cons_succ]))
        | ((with_reducible refine wl_alloc 39 ?_ ?_); (with_reducible rfl); refine sx_alloc rfl 39 rfl _ 21 zMs zMs_info rfl ?_; intro w5 b5 k5 z5; clear z5; (try simp only [Act.put, List.setIfInBounds_toArray, List.set_cons_zero, List.set_cons_succ]))
        | ((with_reducible refine wl_store 39 (.tmp 7) (.tmp 14) ?_ ?_); (with_reducible rfl); refine sx_storeW rfl 39 (.tmp 7) (.tmp 14) rfl wr.heap.size (msgV m (.slice A1 m.b.j.sg.length c1) (.slice A2 m.b.q.length c2) (.slice A3 m.c.sg.length c3) (.slice A4 m.s.ts.length c4)) zMs _ 21 rfl rfl b5 zMs_size rfl rfl rfl ?_; intro w6 b6 k6 z6; clear z6; (try simp only [Act.put, List.setIfInBounds_toArray, List.set_cons_zero, List.set_cons_succ])))
      have kk6 : Keep [] wr w6 := k5.new k6 (fun i hi => .inr (by simp at hi; omega))
      clear b5 k5 k6 hr
      go_wp2_with (first
        | ((with_reducible refine wl_load 39 (.tmp 7) ?_ ?_); (with_reducible rfl); refine sx_loadW rfl 39 (.tmp 7) rfl wr.heap.size (msgV m (.slice A1 m.b.j.sg.length c1) (.slice A2 m.b.q.length c2) (.slice A3 m.c.sg.length c3) (.slice A4 m.s.ts.length c4)) _ _ 21 rfl b6 Try.underlying39 rfl zMs_size rfl ?_; (try simp only [Act.put, List.setIfInBounds_toArray, List.set_cons_zero, List.set_cons_succ])))
      refine (msg_call m _ _ _ _ F _ (hok.out.keep (kk6.at F (by simp))) hbig.sz).mono ?_
      rintro e w7 ⟨rfl, k7⟩
      have b7 := b6.keep k7 (by simp)
      have kk7 := kk6.trans k7
      clear b6 k7 kk6
      go_wp2_with (first
        | ((with_reducible refine wl_load 39 (.tmp 7) ?_ ?_); (with_reducible rfl); refine sx_loadW rfl 39 (.tmp 7) rfl wr.heap.size (msgV m (.slice A1 m.b.j.sg.length c1) (.slice A2 m.b.q.length c2) (.slice A3 m.c.sg.length c3) (.slice A4 m.s.ts.length c4)) _ _ 21 rfl b7 Try.underlying39 rfl zMs_size rfl ?_; (try simp only [Act.put, List.setIfInBounds_toArray, List.set_cons_zero, List.set_cons_succ])))
      refine (right_call m _ _ _ _ F (msgF m) _ (hok.out.keep (kk7.at F (by simp)))).mono ?_
      rintro e w8 ⟨r, rfl, hrr, k8⟩
      have kk8 := kk7.trans k8
      rw [right_self] at hrr
      have hnp8 := Lib.hid (hnp.out.next kk8)
      clear b7 k8 kk7 hnp
      cases r
      · have hput3 : Hid (putL xs (l.take (k + 1)) = (ys, q)) := Lib.hid (by rw [hput2.out]; unfold putS; rw [if_neg (by intro h; exact absurd (hrr.2 h.1) (by simp))])
        clear hrr hput2 hput
        go_wp2
        go_roundw
        case rel => exact ⟨k + 1, by omega, by go_num, ys, q, by go_num, by omega, hput3, hnp8⟩
        case measure => simp [intOf]; omega
      · have hrm : rightMsg m = true := hrr.1 rfl
        have HA := Lib.hid (hnp8.out.add (msgF m) hbig.le)
        by_cases hfull : ys.length < 2000
        · have hput3 : Hid (putL xs (l.take (k + 1)) = (ys ++ [msgF m], q + 1)) := Lib.hid (by rw [hput2.out]; unfold putS; rw [if_pos ⟨hrm, hfull⟩])
          have e1 : addN ys (msgF m) = ys ++ [msgF m] := if_pos hfull
          rw [e1, decide_eq_true hfull] at HA
          clear hrr hput2 hput hrm e1 hfull
          go_wp2_with fail
          refine HA.out.mono ?_
          rintro e w9 ⟨rfl, h9⟩
          replace h9 := Lib.hid h9
          go_wp2
          go_roundw
          case rel => exact ⟨k + 1, by omega, by go_num, ys ++ [msgF m], q + 1, by go_num, by omega, hput3, h9⟩
          case measure => simp [intOf]; omega
        · have hput3 : Hid (putL xs (l.take (k + 1)) = (ys, q)) := Lib.hid (by rw [hput2.out]; unfold putS; rw [if_neg (by intro h; exact hfull h.2)])
          have e1 : addN ys (msgF m) = ys := if_neg hfull
          rw [e1, decide_eq_false hfull] at HA
          clear hrr hput2 hput hrm e1 hfull
          go_wp2_with fail
          refine HA.out.mono ?_
          rintro e w9 ⟨rfl, h9⟩
          replace h9 := Lib.hid h9
          go_wp2
          go_roundw
          case rel => exact ⟨k + 1, by omega, by go_num, ys, q, by go_num, by omega, hput3, h9⟩
          case measure => simp [intOf]; omega
    · have hltz : ¬ (k : Int) < (l.length : Int) := by omega
      obtain rfl : k = l.length := by omega
      have e0 := hput.out
      rw [List.take_length] at e0
      replace e0 := Lib.hid e0
      obtain ⟨S1, ⟨B, c2, n1, n4, n5, rfl⟩, n2, n3⟩ := hnp.out
      have d1 : wr.cell? ⟨n, 1, none⟩ = some (.int .i64 s) := Blk.cell n1 1
      have f1 := Blk.frozen n1 1
      replace n1 := Lib.hid n1
      replace n4 := Lib.hid n4
      replace n3 := Lib.hid n3
      have hqz : RowKit.wrap64 (s + (q : Int)) = s + (q : Int) := by unfold RowKit.wrap64; omega
      clear hnp H0
      go_wp2
      go_ret
      rw [e0.out]
      have sk : Keep [n] wr (wr.setCell ⟨n, 1, none⟩ (.int .i64 (s + (q : Nat)))) := (Keep.refl [n] wr).setCell _ _ (.inl (by simp))
      refine ⟨rfl, _, ⟨B, c2, by simpa [NAt] using Blk.set n1.out 1 (.int .i64 (s + (q : Nat))), n4.out.strKeep (fun i hi => sk.block i (n4.out.lt i hi).2 (by simp; rintro rfl; exact n5 hi)), n5, rfl⟩, n2, ?_⟩
      exact n3.out.new sk (fun i hi => by simp at hi; subst hi; exact n2 _ (by simp))
end Go.Proofs.Ytbhpkknlpjdcaaa
