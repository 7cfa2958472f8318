import Derived.Test.YtpndbidpennlcaaQueue7
import Derived.Test.YtpndbidpennlcaaRep17
namespace Go.Proofs.Ytpndbidpennlcaa
open Go.RowKit
set_option linter.unusedVariables false
set_option linter.unusedSimpArgs false
/-! the queue: the reference's Few -/
theorem opV17_msg (x : Op17) (v1 v2 v3 v4 : Value) (j : Nat) (v : Value) (h : (msgV x.m v1 v2 v3 v4)[j]? = some v) : (opV17 x v1 v2 v3 v4)[1 + j]? = some v := by
  have e : (opV17 x v1 v2 v3 v4).toList = .int .u8 x.k :: ((msgV x.m v1 v2 v3 v4).toList ++ [.int .i64 x.i]) := rfl
  have hj : j < (msgV x.m v1 v2 v3 v4).toList.length := by
    have := (Array.getElem?_eq_some_iff.1 h).1
    simpa using this
  rw [← Array.getElem?_toList, e, Nat.add_comm, List.getElem?_cons_succ, List.getElem?_append_left hj, Array.getElem?_toList]
  exact h
def okOp17 (x : Op17) : Bool := fewMsg x.m
def few17 (l : List Op17) (n : Nat) : Bool := (l.take 300).all okOp17 && decide (l.length ≤ n)
theorem few17_le {l : List Op17} {n : Nat} (h : few17 l n = true) (hn : n ≤ 300) : l.length ≤ n ∧ ∀ x ∈ l, okOp17 x = true := by
  simp only [few17, Bool.and_eq_true, decide_eq_true_eq] at h
  obtain ⟨h1, h2⟩ := h
  rw [List.take_of_length_le (by omega)] at h1
  exact ⟨h2, fun x hx => List.all_eq_true.1 h1 x hx⟩
theorem few17_hit {l : List Op17} {n m : Nat} (hm : m < l.length) (h2 : m < 300) (h : okOp17 l[m] = false) : few17 l n = false := by
  have : (l.take 300).all okOp17 = false := by
    rw [List.all_eq_false]
    refine ⟨l[m], ?_, by simp [h]⟩
    rw [List.mem_take_iff_getElem]
    exact ⟨m, by omega, rfl⟩
  simp [few17, this]
theorem few17_end {l : List Op17} {n : Nat} (h : ∀ j (hj : j < l.length), j < 300 → okOp17 l[j] = true) : few17 l n = decide (l.length ≤ n) := by
  have : (l.take 300).all okOp17 = true := by
    rw [List.all_eq_true]
    intro x hx
    rw [List.mem_take_iff_getElem] at hx
    obtain ⟨j, hj, rfl⟩ := hx
    exact h j (by omega) (by omega)
  simp [few17, this]
set_option maxRecDepth 100000 in
set_option maxHeartbeats 4000000 in
theorem few17_call (A : Option Addr) (l : List Op17) (c : Nat) (F : Nat → Prop) (n : Nat) (w : World) (hs : SliceOf Rep.op17 w F (.slice A l.length c) l) (hn : n ≤ 300) :
    Calls Try.prog 15 #[.slice A l.length c, .int .i64 (n : Int)] w fun e w' => e = .returned (.bool (few17 l n)) ∧ Keep [] w w' := by
  obtain ⟨_, _, e0, hl⟩ := hs.form
  clear e0
  have HS := Lib.hid hs
  clear hs
  have HH := Lib.hid (fun m (hm : m < l.length) h2 h => few17_hit (n := n) hm h2 h)
  have HN := Lib.hid (fun h => few17_end (l := l) (n := n) h)
  generalize few17 l n = out at *
  go_enter Try.func15, Try.ntmps15
  go_wp2_with fail
  go_loopw [5] (fun i wr => ∃ m : Nat, m ≤ l.length ∧ m ≤ 300 ∧ i = .int .i64 m ∧ Keep [] w wr ∧ Hid (∀ j (hj : j < l.length), j < m → okOp17 l[j] = true)) (fun i _ => l.length - (intOf i).toNat)
  case atStart => exact ⟨0, Nat.zero_le _, by omega, rfl, Keep.refl _ _, Lib.hid (fun j hj h => absurd h (Nat.not_lt_zero _))⟩
  case round =>
    obtain ⟨m, hm, hm2, rfl, kk, ho⟩ := hrel
    by_cases hlt : m < l.length
    · have hltz : (m : Int) < (l.length : Int) := by omega
      by_cases h200 : m < 300
      · have h200z : (m : Int) < 300 := by omega
        obtain ⟨g, o, v1, v2, v3, v4, rfl, hr, -, hok, -⟩ := (HS.out.keep (kk.at F (by simp))).op17_at hlt
        have hq : Hid (okOp17 l[m] = true → ∀ j (hj : j < l.length), j < m + 1 → okOp17 l[j] = true) := Lib.hid (fun h j hj hjm => by
          by_cases e : j = m
          · subst e; exact h
          · exact ho.out j hj (by omega))
        have hh := Lib.hid (HH.out m hlt h200)
        generalize l[m] = x at *
        have hrm : ∀ j v, (msgV x.m v1 v2 v3 v4)[j]? = some v → wr.cell? ⟨g, o + m * 23 + 1 + j, none⟩ = some v := fun j v hj => by
          rw [Nat.add_assoc (o + m * 23)]
          exact hr _ _ (opV17_msg x v1 v2 v3 v4 j v hj)
        obtain ⟨A1, c1, rfl, -⟩ := hok.bs.form
        obtain ⟨A2, c2, rfl, -⟩ := hok.bq.form
        obtain ⟨A3, c3, rfl, -⟩ := hok.cs.form
        obtain ⟨A4, c4, rfl, -⟩ := hok.st.form
        replace hrm := Lib.hid hrm
        replace hok := Lib.hid hok
        clear hr ho
        go_wp2_with (first
          | ((with_reducible refine wl_load 38 (.tmp 19) ?_ ?_); (with_reducible rfl); refine sx_loadR rfl 38 (.tmp 19) rfl g (o + m * 23 + 1) (msgV x.m (.slice A1 x.m.b.j.sg.length c1) (.slice A2 x.m.b.q.length c2) (.slice A3 x.m.c.sg.length c3) (.slice A4 x.m.s.ts.length c4)) _ 21 rfl hrm.out Try.underlying38 rfl zMs_size rfl ?_; (try simp only [Act.put, List.setIfInBounds_toArray, List.set_cons_zero, List.set_cons_succ])))
        refine (fewMsg_call x.m _ _ _ _ F _ hok.out).mono ?_
        rintro e w5 ⟨rfl, k5⟩
        have kk5 := kk.trans k5
        clear hrm hok
        cases hfm : fewMsg x.m with
        | false =>
          have he := hh.out (by simp [okOp17, hfm])
          subst he
          clear hfm
          go_wp2
          go_ret
          exact ⟨rfl, kk5⟩
        | true =>
          have hq2 := Lib.hid (hq.out (by simp [okOp17, hfm]))
          clear hfm hq hh
          go_wp2
          go_roundw
          case rel => exact ⟨m + 1, by omega, by omega, by go_num, kk5, hq2⟩
          case measure => simp [intOf]; omega
      · have h200z : ¬ (m : Int) < 300 := by omega
        have hbig : ¬ ((l.length : Int) ≤ (n : Int)) := by omega
        have he := HN.out (fun j hj h => ho.out j hj (by omega))
        have he2 : out = false := by rw [he]; simp; omega
        subst he2
        clear he
        go_wp2
        go_ret
        exact ⟨rfl, kk⟩
    · have hltz : ¬ (m : Int) < (l.length : Int) := by omega
      obtain rfl : m = l.length := by omega
      have he := HN.out (fun j hj h => ho.out j hj hj)
      subst he
      go_wp2
      go_ret
      exact ⟨by simp, kk⟩
end Go.Proofs.Ytpndbidpennlcaa
