import Derived.RangeFuncNested
import Derived.RangeFuncBound
import Derived.RangeFuncCalls
import Derived.RangeFuncLeaves
import Derived.RangeFuncBox
import Derived.Shelf.Abstract
import Derived.Shelf.RegionOpen
import Derived.WalkKit
import Derived.OwnWalkIn
import Derived.TacticsInMore
import Derived.LoopNIn
import Derived.LoopIn
import Derived.Maps.AppendAt
import Derived.Test.YtdhhibppcckbkaaRef
import Derived.Test.YtdhhibppcckbkaaRead
import Derived.Test.YtdhhibppcckbkaaOwn
namespace Go.Proofs.Ytdhhibppcckbkaa
open Go.RowKit Go.Shelf
set_option linter.unusedVariables false
set_option linter.unusedSimpArgs false
attribute [local go_sem] Oper.semAt_some
/-! logs: the records, as an iterator -/
/-- How long the record is that lies at a place. -/
def nextR (b : ByteArray) (i : Nat) : Option Nat :=
  if i + 4 ≤ b.size then
    let n := (be (b.extract i (i + 4)).data.toList).toNat
    if 1 ≤ n ∧ n ≤ 4000 ∧ i + 4 + n ≤ b.size then some n else none
  else none
theorem nextR_some {b : ByteArray} {i n : Nat} (h : nextR b i = some n) : i + 4 ≤ b.size ∧ be (b.extract i (i + 4)).data.toList = n ∧ 1 ≤ n ∧ n ≤ 4000 ∧ i + 4 + n ≤ b.size := by
  unfold nextR at h
  split at h
  · rename_i h1
    dsimp only at h
    split at h
    · rename_i h2
      cases h
      have := be_bound (b.extract i (i + 4)).data.toList 4 (by simp; omega)
      exact ⟨h1, by omega, h2⟩
    · cases h
  · cases h
def recsN : Nat → ByteArray → Nat → List (Nat × ByteArray)
  | 0, _, _ => []
  | k + 1, b, i => match nextR b i with
    | none => []
    | some n => (i + 4 + n, b.extract (i + 4) (i + 4 + n)) :: recsN k b (i + 4 + n)
theorem recsN_fuel (b : ByteArray) : ∀ (k k' i : Nat), b.size < i + k → b.size < i + k' → recsN k b i = recsN k' b i
  | 0, 0, _, _, _ => rfl
  | 0, k' + 1, i, h, _ => by
    have : nextR b i = none := by unfold nextR; rw [if_neg (by omega)]
    simp [recsN, this]
  | k + 1, 0, i, _, h => by
    have : nextR b i = none := by unfold nextR; rw [if_neg (by omega)]
    simp [recsN, this]
  | k + 1, k' + 1, i, h, h' => by
    unfold recsN
    cases hn : nextR b i with
    | none => rfl
    | some n => dsimp only; rw [recsN_fuel b k k' (i + 4 + n) (by omega) (by omega)]
/-- The records from a place on: where each ends, and its bytes. -/
def recsAt (b : ByteArray) (i : Nat) : List (Nat × ByteArray) := recsN (b.size + 1) b i
theorem recsAt_none {b : ByteArray} {i : Nat} (h : nextR b i = none) : recsAt b i = [] := by simp [recsAt, recsN, h]
theorem recsAt_some {b : ByteArray} {i n : Nat} (h : nextR b i = some n) : recsAt b i = (i + 4 + n, b.extract (i + 4) (i + 4 + n)) :: recsAt b (i + 4 + n) := by
  unfold recsAt
  conv => lhs; unfold recsN
  rw [h]
  dsimp only
  rw [recsN_fuel b b.size (b.size + 1) (i + 4 + n) (by omega) (by omega)]
structure Lg where
  b : ByteArray
  s : Nat
  f : Int
  g : Bool
def LogAt (w : World) (p : Nat) (x : Lg) : Prop := Blk w p #[.string x.b, .int .i64 x.s, .int .i64 x.f, .bool x.g] 77
theorem LogAt.cells {w : World} {p : Nat} {x : Lg} (h : LogAt w p x) : w.cell? ⟨p, 0, none⟩ = some (.string x.b) ∧ w.cell? ⟨p, 1, none⟩ = some (.int .i64 x.s) ∧ w.cell? ⟨p, 2, none⟩ = some (.int .i64 x.f) ∧ w.cell? ⟨p, 3, none⟩ = some (.bool x.g) :=
  ⟨Blk.cell h 0, Blk.cell h 1, Blk.cell h 2, Blk.cell h 3⟩
/-- What a round keeps: the log, the variable that leads to it. -/
def KpL (p vb : Nat) (A B : World) : Prop := B.heap[p]? = A.heap[p]? ∧ B.heap[vb]? = A.heap[vb]?
theorem cell_of_heap {A B : World} {p o : Nat} {v : Value} (h : B.heap[p]? = A.heap[p]?) (hc : A.cell? ⟨p, o, none⟩ = some v) : B.cell? ⟨p, o, none⟩ = some v :=
  (World.cell?_of_block (w := A) (a := ⟨p, o, none⟩) h).trans hc
set_option maxRecDepth 100000 in
set_option maxHeartbeats 2000000 in
theorem rec1_in (F : Fence) (n : Nat) (hF : F.fn 76) (hro : F.round = none) (hn : 1 ≤ n) (l p vb : Nat) (b : ByteArray) (hb : b.size ≤ 140737488355328) (J Jx : List (Nat × ByteArray) → World → Prop)
    (hY : ∀ pre x W, J pre W → pre.length < (recsAt b 0).length → YieldAt F (n - 1) Try.prog l #[.int .i64 (x.1 : Nat), .string x.2] W fun e W' =>
      (e = .returned (.bool true) ∧ J (pre ++ [x]) W' ∧ KpL p vb W W') ∨ (e = .returned (.bool false) ∧ Jx (pre ++ [x]) W'))
    (W : World) (hJ : AbidesFrom W.heap.size J) (hv : W.cell? ⟨vb, 0, none⟩ = some (.pointer (some ⟨p, 0, none⟩))) (hc : W.cell? ⟨p, 0, none⟩ = some (.string b)) (h0 : J [] W) :
    CallsIn F n Try.prog 76 #[.func (.yield l) #[] #[], .pointer (some ⟨vb, 0, none⟩)] W fun e W' => (∃ v, e = .returned v) ∧
      ((∃ ys, ys = recsAt b 0 ∧ J ys W') ∨ (∃ pre, pre <+: recsAt b 0 ∧ Jx pre W')) := by
  refine callsIn_of_wp Try.func76 rfl hF ?_ hro
  simp only [Try.ntmps76, List.size_toArray, List.length_cons, List.length_nil, Nat.reduceAdd, Nat.reduceSub, Array.replicate_succ, Array.replicate_zero, List.push_toArray, List.append_toArray, List.nil_append, List.cons_append]
  gi_wp2
  gi_loopw [3] (fun s wr => ∃ (i : Nat) (pre : List (Nat × ByteArray)), s = .int .i64 i ∧ i ≤ b.size ∧ Hid (recsAt b 0 = pre ++ recsAt b i) ∧ J pre wr ∧ True ∧ wr.cell? ⟨vb, 0, none⟩ = some (.pointer (some ⟨p, 0, none⟩)) ∧ wr.cell? ⟨p, 0, none⟩ = some (.string b))
    (fun s wr => b.size - (intOf s).toNat)
  case atStart => exact ⟨0, [], rfl, Nat.zero_le _, Lib.hid rfl, h0, trivial, hv, hc⟩
  case round =>
    obtain ⟨i, pre, rfl, hi, hx, hJs, hsz, hvr, hcr⟩ := hrel
    by_cases h4 : i + 4 ≤ b.size
    · have h4z : (4 : Int) ≤ (b.size : Int) - (i : Int) := by omega
      obtain ⟨w2, c, hcv, k2, hcell⟩ := conv_bytes wr (b.extract i (i + 4))
      have hts : (b.extract i (i + 4)).size = 4 := by simp; omega
      have hgr : wr.grownBy w2 none := ⟨k2.os, k2.tape, k2.output, k2.size, fun j hj _ => k2.block j hj (by simp)⟩
      have hJ2 : J pre w2 := hJ pre wr w2 none hJs hgr (fun r e => by cases e)
      have hv2 := k2.cell (by simp) hvr
      have hc2 := k2.cell (by simp) hcr
      have hz2 := k2.size
      gi_wp2
      have HN : Hid (∀ m : Nat, be (b.extract i (i + 4)).data.toList = m → nextR b i = if 1 ≤ m ∧ m ≤ 4000 ∧ i + 4 + m ≤ b.size then some m else none) := Lib.hid (fun m hm => by
        unfold nextR
        rw [if_pos h4]
        dsimp only
        rw [hm]
        rfl)
      clear hcv
      generalize b.extract i (i + 4) = t at *
      gi_loop [4, 25] (fun n j => ∃ k : Nat, k ≤ t.size ∧ j = .int .i64 k ∧ n = .int .i64 (be (t.data.toList.take k))) (fun _ j => t.size - (intOf j).toNat)
      case atStart => exact ⟨0, Nat.zero_le _, rfl, rfl⟩
      case round =>
        obtain ⟨k, hk, rfl, rfl⟩ := hrel
        by_cases hlt : k < t.size
        · have hc := hcell k hlt
          have hb := be_bound (t.data.toList.take k) 3 (by simp; omega)
          have HS := Lib.hid (be_take t k hlt)
          have HO : Hid (bits .or .i64 (be (t.data.toList.take k) * 256) (wrap64 ((t.data[k]?.getD 0).toNat : Int)) = be (t.data.toList.take k) * 256 + (t.data[k].toNat : Int)) := Lib.hid (by
            rw [show t.data[k]?.getD 0 = t.data[k] from by rw [Array.getElem?_eq_getElem (show k < t.data.size from hlt)]; rfl]
            exact or_byte (be (t.data.toList.take k)) t.data[k].toNat hb.1 hb.2 (t.data[k].toNat_lt))
          gi_wp2
          go_round
          case rel => exact ⟨k + 1, by omega, by go_num, by rw [HS.out, HO.out]⟩
          case measure => simp [intOf]; omega
        · have hk' : k = t.size := by omega
          subst hk'
          have ht : be (t.data.toList.take t.size) = be t.data.toList := by rw [List.take_of_length_le (by simp)]
          rw [ht]
          clear ht
          have hbd := be_bound t.data.toList 4 (by simp; omega)
          obtain ⟨m, hm⟩ : ∃ m : Nat, be t.data.toList = m := Int.eq_ofNat_of_zero_le hbd.1
          rw [hm]
          have HM := Lib.hid (HN.out m hm)
          clear hcell hm hbd HN
          by_cases a1 : 1 ≤ m
          · have a1z : ¬ (m : Int) < 1 := by omega
            by_cases a2 : m ≤ 4000
            · have a2z : ¬ (4000 : Int) < (m : Int) := by omega
              by_cases a3 : i + 4 + m ≤ b.size
              · have a3z : ¬ ((b.size : Int) - (i : Int) - 4 < (m : Int)) := by omega
                have hnext : nextR b i = some m := by rw [HM.out, if_pos ⟨a1, a2, a3⟩]
                have hrec := recsAt_some hnext
                obtain ⟨fn, tmps, assign, body, hy, hR⟩ := hY pre (i + 4 + m, b.extract (i + 4) (i + 4 + m)) w2 hJ2 (by rw [hx.out, hrec]; simp)
                dsimp only at hy
                have e1 : ((i + 4 + m : Nat) : Int) = (i : Int) + (4 + (m : Int)) := by omega
                have e2 : b.extract (i + 4) (i + 4 + m) = b.extract (i + (4 + m) - m) (i + (4 + m)) := by
                  rw [show i + (4 + m) - m = i + 4 by omega, show i + (4 + m) = i + 4 + m by omega]
                rw [e1, e2] at hy
                have e1 := Lib.hid e1
                clear e2
                have HR := Lib.hid hR
                have HX := Lib.hid hrec
                clear hR hrec hnext
                gi_wp2
                refine HR.out.mono ?_
                rintro e W3 (⟨rfl, hJ3, hk3⟩ | ⟨rfl, hJx3⟩)
                · have hv3 := cell_of_heap hk3.2 hv2
                  have hc3 := cell_of_heap hk3.1 hc2
                  gi_wp2
                  go_roundw
                  case rel => exact ⟨i + 4 + m, _, by rw [e1.out], a3, Lib.hid (by rw [hx.out, HX.out]; simp), hJ3, trivial, hv3, hc3⟩
                  case measure => simp [intOf]; omega
                · gi_wp2
                  refine bodyPost_ret (results_none rfl _ _ _) rfl ?_
                  exact ⟨⟨_, rfl⟩, .inr ⟨_, ⟨recsAt b (i + 4 + m), by rw [hx.out, HX.out]; simp⟩, hJx3⟩⟩
              · have a3z : (b.size : Int) - (i : Int) - 4 < (m : Int) := by omega
                have hnone : nextR b i = none := by rw [HM.out, if_neg (fun h => a3 h.2.2)]
                have e : recsAt b 0 = pre := by rw [hx.out, recsAt_none hnone, List.append_nil]
                have HQ := Lib.hid e
                clear e hnone
                gi_wp2
                refine bodyPost_ret (results_none rfl _ _ _) rfl ?_
                exact ⟨⟨_, rfl⟩, .inl (by rw [HQ.out]; exact hJ2)⟩
            · have a2z : (4000 : Int) < (m : Int) := by omega
              have hnone : nextR b i = none := by rw [HM.out, if_neg (fun h => a2 h.2.1)]
              have e : recsAt b 0 = pre := by rw [hx.out, recsAt_none hnone, List.append_nil]
              have HQ := Lib.hid e
              clear e hnone
              gi_wp2
              refine bodyPost_ret (results_none rfl _ _ _) rfl ?_
              exact ⟨⟨_, rfl⟩, .inl (by rw [HQ.out]; exact hJ2)⟩
          · have a1z : (m : Int) < 1 := by omega
            have hnone : nextR b i = none := by rw [HM.out, if_neg (fun h => a1 h.1)]
            have e : recsAt b 0 = pre := by rw [hx.out, recsAt_none hnone, List.append_nil]
            have HQ := Lib.hid e
            clear e hnone
            gi_wp2
            refine bodyPost_ret (results_none rfl _ _ _) rfl ?_
            exact ⟨⟨_, rfl⟩, .inl (by rw [HQ.out]; exact hJ2)⟩
    · have h4z : ¬ (4 : Int) ≤ (b.size : Int) - (i : Int) := by omega
      have hnone : nextR b i = none := by unfold nextR; rw [if_neg h4]
      gi_wp2
      go_end0
      have e : recsAt b 0 = pre := by rw [hx.out, recsAt_none hnone, List.append_nil]
      exact ⟨⟨_, rfl⟩, .inl (by rw [e]; exact hJs)⟩
end Go.Proofs.Ytdhhibppcckbkaa
