import Derived.Test.YthkbgokkghidbaaSafe9
import Derived.Test.YthkbgokkghidbaaPlan
namespace Go.Proofs.Ythkbgokkghidbaa
open Go.RowKit Go.Shelf
set_option linter.unusedVariables false
set_option linter.unusedSimpArgs false
/-! the law SafePlays -/
def Rep.op9 : Rep Op9 where
  sz := 3
  R := fun _ _ x cs => cs = [.int .u8 x.k, .string x.b, .int .i64 x.n] ∧ (0 ≤ x.k ∧ x.k ≤ 255) ∧ x.b.size ≤ M47 ∧ I64 x.n
  len := by rintro _ _ _ _ ⟨rfl, _⟩; rfl
  keep := fun h _ => h
  mono := fun h _ => h
theorem SliceOf.op9_at {w : World} {F : Nat → Prop} {A : Option Addr} {n c : Nat} {xs : List Op9} (h : SliceOf Rep.op9 w F (.slice A n c) xs) {i : Nat} (hi : i < xs.length) :
    ∃ g o, A = some ⟨g, o, none⟩ ∧ w.cell? ⟨g, o + i * 3, none⟩ = some (.int .u8 xs[i].k) ∧ w.cell? ⟨g, o + i * 3 + 1, none⟩ = some (.string xs[i].b) ∧ w.cell? ⟨g, o + i * 3 + 2, none⟩ = some (.int .i64 xs[i].n) ∧
      (0 ≤ xs[i].k ∧ xs[i].k ≤ 255) ∧ xs[i].b.size ≤ 140737488355328 ∧ I64 xs[i].n := by
  obtain ⟨g, o, cs, rfl, _, _, ⟨rfl, h1, h2, h3⟩, hc⟩ := h.at hi
  exact ⟨g, o, rfl, hc 0 _ rfl, hc 1 _ rfl, hc 2 _ rfl, h1, h2, h3⟩
def okOp (x : Op9) : Bool := decide (x.b.size ≤ 4100)
def fewB (l : List Op9) (n : Nat) : Bool := (l.take 200).all okOp && decide (l.length ≤ n)
theorem fewB_le {l : List Op9} {n : Nat} (h : fewB l n = true) (hn : n ≤ 200) : l.length ≤ n ∧ ∀ x ∈ l, x.b.size ≤ 4100 := by
  simp only [fewB, Bool.and_eq_true, decide_eq_true_eq] at h
  obtain ⟨h1, h2⟩ := h
  rw [List.take_of_length_le (by omega)] at h1
  refine ⟨h2, fun x hx => ?_⟩
  have := List.all_eq_true.1 h1 x hx
  simpa [okOp] using this
theorem fewB_hit {l : List Op9} {n m : Nat} (hm : m < l.length) (h2 : m < 200) (h : okOp l[m] = false) : fewB l n = false := by
  have : (l.take 200).all okOp = false := by
    rw [List.all_eq_false]
    refine ⟨l[m], ?_, by simp [h]⟩
    rw [List.mem_take_iff_getElem]
    exact ⟨m, by omega, rfl⟩
  simp [fewB, this]
theorem fewB_end {l : List Op9} {n : Nat} (h : ∀ j (hj : j < l.length), j < 200 → okOp l[j] = true) : fewB l n = decide (l.length ≤ n) := by
  have : (l.take 200).all okOp = true := by
    rw [List.all_eq_true]
    intro x hx
    rw [List.mem_take_iff_getElem] at hx
    obtain ⟨j, hj, rfl⟩ := hx
    exact h j (by omega) (by omega)
  simp [fewB, this]
set_option maxHeartbeats 2000000 in
theorem few_call (A : Option Addr) (l : List Op9) (c : Nat) (F : Nat → Prop) (n : Nat) (w : World) (hs : SliceOf Rep.op9 w F (.slice A l.length c) l) (hn : n ≤ 200) :
    Calls Try.prog 13 #[.slice A l.length c, .int .i64 (n : Int)] w fun e w' => e = .returned (.bool (fewB l n)) ∧ Keep [] w w' := by
  obtain ⟨_, _, e0, hl⟩ := hs.form
  clear e0
  have HS := Lib.hid hs
  clear hs
  have HH := Lib.hid (fun m (hm : m < l.length) h2 h => fewB_hit (n := n) hm h2 h)
  have HN := Lib.hid (fun h => fewB_end (l := l) (n := n) h)
  generalize fewB l n = out at *
  go_enter Try.func13, Try.ntmps13
  go_wp2
  go_loopw [5] (fun i wr => ∃ m : Nat, m ≤ l.length ∧ m ≤ 200 ∧ i = .int .i64 m ∧ Keep [] w wr ∧ Hid (∀ j (hj : j < l.length), j < m → okOp l[j] = true)) (fun i _ => l.length - (intOf i).toNat)
  case atStart => exact ⟨0, Nat.zero_le _, by omega, rfl, Keep.refl _ _, Lib.hid (fun j hj h => absurd h (Nat.not_lt_zero _))⟩
  case round =>
    obtain ⟨m, hm, hm2, rfl, kk, ho⟩ := hrel
    by_cases hlt : m < l.length
    · have hltz : (m : Int) < (l.length : Int) := by omega
      by_cases h200 : m < 200
      · have h200z : (m : Int) < 200 := by omega
        obtain ⟨g, o, rfl, c0, c1, c2, i1, i2, i3⟩ := (HS.out.keep (fun i hF hi => kk.block i hi (by simp))).op9_at hlt
        have hq : Hid (okOp l[m] = true → ∀ j (hj : j < l.length), j < m + 1 → okOp l[j] = true) := Lib.hid (fun h j hj hjm => by
          by_cases e : j = m
          · subst e; exact h
          · exact ho.out j hj (by omega))
        have hh := Lib.hid (HH.out m hlt h200)
        generalize l[m] = x at *
        obtain ⟨k, xb, xn⟩ := x
        dsimp only at *
        clear i1 i3 ho
        by_cases hL : 4100 < xb.size
        · have hLz : (4100 : Int) < (xb.size : Int) := by omega
          have he := hh.out (by simp [okOp]; omega)
          subst he
          go_wp2
          go_ret
          exact ⟨rfl, kk⟩
        · have hLz : ¬ (4100 : Int) < (xb.size : Int) := by omega
          go_wp2
          go_roundw
          case rel => exact ⟨m + 1, by omega, by omega, by go_num, kk, Lib.hid (hq.out (by simp [okOp]; omega))⟩
          case measure => simp [intOf]; omega
      · have h200z : ¬ (m : Int) < 200 := by omega
        have hbig : ¬ ((l.length : Int) ≤ (n : Int)) := by omega
        have he := HN.out (fun j hj h => ho.out j hj (by omega))
        have he2 : out = false := by rw [he]; simp; omega
        subst he2
        clear he
        go_wp2
        go_ret
        exact ⟨rfl, kk⟩
    · have hltz : ¬ (m : Int) < (l.length : Int) := by omega
      obtain rfl : m = l.length := by omega
      have he := HN.out (fun j hj h => ho.out j hj hj)
      subst he
      go_wp2
      go_ret
      exact ⟨by simp, kk⟩
theorem like_start (b : ByteArray) : Like ⟨b, b.size, -1, false⟩ ⟨b, ⟨#[]⟩, -1, false⟩ :=
  ⟨(ba_nil b).symm, rfl, rfl, fun _ => rfl, by show (-1 : Int) ≤ -1; omega, by show (-1 : Int) ≤ _; omega, by show (-1 : Int) ≤ -1; omega, by show (-1 : Int) ≤ _; omega⟩
set_option maxRecDepth 100000 in
set_option maxHeartbeats 8000000 in
theorem safePlays_call (b : ByteArray) (A : Option Addr) (l : List Op9) (c : Nat) (F : Nat → Prop) (w : World) (hb : b.size ≤ 140737488355328) (ha : SliceOf Rep.op9 w F (.slice A l.length c) l) :
    Calls Try.prog 4 #[.string b, .slice A l.length c] w fun e w' => e = .returned (.bool true) ∧ Keep [] w w' := by
  have hfa : ∀ w', Keep [] w w' → Calls Try.prog 13 #[.slice A l.length c, .int .i64 60] w' fun e w'' => e = .returned (.bool (fewB l 60)) ∧ Keep [] w' w'' := fun w' k => few_call A l c F 60 w' (ha.keep (k.at F (by simp))) (by omega)
  obtain ⟨_, _, e0, hla⟩ := ha.form
  clear e0
  have HA := Lib.hid ha
  clear ha
  by_cases hlb : 500 < b.size
  · have hlz : (500 : Int) < (b.size : Int) := by omega
    go_enter Try.func4, Try.ntmps4
    go_wp2_with (first | (go_at_call 6; refine (awake_call _).mono ?_; rintro e w1 ⟨rfl, k1⟩) | go_in)
    go_ret
    exact ⟨rfl, Keep.trans ‹Keep [] w _› k1⟩
  have hlz : ¬ (500 : Int) < (b.size : Int) := by omega
  cases h1 : fewB l 60 with
  | false =>
    rw [h1] at hfa
    go_enter Try.func4, Try.ntmps4
    go_wp2_with (first | (go_at_call 6; refine (awake_call _).mono ?_; rintro e w1 ⟨rfl, k1⟩) | (go_at_call 13; refine (hfa _ k1).mono ?_; rintro e w2 ⟨rfl, k2⟩; have k12 := k1.trans k2) | go_in)
    go_ret
    exact ⟨rfl, k12.trans k1⟩
  | true =>
    rw [h1] at hfa
    obtain ⟨n1, q1⟩ := fewB_le h1 (by omega)
    have Q1 := Lib.hid q1
    clear q1 h1
    go_enter Try.func4, Try.ntmps4
    go_wp2_with (first | (go_at_call 6; refine (awake_call _).mono ?_; rintro e w1 ⟨rfl, k1⟩) | (go_at_call 13; refine (hfa _ k1).mono ?_; rintro e w2 ⟨rfl, k2⟩; have k12 := k1.trans k2) | (go_at_call 7; refine (of_call b _).mono ?_; rintro e w3 ⟨p, rfl, hpw, hp3, k3⟩) | go_in)
    have kw3 := k12.trans k3
    have hz3 := kw3.size
    have plt := Blk.lt hp3
    have hpw' : w.heap.size ≤ p := by have := k12.size; omega
    have hq0 : RfAt (w3.alloc (.cells #[.string b, .string ⟨#[]⟩, .int .i64 (-1), .bool false] 39)) w3.heap.size ⟨b, ⟨#[]⟩, -1, false⟩ := Blk.new w3 _ _
    have hp0 := hp3.keep ((Keep.refl [] w3).alloc (.cells #[.string b, .string ⟨#[]⟩, .int .i64 (-1), .bool false] 39)) (by simp)
    have kw0 := kw3.alloc (.cells #[.string b, .string ⟨#[]⟩, .int .i64 (-1), .bool false] 39)
    clear hfa hp3
    obtain ⟨q, hq⟩ : ∃ q, q = w3.heap.size := ⟨_, rfl⟩
    rw [← hq] at hq0 plt
    have hqw : w.heap.size ≤ q := by omega
    have hpq : p ≠ q := by omega
    rw [← hq]
    clear hq
    go_loopw [7] (fun i wr => ∃ k : Nat, k ≤ l.length ∧ i = .int .i64 k ∧ ∃ x y, LogAt wr p x ∧ RfAt wr q y ∧ Hid (Like x y ∧ x.b.size ≤ 500 + 4004 * k ∧ x.s ≤ x.b.size) ∧ Keep [] w wr) (fun i _ => l.length - (intOf i).toNat)
    case atStart => exact ⟨0, Nat.zero_le _, rfl, _, _, hp0, hq0, Lib.hid ⟨like_start b, by show b.size ≤ _; omega, Nat.le_refl _⟩, kw0⟩
    case round =>
      obtain ⟨k, hk, rfl, x, y, hpx, hqy, hH, kk⟩ := hrel
      rename World => wr
      by_cases hlt : k < l.length
      · have hltz : (k : Int) < (l.length : Int) := by omega
        obtain ⟨g, o, rfl, c0, c1, c2, i1, i2, i3⟩ := HA.out.op9_at hlt
        have hq4 := Q1.out _ (List.getElem_mem hlt)
        generalize l[k] = op at *
        have hmv : ∀ w', Keep [] w w' → w'.cell? ⟨g, o + k * 3, none⟩ = some (.int .u8 op.k) ∧ w'.cell? ⟨g, o + k * 3 + 1, none⟩ = some (.string op.b) ∧ w'.cell? ⟨g, o + k * 3 + 2, none⟩ = some (.int .i64 op.n) :=
          fun w' h => ⟨h.cell (by simp) c0, h.cell (by simp) c1, h.cell (by simp) c2⟩
        obtain ⟨d0, d1, d2⟩ := hmv _ kk
        obtain ⟨hlk, hsz, hss⟩ := hH.out
        have hlk2 := hlk
        obtain ⟨l1, l2, l3, l4, l5, l6, l7, l8⟩ := hlk2
        have hsum : y.a.size + y.w.size ≤ 900000 := by rw [l1] at hsz; simp at hsz; omega
        have hc := call_call p x op wr.drew hpx i1 ⟨l5, l6⟩ i2 (by omega) hss
        have hd := fun w' (h : RfAt w' q y) => do_call q y op w' h i1 ⟨l7, l8⟩ i2 hsum
        obtain ⟨s1, s2⟩ := like_step hlk op i3.2
        have s3 := stepL_size x op hss
        generalize stepL x op = X at *
        generalize doF y op = Y at *
        obtain ⟨X1, X2⟩ := X
        obtain ⟨Y1, Y2⟩ := Y
        dsimp only at s1 s2 s3 hc
        subst s1
        obtain ⟨m1, m2, m3, m4, m5, m6, m7, m8⟩ := s2
        have hL2 : (X2.b.size : Int) = (Y2.a.size : Int) + (Y2.w.size : Int) := by rw [m1]; simp
        have hln := fun w' (h : LogAt w' p X2) => len_call p X2 w' h
        rw [hL2] at hln
        have hbd : X2.b.size ≤ 500 + 4004 * (k + 1) := by omega
        have hbd6 : X2.b.size ≤ 1000000 := by omega
        have HB := Lib.hid hbd
        have HLK : Hid (Like X2 Y2 ∧ X2.b.size ≤ 500 + 4004 * (k + 1) ∧ X2.s ≤ X2.b.size) := Lib.hid ⟨⟨m1, m2, m3, m4, m5, m6, m7, m8⟩, hbd, s3.2⟩
        have hrg := fun w' (h : LogAt w' p X2) (hg : X2.g = true) => Records_gone p X2 w' h hg
        have hrr := fun w' (h : LogAt w' p X2) (hg : X2.g = false) => Records_call p X2 w' h hg hbd6
        have hsp := fun w' => split_call (X2.b.size + 1) X2.b (by omega) hbd6 w'
        have hrl := recs_len X2.b
        have hrl2 : (recs X2.b).length ≤ 1000000 := by omega
        clear hrl
        rw [m1] at hsp hrr hrl2
        generalize recs (Y2.a ++ Y2.w) = rs at hsp hrr hrl2
        have HR2 := Lib.hid hrl2
        clear hrl2
        have M3 := Lib.hid m3
        have M1 := Lib.hid m1
        have hd2 : ∀ w', RfAt w' q y → Calls Try.prog 15 #[.pointer (some ⟨q, 0, none⟩), .agg #[.int .u8 op.k, .string op.b, .int .i64 op.n]] w' fun e w'' => e = .returned (.int .i64 X1) ∧ RfAt w'' q Y2 ∧ Keep [q] w' w'' := fun w' h => (hd w' h).mono fun e w'' h' => h'
        clear hd
        have hc := Lib.hid hc
        have hd := Lib.hid hd2
        clear hd2
        have hln := Lib.hid hln
        have hrg := Lib.hid hrg
        have hrr := Lib.hid hrr
        have hsp := Lib.hid hsp
        have hmv := Lib.hid hmv
        have HY := Lib.hid hqy
        have hys : Y2.a.size + Y2.w.size = X2.b.size := by omega
        obtain ⟨op1, op2, op3⟩ := op
        dsimp only at *
        clear m1 m2 m3 m4 m5 m6 m7 m8 l1 l2 l3 l4 l5 l6 l7 l8 hlk i1 i2 i3 c0 c1 c2 s3 hsz hss hsum hbd hH
        go_wp2_with fail
        go_cut [64] (fun s64 wx => s64 = .bool false ∧ LogAt wx p X2 ∧ RfAt wx q Y2 ∧ Keep [] w wx)
        case first =>
          refine wp_region_held_drew (S := fun w' => w'.cell? ⟨g, o + k * 3, none⟩ = some (.int .u8 op1) ∧ w'.cell? ⟨g, o + k * 3 + 1, none⟩ = some (.string op2) ∧ w'.cell? ⟨g, o + k * 3 + 2, none⟩ = some (.int .i64 op3)) (by kernel_rfl) ⟨d0, d1, d2⟩ (fun hH => ?_)
          refine wpAnyH_takeL (i := 0) (v := ?v1) rfl (by kernel_rfl) (by kernel_rfl) (by kernel_rfl) (fun _ _ _ h => h) (by rfl) ?hy1 (by assumption) ?_
          case hy1 => (intro w' hS'; (try dsimp only at hS'); go_split_ands; go_simp; first | done | with_reducible rfl)
          simp only [Act.put, List.setIfInBounds_toArray, List.set_cons_zero, List.set_cons_succ]
          refine wpAnyH_takeL (i := 1) (v := ?v2) rfl (by kernel_rfl) (by kernel_rfl) (by kernel_rfl) (fun _ _ _ h => h) (by rfl) ?hy2 (by assumption) ?_
          case hy2 => (intro w' hS'; (try dsimp only at hS'); go_split_ands; go_simp; first | done | with_reducible rfl)
          simp only [Act.put, List.setIfInBounds_toArray, List.set_cons_zero, List.set_cons_succ]
          refine wpAnyH_takeL (i := 2) (v := ?v3) rfl (by kernel_rfl) (by kernel_rfl) (by kernel_rfl) (fun _ _ _ h => h) (by rfl) ?hy3 (by assumption) ?_
          case hy3 => (intro w' hS'; (try dsimp only at hS'); go_split_ands; go_simp; first | done | with_reducible rfl)
          simp only [Act.put, List.setIfInBounds_toArray, List.set_cons_zero, List.set_cons_succ]
          refine wpAnyH_takeL (i := 3) (v := ?v4) rfl (by kernel_rfl) (by kernel_rfl) (by kernel_rfl) (fun _ _ _ h => h) (by rfl) ?hy4 (by assumption) ?_
          case hy4 => (intro w' hS'; (try dsimp only at hS'); go_split_ands; go_simp; first | done | with_reducible rfl)
          simp only [Act.put, List.setIfInBounds_toArray, List.set_cons_zero, List.set_cons_succ]
          refine wpAnyH_takeL (i := 4) (v := ?v5) rfl (by kernel_rfl) (by kernel_rfl) (by kernel_rfl) (fun _ _ _ h => h) (by rfl) ?hy5 (by assumption) ?_
          case hy5 => (intro w' hS'; (try dsimp only at hS'); go_split_ands; go_simp; first | done | with_reducible rfl)
          simp only [Act.put, List.setIfInBounds_toArray, List.set_cons_zero, List.set_cons_succ]
          refine wpAnyH_takeL (i := 6) (v := ?v6) rfl (by kernel_rfl) (by kernel_rfl) (by kernel_rfl) (fun _ _ _ h => h) (by rfl) ?hy6 (by assumption) ?_
          case hy6 => (intro w' hS'; (try dsimp only at hS'); go_split_ands; go_simp; first | done | with_reducible rfl)
          simp only [Act.put, List.setIfInBounds_toArray, List.set_cons_zero, List.set_cons_succ]
          refine wpAnyH_takeL (i := 7) (v := ?v7) rfl (by kernel_rfl) (by kernel_rfl) (by kernel_rfl) (fun _ _ _ h => h) (by rfl) ?hy7 (by assumption) ?_
          case hy7 => (intro w' hS'; (try dsimp only at hS'); go_split_ands; go_simp; first | done | with_reducible rfl)
          simp only [Act.put, List.setIfInBounds_toArray, List.set_cons_zero, List.set_cons_succ]
          refine wpAnyH_takeL (i := 8) (v := ?v8) rfl (by kernel_rfl) (by kernel_rfl) (by kernel_rfl) (fun _ _ _ h => h) (by rfl) ?hy8 (by assumption) ?_
          case hy8 => (intro w' hS'; (try dsimp only at hS'); go_split_ands; go_simp; first | done | with_reducible rfl)
          simp only [Act.put, List.setIfInBounds_toArray, List.set_cons_zero, List.set_cons_succ]
          refine wpAnyH_takeL (i := 9) (v := ?v9) rfl (by kernel_rfl) (by kernel_rfl) (by kernel_rfl) (fun _ _ _ h => h) (by rfl) ?hy9 (by assumption) ?_
          case hy9 => (intro w' hS'; (try dsimp only at hS'); go_split_ands; go_simp; first | done | with_reducible rfl)
          simp only [Act.put, List.setIfInBounds_toArray, List.set_cons_zero, List.set_cons_succ]
          refine wpAnyH_takeL (i := 10) (v := ?v10) rfl (by kernel_rfl) (by kernel_rfl) (by kernel_rfl) (fun _ _ _ h => h) (by rfl) ?hy10 (by assumption) ?_
          case hy10 => (intro w' hS'; (try dsimp only at hS'); go_split_ands; go_simp; first | done | with_reducible rfl)
          simp only [Act.put, List.setIfInBounds_toArray, List.set_cons_zero, List.set_cons_succ]
          refine wpAnyH_callL (i := 5) (f := ?f41) (args := ?x41) (E := ?E41) rfl (by kernel_rfl) (by rfl) ?hx41 ?hc41 ?_
          case hx41 => (go_simp; first | done | (refine ⟨?_, ?_⟩ <;> with_reducible rfl))
          case hc41 => exact hc.out
          rintro e w5 ⟨rfl, h5, k5p⟩
          have k5q : Keep [p] wr w5 := ⟨k5p.os, k5p.tape, k5p.output, k5p.size, k5p.block⟩
          have y5 := HY.out.keep k5q (by simp; omega)
          have k5 : Keep [] w w5 := kk.new k5q (fun i hi => .inr (by simp at hi; omega))
          obtain ⟨d0, d1, d2⟩ := hmv.out _ k5
          clear k5p k5q
          refine ⟨_, rfl, ⟨d0, d1, d2⟩, ?_⟩
          have hH5 := And.intro d0 (And.intro d1 d2)
          try simp only [Act.put, List.setIfInBounds_toArray, List.set_cons_zero, List.set_cons_succ]
          refine wpAnyH_callL (i := 11) (f := ?f42) (args := ?x42) (E := ?E42) rfl (by kernel_rfl) (by rfl) ?hx42 ?hc42 ?_
          case hx42 => (go_simp; first | done | (refine ⟨?_, ?_⟩ <;> with_reducible rfl))
          case hc42 => exact hd.out w5 y5
          rintro e w6 ⟨rfl, y6, k6⟩
          have h6 := h5.keep k6 (by simp; omega)
          have k6 : Keep [] w w6 := k5.new k6 (fun i hi => .inr (by simp at hi; omega))
          obtain ⟨e0, e1, e2⟩ := hmv.out _ k6
          obtain ⟨r0, r1, r2, r3⟩ := y6.cells
          refine ⟨_, rfl, ⟨e0, e1, e2⟩, wpAnyH_narrow (T := fun w' => (w'.cell? ⟨g, o + k * 3, none⟩ = some (.int .u8 op1) ∧ w'.cell? ⟨g, o + k * 3 + 1, none⟩ = some (.string op2) ∧ w'.cell? ⟨g, o + k * 3 + 2, none⟩ = some (.int .i64 op3)) ∧ w'.cell? ⟨q, 0, none⟩ = some (.string Y2.a) ∧ w'.cell? ⟨q, 1, none⟩ = some (.string Y2.w)) (fun _ h => h.1) _ _ _ _ ?_⟩
          have hH6 := And.intro (And.intro e0 (And.intro e1 e2)) (And.intro r0 r1)
          try simp only [Act.put, List.setIfInBounds_toArray, List.set_cons_zero, List.set_cons_succ]
          refine wpAnyH_takeL (i := 12) (v := ?v11) rfl (by kernel_rfl) (by kernel_rfl) (by kernel_rfl) (fun _ _ _ h => h) (by rfl) ?hy11 (by assumption) ?_
          case hy11 => (intro w' hS'; (try dsimp only at hS'); go_split_ands; go_simp; first | done | with_reducible rfl)
          simp only [Act.put, List.setIfInBounds_toArray, List.set_cons_zero, List.set_cons_succ]
          refine wpAnyH_takeL (i := 13) (v := ?v12) rfl (by kernel_rfl) (by kernel_rfl) (by kernel_rfl) (fun _ _ _ h => h) (by rfl) ?hy12 (by assumption) ?_
          case hy12 => (intro w' hS'; (try dsimp only at hS'); go_split_ands; go_simp; first | done | with_reducible rfl)
          simp only [Act.put, List.setIfInBounds_toArray, List.set_cons_zero, List.set_cons_succ]
          refine wpAnyH_takeL (i := 14) (v := ?v13) rfl (by kernel_rfl) (by kernel_rfl) (by kernel_rfl) (fun _ _ _ h => h) (by rfl) ?hy13 (by assumption) ?_
          case hy13 => (intro w' hS'; (try dsimp only at hS'); go_split_ands; go_simp; first | done | with_reducible rfl)
          simp only [Act.put, List.setIfInBounds_toArray, List.set_cons_zero, List.set_cons_succ]
          refine wpAnyH_takeL (i := 16) (v := ?v14) rfl (by kernel_rfl) (by kernel_rfl) (by kernel_rfl) (fun _ _ _ h => h) (by rfl) ?hy14 (by assumption) ?_
          case hy14 => (intro w' hS'; (try dsimp only at hS'); go_split_ands; go_simp; first | done | with_reducible rfl)
          simp only [Act.put, List.setIfInBounds_toArray, List.set_cons_zero, List.set_cons_succ]
          refine wpAnyH_takeL (i := 17) (v := ?v15) rfl (by kernel_rfl) (by kernel_rfl) (by kernel_rfl) (fun _ _ _ h => h) (by rfl) ?hy15 (by assumption) ?_
          case hy15 => (intro w' hS'; (try dsimp only at hS'); go_split_ands; go_simp; first | done | with_reducible rfl)
          simp only [Act.put, List.setIfInBounds_toArray, List.set_cons_zero, List.set_cons_succ]
          refine wpAnyH_takeL (i := 18) (v := ?v16) rfl (by kernel_rfl) (by kernel_rfl) (by kernel_rfl) (fun _ _ _ h => h) (by rfl) ?hy16 (by assumption) ?_
          case hy16 => (intro w' hS'; (try dsimp only at hS'); go_split_ands; go_simp; first | done | with_reducible rfl)
          simp only [Act.put, List.setIfInBounds_toArray, List.set_cons_zero, List.set_cons_succ]
          refine wpAnyH_takeL (i := 19) (v := ?v17) rfl (by kernel_rfl) (by kernel_rfl) (by kernel_rfl) (fun _ _ _ h => h) (by rfl) ?hy17 (by assumption) ?_
          case hy17 => (intro w' hS'; (try dsimp only at hS'); go_split_ands; go_simp; first | done | with_reducible rfl)
          simp only [Act.put, List.setIfInBounds_toArray, List.set_cons_zero, List.set_cons_succ]
          refine wpAnyH_takeL (i := 20) (v := ?v18) rfl (by kernel_rfl) (by kernel_rfl) (by kernel_rfl) (fun _ _ _ h => h) (by rfl) ?hy18 (by assumption) ?_
          case hy18 => (intro w' hS'; (try dsimp only at hS'); go_split_ands; go_simp; first | done | with_reducible rfl)
          simp only [Act.put, List.setIfInBounds_toArray, List.set_cons_zero, List.set_cons_succ]
          refine wpAnyH_takeL (i := 21) (v := ?v19) rfl (by kernel_rfl) (by kernel_rfl) (by kernel_rfl) (fun _ _ _ h => h) (by rfl) ?hy19 (by assumption) ?_
          case hy19 => (intro w' hS'; (try dsimp only at hS'); go_split_ands; go_simp; first | done | with_reducible rfl)
          simp only [Act.put, List.setIfInBounds_toArray, List.set_cons_zero, List.set_cons_succ]
          refine wpAnyH_takeL (i := 22) (v := ?v20) rfl (by kernel_rfl) (by kernel_rfl) (by kernel_rfl) (fun _ _ _ h => h) (by rfl) ?hy20 (by assumption) ?_
          case hy20 => (intro w' hS'; (try dsimp only at hS'); go_split_ands; go_simp; first | done | with_reducible rfl)
          simp only [Act.put, List.setIfInBounds_toArray, List.set_cons_zero, List.set_cons_succ]
          refine wpAnyH_takeL (i := 23) (v := ?v21) rfl (by kernel_rfl) (by kernel_rfl) (by kernel_rfl) (fun _ _ _ h => h) (by rfl) ?hy21 (by assumption) ?_
          case hy21 => (intro w' hS'; (try dsimp only at hS'); go_split_ands; go_simp; first | done | with_reducible rfl)
          simp only [Act.put, List.setIfInBounds_toArray, List.set_cons_zero, List.set_cons_succ]
          refine wpAnyH_takeL (i := 24) (v := ?v22) rfl (by kernel_rfl) (by kernel_rfl) (by kernel_rfl) (fun _ _ _ h => h) (by rfl) ?hy22 (by assumption) ?_
          case hy22 => (intro w' hS'; (try dsimp only at hS'); go_split_ands; go_simp; first | done | with_reducible rfl)
          simp only [Act.put, List.setIfInBounds_toArray, List.set_cons_zero, List.set_cons_succ]
          refine wpAnyH_takeL (i := 25) (v := ?v23) rfl (by kernel_rfl) (by kernel_rfl) (by kernel_rfl) (fun _ _ _ h => h) (by rfl) ?hy23 (by assumption) ?_
          case hy23 => (intro w' hS'; (try dsimp only at hS'); go_split_ands; go_simp; first | done | with_reducible rfl)
          simp only [Act.put, List.setIfInBounds_toArray, List.set_cons_zero, List.set_cons_succ]
          refine wpAnyH_takeL (i := 26) (v := ?v24) rfl (by kernel_rfl) (by kernel_rfl) (by kernel_rfl) (fun _ _ _ h => h) (by rfl) ?hy24 (by assumption) ?_
          case hy24 => (intro w' hS'; (try dsimp only at hS'); go_split_ands; go_simp; first | done | with_reducible rfl)
          simp only [Act.put, List.setIfInBounds_toArray, List.set_cons_zero, List.set_cons_succ]
          refine wpAnyH_callL (i := 15) (f := ?f43) (args := ?x43) (E := ?E43) rfl (by kernel_rfl) (by rfl) ?hx43 ?hc43 ?_
          case hx43 => (go_simp; first | done | (refine ⟨?_, ?_⟩ <;> with_reducible rfl))
          case hc43 => exact hln.out w6 h6
          rintro e w7 ⟨rfl, k7⟩
          have h7 := h6.keep k7 (by simp)
          have y7 := y6.keep k7 (by simp)
          obtain ⟨r0, r1, r2, r3⟩ := y7.cells
          have k7 := k6.trans k7
          obtain ⟨e0, e1, e2⟩ := hmv.out _ k7
          have hH7 := And.intro (And.intro e0 (And.intro e1 e2)) (And.intro r0 r1)
          refine ⟨_, rfl, hH7, ?_⟩
          try simp only [Act.put, List.setIfInBounds_toArray, List.set_cons_zero, List.set_cons_succ]
          refine wpAnyH_takeL (i := 27) (v := ?v25) rfl (by kernel_rfl) (by kernel_rfl) (by kernel_rfl) (fun _ _ _ h => h) (by rfl) ?hy25 (by assumption) ?_
          case hy25 => (intro w' hS'; (try dsimp only at hS'); go_split_ands; go_simp; first | done | with_reducible rfl)
          simp only [Act.put, List.setIfInBounds_toArray, List.set_cons_zero, List.set_cons_succ]
          refine wpAnyH_takeL (i := 28) (v := ?v26) rfl (by kernel_rfl) (by kernel_rfl) (by kernel_rfl) (fun _ _ _ h => h) (by rfl) ?hy26 (by assumption) ?_
          case hy26 => (intro w' hS'; (try dsimp only at hS'); go_split_ands; go_simp; first | done | with_reducible rfl)
          simp only [Act.put, List.setIfInBounds_toArray, List.set_cons_zero, List.set_cons_succ]
          refine wpAnyH_done (by kernel_rfl) ?_ _
          go_wp2
          go_meet
          exact ⟨by rw [wrap_small (by omega) (by omega)]; simp, h7, y7, k7⟩
        case rest =>
          obtain ⟨rfl, h7, y7, k7⟩ := hcut
          rename World => wx
          obtain ⟨r0, r1, r2, r3⟩ := y7.cells
          cases hg : Y2.g with
          | true =>
            rw [hg] at r3
            have hxg : X2.g = true := M3.out.trans hg
            go_wp2_with (first | (go_at_call 9; with_reducible refine (hrg.out wx h7 hxg).mono ?_; rintro e w8 ⟨rfl, k8⟩; obtain ⟨u0, u1, u2, u3⟩ := (y7.keep k8 (by simp)).cells; rw [hg] at u3) | go_in)
            go_roundw
            case rel => exact ⟨k + 1, by omega, by go_num, _, _, h7.keep k8 (by simp), y7.keep k8 (by simp), HLK, k7.trans k8⟩
            case measure => simp [intOf]; omega
          | false =>
            rw [hg] at r3
            have hxg : X2.g = false := M3.out.trans hg
            go_wp2_with (first | (go_at_call 9; with_reducible refine (hrr.out wx h7 hxg).mono ?_; rintro e w8 ⟨v8, rfl, o8, k8⟩; obtain ⟨A8, c8, rfl, -⟩ := o8.form; have y8 := (y7.keep k8 (by simp)); obtain ⟨u0, u1, u2, u3⟩ := y8.cells; rw [hg] at u3) | go_in)
            have hnt : (9223372036854775807 < X2.b.size) = False := by simp; omega
            refine wp_region_held_drew (S := fun w' => w'.cell? ⟨q, 0, none⟩ = some (.string Y2.a) ∧ w'.cell? ⟨q, 1, none⟩ = some (.string Y2.w)) (by kernel_rfl) ⟨u0, u1⟩ (fun hH => ?_)
            refine wpAnyH_takeL (i := 0) (v := ?v27) rfl (by kernel_rfl) (by kernel_rfl) (by kernel_rfl) (fun _ _ _ h => h) (by rfl) ?hy27 (by assumption) ?_
            case hy27 => (intro w' hS'; (try dsimp only at hS'); go_split_ands; go_simp; first | done | with_reducible rfl)
            simp only [Act.put, List.setIfInBounds_toArray, List.set_cons_zero, List.set_cons_succ]
            refine wpAnyH_takeL (i := 1) (v := ?v28) rfl (by kernel_rfl) (by kernel_rfl) (by kernel_rfl) (fun _ _ _ h => h) (by rfl) ?hy28 (by assumption) ?_
            case hy28 => (intro w' hS'; (try dsimp only at hS'); go_split_ands; go_simp; first | done | with_reducible rfl)
            simp only [Act.put, List.setIfInBounds_toArray, List.set_cons_zero, List.set_cons_succ]
            refine wpAnyH_takeL (i := 2) (v := ?v29) rfl (by kernel_rfl) (by kernel_rfl) (by kernel_rfl) (fun _ _ _ h => h) (by rfl) ?hy29 (by assumption) ?_
            case hy29 => (intro w' hS'; (try dsimp only at hS'); go_split_ands; go_simp; first | done | with_reducible rfl)
            simp only [Act.put, List.setIfInBounds_toArray, List.set_cons_zero, List.set_cons_succ]
            refine wpAnyH_takeL (i := 3) (v := ?v30) rfl (by kernel_rfl) (by kernel_rfl) (by kernel_rfl) (fun _ _ _ h => h) (by rfl) ?hy30 (by assumption) ?_
            case hy30 => (intro w' hS'; (try dsimp only at hS'); go_split_ands; go_simp; first | done | with_reducible rfl)
            simp only [Act.put, List.setIfInBounds_toArray, List.set_cons_zero, List.set_cons_succ]
            refine wpAnyH_takeL (i := 4) (v := ?v31) rfl (by kernel_rfl) (by kernel_rfl) (by kernel_rfl) (fun _ _ _ h => h) (by rfl) ?hy31 (by assumption) ?_
            case hy31 => (intro w' hS'; (try dsimp only at hS'); go_split_ands; go_simp; first | done | with_reducible rfl)
            simp only [Act.put, List.setIfInBounds_toArray, List.set_cons_zero, List.set_cons_succ]
            refine wpAnyH_takeL (i := 5) (v := ?v32) rfl (by kernel_rfl) (by kernel_rfl) (by kernel_rfl) (fun _ _ _ h => h) (by rfl) ?hy32 (by assumption) ?_
            case hy32 => (intro w' hS'; (try dsimp only at hS'); go_split_ands; go_simp; first | done | with_reducible rfl)
            simp only [Act.put, List.setIfInBounds_toArray, List.set_cons_zero, List.set_cons_succ]
            refine wpAnyH_takeL (i := 6) (v := ?v33) rfl (by kernel_rfl) (by kernel_rfl) (by kernel_rfl) (fun _ _ _ h => h) (by rfl) ?hy33 (by assumption) ?_
            case hy33 => (intro w' hS'; (try dsimp only at hS'); go_split_ands; go_simp; first | done | with_reducible rfl)
            simp only [Act.put, List.setIfInBounds_toArray, List.set_cons_zero, List.set_cons_succ]
            refine wpAnyH_takeL (i := 7) (v := ?v34) rfl (by kernel_rfl) (by kernel_rfl) (by kernel_rfl) (fun _ _ _ h => h) (by rfl) ?hy34 (by assumption) ?_
            case hy34 => (intro w' hS'; (try dsimp only at hS'); go_split_ands; go_simp; first | done | with_reducible rfl)
            simp only [Act.put, List.setIfInBounds_toArray, List.set_cons_zero, List.set_cons_succ]
            refine wpAnyH_takeL (i := 8) (v := ?v35) rfl (by kernel_rfl) (by kernel_rfl) (by kernel_rfl) (fun _ _ _ h => h) (by rfl) ?hy35 (by assumption) ?_
            case hy35 => (intro w' hS'; (try dsimp only at hS'); go_split_ands; go_simp; first | done | with_reducible rfl)
            simp only [Act.put, List.setIfInBounds_toArray, List.set_cons_zero, List.set_cons_succ]
            refine wpAnyH_callL (i := 9) (f := ?f44) (args := ?x44) (E := ?E44) rfl (by kernel_rfl) (by rfl) ?hx44 ?hc44 ?_
            case hx44 => (go_simp; first | done | (refine ⟨?_, ?_⟩ <;> with_reducible rfl))
            case hc44 => exact hsp.out _
            rintro e w9 ⟨A9, m9, c9, rfl, n9⟩
            have n9k : Keep [] w8 w9 := ⟨n9.2.os, n9.2.tape, n9.2.output, n9.2.size, n9.2.block⟩
            have y9 := y8.keep n9k (by simp)
            obtain ⟨v0, v1, v2, v3⟩ := y9.cells
            have q9s := n9.slice HR2.out
            obtain ⟨rfl, q9, s9⟩ := q9s
            refine ⟨_, rfl, ⟨v0, v1⟩, ?_⟩
            have hH9 := And.intro v0 v1
            try simp only [Act.put, List.setIfInBounds_toArray, List.set_cons_zero, List.set_cons_succ]
            refine wpAnyH_takeL (i := 10) (v := ?v36) rfl (by kernel_rfl) (by kernel_rfl) (by kernel_rfl) (fun _ _ _ h => h) (by rfl) ?hy36 (by assumption) ?_
            case hy36 => (intro w' hS'; (try dsimp only at hS'); go_split_ands; go_simp; first | done | with_reducible rfl)
            simp only [Act.put, List.setIfInBounds_toArray, List.set_cons_zero, List.set_cons_succ]
            refine wpAnyH_takeL (i := 11) (v := ?v37) rfl (by kernel_rfl) (by kernel_rfl) (by kernel_rfl) (fun _ _ _ h => h) (by rfl) ?hy37 (by assumption) ?_
            case hy37 => (intro w' hS'; (try dsimp only at hS'); go_split_ands; go_simp; first | done | with_reducible rfl)
            simp only [Act.put, List.setIfInBounds_toArray, List.set_cons_zero, List.set_cons_succ]
            refine wpAnyH_takeL (i := 12) (v := ?v38) rfl (by kernel_rfl) (by kernel_rfl) (by kernel_rfl) (fun _ _ _ h => h) (by rfl) ?hy38 (by assumption) ?_
            case hy38 => (intro w' hS'; (try dsimp only at hS'); go_split_ands; go_simp; first | done | with_reducible rfl)
            simp only [Act.put, List.setIfInBounds_toArray, List.set_cons_zero, List.set_cons_succ]
            refine wpAnyH_takeL (i := 13) (v := ?v39) rfl (by kernel_rfl) (by kernel_rfl) (by kernel_rfl) (fun _ _ _ h => h) (by rfl) ?hy39 (by assumption) ?_
            case hy39 => (intro w' hS'; (try dsimp only at hS'); go_split_ands; go_simp; first | done | with_reducible rfl)
            simp only [Act.put, List.setIfInBounds_toArray, List.set_cons_zero, List.set_cons_succ]
            refine wpAnyH_takeL (i := 14) (v := ?v40) rfl (by kernel_rfl) (by kernel_rfl) (by kernel_rfl) (fun _ _ _ h => h) (by rfl) ?hy40 (by assumption) ?_
            case hy40 => (intro w' hS'; (try dsimp only at hS'); go_split_ands; go_simp; first | done | with_reducible rfl)
            simp only [Act.put, List.setIfInBounds_toArray, List.set_cons_zero, List.set_cons_succ]
            refine wpAnyH_done (by kernel_rfl) ?_ _
            have p8 := h7.lt
            have s8 := o8.slice (by have := HR2.out; rw [M47_eq]; omega)
            go_wp2_with (first | (go_at_call 11; with_reducible refine (same_call A8 A9 rs c8 c9 _ _ _ (s8.keep (n9k.at _ (by simp))) s9).mono ?_; rintro e w10 ⟨rfl, k10⟩) | go_in)
            go_roundw
            case rel => exact ⟨k + 1, by omega, by go_num, _, _, ((h7.keep k8 (by simp)).keep n9k (by simp)).keep k10 (by simp), y9.keep k10 (by simp), HLK, (k7.trans k8).trans (n9k.trans k10)⟩
            case measure => simp [intOf]; omega
      · have hltz : ¬ (k : Int) < (l.length : Int) := by omega
        go_wp2
        go_ret
        exact ⟨rfl, kk⟩
end Go.Proofs.Ythkbgokkghidbaa
