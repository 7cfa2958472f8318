import Derived.Test.YtaiemagmkfjklaaPool1
import Derived.Shelf.Abstract
namespace Go.Proofs.Ytaiemagmkfjklaa
open Go.RowKit Go.Shelf
set_option linter.unusedVariables false
set_option linter.unusedSimpArgs false
/-! slices' functions over requests; a key of a request -/
theorem keyOf_call (r : Req) (w : World) : Calls Try.prog 21 #[.agg #[.int .i64 r.c, .int .i64 r.s, .string r.b]] w fun e w' => e = .returned (.agg #[.int .i64 r.c, .int .i64 r.s]) ∧ Keep [] w w' := by
  obtain ⟨c, s, b⟩ := r
  dsimp only
  go_enter Try.func21, Try.ntmps21
  go_wp2
  have b3 := Blk.new (w.alloc (.cells #[.int .i64 c, .int .i64 s, .string b] 24)) #[.int .i64 c, .int .i64 s] 54
  have q0 := b3.cell 0
  have q1 := b3.cell 1
  simp only [List.getElem?_toArray, List.getElem?_cons_zero, List.getElem?_cons_succ, World.size_alloc] at q0 q1
  refine bodyPost_ret (v := .agg #[.int .i64 c, .int .i64 s]) (by simp [results, Try.results21, go_sem, q0, q1]) rfl ?_
  exact ⟨rfl, ((Keep.refl _ w).alloc _).alloc _⟩
/-- What is asked of a function value: on requests it gives pr, whatever has turned but old blocks that are not in S; it turns nothing. -/
def PredOn (w : World) (S : List Nat) (k : FuncId) (cap : Array Value) (pr : Req → Bool) : Prop :=
  ∀ w' x, Keep S w w' → ReqOk x → Calls Try.prog k (#[.agg #[.int .i64 x.c, .int .i64 x.s, .string x.b]] ++ cap) w' fun e w'' => e = .returned (.bool (pr x)) ∧ Keep [] w' w''
theorem PredOn.later {w w1 : World} {S T : List Nat} {k : FuncId} {cap : Array Value} {pr : Req → Bool} (h : PredOn w T k cap pr) (hk : Keep T w w1) (hS : ∀ i, i ∈ S → i ∈ T ∨ w.heap.size ≤ i) : PredOn w1 S k cap pr :=
  fun w' x k' hx => h w' x (hk.new k' hS) hx
/-- Where the first one lies that pr tells; else -1. -/
def idxR (pr : Req → Bool) : List Req → Nat → Int
  | [], _ => -1
  | x :: l, i => if pr x then (i : Int) else idxR pr l (i + 1)
theorem idxR_drop (pr : Req → Bool) (xs : List Req) (k : Nat) (h : ∀ j (hj : j < xs.length), j < k → pr xs[j] = false) (hk : k ≤ xs.length) : idxR pr xs 0 = idxR pr (xs.drop k) k := by
  induction k with
  | zero => simp
  | succ k ih =>
    rw [ih (fun j hj hjk => h j hj (by omega)) (by omega), List.drop_eq_getElem_cons (by omega : k < xs.length)]
    simp [idxR, h k (by omega) (by omega)]
set_option maxHeartbeats 1000000 in
theorem indexFunc_call (A : Option Addr) (xs : List Req) (c : Nat) (F : Nat → Prop) (k : FuncId) (cap : Array Value) (pr : Req → Bool) (w : World) (hs : SliceOf Rep.req w F (.slice A xs.length c) xs)
    (hp : PredOn w [] k cap pr) (eg : ∀ args w, (callFunc k args).run Try.prog w = .ok (.enter k args) w) :
    Calls Try.prog 31 #[.slice A xs.length c, .func (.func k) #[] cap] w fun e w' => e = .returned (.int .i64 (idxR pr xs 0)) ∧ Keep [] w w' := by
  obtain ⟨_, _, e0, hl⟩ := hs.form
  clear e0
  have HS := Lib.hid hs
  clear hs
  have hp' := Lib.hid hp
  clear hp
  have HE : Hid (∀ out, out = idxR pr xs 0 → out = idxR pr xs 0) := Lib.hid (fun _ h => h)
  go_enter Try.func31, Try.ntmps31
  go_wp2
  go_loopw [5, 8] (fun _ i wr => ∃ m : Nat, m ≤ xs.length ∧ i = .int .i64 m ∧ Keep [] w wr ∧ Hid (∀ j (hj : j < xs.length), j < m → pr xs[j] = false)) (fun _ i _ => xs.length - (intOf i).toNat)
  case atStart => exact ⟨0, Nat.zero_le _, rfl, Keep.refl _ _, Lib.hid (fun j hj h => absurd h (Nat.not_lt_zero _))⟩
  case round =>
    obtain ⟨m, hm, rfl, kk, ho⟩ := hrel
    by_cases hlt : m < xs.length
    · have hltz : (m : Int) < (xs.length : Int) := by omega
      obtain ⟨g, o, rfl, c0, c1, c2, i1, i2, i3⟩ := (HS.out.keep (fun i hF hi => kk.block i hi (by simp))).req_at hlt
      have hcall := hp'.out wr xs[m] kk ⟨i1, i2, i3⟩
      generalize hx : xs[m] = x at *
      have hx := Lib.hid hx
      obtain ⟨xc, xs', xb⟩ := x
      dsimp only at *
      cases hq : pr ⟨xc, xs', xb⟩ with
      | true =>
        rw [hq] at hcall
        go_wp2_with (go_at_fn k; refine hcall.mono ?_; rintro e w' ⟨rfl, kq⟩)
        go_ret
        refine ⟨?_, kk.trans kq⟩
        rw [idxR_drop pr xs m (fun j hj h => ho.out j hj h) (by omega), List.drop_eq_getElem_cons hlt]
        simp [idxR, hx.out, hq]
      | false =>
        rw [hq] at hcall
        go_wp2_with (go_at_fn k; refine hcall.mono ?_; rintro e w' ⟨rfl, kq⟩)
        go_roundw
        case rel =>
          refine ⟨m + 1, by omega, by go_num, kk.trans kq, Lib.hid (fun j hj h => ?_)⟩
          by_cases e : j = m
          · subst e; rw [hx.out]; exact hq
          · exact ho.out j hj (by omega)
        case measure => simp [intOf]; omega
    · have hltz : ¬ (m : Int) < (xs.length : Int) := by omega
      obtain rfl : m = xs.length := by omega
      go_wp2
      go_ret
      refine ⟨?_, kk⟩
      rw [idxR_drop pr xs xs.length (fun j hj h => ho.out j hj h) (by omega)]
      simp [idxR]
end Go.Proofs.Ytaiemagmkfjklaa
