import Derived.Test.YtaiemagmkfjklaaLawPool1
namespace Go.Proofs.Ytaiemagmkfjklaa
open Go.RowKit Go.Shelf
set_option linter.unusedVariables false
set_option linter.unusedSimpArgs false
/-! the law PoolFull: the plain part -/
def rq (i : Nat) : Req := ⟨((i % 4 : Nat) : Int), (i : Int), ⟨#[]⟩⟩
def rz (i : Nat) : Req := ⟨1, 100 + (i : Int), ⟨#[]⟩⟩
def eqB (x y : Req) : Bool := x.c == y.c && (x.s == y.s && x.b.data.toList == y.b.data.toList)
theorem eqB_eq {x y : Req} (h : eqB x y = true) : x = y := by
  obtain ⟨a, b, c⟩ := x
  obtain ⟨d, e, f⟩ := y
  simp only [eqB, Bool.and_eq_true, beq_iff_eq] at h
  obtain ⟨rfl, rfl, h⟩ := h
  congr 1
  exact ByteArray.ext (Array.toList_inj.1 h)
def eqL : List Req → List Req → Bool
  | [], [] => true
  | x :: l, y :: m => eqB x y && eqL l m
  | _, _ => false
theorem eqL_eq : ∀ {l m : List Req}, eqL l m = true → l = m
  | [], [], _ => rfl
  | x :: l, y :: m, h => by
    simp only [eqL, Bool.and_eq_true] at h
    rw [eqB_eq h.1, eqL_eq h.2]
  | [], _ :: _, h => by simp [eqL] at h
  | _ :: _, [], h => by simp [eqL] at h
/-- What waits behind j adds. -/
def st1 (j : Nat) : List Req := (List.range (min j 12)).map fun t => rq (t + 1)
/-- What waits of a ones, and what is done, behind j of them are done. -/
def st2 (a j : Nat) : List Req := ((List.range a).drop j).map fun t => rq (t + 1)
def dn2 (j : Nat) : List Req := (List.range j).map fun t => rq (t + 1)
def st3 (a d i : Nat) : List Req := st2 a d ++ (List.range i).map rz
def want (i : Nat) : Int := if 12 < i then 7 else 0
def chk1 : Bool := (List.range 20).all fun j => addE (st1 j) [] (rq (j + 1)) == want (j + 1) && eqL (addW (st1 j) [] (rq (j + 1))) (st1 (j + 1))
def chk2 : Bool := (List.range 13).all fun a => (List.range a).all fun j => eqL ((st2 a j).filter fun r => !hasR (dn2 j ++ [rq (j + 1)]) r.c r.s) (st2 a (j + 1)) && eqL (dn2 j ++ [rq (j + 1)]) (dn2 (j + 1))
def chk3 : Bool := (List.range 13).all fun a => (List.range (a + 1)).all fun d => (List.range (12 - a + d)).all fun i => addE (st3 a d i) (dn2 d) (rz i) == 0 && eqL (addW (st3 a d i) (dn2 d) (rz i)) (st3 a d (i + 1))
def chk4 : Bool := (List.range 13).all fun a => (List.range (a + 1)).all fun d => addE (st3 a d (12 - a + d)) (dn2 d) ⟨2, 500, ⟨#[]⟩⟩ == 7 && (st3 a d (12 - a + d)).length == 12 && (st2 a d).length == a - d
theorem chk1_true : chk1 = true := by kernel_rfl
theorem chk2_true : chk2 = true := by kernel_rfl
theorem chk3_true : chk3 = true := by kernel_rfl
theorem chk4_true : chk4 = true := by kernel_rfl
theorem full1 {j : Nat} (hj : j < 20) : addE (st1 j) [] (rq (j + 1)) = want (j + 1) ∧ addW (st1 j) [] (rq (j + 1)) = st1 (j + 1) := by
  have := List.all_eq_true.1 chk1_true j (List.mem_range.2 hj)
  simp only [Bool.and_eq_true, beq_iff_eq] at this
  exact ⟨this.1, eqL_eq this.2⟩
theorem full2 {a j : Nat} (ha : a ≤ 12) (hj : j < a) : ((st2 a j).filter fun r => !hasR (dn2 j ++ [rq (j + 1)]) r.c r.s) = st2 a (j + 1) ∧ dn2 j ++ [rq (j + 1)] = dn2 (j + 1) := by
  have := List.all_eq_true.1 (List.all_eq_true.1 chk2_true a (List.mem_range.2 (by omega))) j (List.mem_range.2 hj)
  simp only [Bool.and_eq_true] at this
  exact ⟨eqL_eq this.1, eqL_eq this.2⟩
theorem full3 {a d i : Nat} (ha : a ≤ 12) (hd : d ≤ a) (hi : i < 12 - a + d) : addE (st3 a d i) (dn2 d) (rz i) = 0 ∧ addW (st3 a d i) (dn2 d) (rz i) = st3 a d (i + 1) := by
  have := List.all_eq_true.1 (List.all_eq_true.1 (List.all_eq_true.1 chk3_true a (List.mem_range.2 (by omega))) d (List.mem_range.2 (by omega))) i (List.mem_range.2 hi)
  simp only [Bool.and_eq_true, beq_iff_eq] at this
  exact ⟨this.1, eqL_eq this.2⟩
theorem full4 {a d : Nat} (ha : a ≤ 12) (hd : d ≤ a) : addE (st3 a d (12 - a + d)) (dn2 d) ⟨2, 500, ⟨#[]⟩⟩ = 7 ∧ (st3 a d (12 - a + d)).length = 12 ∧ (st2 a d).length = a - d := by
  have := List.all_eq_true.1 (List.all_eq_true.1 chk4_true a (List.mem_range.2 (by omega))) d (List.mem_range.2 (by omega))
  simp only [Bool.and_eq_true, beq_iff_eq] at this
  exact ⟨this.1.1, this.1.2, this.2⟩
theorem st1_st2 (k : Nat) : st1 k = st2 (min k 12) 0 := by simp [st1, st2]
theorem st2_st3 (a d : Nat) : st2 a d = st3 a d 0 := by simp [st3]
theorem st1_len (k : Nat) : (st1 k).length ≤ 12 := by simp [st1]; omega
theorem rq_ok (i : Nat) (h : i ≤ 1000) : ReqOk (rq i) := ⟨by show I64 ((i % 4 : Nat) : Int); unfold I64; omega, by show I64 (i : Int); unfold I64; omega, by show (0 : Nat) ≤ _; omega⟩
theorem rz_ok (i : Nat) (h : i ≤ 1000) : ReqOk (rz i) := ⟨by show I64 1; unfold I64; omega, by show I64 (100 + (i : Int)); unfold I64; omega, by show (0 : Nat) ≤ _; omega⟩
end Go.Proofs.Ytaiemagmkfjklaa
