import Derived.Test.YtaiemagmkfjklaaPool13
namespace Go.Proofs.Ytaiemagmkfjklaa
open Go.RowKit Go.Shelf
set_option linter.unusedVariables false
set_option linter.unusedSimpArgs false
/-! pools, the plain part: what waits and what is done, call for call -/
abbrev PS := List Req × List Req
def stepP (t : PS) (x : Op12) : PS := (opW t.1 t.2 x, opD t.2 x)
def runP (t : PS) (l : List Op12) : PS := l.foldl stepP t
theorem runP_take (t : PS) (l : List Op12) (k : Nat) (hk : k < l.length) : runP t (l.take (k + 1)) = stepP (runP t (l.take k)) l[k] := by
  unfold runP
  rw [List.take_succ_eq_append_getElem hk, List.foldl_append]
  rfl
/-- Nothing waits that is done; no more than twelve wait. -/
def InvP (t : PS) : Prop := (∀ r ∈ t.1, hasR t.2 r.c r.s = false) ∧ t.1.length ≤ 12
theorem addE_zero {ws dn : List Req} {r : Req} (h : addE ws dn r = 0) : rightReq r = true ∧ hasR dn r.c r.s = false ∧ hasR ws r.c r.s = false ∧ ws.length < 12 := by
  unfold addE at h
  by_cases h1 : rightReq r = false
  · rw [if_pos h1] at h; cases h
  · rw [if_neg h1] at h
    by_cases h2 : hasR dn r.c r.s = true
    · rw [if_pos h2] at h; cases h
    · rw [if_neg h2] at h
      by_cases h3 : hasR ws r.c r.s = true
      · rw [if_pos h3] at h; cases h
      · rw [if_neg h3] at h
        by_cases h4 : 12 ≤ ws.length
        · rw [if_pos h4] at h; cases h
        · exact ⟨by simpa using h1, by simpa using h2, by simpa using h3, by omega⟩
theorem InvP.step {t : PS} (h : InvP t) (x : Op12) : InvP (stepP t x) := by
  obtain ⟨h1, h2⟩ := h
  unfold stepP opW opD
  by_cases hk : x.k % 2 = 1
  · simp only [if_pos hk]
    refine ⟨fun r hr => ?_, Nat.le_trans (List.length_filter_le _ _) h2⟩
    have := (List.mem_filter.1 hr).2
    simpa using this
  · simp only [if_neg hk]
    unfold addW
    by_cases he : addE t.1 t.2 x.r = 0
    · rw [if_pos he]
      obtain ⟨a1, a2, a3, a4⟩ := addE_zero he
      refine ⟨fun r hr => ?_, by simp; omega⟩
      rcases List.mem_append.1 hr with hr | hr
      · exact h1 r hr
      · simp at hr; rw [hr]; exact a2
    · rw [if_neg he]; exact ⟨h1, h2⟩
theorem InvP.run {t : PS} (h : InvP t) : ∀ l : List Op12, InvP (runP t l) := by
  intro l
  induction l generalizing t with
  | nil => exact h
  | cons x l ih => exact ih (h.step x)
theorem InvP.start : InvP ([], []) := ⟨by simp, by simp⟩
theorem runP_done_len (l : List Op12) (h : ∀ x ∈ l, x.l.length ≤ 10) : ∀ t : PS, (runP t l).2.length ≤ t.2.length + 10 * l.length := by
  induction l with
  | nil => intro t; exact Nat.le_refl _
  | cons x l ih =>
    intro t
    have h1 := ih (fun y hy => h y (by simp [hy])) (stepP t x)
    have h2 := h x (by simp)
    have h3 : (stepP t x).2.length ≤ t.2.length + 10 := by
      unfold stepP opD
      dsimp only
      by_cases hk : x.k % 2 = 1
      · rw [if_pos hk, List.length_append]; omega
      · rw [if_neg hk]; omega
    show (runP (stepP t x) l).2.length ≤ _
    simp only [List.length_cons]
    omega
theorem opW_ref {t : PS} (h : InvP t) (x : Op12) : opW t.1 t.2 x = refW t.1 t.2 x := by
  unfold opW refW butR
  by_cases hk : x.k % 2 = 1
  · rw [if_pos hk, if_pos hk]
    refine List.filter_congr fun r hr => ?_
    rw [hasR_app, h.1 r hr, Bool.false_or]
  · rw [if_neg hk, if_neg hk]
/-- What is done stays done. -/
theorem runP_done (l : List Op12) (c s : Int) : ∀ t : PS, hasR t.2 c s = true → hasR (runP t l).2 c s = true := by
  induction l with
  | nil => intro t h; exact h
  | cons x l ih =>
    intro t h
    refine ih (stepP t x) ?_
    unfold stepP opD
    dsimp only
    by_cases hk : x.k % 2 = 1
    · rw [if_pos hk, hasR_app, h, Bool.true_or]
    · rw [if_neg hk]; exact h
theorem hasR_of_inv {t : PS} (h : InvP t) {c s : Int} (hd : hasR t.2 c s = true) : hasR t.1 c s = false := by
  rw [Bool.eq_false_iff]
  intro hw
  simp only [hasR, List.any_eq_true, Bool.and_eq_true, beq_iff_eq] at hw
  obtain ⟨r, hr, rfl, rfl⟩ := hw
  rw [h.1 r hr] at hd
  cases hd
/-- 'Done' of one request, as a call. -/
def doneOp (r : Req) : Op12 := ⟨1, r, [r]⟩
theorem addE_done {ws dn : List Req} {r : Req} (h : hasR dn r.c r.s = true) : addE ws dn r = 9 ∨ addE ws dn r = 1 := by
  unfold addE
  by_cases h1 : rightReq r = false
  · rw [if_pos h1]; exact .inr rfl
  · rw [if_neg h1, if_pos h]; exact .inl rfl
theorem addW_done {ws dn : List Req} {r : Req} (h : hasR dn r.c r.s = true) : addW ws dn r = ws := by
  unfold addW
  rcases addE_done (ws := ws) h with e | e <;> rw [e] <;> rfl
end Go.Proofs.Ytaiemagmkfjklaa
