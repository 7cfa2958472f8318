import Derived.Test.YtaiemagmkfjklaaPool12
namespace Go.Proofs.Ytaiemagmkfjklaa
open Go.RowKit Go.Shelf
set_option linter.unusedVariables false
set_option linter.unusedSimpArgs false
/-! the laws' own functions: a call on a pool; calls of a size that is looked at; awake -/
def opW (ws dn : List Req) (x : Op12) : List Req := if x.k % 2 = 1 then ws.filter (fun r => !hasR (dn ++ x.l) r.c r.s) else addW ws dn x.r
set_option maxHeartbeats 2000000 in
theorem call_call (w : World) (F G : Nat → Prop) (p n : Nat) (ws dn : List Req) (x : Op12) (L : Option Addr) (lc : Nat) (hp : PoolAt w F p n ws dn) (hk : 0 ≤ x.k ∧ x.k ≤ 255) (hr : ReqOk x.r) (hs : SliceOf Rep.req w G (.slice L x.l.length lc) x.l)
    (hw : ws.length ≤ 1000000) (hn : n + x.l.length ≤ 1000000) (hF : ∀ i, F i → i < w.heap.size) (hG : ∀ i, G i → ¬ F i) :
    Calls Try.prog 10 #[.pointer (some ⟨p, 0, none⟩), .agg #[.int .u8 x.k, .int .i64 x.r.c, .int .i64 x.r.s, .string x.r.b, .slice L x.l.length lc]] w fun e w' =>
      e = .returned (.int .i64 (opE ws dn x)) ∧ PoolAt w' (fun k => F k ∨ w.heap.size ≤ k) p (n + x.l.length) (opW ws dn x) (opD dn x) ∧ Turn F w w' := by
  obtain ⟨k, ⟨c, s, b⟩, l⟩ := x
  dsimp only at *
  have k0 : Keep [] w (w.alloc (.cells #[.int .u8 k, .int .i64 c, .int .i64 s, .string b, .slice L l.length lc] 33)) := (Keep.refl _ _).alloc _
  have hp1 := hp.turn (k0.turn (F := fun _ => False) (by simp)) (by simp)
  have sl0 := hs.keep (k0.at G (by simp))
  have hkb : (k.tmod 2 = k % 2) := by
    obtain ⟨m, rfl⟩ := Int.eq_ofNat_of_zero_le hk.1
    rfl
  by_cases hodd : k % 2 = 1
  · have e1 : opW ws dn ⟨k, ⟨c, s, b⟩, l⟩ = ws.filter (fun r => !hasR (dn ++ l) r.c r.s) := if_pos hodd
    have e2 : opD dn ⟨k, ⟨c, s, b⟩, l⟩ = dn ++ l := if_pos hodd
    have e3 : opE ws dn ⟨k, ⟨c, s, b⟩, l⟩ = 0 := if_pos hodd
    rw [e1, e2, e3]
    have hD := done_call _ F G p n ws dn l L lc hp1 sl0 hG hn hw
    clear hp hp1 sl0 hs
    go_enter Try.func10, Try.ntmps10
    go_wp2_with (go_at_call 11; refine hD.mono ?_; rintro e w2 ⟨rfl, h1, h2⟩)
    go_ret
    exact ⟨rfl, h1.mono (fun i _ h => .inl h) (Nat.le_refl _), (k0.turn (by simp)).trans h2⟩
  · have e1 : opW ws dn ⟨k, ⟨c, s, b⟩, l⟩ = addW ws dn ⟨c, s, b⟩ := if_neg hodd
    have e2 : opD dn ⟨k, ⟨c, s, b⟩, l⟩ = dn := if_neg hodd
    have e3 : opE ws dn ⟨k, ⟨c, s, b⟩, l⟩ = addE ws dn ⟨c, s, b⟩ := if_neg hodd
    rw [e1, e2, e3]
    have hA := add_call _ F p n ws dn ⟨c, s, b⟩ hr hp1 hw
    dsimp only at hA
    have hodd' : (k % 2 == 1) = false := by simp [hodd]
    clear hp hp1 sl0 hs
    go_enter Try.func10, Try.ntmps10
    go_wp2_with (go_at_call 12; refine hA.mono ?_; rintro e w2 ⟨rfl, h1, h2⟩)
    go_ret
    exact ⟨rfl, h1.mono (fun i _ h => h.imp id (fun h => by simp at h; omega)) (Nat.le_add_right _ _), (k0.turn (by simp)).trans h2⟩
def okOp (x : Op12) : Bool := decide (x.l.length ≤ 10) && decide (x.r.b.size ≤ 60)
def fewB (l : List Op12) (n : Nat) : Bool := (l.take 200).all okOp && decide (l.length ≤ n)
theorem fewB_le {l : List Op12} {n : Nat} (h : fewB l n = true) (hn : n ≤ 200) : l.length ≤ n ∧ ∀ x ∈ l, x.l.length ≤ 10 := by
  simp only [fewB, Bool.and_eq_true, decide_eq_true_eq] at h
  obtain ⟨h1, h2⟩ := h
  rw [List.take_of_length_le (by omega)] at h1
  refine ⟨h2, fun x hx => ?_⟩
  have := List.all_eq_true.1 h1 x hx
  simp only [okOp, Bool.and_eq_true, decide_eq_true_eq] at this
  exact this.1
theorem fewB_hit {l : List Op12} {n m : Nat} (hm : m < l.length) (h2 : m < 200) (h : okOp l[m] = false) : fewB l n = false := by
  have : (l.take 200).all okOp = false := by
    rw [List.all_eq_false]
    refine ⟨l[m], ?_, by simp [h]⟩
    rw [List.mem_take_iff_getElem]
    exact ⟨m, by omega, rfl⟩
  simp [fewB, this]
theorem fewB_end {l : List Op12} {n : Nat} (h : ∀ j (hj : j < l.length), j < 200 → okOp l[j] = true) : fewB l n = decide (l.length ≤ n) := by
  have : (l.take 200).all okOp = true := by
    rw [List.all_eq_true]
    intro x hx
    rw [List.mem_take_iff_getElem] at hx
    obtain ⟨j, hj, rfl⟩ := hx
    exact h j (by omega) (by omega)
  simp [fewB, this]
set_option maxHeartbeats 2000000 in
theorem few_call (A : Option Addr) (l : List Op12) (c : Nat) (F : Nat → Prop) (n : Nat) (w : World) (hs : SliceOf Rep.op w F (.slice A l.length c) l) (hn : n ≤ 200) :
    Calls Try.prog 8 #[.slice A l.length c, .int .i64 (n : Int)] w fun e w' => e = .returned (.bool (fewB l n)) ∧ Keep [] w w' := by
  obtain ⟨_, _, e0, hl⟩ := hs.form
  clear e0
  have HS := Lib.hid hs
  clear hs
  have HH := Lib.hid (fun m (hm : m < l.length) h2 h => fewB_hit (n := n) hm h2 h)
  have HN := Lib.hid (fun h => fewB_end (l := l) (n := n) h)
  generalize fewB l n = out at *
  go_enter Try.func8, Try.ntmps8
  go_wp2
  go_loopw [5] (fun i wr => ∃ m : Nat, m ≤ l.length ∧ m ≤ 200 ∧ i = .int .i64 m ∧ Keep [] w wr ∧ Hid (∀ j (hj : j < l.length), j < m → okOp l[j] = true)) (fun i _ => l.length - (intOf i).toNat)
  case atStart => exact ⟨0, Nat.zero_le _, by omega, rfl, Keep.refl _ _, Lib.hid (fun j hj h => absurd h (Nat.not_lt_zero _))⟩
  case round =>
    obtain ⟨m, hm, hm2, rfl, kk, ho⟩ := hrel
    by_cases hlt : m < l.length
    · have hltz : (m : Int) < (l.length : Int) := by omega
      by_cases h200 : m < 200
      · have h200z : (m : Int) < 200 := by omega
        obtain ⟨g, o, B, d, rfl, c0, c1, c2, c3, c4, i1, i2, i3⟩ := (HS.out.keep (fun i hF hi => kk.block i hi (by simp))).op_at hlt
        obtain ⟨_, _, _, hlen⟩ := i3.form
        have i23 := i2.2.2
        have hq : Hid (okOp l[m] = true → ∀ j (hj : j < l.length), j < m + 1 → okOp l[j] = true) := Lib.hid (fun h j hj hjm => by
          by_cases e : j = m
          · subst e; exact h
          · exact ho.out j hj (by omega))
        have hh := Lib.hid (HH.out m hlt h200)
        generalize l[m] = x at *
        obtain ⟨k, ⟨xc, xs, xb⟩, xl⟩ := x
        dsimp only at *
        clear i1 i2 i3 ho
        by_cases hL : 10 < xl.length
        · have hLz : (10 : Int) < (xl.length : Int) := by omega
          have he := hh.out (by simp [okOp]; omega)
          subst he
          go_wp2
          go_ret
          exact ⟨rfl, kk⟩
        · have hLz : ¬ (10 : Int) < (xl.length : Int) := by omega
          by_cases hB : 60 < xb.size
          · have hBz : (60 : Int) < (xb.size : Int) := by omega
            have he := hh.out (by simp [okOp]; omega)
            subst he
            go_wp2
            go_ret
            exact ⟨rfl, kk⟩
          · have hBz : ¬ (60 : Int) < (xb.size : Int) := by omega
            go_wp2
            go_roundw
            case rel => exact ⟨m + 1, by omega, by omega, by go_num, kk, Lib.hid (hq.out (by simp [okOp]; omega))⟩
            case measure => simp [intOf]; omega
      · have h200z : ¬ (m : Int) < 200 := by omega
        have hbig : ¬ ((l.length : Int) ≤ (n : Int)) := by omega
        have he := HN.out (fun j hj h => ho.out j hj (by omega))
        have he2 : out = false := by rw [he]; simp; omega
        subst he2
        clear he
        go_wp2
        go_ret
        exact ⟨rfl, kk⟩
    · have hltz : ¬ (m : Int) < (l.length : Int) := by omega
      obtain rfl : m = l.length := by omega
      have he := HN.out (fun j hj h => ho.out j hj hj)
      subst he
      go_wp2
      go_ret
      exact ⟨by simp, kk⟩
theorem aw1 : addE [] [] ⟨0, 0, ⟨#[]⟩⟩ = 1 := by simp [addE, rightReq]
theorem aw2 : addE [] [] ⟨0, 1, ⟨#[]⟩⟩ = 0 := by simp [addE, rightReq, hasR, ByteArray.size]
theorem aw3 : addW [] [] ⟨0, 0, ⟨#[]⟩⟩ = [] := by simp [addW, aw1]
theorem aw4 : addW [] [] ⟨0, 1, ⟨#[]⟩⟩ = [⟨0, 1, ⟨#[]⟩⟩] := by simp [addW, aw2]
set_option maxHeartbeats 1000000 in
theorem awake_call (w : World) : Calls Try.prog 7 #[] w fun e w' => e = .returned (.bool true) ∧ Keep [] w w' := by
  have hA1 := fun w F p n hp => add_call w F p n [] [] ⟨0, 0, ⟨#[]⟩⟩ ⟨by show I64 0; unfold I64; omega, by show I64 0; unfold I64; omega, by show (0 : Nat) ≤ _; omega⟩ hp (by simp)
  have hA2 := fun w F p n hp => add_call w F p n [] [] ⟨0, 1, ⟨#[]⟩⟩ ⟨by show I64 0; unfold I64; omega, by show I64 1; unfold I64; omega, by show (0 : Nat) ≤ _; omega⟩ hp (by simp)
  have hL := fun w F p n hp => len_call w F p n [⟨0, 1, ⟨#[]⟩⟩] [] hp
  simp only [aw1, aw3] at hA1
  simp only [aw2, aw4] at hA2
  simp only [List.length_singleton] at hL
  go_enter Try.func7, Try.ntmps7
  go_wp2_with (first | (go_at_call 9; refine (new_call _).mono ?_; rintro e w1 ⟨p, rfl, h1, k1⟩) | (go_at_call 12; with_reducible refine (hA1 w1 _ p 0 h1).mono ?_; rintro e w2 ⟨rfl, h2, k2⟩) | (go_at_call 12; with_reducible refine (hA2 w2 _ p 0 h2).mono ?_; rintro e w3 ⟨rfl, h3, k3⟩) | (go_at_call 14; with_reducible refine (hL w3 _ p 0 h3).mono ?_; rintro e w4 ⟨rfl, k4⟩) | go_in)
  go_ret
  refine ⟨rfl, ?_⟩
  have t2 := k2.mono (G := fun i => w.heap.size ≤ i) (fun i _ h => h)
  have t3 := k3.mono (G := fun i => w.heap.size ≤ i) (fun i _ h => h.elim id (fun h => Nat.le_trans k1.size h))
  exact (((k1.turn (by simp)).trans (t2.trans t3)).trans (k4.turn (by simp))).keep (fun k hk => by omega)
end Go.Proofs.Ytaiemagmkfjklaa
