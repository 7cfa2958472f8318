import Derived.Test.YtaiemagmkfjklaaPool14
namespace Go.Proofs.Ytaiemagmkfjklaa
open Go.RowKit Go.Shelf
set_option linter.unusedVariables false
set_option linter.unusedSimpArgs false
/-! the law PoolDone -/
/-- One call, as the laws' loops make it. -/
theorem call_step (w wr : World) (G : Nat → Prop) (p n k : Nat) (t : PS) (l : List Op12) (hk : k < l.length) (L : Option Addr) (lc : Nat) (hp : PoolAt wr (fun i => w.heap.size ≤ i ∧ i < wr.heap.size) p n t.1 t.2) (h0 : 0 ≤ l[k].k ∧ l[k].k ≤ 255) (hr : ReqOk l[k].r)
    (hs : SliceOf Rep.req wr G (.slice L l[k].l.length lc) l[k].l) (hG : ∀ i, G i → i < w.heap.size) (hi : InvP t) (hn : n + 10 ≤ 1000000) (hl : l[k].l.length ≤ 10) (kk : Keep [] w wr) :
    Calls Try.prog 10 #[.pointer (some ⟨p, 0, none⟩), .agg #[.int .u8 l[k].k, .int .i64 l[k].r.c, .int .i64 l[k].r.s, .string l[k].r.b, .slice L l[k].l.length lc]] wr fun e w' =>
      e = .returned (.int .i64 (opE t.1 t.2 l[k])) ∧ PoolAt w' (fun i => w.heap.size ≤ i ∧ i < w'.heap.size) p (n + 10) (stepP t l[k]).1 (stepP t l[k]).2 ∧ Keep [] w w' := by
  have hz := kk.size
  refine (call_call wr _ G p n t.1 t.2 l[k] L lc hp h0 hr hs (by have := hi.2; omega) (by omega) (fun i h => h.2) (fun i hg hf => by have := hG i hg; omega)).mono ?_
  rintro e w' ⟨rfl, h1, h2⟩
  have hz2 := h2.size
  exact ⟨rfl, h1.mono (fun i hi h => ⟨h.elim (fun h => h.1) (fun h => by omega), hi⟩) (by omega), ((kk.turn (F := fun i => w.heap.size ≤ i) (by simp)).trans (h2.mono (fun i _ h => h.1))).keep (fun i hi => by omega)⟩
set_option maxHeartbeats 4000000 in
theorem poolDone_call (A B : Option Addr) (l more : List Op12) (c d : Nat) (r : Req) (F : Nat → Prop) (w : World) (ha : SliceOf Rep.op w F (.slice A l.length c) l) (hb : SliceOf Rep.op w F (.slice B more.length d) more) (hr : ReqOk r) (hF : ∀ i, F i → i < w.heap.size) :
    Calls Try.prog 3 #[.slice A l.length c, .slice B more.length d, .agg #[.int .i64 r.c, .int .i64 r.s, .string r.b]] w fun e w' => e = .returned (.bool true) ∧ Keep [] w w' := by
  obtain ⟨rc, rs, rb⟩ := r
  dsimp only
  have k0 : Keep [] w (w.alloc (.cells #[.int .i64 rc, .int .i64 rs, .string rb] 24)) := (Keep.refl _ _).alloc _
  have b0 := Blk.new w #[.int .i64 rc, .int .i64 rs, .string rb] 24
  obtain ⟨w0, hw0⟩ : ∃ w0, w0 = w.alloc (.cells #[.int .i64 rc, .int .i64 rs, .string rb] 24) := ⟨_, rfl⟩
  have hz0 : w0.heap.size = w.heap.size + 1 := by rw [hw0]; simp
  rw [← hw0] at k0 b0
  have hfa : ∀ w', Keep [] w w' → Calls Try.prog 8 #[.slice A l.length c, .int .i64 40] w' fun e w'' => e = .returned (.bool (fewB l 40)) ∧ Keep [] w' w'' := fun w' (k : Keep [] w w') => few_call A l c F 40 w' (ha.keep (k.at F (by simp))) (by omega)
  have hfb : ∀ w', Keep [] w w' → Calls Try.prog 8 #[.slice B more.length d, .int .i64 20] w' fun e w'' => e = .returned (.bool (fewB more 20)) ∧ Keep [] w' w'' := fun w' (k : Keep [] w w') => few_call B more d F 20 w' (hb.keep (k.at F (by simp))) (by omega)
  obtain ⟨_, _, e0, hla⟩ := ha.form
  clear e0
  obtain ⟨_, _, e0, hlb⟩ := hb.form
  clear e0
  have HA := Lib.hid ha
  have HB := Lib.hid hb
  have HR := Lib.hid hr
  clear ha hb hr
  cases h1 : fewB l 40 with
  | false =>
    rw [h1] at hfa
    go_enter Try.func3, Try.ntmps3
    go_wp2_with (first | (go_at_call 7; refine (awake_call _).mono ?_; rintro e w1 ⟨rfl, k1⟩; (try rw [← hw0] at k1); have k01 := k0.trans k1) | (go_at_call 8; refine (hfa _ k01).mono ?_; rintro e w2 ⟨rfl, k2⟩; have k0 := k01.trans k2) | go_in)
    go_ret
    exact ⟨rfl, k01⟩
  | true =>
    rw [h1] at hfa
    cases h2 : fewB more 20 with
    | false =>
      rw [h2] at hfb
      go_enter Try.func3, Try.ntmps3
      go_wp2_with (first | (go_at_call 7; refine (awake_call _).mono ?_; rintro e w1 ⟨rfl, k1⟩; (try rw [← hw0] at k1); have k01 := k0.trans k1) | (go_at_call 8; with_reducible refine (hfa _ k01).mono ?_; rintro e w2 ⟨rfl, k2⟩; have k02 := k01.trans k2) | (go_at_call 8; with_reducible refine (hfb _ k02).mono ?_; rintro e w2 ⟨rfl, k2⟩; have k0 := k02.trans k2) | go_in)
      go_ret
      exact ⟨rfl, k01⟩
    | true =>
      rw [h2] at hfb
      obtain ⟨n1, q1⟩ := fewB_le h1 (by omega)
      obtain ⟨n2, q2⟩ := fewB_le h2 (by omega)
      have Q1 := Lib.hid q1
      have Q2 := Lib.hid q2
      clear q1 q2 h1 h2
      go_enter Try.func3, Try.ntmps3
      go_wp2_with (first | (go_at_call 7; refine (awake_call _).mono ?_; rintro e w1 ⟨rfl, k1⟩; rw [← hw0] at k1; have kx1 := k1; have k01 := k0.trans k1) | (go_at_call 8; with_reducible refine (hfa _ k01).mono ?_; rintro e w2 ⟨rfl, k2⟩; have k02 := k01.trans k2) | (go_at_call 8; with_reducible refine (hfb _ k02).mono ?_; rintro e w3 ⟨rfl, k3⟩; have k03 := k02.trans k3) | (go_at_call 9; refine (new_call _).mono ?_; rintro e w4 ⟨p, rfl, hp4, k4⟩) | go_in)
      clear hw0
      have kz4 := (Keep.refl [] w0).trans (((kx1.trans k2).trans k3).trans k4)
      have s3 := (kx1.trans (k2.trans k3)).size
      have s4 := kz4.size
      have s5 := hp4
      clear hfa hfb
      have hrr := runP_take ([], []) l
      have hrr := Lib.hid hrr
      go_loopw [8] (fun i wr => ∃ k : Nat, k ≤ l.length ∧ i = .int .i64 k ∧ Hid (PoolAt wr (fun i => w0.heap.size ≤ i ∧ i < wr.heap.size) p (10 * k) (runP ([], []) (l.take k)).1 (runP ([], []) (l.take k)).2) ∧ Keep [] w0 wr) (fun i _ => l.length - (intOf i).toNat)
      case atStart => exact ⟨0, Nat.zero_le _, rfl, Lib.hid (hp4.mono (fun i hi h => ⟨Nat.le_trans s3 h, hi⟩) (Nat.le_refl _)), kz4⟩
      case round =>
        obtain ⟨k, hk, rfl, hP, kk⟩ := hrel
        by_cases hlt : k < l.length
        · have hltz : (k : Int) < (l.length : Int) := by omega
          obtain ⟨g, o, L, lc, rfl, c0, c1, c2, c3, c4, i1, i2, i3⟩ := (HA.out.keep ((k0.trans kk).at F (by simp))).op_at hlt
          have hc := call_step w0 wr F p (10 * k) k (runP ([], []) (l.take k)) l hlt L lc hP.out i1 i2 i3 (fun i h => by have := hF i h; omega) (InvP.start.run _) (by omega) (Q1.out _ (List.getElem_mem hlt)) kk
          have hst := Lib.hid (hrr.out k hlt)
          generalize l[k] = x at *
          obtain ⟨xk, ⟨xc, xs, xb⟩, xl⟩ := x
          dsimp only at *
          have hc := Lib.hid hc
          clear i1 i2 i3
          go_wp2_with (go_at_call 10; refine hc.out.mono ?_; rintro e w5 ⟨rfl, h1, h2⟩)
          go_roundw
          case rel => exact ⟨k + 1, by omega, by go_num, Lib.hid (by rw [hst.out]; exact h1), h2⟩
          case measure => simp [intOf]; omega
        · have hltz : ¬ (k : Int) < (l.length : Int) := by omega
          obtain rfl : k = l.length := by omega
          have hP := hP.out
          rw [List.take_length] at hP
          have hI : InvP (runP ([], []) l) := InvP.start.run l
          obtain ⟨t0, ht0⟩ : ∃ t0, t0 = runP ([], []) l := ⟨_, rfl⟩
          rw [← ht0] at hP hI
          have b1 := (b0.keep kk (by simp)).three
          have sr := blk_slice (r := ⟨rc, rs, rb⟩) (Blk.new wr #[.int .i64 rc, .int .i64 rs, .string rb] 24) HR.out
          have hP1 := hP.turn (((Keep.refl [] wr).alloc (.cells #[.int .i64 rc, .int .i64 rs, .string rb] 24)).turn (F := fun _ => False) (by simp)) (by simp)
          have hD := done_call _ _ _ p _ t0.1 t0.2 [⟨rc, rs, rb⟩] _ _ hP1 sr (fun i h1 h2 => by omega) (by simp; omega) (by have := hI.2; omega)
          obtain ⟨t1, ht1⟩ : ∃ t1, t1 = stepP t0 (doneOp ⟨rc, rs, rb⟩) := ⟨_, rfl⟩
          have ht1a : t1.1 = t0.1.filter (fun r => !hasR (t0.2 ++ [⟨rc, rs, rb⟩]) r.c r.s) := by rw [ht1]; rfl
          have ht1b : t1.2 = t0.2 ++ [⟨rc, rs, rb⟩] := by rw [ht1]; rfl
          rw [← ht1a, ← ht1b] at hD
          have hI1 : InvP t1 := by rw [ht1]; exact hI.step _
          have hd1 : hasR t1.2 rc rs = true := by rw [ht1b, hasR_app]; simp [hasR]
          clear ht1 ht1a ht1b ht0
          simp only [List.length_singleton] at hD
          have HD := Lib.hid hD
          have H0 := Lib.hid (And.intro hI1 hd1)
          clear hD hP hP1 sr hI hI1 hd1
          have hkz := kk.size
          go_wp2_with (go_at_call 11; refine HD.out.mono ?_; rintro e w6 ⟨rfl, hp6, k6⟩)
          have ka6 : Keep [] w0 w6 := ((((kk.alloc (.cells #[.int .i64 rc, .int .i64 rs, .string rb] 24))).turn (F := fun i => w0.heap.size ≤ i) (by simp)).trans (k6.mono (fun i _ h => h.1))).keep (fun i hi => by omega)
          have hz6 := k6.size
          simp only [World.size_alloc] at hz6
          have hrr2 := Lib.hid (runP_take t1 more)
          go_loopw [9] (fun i wx => ∃ k : Nat, k ≤ more.length ∧ i = .int .i64 k ∧ Hid (PoolAt wx (fun i => w0.heap.size ≤ i ∧ i < wx.heap.size) p (10 * l.length + 1 + 10 * k) (runP t1 (more.take k)).1 (runP t1 (more.take k)).2) ∧ Keep [] w0 wx) (fun i _ => more.length - (intOf i).toNat)
          case atStart => exact ⟨0, Nat.zero_le _, rfl, Lib.hid (hp6.mono (fun i hi h => ⟨h.1, hi⟩) (Nat.le_refl _)), ka6⟩
          case round =>
            obtain ⟨k, hk, rfl, hP, kx⟩ := hrel
            by_cases hlt : k < more.length
            · have hltz : (k : Int) < (more.length : Int) := by omega
              obtain ⟨g, o, L, lc, rfl, c0, c1, c2, c3, c4, i1, i2, i3⟩ := (HB.out.keep ((k0.trans kx).at F (by simp))).op_at hlt
              rename World => wx
              have hc := call_step w0 wx F p (10 * l.length + 1 + 10 * k) k (runP t1 (more.take k)) more hlt L lc hP.out i1 i2 i3 (fun i h => by have := hF i h; omega) (H0.out.1.run _) (by omega) (Q2.out _ (List.getElem_mem hlt)) kx
              have hst := Lib.hid (hrr2.out k hlt)
              generalize more[k] = x at *
              obtain ⟨xk, ⟨xc, xs, xb⟩, xl⟩ := x
              dsimp only at *
              have hc := Lib.hid hc
              clear i1 i2 i3
              go_wp2_with (go_at_call 10; refine hc.out.mono ?_; rintro e w5 ⟨rfl, h1, h2⟩)
              go_roundw
              case rel => exact ⟨k + 1, by omega, by go_num, Lib.hid (by rw [hst.out]; exact h1), h2⟩
              case measure => simp [intOf]; omega
            · have hltz : ¬ (k : Int) < (more.length : Int) := by omega
              obtain rfl : k = more.length := by omega
              rename World => wx
              have hP := hP.out
              rw [List.take_length] at hP
              have hI : InvP (runP t1 more) := H0.out.1.run more
              have hd := runP_done more rc rs t1 H0.out.2
              generalize runP t1 more = t2 at *
              have b1 := (b0.keep kx (by simp)).three
              have hA := add_call wx _ p _ t2.1 t2.2 ⟨rc, rs, rb⟩ HR.out hP (by have := hI.2; omega)
              rw [addW_done (r := ⟨rc, rs, rb⟩) hd] at hA
              dsimp only at hA
              have he := addE_done (ws := t2.1) (r := ⟨rc, rs, rb⟩) hd
              have hz := kx.size
              have hno := hasR_of_inv hI hd
              have hlen := hI.2
              have hlz : (t2.1.length : Int) ≤ 12 := by omega
              generalize addE t2.1 t2.2 ⟨rc, rs, rb⟩ = ee at *
              have hHas := fun w' F' n' (h : PoolAt w' F' p n' t2.1 t2.2) => has_call w' F' p n' t2.1 t2.2 rc rs h (by omega)
              have hLen := fun w' F' n' (h : PoolAt w' F' p n' t2.1 t2.2) => len_call w' F' p n' t2.1 t2.2 h
              rw [hno] at hHas
              have hA := Lib.hid hA
              have hHas := Lib.hid hHas
              have hLen := Lib.hid hLen
              clear hP
              have mv : ∀ w', Turn (fun i => w0.heap.size ≤ i ∧ i < wx.heap.size) wx w' → True := fun _ _ => trivial
              clear mv
              rcases he with rfl | rfl
              all_goals
                go_wp2_with (first | (go_at_call 12; refine hA.out.mono ?_; rintro e w7 ⟨rfl, hp7, k7⟩; have hb7 : Blk w7 w.heap.size #[.int .i64 rc, .int .i64 rs, .string rb] 24 := (k7.block _ (b0.keep kx (by simp)).lt (by omega)).trans (b0.keep kx (by simp)); obtain ⟨d0, d1, -⟩ := hb7.three) | (go_at_call 13; refine (hHas.out w7 _ _ hp7).mono ?_; rintro e w8 ⟨rfl, k8⟩; have hp8 := hp7.turn (k8.turn (F := fun _ => False) (by simp)) (by simp)) | (go_at_call 14; refine (hLen.out w8 _ _ hp8).mono ?_; rintro e w9 ⟨rfl, k9⟩) | go_in)
                go_ret
                refine ⟨by simp, ?_⟩
                exact k0.trans (((((kx.turn (F := fun i => w0.heap.size ≤ i) (by simp)).trans (k7.mono (fun i _ h => h.1))).trans (k8.turn (by simp))).trans (k9.turn (by simp))).keep (fun i hi => by omega))
end Go.Proofs.Ytaiemagmkfjklaa
