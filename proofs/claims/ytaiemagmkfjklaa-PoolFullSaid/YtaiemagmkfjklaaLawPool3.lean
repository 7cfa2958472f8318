import Derived.Test.YtaiemagmkfjklaaLawPool2
namespace Go.Proofs.Ytaiemagmkfjklaa
open Go.RowKit Go.Shelf
set_option linter.unusedVariables false
set_option linter.unusedSimpArgs false
/-! the law PoolFull -/
set_option maxHeartbeats 8000000 in
theorem poolFull_call (n m : Int) (w : World) (hn : 0 ≤ n ∧ n ≤ 255) (hm : 0 ≤ m ∧ m ≤ 255) :
    Calls Try.prog 4 #[.int .u8 n, .int .u8 m] w fun e w' => e = .returned (.bool true) ∧ Keep [] w w' := by
  obtain ⟨n, rfl⟩ := Int.eq_ofNat_of_zero_le hn.1
  obtain ⟨m, rfl⟩ := Int.eq_ofNat_of_zero_le hm.1
  obtain ⟨k, hk⟩ : ∃ k, k = n % 20 := ⟨_, rfl⟩
  have hk20 : k < 20 := by omega
  have e1 : ((n : Nat) : Int).tmod 20 = (k : Int) := by rw [hk]; rfl
  have e2 : ((n : Nat) : Int) % 20 = (k : Int) := by rw [hk]; rfl
  clear hk
  go_enter Try.func4, Try.ntmps4
  go_wp2_with (first | (go_at_call 7; refine (awake_call _).mono ?_; rintro e w1 ⟨rfl, k1⟩) | (go_at_call 9; refine (new_call _).mono ?_; rintro e w2 ⟨p, rfl, hp2, k2⟩) | go_in)
  have k02 := k1.trans k2
  have s1 := k1.size
  go_loopw [7] (fun i wr => ∃ j : Nat, j ≤ k ∧ i = .int .i64 ((j : Int) + 1) ∧ Hid (PoolAt wr (fun i => w.heap.size ≤ i ∧ i < wr.heap.size) p 0 (st1 j) []) ∧ Keep [] w wr) (fun i _ => k + 1 - (intOf i).toNat)
  case atStart => exact ⟨0, Nat.zero_le _, by go_num, Lib.hid (hp2.mono (fun i hi h => ⟨Nat.le_trans s1 h, hi⟩) (Nat.le_refl _)), k02⟩
  case round =>
    obtain ⟨j, hj, rfl, hP, kk⟩ := hrel
    by_cases hlt : j < k
    · have hltz : ((j : Int) + 1 ≤ (k : Int)) := by omega
      obtain ⟨a1, a2⟩ := full1 (j := j) (by omega)
      have hA := add_call wr _ p 0 (st1 j) [] (rq (j + 1)) (rq_ok _ (by omega)) hP.out (by have := st1_len j; omega)
      rw [a1, a2] at hA
      have m4 : ((j : Int) + 1).tmod 4 = (rq (j + 1)).c := rfl
      have m5 : ((j : Int) + 1) % 4 = (rq (j + 1)).c := rfl
      have m6 : (rq (j + 1)).s = (j : Int) + 1 := rfl
      have m7 : (rq (j + 1)).b = ⟨#[]⟩ := rfl
      rw [m6, m7] at hA
      have hA := Lib.hid hA
      clear a1 a2 m6 m7
      generalize (rq (j + 1)).c = rc at *
      have hz := kk.size
      have kt := kk.turn (F := fun i => w.heap.size ≤ i) (by simp)
      by_cases h12 : 12 < j + 1
      · have h12z : (12 : Int) < (j : Int) + 1 := by omega
        have hw : want (j + 1) = 7 := if_pos h12
        rw [hw] at hA
        go_wp2_with (go_at_call 12; refine hA.out.mono ?_; rintro e w3 ⟨rfl, h1, h2⟩)
        go_roundw
        case rel =>
          have hz2 := h2.size
          exact ⟨j + 1, by omega, by go_num, Lib.hid (h1.mono (fun i hi h => ⟨h.elim (fun h => h.1) (fun h => by omega), hi⟩) (Nat.le_refl _)), (kt.trans (h2.mono (fun i _ h => h.1))).keep (fun i hi => by omega)⟩
        case measure => simp [intOf]; omega
      · have h12z : ¬ (12 : Int) < (j : Int) + 1 := by omega
        have hw : want (j + 1) = 0 := if_neg h12
        rw [hw] at hA
        go_wp2_with (go_at_call 12; refine hA.out.mono ?_; rintro e w3 ⟨rfl, h1, h2⟩)
        go_roundw
        case rel =>
          have hz2 := h2.size
          exact ⟨j + 1, by omega, by go_num, Lib.hid (h1.mono (fun i hi h => ⟨h.elim (fun h => h.1) (fun h => by omega), hi⟩) (Nat.le_refl _)), (kt.trans (h2.mono (fun i _ h => h.1))).keep (fun i hi => by omega)⟩
        case measure => simp [intOf]; omega
    · have hltz : ¬ ((j : Int) + 1 ≤ (k : Int)) := by omega
      obtain rfl : j = k := by omega
      have hP := hP.out
      rw [st1_st2] at hP
      have hz := kk.size
      by_cases hle : j ≤ 12
      · have hlez : (j : Int) ≤ 12 := by omega
        obtain ⟨a, ha⟩ : ∃ a, a = j := ⟨_, rfl⟩
        rw [show min j 12 = a by omega] at hP
        obtain ⟨d, hd⟩ : ∃ d, d = m % (a + 1) := ⟨_, rfl⟩
        have hda : d ≤ a := by have := Nat.mod_lt m (show 0 < a + 1 by omega); omega
        have ha12 : a ≤ 12 := by omega
        have t1 : ((m : Nat) : Int).tmod ((j : Int) + 1) = (d : Int) := by rw [hd, ha]; rfl
        have t2 : ((m : Nat) : Int) % ((j : Int) + 1) = (d : Int) := by rw [hd, ha]; rfl
        have hP := Lib.hid hP
        have hai : ((a : Nat) : Int) = (j : Int) := by omega
        clear hd
        skip
        go_wp2_with fail
        go_loopw [10] (fun i wx => ∃ u : Nat, u ≤ d ∧ i = .int .i64 ((u : Int) + 1) ∧ Hid (PoolAt wx (fun i => w.heap.size ≤ i ∧ i < wx.heap.size) p u (st2 a u) (dn2 u)) ∧ Keep [] w wx) (fun i _ => d + 1 - (intOf i).toNat)
        case atStart => exact ⟨0, Nat.zero_le _, by go_num, hP, kk⟩
        case round =>
          obtain ⟨u, hu, rfl, hP, kx⟩ := hrel
          rename World => wx
          have hzx := kx.size
          by_cases hlt : u < d
          · have hltz : ((u : Int) + 1 ≤ (d : Int)) := by omega
            obtain ⟨a1, a2⟩ := full2 (a := a) (j := u) ha12 (by omega)
            have sr := blk_slice (r := rq (u + 1)) (Blk.new wx #[.int .i64 (rq (u + 1)).c, .int .i64 (rq (u + 1)).s, .string (rq (u + 1)).b] 24) (rq_ok _ (by omega))
            have hP1 := hP.out.turn (((Keep.refl [] wx).alloc (.cells #[.int .i64 (rq (u + 1)).c, .int .i64 (rq (u + 1)).s, .string (rq (u + 1)).b] 24)).turn (F := fun _ => False) (by simp)) (by simp)
            have hD := done_call _ _ _ p u (st2 a u) (dn2 u) [rq (u + 1)] _ _ hP1 sr (fun i h1 h2 => by omega) (by simp; omega) (by simp [st2]; omega)
            rw [a1, a2] at hD
            simp only [List.length_singleton] at hD
            have m4 : ((u : Int) + 1).tmod 4 = (rq (u + 1)).c := rfl
            have m5 : ((u : Int) + 1) % 4 = (rq (u + 1)).c := rfl
            have m6 : (rq (u + 1)).s = (u : Int) + 1 := rfl
            have m7 : (rq (u + 1)).b = ⟨#[]⟩ := rfl
            rw [m6, m7] at hD
            have hD := Lib.hid hD
            clear a1 a2 m6 m7 sr hP1
            generalize (rq (u + 1)).c = rc at *
            have kt := ((kx.alloc (.cells #[.int .i64 rc, .int .i64 ((u : Int) + 1), .string ⟨#[]⟩] 24)).turn (F := fun i => w.heap.size ≤ i) (by simp))
            go_wp2_with (go_at_call 11; refine hD.out.mono ?_; rintro e w3 ⟨rfl, h1, h2⟩)
            go_roundw
            case rel =>
              have hz2 := h2.size
              exact ⟨u + 1, by omega, by go_num, Lib.hid (h1.mono (fun i hi h => ⟨h.1, hi⟩) (Nat.le_refl _)), (kt.trans (h2.mono (fun i _ h => h.1))).keep (fun i hi => by omega)⟩
            case measure => simp [intOf]; omega
          · have hltz : ¬ ((u : Int) + 1 ≤ (d : Int)) := by omega
            obtain rfl : u = d := by omega
            obtain ⟨f1, f2, f3⟩ := full4 ha12 hda
            have hL := len_call wx _ p u (st2 a u) (dn2 u) hP.out
            rw [f3] at hL
            have hc : ((a - u : Nat) : Int) = (j : Int) - (u : Int) := by omega
            rw [hc] at hL
            have hL := Lib.hid hL
            have hP := hP.out
            rw [st2_st3] at hP
            have hP := Lib.hid hP
            have f1 := Lib.hid f1
            have f2 := Lib.hid f2
            clear f3 hc
            go_wp2_with (go_at_call 14; refine hL.out.mono ?_; rintro e w3 ⟨rfl, k3⟩)
            have hP3 := hP.out.turn (k3.turn (F := fun _ => False) (by simp)) (by simp)
            have hz3 := k3.size
            go_loopw [11] (fun i wy => ∃ v : Nat, v ≤ 12 - a + u ∧ i = .int .i64 (v : Int) ∧ Hid (PoolAt wy (fun i => w.heap.size ≤ i ∧ i < wy.heap.size) p u (st3 a u v) (dn2 u)) ∧ Keep [] w wy) (fun i _ => 12 - a + u - (intOf i).toNat)
            case atStart => exact ⟨0, Nat.zero_le _, by go_num, Lib.hid (hP3.mono (fun i hi h => ⟨h.1, hi⟩) (Nat.le_refl _)), kx.trans k3⟩
            case round =>
              obtain ⟨v, hv, rfl, hP, ky⟩ := hrel
              rename World => wy
              have hzy := ky.size
              have kt := ky.turn (F := fun i => w.heap.size ≤ i) (by simp)
              have hs3 : (st3 a u v).length ≤ 1000000 := by simp [st3, st2]; omega
              by_cases hlt : v < 12 - a + u
              · have hltz : (v : Int) < 12 - (j : Int) + (u : Int) := by omega
                obtain ⟨a1, a2⟩ := full3 (a := a) (d := u) (i := v) ha12 hda hlt
                have hA := add_call wy _ p u (st3 a u v) (dn2 u) (rz v) (rz_ok _ (by omega)) hP.out hs3
                rw [a1, a2] at hA
                have hA := Lib.hid hA
                clear a1 a2
                unfold rz at hA
                dsimp only at hA
                go_wp2_with (go_at_call 12; refine hA.out.mono ?_; rintro e w4 ⟨rfl, h1, h2⟩)
                go_roundw
                case rel =>
                  have hz2 := h2.size
                  exact ⟨v + 1, by omega, by go_num, Lib.hid (h1.mono (fun i hi h => ⟨h.elim (fun h => h.1) (fun h => by omega), hi⟩) (Nat.le_refl _)), (kt.trans (h2.mono (fun i _ h => h.1))).keep (fun i hi => by omega)⟩
                case measure => simp [intOf]; omega
              · have hltz : ¬ ((v : Int) < 12 - (j : Int) + (u : Int)) := by omega
                obtain rfl : v = 12 - a + u := by omega
                have hL := len_call wy _ p u _ (dn2 u) hP.out
                have hA := fun w' F' (h : PoolAt w' F' p u (st3 a u (12 - a + u)) (dn2 u)) => add_call w' F' p u _ (dn2 u) ⟨2, 500, ⟨#[]⟩⟩ ⟨by show I64 2; unfold I64; omega, by show I64 500; unfold I64; omega, by show (0 : Nat) ≤ _; omega⟩ h hs3
                rw [f2.out] at hL
                rw [f1.out] at hA
                have hL := Lib.hid hL
                have hA := Lib.hid hA
                go_wp2_with (first | (go_at_call 14; refine hL.out.mono ?_; rintro e w4 ⟨rfl, k4⟩; have hP4 := hP.out.turn (k4.turn (F := fun _ => False) (by simp)) (by simp)) | (go_at_call 12; refine (hA.out w4 _ hP4).mono ?_; rintro e w5 ⟨rfl, h1, h2⟩) | go_in)
                go_ret
                refine ⟨by simp, ?_⟩
                exact ((kt.trans (k4.turn (by simp))).trans (h2.mono (fun i _ h => h.1))).keep (fun i hi => by omega)
      · have hlez : ¬ (j : Int) ≤ 12 := by omega
        obtain ⟨a, ha⟩ : ∃ a, a = 12 := ⟨_, rfl⟩
        rw [show min j 12 = a by omega] at hP
        obtain ⟨d, hd⟩ : ∃ d, d = m % (a + 1) := ⟨_, rfl⟩
        have hda : d ≤ a := by have := Nat.mod_lt m (show 0 < a + 1 by omega); omega
        have ha12 : a ≤ 12 := by omega
        have t1 : ((m : Nat) : Int).tmod (13) = (d : Int) := by rw [hd, ha]; rfl
        have t2 : ((m : Nat) : Int) % (13) = (d : Int) := by rw [hd, ha]; rfl
        have hP := Lib.hid hP
        have hai : ((a : Nat) : Int) = 12 := by omega
        clear hd
        skip
        go_wp2_with fail
        go_loopw [10] (fun i wx => ∃ u : Nat, u ≤ d ∧ i = .int .i64 ((u : Int) + 1) ∧ Hid (PoolAt wx (fun i => w.heap.size ≤ i ∧ i < wx.heap.size) p u (st2 a u) (dn2 u)) ∧ Keep [] w wx) (fun i _ => d + 1 - (intOf i).toNat)
        case atStart => exact ⟨0, Nat.zero_le _, by go_num, hP, kk⟩
        case round =>
          obtain ⟨u, hu, rfl, hP, kx⟩ := hrel
          rename World => wx
          have hzx := kx.size
          by_cases hlt : u < d
          · have hltz : ((u : Int) + 1 ≤ (d : Int)) := by omega
            obtain ⟨a1, a2⟩ := full2 (a := a) (j := u) ha12 (by omega)
            have sr := blk_slice (r := rq (u + 1)) (Blk.new wx #[.int .i64 (rq (u + 1)).c, .int .i64 (rq (u + 1)).s, .string (rq (u + 1)).b] 24) (rq_ok _ (by omega))
            have hP1 := hP.out.turn (((Keep.refl [] wx).alloc (.cells #[.int .i64 (rq (u + 1)).c, .int .i64 (rq (u + 1)).s, .string (rq (u + 1)).b] 24)).turn (F := fun _ => False) (by simp)) (by simp)
            have hD := done_call _ _ _ p u (st2 a u) (dn2 u) [rq (u + 1)] _ _ hP1 sr (fun i h1 h2 => by omega) (by simp; omega) (by simp [st2]; omega)
            rw [a1, a2] at hD
            simp only [List.length_singleton] at hD
            have m4 : ((u : Int) + 1).tmod 4 = (rq (u + 1)).c := rfl
            have m5 : ((u : Int) + 1) % 4 = (rq (u + 1)).c := rfl
            have m6 : (rq (u + 1)).s = (u : Int) + 1 := rfl
            have m7 : (rq (u + 1)).b = ⟨#[]⟩ := rfl
            rw [m6, m7] at hD
            have hD := Lib.hid hD
            clear a1 a2 m6 m7 sr hP1
            generalize (rq (u + 1)).c = rc at *
            have kt := ((kx.alloc (.cells #[.int .i64 rc, .int .i64 ((u : Int) + 1), .string ⟨#[]⟩] 24)).turn (F := fun i => w.heap.size ≤ i) (by simp))
            go_wp2_with (go_at_call 11; refine hD.out.mono ?_; rintro e w3 ⟨rfl, h1, h2⟩)
            go_roundw
            case rel =>
              have hz2 := h2.size
              exact ⟨u + 1, by omega, by go_num, Lib.hid (h1.mono (fun i hi h => ⟨h.1, hi⟩) (Nat.le_refl _)), (kt.trans (h2.mono (fun i _ h => h.1))).keep (fun i hi => by omega)⟩
            case measure => simp [intOf]; omega
          · have hltz : ¬ ((u : Int) + 1 ≤ (d : Int)) := by omega
            obtain rfl : u = d := by omega
            obtain ⟨f1, f2, f3⟩ := full4 ha12 hda
            have hL := len_call wx _ p u (st2 a u) (dn2 u) hP.out
            rw [f3] at hL
            have hc : ((a - u : Nat) : Int) = 12 - (u : Int) := by omega
            rw [hc] at hL
            have hL := Lib.hid hL
            have hP := hP.out
            rw [st2_st3] at hP
            have hP := Lib.hid hP
            have f1 := Lib.hid f1
            have f2 := Lib.hid f2
            clear f3 hc
            go_wp2_with (go_at_call 14; refine hL.out.mono ?_; rintro e w3 ⟨rfl, k3⟩)
            have hP3 := hP.out.turn (k3.turn (F := fun _ => False) (by simp)) (by simp)
            have hz3 := k3.size
            go_loopw [11] (fun i wy => ∃ v : Nat, v ≤ 12 - a + u ∧ i = .int .i64 (v : Int) ∧ Hid (PoolAt wy (fun i => w.heap.size ≤ i ∧ i < wy.heap.size) p u (st3 a u v) (dn2 u)) ∧ Keep [] w wy) (fun i _ => 12 - a + u - (intOf i).toNat)
            case atStart => exact ⟨0, Nat.zero_le _, by go_num, Lib.hid (hP3.mono (fun i hi h => ⟨h.1, hi⟩) (Nat.le_refl _)), kx.trans k3⟩
            case round =>
              obtain ⟨v, hv, rfl, hP, ky⟩ := hrel
              rename World => wy
              have hzy := ky.size
              have kt := ky.turn (F := fun i => w.heap.size ≤ i) (by simp)
              have hs3 : (st3 a u v).length ≤ 1000000 := by simp [st3, st2]; omega
              by_cases hlt : v < 12 - a + u
              · have hltz : (v : Int) < 12 - 12 + (u : Int) := by omega
                obtain ⟨a1, a2⟩ := full3 (a := a) (d := u) (i := v) ha12 hda hlt
                have hA := add_call wy _ p u (st3 a u v) (dn2 u) (rz v) (rz_ok _ (by omega)) hP.out hs3
                rw [a1, a2] at hA
                have hA := Lib.hid hA
                clear a1 a2
                unfold rz at hA
                dsimp only at hA
                go_wp2_with (go_at_call 12; refine hA.out.mono ?_; rintro e w4 ⟨rfl, h1, h2⟩)
                go_roundw
                case rel =>
                  have hz2 := h2.size
                  exact ⟨v + 1, by omega, by go_num, Lib.hid (h1.mono (fun i hi h => ⟨h.elim (fun h => h.1) (fun h => by omega), hi⟩) (Nat.le_refl _)), (kt.trans (h2.mono (fun i _ h => h.1))).keep (fun i hi => by omega)⟩
                case measure => simp [intOf]; omega
              · have hltz : ¬ ((v : Int) < 12 - 12 + (u : Int)) := by omega
                obtain rfl : v = 12 - a + u := by omega
                have hL := len_call wy _ p u _ (dn2 u) hP.out
                have hA := fun w' F' (h : PoolAt w' F' p u (st3 a u (12 - a + u)) (dn2 u)) => add_call w' F' p u _ (dn2 u) ⟨2, 500, ⟨#[]⟩⟩ ⟨by show I64 2; unfold I64; omega, by show I64 500; unfold I64; omega, by show (0 : Nat) ≤ _; omega⟩ h hs3
                rw [f2.out] at hL
                rw [f1.out] at hA
                have hL := Lib.hid hL
                have hA := Lib.hid hA
                go_wp2_with (first | (go_at_call 14; refine hL.out.mono ?_; rintro e w4 ⟨rfl, k4⟩; have hP4 := hP.out.turn (k4.turn (F := fun _ => False) (by simp)) (by simp)) | (go_at_call 12; refine (hA.out w4 _ hP4).mono ?_; rintro e w5 ⟨rfl, h1, h2⟩) | go_in)
                go_ret
                refine ⟨by simp, ?_⟩
                exact ((kt.trans (k4.turn (by simp))).trans (h2.mono (fun i _ h => h.1))).keep (fun i hi => by omega)
end Go.Proofs.Ytaiemagmkfjklaa
