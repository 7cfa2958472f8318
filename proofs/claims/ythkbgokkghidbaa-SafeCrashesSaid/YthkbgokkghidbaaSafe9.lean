import Derived.Test.YthkbgokkghidbaaSafe8
import Derived.Deep.DeepCutAuto
namespace Go.Proofs.Ythkbgokkghidbaa
open Go.RowKit Go.Shelf
set_option linter.unusedVariables false
set_option linter.unusedSimpArgs false
/-! the reference's log -/
def RfAt (w : World) (q : Nat) (y : Rf) : Prop := Blk w q #[.string y.a, .string y.w, .int .i64 y.f, .bool y.g] 39
theorem RfAt.keep {S : List Nat} {w w' : World} {p : Nat} {x : Rf} (h : RfAt w p x) (k : Keep S w w') (hp : p ∉ S) : RfAt w' p x := Blk.keep h k hp
theorem RfAt.cells {w : World} {p : Nat} {x : Rf} (h : RfAt w p x) : w.cell? ⟨p, 0, none⟩ = some (.string x.a) ∧ w.cell? ⟨p, 1, none⟩ = some (.string x.w) ∧ w.cell? ⟨p, 2, none⟩ = some (.int .i64 x.f) ∧ w.cell? ⟨p, 3, none⟩ = some (.bool x.g) :=
  ⟨Blk.cell h 0, Blk.cell h 1, Blk.cell h 2, Blk.cell h 3⟩
theorem RfAt.s0 {w : World} {p : Nat} {a v : ByteArray} {f : Int} {g : Bool} (h : RfAt w p ⟨a, v, f, g⟩) (x : ByteArray) : RfAt (w.setCell ⟨p, 0, none⟩ (.string x)) p ⟨x, v, f, g⟩ := by
  have := Blk.set h 0 (.string x); simpa [RfAt] using this
theorem RfAt.s1 {w : World} {p : Nat} {a v : ByteArray} {f : Int} {g : Bool} (h : RfAt w p ⟨a, v, f, g⟩) (x : ByteArray) : RfAt (w.setCell ⟨p, 1, none⟩ (.string x)) p ⟨a, x, f, g⟩ := by
  have := Blk.set h 1 (.string x); simpa [RfAt] using this
theorem RfAt.s2 {w : World} {p : Nat} {a v : ByteArray} {f : Int} {g : Bool} (h : RfAt w p ⟨a, v, f, g⟩) (x : Int) : RfAt (w.setCell ⟨p, 2, none⟩ (.int .i64 x)) p ⟨a, v, x, g⟩ := by
  have := Blk.set h 2 (.int .i64 x); simpa [RfAt] using this
theorem RfAt.s3 {w : World} {p : Nat} {a v : ByteArray} {f : Int} {g : Bool} (h : RfAt w p ⟨a, v, f, g⟩) (x : Bool) : RfAt (w.setCell ⟨p, 3, none⟩ (.bool x)) p ⟨a, v, f, x⟩ := by
  have := Blk.set h 3 (.bool x); simpa [RfAt] using this
theorem keepP {q : Nat} {w w' : World} (h : Keep [q] w w') (o : Nat) (v : Value) : Keep [q] w (w'.setCell ⟨q, o, none⟩ v) := h.setCell _ _ (.inl (by simp))
def DoEnd (w : World) (q : Nat) (out : Int × Rf) (e : Ending) (w' : World) : Prop := e = .returned (.int .i64 out.1) ∧ RfAt w' q out.2 ∧ Keep [q] w w'
set_option maxRecDepth 100000 in
set_option maxHeartbeats 4000000 in
theorem do_call (q : Nat) (y : Rf) (o : Op9) (w : World) (hp : RfAt w q y) (hk : 0 ≤ o.k ∧ o.k ≤ 255) (hf : -1 ≤ y.f ∧ y.f ≤ 9223372036854775807) (hs : o.b.size ≤ 140737488355328) (hb : y.a.size + y.w.size ≤ 900000) :
    Calls Try.prog 15 #[.pointer (some ⟨q, 0, none⟩), .agg #[.int .u8 o.k, .string o.b, .int .i64 o.n]] w (DoEnd w q (doF y o)) := by
  obtain ⟨k, b, n⟩ := o
  obtain ⟨a, v, f, g⟩ := y
  dsimp only at *
  have k0 : Keep [] w (w.alloc (.cells #[.int .u8 k, .string b, .int .i64 n] 42)) := (Keep.refl _ _).alloc _
  have b0 := Blk.new w #[.int .u8 k, .string b, .int .i64 n] 42
  have hp0 := hp.keep k0 (by simp)
  have plt := Blk.lt hp
  have hkb : (k.tmod 5 = k % 5) := by
    obtain ⟨m, rfl⟩ := Int.eq_ofNat_of_zero_le hk.1
    rfl
  have hz1 : (w.alloc (.cells #[.int .u8 k, .string b, .int .i64 n] 42)).heap.size = w.heap.size + 1 := by simp
  have kq : Keep [q] w (w.alloc (.cells #[.int .u8 k, .string b, .int .i64 n] 42)) := k0.mono (by simp)
  obtain ⟨out, hout⟩ : ∃ out, doF ⟨a, v, f, g⟩ ⟨k, b, n⟩ = out := ⟨_, rfl⟩
  rw [hout]
  have HE : Hid (out = doF ⟨a, v, f, g⟩ ⟨k, b, n⟩) := Lib.hid hout.symm
  clear hout
  obtain ⟨c0, c1, c2, c3⟩ := hp0.cells
  have f0 := Blk.frozen hp0 0
  have f1 := Blk.frozen hp0 1
  have f2 := Blk.frozen hp0 2
  have f3 := Blk.frozen hp0 3
  have d0 := b0.cell 0
  have d1 := b0.cell 1
  have d2 := b0.cell 2
  simp only [List.getElem?_toArray, List.getElem?_cons_zero, List.getElem?_cons_succ] at d0 d1 d2
  dsimp only at c0 c1 c2 c3
  have CC := Lib.hid (And.intro (And.intro (And.intro c0 c1) (And.intro c2 c3)) (And.intro (And.intro (And.intro f0 f1) (And.intro f2 f3)) (And.intro (And.intro d0 d1) d2)))
  clear c0 c1 c2 c3 f0 f1 f2 f3 d0 d1 d2 b0
  have HP := Lib.hid hp0
  have KQ := Lib.hid kq
  clear kq k0
  have HZ1 := Lib.hid hz1
  clear hp hp0 hz1
  obtain ⟨hf1, hf2⟩ := hf
  by_cases k2 : k % 5 = 2
  · have e2 : out = (0, if g = true then ⟨a, v, f, g⟩ else ⟨a, v, max n (-1), g⟩) := by rw [HE.out]; simp [doF, k2]
    have hz : (k % 5 == 2) = true := by simp [k2]
    clear HE
    cases g with
    | true =>
      subst e2
      go_enter Try.func15, Try.ntmps15
      go_upto_region 1 with fail
      generalize w.alloc (.cells #[.int .u8 k, .string b, .int .i64 n] 42) = w1 at *
      obtain ⟨⟨⟨c0, c1⟩, ⟨c2, c3⟩⟩, ⟨⟨⟨f0, f1⟩, ⟨f2, f3⟩⟩, ⟨⟨d0, d1⟩, d2⟩⟩⟩ := CC.out
      have kq := KQ.out
      go_wp2
      go_ret
      exact ⟨rfl, HP.out, kq⟩
    | false =>
      subst e2
      go_enter Try.func15, Try.ntmps15
      go_upto_region 1 with fail
      generalize w.alloc (.cells #[.int .u8 k, .string b, .int .i64 n] 42) = w1 at *
      obtain ⟨⟨⟨c0, c1⟩, ⟨c2, c3⟩⟩, ⟨⟨⟨f0, f1⟩, ⟨f2, f3⟩⟩, ⟨⟨d0, d1⟩, d2⟩⟩⟩ := CC.out
      have kq := KQ.out
      by_cases hn : n < -1
      · have e : max n (-1) = -1 := by omega
        have H2 := Lib.hid (HP.out.s2 (-1))
        go_wp2
        go_ret
        exact ⟨rfl, H2.out, keepP kq _ _⟩
      · have e : max n (-1) = n := by omega
        have H2 := Lib.hid (HP.out.s2 n)
        go_wp2
        go_ret
        exact ⟨rfl, H2.out, keepP kq _ _⟩
  · have z2 : (k % 5 == 2) = false := by simp [k2]
    by_cases k3 : k % 5 = 3
    · have e2 : out = (0, ⟨a ++ v.extract 0 (keepK n v.size), ⟨#[]⟩, -1, false⟩) := by rw [HE.out]; simp [doF, k3]
      have z3 : (k % 5 == 3) = true := by simp [k3]
      clear HE
      obtain ⟨t1, t2, t3, t4⟩ := keepK_spec n v.size
      generalize keepK n v.size = t at *
      have q0 : (9223372036854775807 < a.size + (v.extract 0 t).size) = False := by simp; omega
      have hn1 : ¬ ((v.size : Int) + 1 = 0) := by omega
      have hn0 : ((v.size : Int) + 1 == 0) = false := beq_eq_false_iff_ne.2 hn1
      have w5 : IntKind.i64.wrap ((v.size : Int) + 1) = (v.size : Int) + 1 := by rw [IntKind.wrap_i64]; omega
      have w6 : IntKind.i64.wrap (n.tmod ((v.size : Int) + 1)) = n.tmod ((v.size : Int) + 1) := by rw [IntKind.wrap_i64]; omega
      have w7 : IntKind.i64.wrap (n.tmod ((v.size : Int) + 1) + ((v.size : Int) + 1)) = n.tmod ((v.size : Int) + 1) + ((v.size : Int) + 1) := by rw [IntKind.wrap_i64]; omega
      have w8 := wrap_small (x := (t : Int)) (by omega) (by omega)
      have tz : (t : Int) ≤ (v.size : Int) := by omega
      subst e2
      go_enter Try.func15, Try.ntmps15
      go_upto_region 1 with fail
      generalize w.alloc (.cells #[.int .u8 k, .string b, .int .i64 n] 42) = w1 at *
      obtain ⟨⟨⟨c0, c1⟩, ⟨c2, c3⟩⟩, ⟨⟨⟨f0, f1⟩, ⟨f2, f3⟩⟩, ⟨⟨d0, d1⟩, d2⟩⟩⟩ := CC.out
      have kq := KQ.out
      have H2 := Lib.hid ((((HP.out.s0 (a ++ v.extract 0 t)).s1 ⟨#[]⟩).s2 (-1)).s3 false)
      have H0 := Lib.hid (HP.out.s0 (a ++ v.extract 0 t))
      go_wp2_with fail
      go_region
      obtain ⟨g0, g1, g2, g3⟩ := H0.out.cells
      have e1 := Blk.frozen H0.out 1
      have e2 := Blk.frozen H0.out 2
      have e3 := Blk.frozen H0.out 3
      dsimp only at g0 g1 g2 g3
      go_wp2
      go_ret
      exact ⟨rfl, H2.out, (keepP (keepP (keepP (keepP kq 0 (.string (a ++ v.extract 0 t))) 1 (.string ⟨#[]⟩)) 2 (.int .i64 (-1))) 3 (.bool false)).drew⟩
    · have z3 : (k % 5 == 3) = false := by simp [k3]
      cases g with
      | true =>
        have e2 : out = (8, ⟨a, v, f, true⟩) := by rw [HE.out]; simp [doF, k2, k3]
        clear HE
        subst e2
        go_enter Try.func15, Try.ntmps15
        go_upto_region 1 with fail
        generalize w.alloc (.cells #[.int .u8 k, .string b, .int .i64 n] 42) = w1 at *
        obtain ⟨⟨⟨c0, c1⟩, ⟨c2, c3⟩⟩, ⟨⟨⟨f0, f1⟩, ⟨f2, f3⟩⟩, ⟨⟨d0, d1⟩, d2⟩⟩⟩ := CC.out
        have kq := KQ.out
        go_wp2
        go_ret
        exact ⟨rfl, HP.out, kq⟩
      | false =>
        by_cases k0 : k % 5 = 0
        · have z0 : (k % 5 == 0) = true := by simp [k0]
          have z4 : (k % 5 == 4) = false := by simp [k0]
          by_cases hb1 : b.size < 1
          · have e2 : out = (1, ⟨a, v, f, false⟩) := by
              rw [HE.out]; unfold doF; dsimp only
              rw [if_neg k2, if_neg k3, if_neg (by simp), if_pos ⟨k0, .inl hb1⟩]
            have hbe : b = ⟨#[]⟩ := by
              have h0 : b.size = 0 := by omega
              apply ByteArray.ext
              exact Array.eq_empty_of_size_eq_zero h0
            clear HE
            subst e2 hbe
            go_enter Try.func15, Try.ntmps15
            go_upto_region 1 with fail
            generalize w.alloc (.cells #[.int .u8 k, .string ⟨#[]⟩, .int .i64 n] 42) = w1 at *
            obtain ⟨⟨⟨c0, c1⟩, ⟨c2, c3⟩⟩, ⟨⟨⟨f0, f1⟩, ⟨f2, f3⟩⟩, ⟨⟨d0, d1⟩, d2⟩⟩⟩ := CC.out
            have kq := KQ.out
            go_wp2
            go_ret
            exact ⟨rfl, HP.out, kq⟩
          · have hbe : (b.toList == (⟨#[]⟩ : ByteArray).toList) = false := by
              rw [beq_eq_false_iff_ne]
              intro h
              rw [ByteArray.toList_eq, ByteArray.toList_eq] at h
              have : b.size = 0 := by
                have : b.data.toList.length = 0 := by rw [h]; rfl
                simpa using this
              omega
            have hbe2 : ¬ b.toList = [] := by
              intro h
              rw [ByteArray.toList_eq] at h
              have : b.size = 0 := by
                have : b.data.toList.length = 0 := by rw [h]; rfl
                simpa using this
              omega
            have hbe3 : (b.toList == []) = false := by rw [beq_eq_false_iff_ne]; exact hbe2
            by_cases hb2 : 4000 < b.size
            · have hb2z : (4000 : Int) < (b.size : Int) := by omega
              have e2 : out = (1, ⟨a, v, f, false⟩) := by
                rw [HE.out]; unfold doF; dsimp only
                rw [if_neg k2, if_neg k3, if_neg (by simp), if_pos ⟨k0, .inr hb2⟩]
              clear HE
              subst e2
              go_enter Try.func15, Try.ntmps15
              go_upto_region 1 with fail
              generalize w.alloc (.cells #[.int .u8 k, .string b, .int .i64 n] 42) = w1 at *
              obtain ⟨⟨⟨c0, c1⟩, ⟨c2, c3⟩⟩, ⟨⟨⟨f0, f1⟩, ⟨f2, f3⟩⟩, ⟨⟨d0, d1⟩, d2⟩⟩⟩ := CC.out
              have kq := KQ.out
              go_wp2
              go_ret
              exact ⟨rfl, HP.out, kq⟩
            · have hb2z : ¬ (4000 : Int) < (b.size : Int) := by omega
              by_cases hf0 : f = 0
              · have e2 : out = (8, ⟨a, v, f, true⟩) := by
                  rw [HE.out]; unfold doF; dsimp only
                  rw [if_neg k2, if_neg k3, if_neg (by simp), if_neg (by omega), if_neg (by omega), if_pos hf0]
                clear HE
                subst e2 hf0
                go_enter Try.func15, Try.ntmps15
                go_upto_region 1 with fail
                generalize w.alloc (.cells #[.int .u8 k, .string b, .int .i64 n] 42) = w1 at *
                obtain ⟨⟨⟨c0, c1⟩, ⟨c2, c3⟩⟩, ⟨⟨⟨f0, f1⟩, ⟨f2, f3⟩⟩, ⟨⟨d0, d1⟩, d2⟩⟩⟩ := CC.out
                have kq := KQ.out
                have H2 := Lib.hid (HP.out.s3 true)
                go_wp2
                go_ret
                exact ⟨rfl, H2.out, keepP kq _ _⟩
              · have hfb : (f == 0) = false := by simp [hf0]
                have e2 : out = (0, ⟨a, v ++ textF b, if 0 < f then f - 1 else f, false⟩) := by
                  rw [HE.out]; unfold doF; dsimp only
                  rw [if_neg k2, if_neg k3, if_neg (by simp), if_neg (by omega), if_neg (by omega), if_neg hf0, if_pos k0]
                clear HE
                have z9 : (textF b).size = 4 + b.size := textF_size b
                have q0 : (9223372036854775807 < v.size + (textF b).size) = False := by simp; omega
                have hT := fun w => rtext_call b w (by omega)
                obtain ⟨tb, htb⟩ : ∃ tb, textF b = tb := ⟨_, rfl⟩
                rw [htb] at e2 q0
                simp only [htb] at hT
                clear z9 htb
                by_cases hfp : 0 < f
                · rw [if_pos hfp] at e2
                  subst e2
                  go_enter Try.func15, Try.ntmps15
                  go_upto_region 1 with fail
                  generalize w.alloc (.cells #[.int .u8 k, .string b, .int .i64 n] 42) = w1 at *
                  obtain ⟨⟨⟨c0, c1⟩, ⟨c2, c3⟩⟩, ⟨⟨⟨f0, f1⟩, ⟨f2, f3⟩⟩, ⟨⟨d0, d1⟩, d2⟩⟩⟩ := CC.out
                  have kq := KQ.out
                  have H1 := Lib.hid (HP.out.s2 (f - 1))
                  have H2 := Lib.hid (((HP.out.s2 (f - 1))).s1 (v ++ tb))
                  go_wp2_with fail
                  have hL := H1.out
                  have kq2 := keepP kq 2 (.int .i64 (f - 1))
                  have D1 := Lib.hid ((Keep.refl [] w1).mono (T := [q]) (by simp))
                  have dd1 : (w1.setCell ⟨q, 2, none⟩ (.int .i64 (f - 1))).cell? ⟨w.heap.size, 1, none⟩ = some (.string b) := (keepP D1.out 2 (.int .i64 (f - 1))).cell (by simp; omega) d1
                  generalize w1.setCell ⟨q, 2, none⟩ (.int .i64 (f - 1)) = w2 at *
                  obtain ⟨g0, g1, g2, g3⟩ := hL.cells
                  have e1 := Blk.frozen hL 1
                  have HL := Lib.hid hL
                  dsimp only at g0 g1 g2 g3
                  clear hL c0 c1 c2 c3 f0 f1 f2 f3 d0 d1 d2
                  have hmv : ∀ w3, Keep [] w2 w3 → w3.cell? ⟨q, 1, none⟩ = some (.string v) ∧ w3.frozen? ⟨q, 1, none⟩ = false := fun w3 k3 => ⟨k3.cell (by simp) g1, Blk.frozen (HL.out.keep k3 (by simp)) 1⟩
                  have hmv := Lib.hid hmv
                  go_region_law (go_simp; go_at_call 24; refine (hT _).mono ?_; rintro e w3 ⟨rfl, k3⟩; have k3 : Keep [] w2 w3 := Keep.trans ((Keep.refl _ _).drew) k3; obtain ⟨q1, q2⟩ := hmv.out w3 k3)
                  all_goals
                    go_wp2
                    go_ret
                    exact ⟨rfl, (HL.out.keep k3 (by simp)).s1 (v ++ tb), keepP (kq2.trans (k3.mono (by simp))) _ _⟩
                · rw [if_neg hfp] at e2
                  have hfp' : ¬ (0 < f) := hfp
                  subst e2
                  go_enter Try.func15, Try.ntmps15
                  go_upto_region 1 with fail
                  generalize w.alloc (.cells #[.int .u8 k, .string b, .int .i64 n] 42) = w1 at *
                  obtain ⟨⟨⟨c0, c1⟩, ⟨c2, c3⟩⟩, ⟨⟨⟨f0, f1⟩, ⟨f2, f3⟩⟩, ⟨⟨d0, d1⟩, d2⟩⟩⟩ := CC.out
                  have kq := KQ.out
                  go_wp2_with fail
                  have hmv : ∀ w3, Keep [] w1 w3 → w3.cell? ⟨q, 1, none⟩ = some (.string v) ∧ w3.frozen? ⟨q, 1, none⟩ = false := fun w3 k3 => ⟨k3.cell (by simp) c1, Blk.frozen (HP.out.keep k3 (by simp)) 1⟩
                  have hmv := Lib.hid hmv
                  go_region_law (go_simp; go_at_call 24; refine (hT _).mono ?_; rintro e w3 ⟨rfl, k3⟩; have k3 : Keep [] w1 w3 := Keep.trans ((Keep.refl _ _).drew) k3; obtain ⟨q1, q2⟩ := hmv.out w3 k3)
                  all_goals
                    go_wp2
                    go_ret
                    exact ⟨rfl, (HP.out.keep k3 (by simp)).s1 (v ++ tb), keepP (kq.trans (k3.mono (by simp))) _ _⟩
        · have z0 : (k % 5 == 0) = false := by simp [k0]
          by_cases k4 : k % 5 = 4
          · have z4 : (k % 5 == 4) = true := by simp [k4]
            have e2 : out = (0, ⟨(a ++ v).extract 0 (min (endR (a ++ v)) a.size), (a ++ v).extract (min (endR (a ++ v)) a.size) (endR (a ++ v)), f, false⟩) := by
              rw [HE.out]; unfold doF; dsimp only
              rw [if_neg k2, if_neg k3, if_neg (by simp), if_neg (fun h => k0 h.1), if_pos k4]
            clear HE
            have q0 : (9223372036854775807 < a.size + v.size) = False := by simp; omega
            have hS := fun w => split_call ((a ++ v).size + 1) (a ++ v) (by omega) (by simp; omega) w
            have hle := endR_le (a ++ v)
            have hsz : (a ++ v).size = a.size + v.size := by simp
            generalize endR (a ++ v) = en at *
            generalize recs (a ++ v) = rs at *
            have hS := Lib.hid hS
            obtain ⟨al, hal⟩ : ∃ al, a ++ v = al := ⟨_, rfl⟩
            by_cases hc : en ≤ a.size
            · have hcz : (en : Int) ≤ (a.size : Int) := by omega
              rw [show min en a.size = en by omega] at e2
              subst e2
              go_enter Try.func15, Try.ntmps15
              go_upto_region 1 with fail
              generalize w.alloc (.cells #[.int .u8 k, .string b, .int .i64 n] 42) = w1 at *
              obtain ⟨⟨⟨c0, c1⟩, ⟨c2, c3⟩⟩, ⟨⟨⟨f0, f1⟩, ⟨f2, f3⟩⟩, ⟨⟨d0, d1⟩, d2⟩⟩⟩ := CC.out
              have kq := KQ.out
              go_wp2_with fail
              refine wp_region_class (C := fun w' => Keep [] w1 w' ∧ w'.cell? ⟨q, 0, none⟩ = some (.string a) ∧ w'.cell? ⟨q, 1, none⟩ = some (.string v)) (by kernel_rfl) (by kernel_rfl) ⟨(Keep.refl _ _).drew, c0, c1⟩ ?_
              iterate 10 (first
                | go_big_quiet_skip
                | (go_big_quiet_want; first
                  | (go_big_quiet_op; go_big_quiet_on)
                  | (refine quiet_run (v := ?_) ?_ ?_; (rotate_left; (intro w' hC; (try dsimp only at hC); go_split_ands; go_simp; with_reducible rfl); simp only [Act.put, List.setIfInBounds_toArray, List.set_cons_zero, List.set_cons_succ]; go_big_quiet_on))
                  | (refine quiet_call (v := ?_) (f := ?_) (args := ?_) ?_ ?_ ?_; (rotate_left; rotate_left; rotate_left; (intro w' hC; (try dsimp only at hC); go_split_ands; go_simp; (refine ⟨?_, ?_⟩ <;> with_reducible rfl)); (intro w' hC; fail); simp only [Act.put, List.setIfInBounds_toArray, List.set_cons_zero, List.set_cons_succ]; go_big_quiet_on))))
              refine wpQuiet_nil ?_
              rintro w2 ⟨k12, g0, g1⟩
              rw [hal] at hsz hle
              have hle2 : en ≤ al.size := by omega
              (try simp only [hal])
              go_wp2_with (go_at_call 8; rw [← hal]; refine (hS.out _).mono ?_; rintro e w3 ⟨A3, m3, c3, rfl, n3⟩; have k13 := k12.trans n3.2; have L3 := HP.out.keep k13 (by simp); obtain ⟨r0, r1, r2, r3⟩ := L3.cells; have s0 := Blk.frozen L3 0; have s1 := Blk.frozen L3 1; dsimp only at r0 r1 r2 r3; have HL := Lib.hid L3; clear L3)
              go_ret
              rw [hal]
              have hee : al.extract en en = ByteArray.empty := by apply ByteArray.ext; simp [ByteArray.data_extract]
              rw [hee]
              exact ⟨rfl, (HL.out.s1 _).s0 _, keepP (keepP (kq.trans (k13.mono (by simp))) _ _) _ _⟩
            · have hcz : ¬ (en : Int) ≤ (a.size : Int) := by omega
              rw [show min en a.size = a.size by omega] at e2
              subst e2
              go_enter Try.func15, Try.ntmps15
              go_upto_region 1 with fail
              generalize w.alloc (.cells #[.int .u8 k, .string b, .int .i64 n] 42) = w1 at *
              obtain ⟨⟨⟨c0, c1⟩, ⟨c2, c3⟩⟩, ⟨⟨⟨f0, f1⟩, ⟨f2, f3⟩⟩, ⟨⟨d0, d1⟩, d2⟩⟩⟩ := CC.out
              have kq := KQ.out
              go_wp2_with fail
              refine wp_region_class (C := fun w' => Keep [] w1 w' ∧ w'.cell? ⟨q, 0, none⟩ = some (.string a) ∧ w'.cell? ⟨q, 1, none⟩ = some (.string v)) (by kernel_rfl) (by kernel_rfl) ⟨(Keep.refl _ _).drew, c0, c1⟩ ?_
              iterate 10 (first
                | go_big_quiet_skip
                | (go_big_quiet_want; first
                  | (go_big_quiet_op; go_big_quiet_on)
                  | (refine quiet_run (v := ?_) ?_ ?_; (rotate_left; (intro w' hC; (try dsimp only at hC); go_split_ands; go_simp; with_reducible rfl); simp only [Act.put, List.setIfInBounds_toArray, List.set_cons_zero, List.set_cons_succ]; go_big_quiet_on))
                  | (refine quiet_call (v := ?_) (f := ?_) (args := ?_) ?_ ?_ ?_; (rotate_left; rotate_left; rotate_left; (intro w' hC; (try dsimp only at hC); go_split_ands; go_simp; (refine ⟨?_, ?_⟩ <;> with_reducible rfl)); (intro w' hC; fail); simp only [Act.put, List.setIfInBounds_toArray, List.set_cons_zero, List.set_cons_succ]; go_big_quiet_on))))
              refine wpQuiet_nil ?_
              rintro w2 ⟨k12, g0, g1⟩
              rw [hal] at hsz hle
              have hle2 : en ≤ al.size := by omega
              have hle3 : a.size ≤ en := by omega
              have hle4 : a.size ≤ al.size := by omega
              (try simp only [hal])
              go_wp2_with (go_at_call 8; rw [← hal]; refine (hS.out _).mono ?_; rintro e w3 ⟨A3, m3, c3, rfl, n3⟩; have k13 := k12.trans n3.2; have L3 := HP.out.keep k13 (by simp); obtain ⟨r0, r1, r2, r3⟩ := L3.cells; have s0 := Blk.frozen L3 0; have s1 := Blk.frozen L3 1; dsimp only at r0 r1 r2 r3; have HL := Lib.hid L3; clear L3)
              go_ret
              rw [hal]
              exact ⟨rfl, (HL.out.s1 _).s0 _, keepP (keepP (kq.trans (k13.mono (by simp))) _ _) _ _⟩
          · have z4 : (k % 5 == 4) = false := by simp [k4]
            have k1 : k % 5 = 1 := by omega
            by_cases hf0 : f = 0
            · have e2 : out = (8, ⟨a, v, f, true⟩) := by
                rw [HE.out]; unfold doF; dsimp only
                rw [if_neg k2, if_neg k3, if_neg (by simp), if_neg (fun h => k0 h.1), if_neg k4, if_pos hf0]
              clear HE
              subst e2 hf0
              go_enter Try.func15, Try.ntmps15
              go_upto_region 1 with fail
              generalize w.alloc (.cells #[.int .u8 k, .string b, .int .i64 n] 42) = w1 at *
              obtain ⟨⟨⟨c0, c1⟩, ⟨c2, c3⟩⟩, ⟨⟨⟨f0, f1⟩, ⟨f2, f3⟩⟩, ⟨⟨d0, d1⟩, d2⟩⟩⟩ := CC.out
              have kq := KQ.out
              have H2 := Lib.hid (HP.out.s3 true)
              go_wp2
              go_ret
              exact ⟨rfl, H2.out, keepP kq _ _⟩
            · have hfb : (f == 0) = false := by simp [hf0]
              have e2 : out = (0, ⟨a ++ v, ⟨#[]⟩, if 0 < f then f - 1 else f, false⟩) := by
                rw [HE.out]; unfold doF; dsimp only
                rw [if_neg k2, if_neg k3, if_neg (by simp), if_neg (fun h => k0 h.1), if_neg k4, if_neg hf0, if_neg k0]
              clear HE
              have q0 : (9223372036854775807 < a.size + v.size) = False := by simp; omega
              by_cases hfp : 0 < f
              · rw [if_pos hfp] at e2
                subst e2
                go_enter Try.func15, Try.ntmps15
                go_upto_region 1 with fail
                generalize w.alloc (.cells #[.int .u8 k, .string b, .int .i64 n] 42) = w1 at *
                obtain ⟨⟨⟨c0, c1⟩, ⟨c2, c3⟩⟩, ⟨⟨⟨f0, f1⟩, ⟨f2, f3⟩⟩, ⟨⟨d0, d1⟩, d2⟩⟩⟩ := CC.out
                have kq := KQ.out
                have H1 := Lib.hid (HP.out.s2 (f - 1))
                go_wp2_with fail
                have hL := H1.out
                have kq2 := keepP kq 2 (.int .i64 (f - 1))
                generalize w1.setCell ⟨q, 2, none⟩ (.int .i64 (f - 1)) = w2 at *
                obtain ⟨g0, g1, g2, g3⟩ := hL.cells
                have e0 := Blk.frozen hL 0
                have e1 := Blk.frozen hL 1
                have HL := Lib.hid hL
                dsimp only at g0 g1 g2 g3
                clear hL c0 c1 c2 c3 f0 f1 f2 f3 d0 d1 d2
                go_region
                have hL2 := HL.out.s0 (a ++ v)
                obtain ⟨r0, r1, r2, r3⟩ := hL2.cells
                have s1 := Blk.frozen hL2 1
                dsimp only at r0 r1 r2 r3
                have HL2 := Lib.hid hL2
                clear hL2
                go_wp2
                go_ret
                exact ⟨rfl, HL2.out.s1 _, (keepP (keepP kq2 0 (.string (a ++ v))) 1 (.string ⟨#[]⟩)).drew⟩
              · rw [if_neg hfp] at e2
                have hfp' : ¬ (0 < f) := hfp
                subst e2
                go_enter Try.func15, Try.ntmps15
                go_upto_region 1 with fail
                generalize w.alloc (.cells #[.int .u8 k, .string b, .int .i64 n] 42) = w1 at *
                obtain ⟨⟨⟨c0, c1⟩, ⟨c2, c3⟩⟩, ⟨⟨⟨f0, f1⟩, ⟨f2, f3⟩⟩, ⟨⟨d0, d1⟩, d2⟩⟩⟩ := CC.out
                have kq := KQ.out
                go_wp2_with fail
                go_region
                have hL2 := HP.out.s0 (a ++ v)
                obtain ⟨r0, r1, r2, r3⟩ := hL2.cells
                have s1 := Blk.frozen hL2 1
                dsimp only at r0 r1 r2 r3
                have HL2 := Lib.hid hL2
                clear hL2
                go_wp2
                go_ret
                exact ⟨rfl, HL2.out.s1 _, (keepP (keepP kq 0 (.string (a ++ v))) 1 (.string ⟨#[]⟩)).drew⟩
end Go.Proofs.Ythkbgokkghidbaa
