import Derived.Test.YtdhhibppcckbkaaStoreSC
import Derived.Deep.DeepCutAuto
namespace Go.Proofs.Ytdhhibppcckbkaa
open Go.RowKit
set_option linter.unusedVariables false
set_option linter.unusedSimpArgs false
/-! the law StoreCrashes -/
set_option maxRecDepth 100000 in
set_option maxHeartbeats 80000000 in
theorem storeCrashes_call (A : Option Addr) (l : List Op10) (c : Nat) (F : Nat → Prop) (w : World) (hs : SliceOf Rep.op10 w F (.slice A l.length c) l) (hF : ∀ i, F i → i < w.heap.size) :
    Calls Try.prog 7 #[.slice A l.length c] w fun e w' => e = .returned (.bool true) ∧ Keep [] w w' := by
  have HS := Lib.hid hs
  have HF := Lib.hid hF
  clear hs hF
  go_enter Try.func7, Try.ntmps7
  go_wp2_with fail
  refine (awake10_call _).mono ?_
  rintro e w1 ⟨rfl, k1⟩
  go_wp2_with fail
  refine (few10_call A l c F 30 _ (HS.out.keep (k1.at F (by simp))) (by omega)).mono ?_
  rintro e w2 ⟨rfl, k2⟩
  cases hfew : few10 l 30 with
  | false =>
    clear hfew
    go_wp2_with fail
    refine (awake10_call _).mono ?_
    rintro e w3 ⟨rfl, k3⟩
    go_wp2
    go_ret
    exact ⟨rfl, (k1.trans k2).trans k3⟩
  | true =>
    have hfl := few10_le hfew (by omega)
    have hl30 := hfl.1
    replace hfl := Lib.hid hfl.2
    clear hfew
    go_wp2_with fail
    refine (new_call _).mono ?_
    rintro e w3 ⟨p, rfl, hp, h3, k3⟩
    go_wp2_with fail
    refine (open_call p _ _ h3 rfl (by show (0 : Nat) ≤ _; omega) (by show (0 : Nat) ≤ _; omega)).mono ?_
    dsimp only
    rw [recs_empty]
    rintro e w4 ⟨m, rfl, hm, h4, k4, v4, G4, hst, -, -, hv⟩
    obtain rfl := hv rfl
    have hpl := Blk.lt h3
    have hmp : m ≠ p := by omega
    have e0 : endR ⟨#[]⟩ = 0 := (recs_none (b := ⟨#[]⟩) (by decide +kernel)).2
    rw [e0] at h4
    have s1 := (k1.trans k2).size
    have s3 := k3.size
    have s4 := k4.size
    have kk4 : Keep [] w w4 := ((k1.trans k2).trans k3).new2 k4 (fun i hi => by simp at hi; omega)
    have M4 : Mem w w4 F m p ⟨⟨#[]⟩, 0, -1, false⟩ ⟨0, 0⟩ [] (.slice none 0 0) :=
      ⟨kk4, h4, hst, RowX.nil F, hmp, by omega, by omega, fun k hk => by simp [Value.ownBlock] at hk, fun k hk => by have := HF.out k hk; omega⟩
    replace M4 := Lib.hid M4
    clear hv e0 h4 hst k1 k2 k3 k4 h3
    go_upto_region 6 with (first | ((fail_if_success have := bw5); ((with_reducible refine wl_alloc 23 ?_ ?_); (with_reducible rfl); refine sx_alloc rfl 23 rfl _ 2 zSt zSt_info rfl ?_; intro w5 bw5 kw5 zw5; clear zw5; (try simp only [Act.put, List.setIfInBounds_toArray, List.set_cons_zero, List.set_cons_succ]))) | ((with_reducible refine wl_alloc 23 ?_ ?_); (with_reducible rfl); refine sx_alloc rfl 23 rfl _ 2 zSt zSt_info rfl ?_; intro w6 bw6 kw6 zw6; clear zw6; (try simp only [Act.put, List.setIfInBounds_toArray, List.set_cons_zero, List.set_cons_succ])))
    have z5 : w4.heap.size < w5.heap.size := bw5.lt
    have bq6 := bw5.keep kw6 (by simp)
    have M6 := Lib.hid (M4.out.keep0 (kw5.trans kw6))
    have q4m : w4.heap.size ≠ m := by have := Blk.lt M4.out.sto; omega
    have q4p : w4.heap.size ≠ p := by have := Blk.lt M4.out.log; omega
    have q5m : w5.heap.size ≠ m := by have := Blk.lt M4.out.sto; omega
    have q5p : w5.heap.size ≠ p := by have := Blk.lt M4.out.log; omega
    have X6 : ExtC w w6 F F m p w4.heap.size w5.heap.size (.slice none 0 0) ⟨0, 0⟩ ⟨0, 0⟩ (.slice none 0 0) [] :=
      ⟨bq6, bw6, SliceOf.nil _ _ _ _ _, ⟨by omega, q4m, q4p, fun hf => by have := HF.out _ hf; omega⟩, ⟨by omega, q5m, q5p, fun hf => by have := HF.out _ hf; omega⟩, by omega, by simp [Value.ownBlock], by simp [Value.ownBlock],
        fun i hi => by have h1 := HF.out i hi; have h2 := M6.out.fr i hi; exact ⟨h2.1, h2.2.1, h2.2.2, by omega, by omega, by simp [Value.ownBlock]⟩⟩
    replace X6 := Lib.hid X6
    have q0 : w.heap.size ≤ w4.heap.size := by omega
    have r0 : w.heap.size ≤ w5.heap.size := by omega
    generalize w4.heap.size = q at *
    generalize w5.heap.size = r at *
    clear bw5 kw5 bw6 kw6 bq6 kk4 M4 s4 s3 q4m q4p q5m q5p z5
    go_wp2_with fail
    go_loopw [4, 8, 9, 10] (fun mv va sv i wr => ∃ k : Nat, k ≤ l.length ∧ i = .int .i64 k ∧ ∃ m x st bs v Fs H C d, mv = .pointer (some ⟨m, 0, none⟩) ∧ va = .slice C bs.length d ∧ bs.length ≤ d ∧ sv = .int .i64 bs.length ∧ Hid (Mem w wr Fs m p x st bs v) ∧ Hid (ExtC w wr Fs H m p q r v st st (.slice C bs.length d) bs) ∧ Hid (GoodC k x st bs) ∧ Hid (∀ i, F i → Fs i)) (fun _ _ _ i _ => l.length - (intOf i).toNat)
    case atStart => exact ⟨0, Nat.zero_le _, rfl, m, _, _, [], _, F, F, none, 0, rfl, rfl, Nat.le_refl _, rfl, M6, X6, Lib.hid GoodC.zero, Lib.hid (fun i h => h)⟩
    case round =>
      clear M6 X6 hm hmp
      obtain ⟨k, hk, rfl, m, x, st, bs, v, Fs, H, C, d, rfl, rfl, hcd, rfl, hM, hX, hG, hFs⟩ := hrel
      by_cases hlt : k < l.length
      · have hltz : (k : Int) < (l.length : Int) := by omega
        obtain ⟨g, og, va', rfl, hr, hI, hbl, hFg⟩ := HS.out.op10_at hlt
        have hf5 := hfl.out _ (List.getElem_mem hlt)
        generalize l[k] = y at *
        obtain ⟨A2, c2, rfl, -⟩ := hbl.form
        have hb5 := hf5.1
        have hbs5 := Lib.hid (fun b hb => (fewBlock_size b (hf5.2 b hb)).1)
        replace hr := Lib.hid hr
        replace hbl := Lib.hid hbl
        replace hI := Lib.hid hI
        clear hf5 hFg
        have hsz := Lib.hid hG.out.size
        have hlen5 : bs.length ≤ 200 := by have := hsz.out.2.2.2.2.1; omega
        have hwl : w.heap.size ≤ wr.heap.size := hM.out.keep.size
        have hrw : Hid (∀ j z, (opV10 y (.slice A2 y.l.length c2))[j]? = some z → wr.cell? ⟨g, og + k * 7 + j, none⟩ = some z) := Lib.hid (fun j z hj => hM.out.keep.cell (by simp) (hr.out j z hj))
        go_wp2_with (first | ((with_reducible refine wl_load 55 (.tmp 38) ?_ ?_); (with_reducible rfl); refine sx_loadR rfl 55 (.tmp 38) rfl g (og + k * 7) (opV10 y (.slice A2 y.l.length c2)) _ 7 rfl hrw.out Try.underlying55 rfl zOp10_size rfl ?_; (try simp only [Act.put, List.setIfInBounds_toArray, List.set_cons_zero, List.set_cons_succ])))
        refine (right10_call y _ F _ (hbl.out.keep (hM.out.keep.at F (by simp)))).mono ?_
        rintro e w7 ⟨rfl, k7⟩
        have hM7 := Lib.hid (hM.out.keep0 k7)
        have hX7 := Lib.hid (hX.out.keep0 k7)
        clear hM hX hrw k7 hwl
        cases hok : okOp y.s y.l with
        | false =>
          clear hok
          go_wp2
          go_roundw
          case rel => exact ⟨k + 1, by omega, by go_num, m, x, st, bs, v, Fs, H, C, d, rfl, rfl, hcd, rfl, hM7, hX7, Lib.hid (hG.out.mono (by omega)), hFs⟩
          case measure => simp [intOf]; omega
        | true =>
          replace hok := Lib.hid hok
          have c2' : w7.cell? ⟨g, og + k * 7 + 3, none⟩ = some (.bool y.fu) := (hM7.out.keep).cell (by simp) (hr.out 3 _ rfl)
          have c3' : w7.cell? ⟨g, og + k * 7 + 4, none⟩ = some (.int .i64 y.n) := (hM7.out.keep).cell (by simp) (hr.out 4 _ rfl)
          go_upto_if 46 with fail
          go_cut [] (fun wx => ∃ x2, Hid (GoodC k x2 st bs) ∧ Hid (LogAt wx p x2) ∧ Keep [p] w7 wx)
          case first =>
            generalize y.fu = fu at *
            cases fu
            · go_wp2
              go_meet
              exact ⟨x, hG, Lib.hid hM7.out.log, Keep.refl _ _⟩
            · go_wp2_with fail
              refine (fuse_call p x y.n _ hM7.out.log).mono ?_
              rintro e w8 ⟨rfl, h8, k8⟩
              replace h8 := Lib.hid h8
              go_wp2
              go_meet
              exact ⟨_, Lib.hid (hG.out.fuse y.n hI.out.2.2.1.2), h8, k8⟩
          case rest =>
            rename World => w8
            obtain ⟨x2, hG8, hL8, k8⟩ := hcut
            have hM8 := Lib.hid (hM7.out.keepP k8 hL8.out)
            have hX8 := Lib.hid (hX7.out.keepP k8)
            have hsz8 := Lib.hid hG8.out.size
            clear hM7 hX7 k8 hL8 c2' c3' hG hsz
            obtain ⟨out, hout⟩ : ∃ out, saveF x2 st bs y.s y.l = out := ⟨_, rfl⟩
            have hS := hG8.out.save y.s y.l hb5 hok.out out hout
            replace hS := Lib.hid hS
            replace hout := Lib.hid hout
            go_upto_region 14 with fail
            go_cut [11] (fun u wx => u = .int .i64 out.1 ∧ Hid (Saved w8 wx m p v Fs out.2.1 out.2.2.1 out.2.2.2))
            case first =>
              obtain ⟨u0, hu0, ku0⟩ : ∃ u0, u0 = w8.drew ∧ Keep [] w8 u0 := ⟨_, rfl, (Keep.refl _ _).drew⟩
              have a0 : u0.cell? ⟨g, og + k * 7, none⟩ = some (.int .i64 y.s.v) := (hM8.out.keep.trans ku0).cell (by simp) (hr.out 0 _ rfl)
              have a1 : u0.cell? ⟨g, og + k * 7 + 1, none⟩ = some (.int .i64 y.s.l) := (hM8.out.keep.trans ku0).cell (by simp) (hr.out 1 _ rfl)
              have a2 : u0.cell? ⟨g, og + k * 7 + 2, none⟩ = some (.slice A2 y.l.length c2) := (hM8.out.keep.trans ku0).cell (by simp) (hr.out 2 _ rfl)
              refine wp_region_tail 11 (by kernel_rfl) (by kernel_rfl) u0 hu0 ?_
              clear hu0
              simp only [List.take_succ_cons, List.take_zero, List.drop_succ_cons, List.drop_zero]
              repeat still_step
              refine wpStill_nil ?_
              have hM0 := Lib.hid (hM8.out.keep0 ku0)
              have hbl0 := Lib.hid ((hbl.out.keep ((hM8.out.keep.trans ku0).at F (by simp))).mono (G := Fs) (fun i hi _ => hFs.out i hi))
              clear a0 a1 a2
              go_wp2_with fail
              refine (save_call m p x2 st v bs y.s A2 y.l c2 Fs u0 out hout.out hM0.out.sto hM0.out.row hM0.out.log hbl0.out hM0.out.fr hM0.out.mp (fun k hk => (hM0.out.vm k hk).2) hbs5.out (by omega) (by omega) (by have := hsz8.out.1; omega) hsz8.out.2.2.1).mono ?_
              rintro e wx ⟨rfl, hsv⟩
              have hsv2 : Hid (Saved w8 wx m p v Fs out.2.1 out.2.2.1 out.2.2.2) := Lib.hid ⟨hsv.log, hsv.row.imp (fun _ h => ⟨h.1, h.2.1, h.2.2.imp id (fun ⟨g, e, hg⟩ => ⟨g, e, Nat.le_trans ku0.size hg⟩)⟩), (ku0.mono (by simp)).trans hsv.keep⟩
              clear hsv
              go_wp2
              go_meet
              exact ⟨rfl, hsv2⟩
            case rest =>
              focus
                rename World => w9
                obtain ⟨rfl, hsv⟩ := hcut
                obtain ⟨v', hM9, hv9⟩ := hM8.out.saved hsv.out
                have hX9 := Lib.hid (hX8.out.saved hsv.out.keep hv9)
                replace hM9 := Lib.hid hM9
                clear hM8 hX8 hsv hv9 hout hG8 hsz8
                obtain ⟨o1, o2, o3, o4⟩ := out
                dsimp only at *
                go_upto_region 15 with fail
                go_cut [] (fun wx => Hid (Blk wx r (stV (gtF st y.s)) 23) ∧ Keep [r] w9 wx)
                case first =>
                  obtain ⟨u0, hu0, ku0⟩ : ∃ u0, u0 = w9.drew ∧ Keep [] w9 u0 := ⟨_, rfl, (Keep.refl _ _).drew⟩
                  have a0 : u0.cell? ⟨g, og + k * 7, none⟩ = some (.int .i64 y.s.v) := (hM9.out.keep.trans ku0).cell (by simp) (hr.out 0 _ rfl)
                  have a1 : u0.cell? ⟨g, og + k * 7 + 1, none⟩ = some (.int .i64 y.s.l) := (hM9.out.keep.trans ku0).cell (by simp) (hr.out 1 _ rfl)
                  have bq := Lib.hid (hX9.out.rr.keep ku0 (by simp))
                  have b0 : u0.cell? ⟨r, 0, none⟩ = some (.int .i64 st.v) := bq.out.cell 0
                  have b1 : u0.cell? ⟨r, 1, none⟩ = some (.int .i64 st.l) := bq.out.cell 1
                  clear hM9 hX9 hS hbl hr hI hok hbs5
                  refine wp_region_tail 19 (by kernel_rfl) (by kernel_rfl) u0 hu0 ?_
                  clear hu0
                  simp only [List.take_succ_cons, List.take_zero, List.drop_succ_cons, List.drop_zero]
                  iterate 8 still_step
                  refine still_max rfl (.tmp 67) (.tmp 73) _ rfl st.v y.s.v rfl rfl ?_
                  (try simp only [Act.put, List.setIfInBounds_toArray, List.set_cons_zero, List.set_cons_succ])
                  iterate 8 still_step
                  refine still_max rfl (.tmp 76) (.tmp 82) _ rfl st.l y.s.l rfl rfl ?_
                  (try simp only [Act.put, List.setIfInBounds_toArray, List.set_cons_zero, List.set_cons_succ])
                  still_step
                  refine wpStill_nil ?_
                  go_wp2_with (first | ((with_reducible refine wl_store 23 (.tmp 7) (.tmp 84) ?_ ?_); (with_reducible rfl); refine sx_storeW rfl 23 (.tmp 7) (.tmp 84) rfl r (stV (gtF st y.s)) (stV st) _ 2 rfl rfl bq.out zSt_size rfl rfl rfl ?_; intro wz bwz kwz zwz; clear zwz; (try simp only [Act.put, List.setIfInBounds_toArray, List.set_cons_zero, List.set_cons_succ])))
                  go_meet
                  exact ⟨Lib.hid bwz, (ku0.mono (by simp)).trans kwz⟩
                case rest =>
                  rename World => w10
                  obtain ⟨br, k10⟩ := hcut
                  have hX10 := Lib.hid (hX9.out.setr k10 br.out)
                  have hM10 := Lib.hid (hM9.out.keepQ k10 hX9.out.lr hX9.out.vr)
                  clear hM9 hX9 br k10
                  have a2 : w10.cell? ⟨g, og + k * 7 + 2, none⟩ = some (.slice A2 y.l.length c2) := (hM10.out.keep).cell (by simp) (hr.out 2 _ rfl)
                  have hG10 : Hid (∀ i, (F i ∨ H i) → i < w10.heap.size) := Lib.hid (fun i hi => hi.elim (fun h => (hM10.out.fr i (hFs.out i h)).1) (fun h => (hX10.out.hH i h).1))
                  have hal : Hid (SliceOf Rep.bk w10 (fun i => F i ∨ H i) (.slice C bs.length d) bs) := Lib.hid (hX10.out.ss.mono (fun i hi _ => .inr hi))
                  have hll : Hid (SliceOf Rep.bk w10 (fun i => F i ∨ H i) (.slice A2 y.l.length c2) y.l) := Lib.hid ((hbl.out.keep (hM10.out.keep.at F (by simp))).mono (fun i hi _ => .inl hi))
                  go_upto_region 16 with fail
                  go_cut [8] (fun u wx => ∃ B c, u = .slice B (bs.length + y.l.length) c ∧ Hid (RowG Rep.bk 29 wx w10.heap.size (fun i => F i ∨ H i) (.slice B (bs.length + y.l.length) c) (bs ++ y.l)) ∧ Keep [] w10 wx)
                  case first =>
                    refine wp_region_any (by kernel_rfl) ?_
                    (try (change wpAny _ _ _ _ _ _ _ (World.drew _)))
                    have K0 : Keep [] w10 w10.drew := (Keep.refl [] w10).drew
                    generalize World.drew w10 = u0 at *
                    refine wpAny_take (i := 1) (v := ?_) rfl (by kernel_rfl) (by kernel_rfl) (by kernel_rfl) (fun _ _ _ h => h) (Or.inl ⟨by rfl, ?_⟩) ?_
                    rotate_left
                    · intro w9
                      go_simp
                      with_reducible rfl
                    refine wpAny_take (i := 3) (v := ?_) rfl (by kernel_rfl) (by kernel_rfl) (by kernel_rfl) (fun _ _ _ h => h) (Or.inl ⟨by rfl, ?_⟩) ?_
                    rotate_left
                    · intro w9
                      go_simp
                      with_reducible rfl
                    refine wpAny_take (i := 4) (v := ?_) rfl (by kernel_rfl) (by kernel_rfl) (by kernel_rfl) (fun _ _ _ h => h) (Or.inl ⟨by rfl, ?_⟩) ?_
                    rotate_left
                    · intro w9
                      go_simp
                      with_reducible rfl
                    refine wpAny_take (i := 5) (v := ?_) rfl (by kernel_rfl) (by kernel_rfl) (by kernel_rfl) (fun _ _ _ h => h) (Or.inl ⟨by rfl, ?_⟩) ?_
                    rotate_left
                    · intro w9
                      go_simp
                      with_reducible rfl
                    refine wpAny_take (i := 6) (v := ?_) rfl (by kernel_rfl) (by kernel_rfl) (by kernel_rfl) (fun _ _ _ h => h) (Or.inl ⟨by rfl, ?_⟩) ?_
                    rotate_left
                    · intro w9
                      go_simp
                      with_reducible rfl
                    refine wpAny_ready (rs := [0, 7]) (by kernel_rfl) (by simp) ?_
                    refine AllReady.consS rfl (fun K hK => ?_) ?_
                    · refine stp_noneB rfl rfl ?_
                      intro u1 bN kN zN
                      clear zN
                      have K1 := K0.trans kN
                      have R1 : RowG Rep.bk 29 u1 w10.heap.size (fun i => F i ∨ H i) (.slice (some ⟨u0.heap.size, 0, none⟩) 0 0) [] := RowG.empty _ _ _ _ _ _ bN K0.size
                      replace R1 := Lib.hid R1
                      clear bN kN
                      refine hK _ _ ?_
                      clear hK K
                      refine wpAny_ready (rs := [2, 7]) (by kernel_rfl) (by simp) ?_
                      refine AllReady.consS rfl (fun K hK => ?_) ?_
                      · refine stp_appB rfl (.tmp 85) (.tmp 86) rfl w10.heap.size (fun i => F i ∨ H i) (.slice (some ⟨u0.heap.size, 0, none⟩) 0 0) [] bs C d rfl rfl R1.out (SliceOf.reads (hal.out.keep (K1.at _ (by simp)))) hG10.out (by simp; omega) K1.size ?_
                        simp only [List.length_nil, Nat.zero_add, List.nil_append]
                        intro B2 p2 u2 rN kN
                        have K2 : Keep [] w10 u2 := K1.new kN (fun i hi => .inr (R1.out.lt i (by simpa using hi)).1)
                        have R2 := Lib.hid rN
                        clear rN kN
                        refine hK _ _ ?_
                        clear hK K
                        refine wpAny_ready (rs := [7]) (by kernel_rfl) (by simp) ?_
                        refine AllReady.consS rfl (fun K hK => ?_) ?_
                        · refine Stp.mk ?_
                          have aK : u2.cell? ⟨g, og + k * 7 + 2, none⟩ = some (.slice A2 y.l.length c2) := K2.cell (by simp) a2
                          go_simp
                          clear aK
                          refine hK _ _ ?_
                          clear hK K
                          refine wpAny_ready (rs := [8]) (by kernel_rfl) (by simp) ?_
                          refine AllReady.consS rfl (fun K hK => ?_) ?_
                          · refine stp_appB rfl (.tmp 87) (.tmp 92) rfl w10.heap.size (fun i => F i ∨ H i) (.slice B2 bs.length p2) bs y.l A2 c2 rfl rfl R2.out (SliceOf.reads (hll.out.keep (K2.at _ (by simp)))) hG10.out (by omega) K2.size ?_
                            intro B3 p3 u3 rN kN
                            have K3 : Keep [] w10 u3 := K2.new kN (fun i hi => .inr (R2.out.lt i (by simpa using hi)).1)
                            have R3 := Lib.hid rN
                            clear rN kN
                            refine hK _ _ ?_
                            clear hK K
                            refine wpAny_take (i := 9) (v := ?_) rfl (by kernel_rfl) (by kernel_rfl) (by kernel_rfl) (fun _ _ _ h => h) (Or.inl ⟨by rfl, ?_⟩) ?_
                            rotate_left
                            · intro w9
                              go_simp
                              with_reducible rfl
                            refine wpAny_done (by kernel_rfl) ?_ _
                            go_wp2
                            go_meet
                            exact ⟨_, _, rfl, R3, K3⟩
                          exact AllReady.nil
                        exact AllReady.nil
                      refine AllReady.consS rfl (fun K hK => ?_) ?_
                      · refine Stp.mk ?_
                        have aK : u1.cell? ⟨g, og + k * 7 + 2, none⟩ = some (.slice A2 y.l.length c2) := K1.cell (by simp) a2
                        go_simp
                        clear aK
                        refine hK _ _ ?_
                        clear hK K
                        refine wpAny_ready (rs := [2]) (by kernel_rfl) (by simp) ?_
                        refine AllReady.consS rfl (fun K hK => ?_) ?_
                        · refine stp_appB rfl (.tmp 85) (.tmp 86) rfl w10.heap.size (fun i => F i ∨ H i) (.slice (some ⟨u0.heap.size, 0, none⟩) 0 0) [] bs C d rfl rfl R1.out (SliceOf.reads (hal.out.keep (K1.at _ (by simp)))) hG10.out (by simp; omega) K1.size ?_
                          simp only [List.length_nil, Nat.zero_add, List.nil_append]
                          intro B2 p2 u2 rN kN
                          have K2 : Keep [] w10 u2 := K1.new kN (fun i hi => .inr (R1.out.lt i (by simpa using hi)).1)
                          have R2 := Lib.hid rN
                          clear rN kN
                          refine hK _ _ ?_
                          clear hK K
                          refine wpAny_ready (rs := [8]) (by kernel_rfl) (by simp) ?_
                          refine AllReady.consS rfl (fun K hK => ?_) ?_
                          · refine stp_appB rfl (.tmp 87) (.tmp 92) rfl w10.heap.size (fun i => F i ∨ H i) (.slice B2 bs.length p2) bs y.l A2 c2 rfl rfl R2.out (SliceOf.reads (hll.out.keep (K2.at _ (by simp)))) hG10.out (by omega) K2.size ?_
                            intro B3 p3 u3 rN kN
                            have K3 : Keep [] w10 u3 := K2.new kN (fun i hi => .inr (R2.out.lt i (by simpa using hi)).1)
                            have R3 := Lib.hid rN
                            clear rN kN
                            refine hK _ _ ?_
                            clear hK K
                            refine wpAny_take (i := 9) (v := ?_) rfl (by kernel_rfl) (by kernel_rfl) (by kernel_rfl) (fun _ _ _ h => h) (Or.inl ⟨by rfl, ?_⟩) ?_
                            rotate_left
                            · intro w9
                              go_simp
                              with_reducible rfl
                            refine wpAny_done (by kernel_rfl) ?_ _
                            go_wp2
                            go_meet
                            exact ⟨_, _, rfl, R3, K3⟩
                          exact AllReady.nil
                        exact AllReady.nil
                      exact AllReady.nil
                    refine AllReady.consS rfl (fun K hK => ?_) ?_
                    · refine Stp.mk ?_
                      have aK : u0.cell? ⟨g, og + k * 7 + 2, none⟩ = some (.slice A2 y.l.length c2) := K0.cell (by simp) a2
                      go_simp
                      clear aK
                      refine hK _ _ ?_
                      clear hK K
                      refine wpAny_ready (rs := [0]) (by kernel_rfl) (by simp) ?_
                      refine AllReady.consS rfl (fun K hK => ?_) ?_
                      · refine stp_noneB rfl rfl ?_
                        intro u1 bN kN zN
                        clear zN
                        have K1 := K0.trans kN
                        have R1 : RowG Rep.bk 29 u1 w10.heap.size (fun i => F i ∨ H i) (.slice (some ⟨u0.heap.size, 0, none⟩) 0 0) [] := RowG.empty _ _ _ _ _ _ bN K0.size
                        replace R1 := Lib.hid R1
                        clear bN kN
                        refine hK _ _ ?_
                        clear hK K
                        refine wpAny_ready (rs := [2]) (by kernel_rfl) (by simp) ?_
                        refine AllReady.consS rfl (fun K hK => ?_) ?_
                        · refine stp_appB rfl (.tmp 85) (.tmp 86) rfl w10.heap.size (fun i => F i ∨ H i) (.slice (some ⟨u0.heap.size, 0, none⟩) 0 0) [] bs C d rfl rfl R1.out (SliceOf.reads (hal.out.keep (K1.at _ (by simp)))) hG10.out (by simp; omega) K1.size ?_
                          simp only [List.length_nil, Nat.zero_add, List.nil_append]
                          intro B2 p2 u2 rN kN
                          have K2 : Keep [] w10 u2 := K1.new kN (fun i hi => .inr (R1.out.lt i (by simpa using hi)).1)
                          have R2 := Lib.hid rN
                          clear rN kN
                          refine hK _ _ ?_
                          clear hK K
                          refine wpAny_ready (rs := [8]) (by kernel_rfl) (by simp) ?_
                          refine AllReady.consS rfl (fun K hK => ?_) ?_
                          · refine stp_appB rfl (.tmp 87) (.tmp 92) rfl w10.heap.size (fun i => F i ∨ H i) (.slice B2 bs.length p2) bs y.l A2 c2 rfl rfl R2.out (SliceOf.reads (hll.out.keep (K2.at _ (by simp)))) hG10.out (by omega) K2.size ?_
                            intro B3 p3 u3 rN kN
                            have K3 : Keep [] w10 u3 := K2.new kN (fun i hi => .inr (R2.out.lt i (by simpa using hi)).1)
                            have R3 := Lib.hid rN
                            clear rN kN
                            refine hK _ _ ?_
                            clear hK K
                            refine wpAny_take (i := 9) (v := ?_) rfl (by kernel_rfl) (by kernel_rfl) (by kernel_rfl) (fun _ _ _ h => h) (Or.inl ⟨by rfl, ?_⟩) ?_
                            rotate_left
                            · intro w9
                              go_simp
                              with_reducible rfl
                            refine wpAny_done (by kernel_rfl) ?_ _
                            go_wp2
                            go_meet
                            exact ⟨_, _, rfl, R3, K3⟩
                          exact AllReady.nil
                        exact AllReady.nil
                      exact AllReady.nil
                    exact AllReady.nil
                  case rest =>
                    as_aux_lemma =>
                      rename World => w11
                      obtain ⟨B9, c9, rfl, R9, k11⟩ := hcut
                      have hcap := R9.out.cap
                      have hM11 := Lib.hid (hM10.out.keep0 k11)
                      have hX11 := Lib.hid (hX10.out.setall k11 (fun i hi => hi.imp (hFs.out i) id) (fun i hi => ⟨(hM10.out.fr i hi).1, (hM10.out.fr i hi).2.1, (hM10.out.fr i hi).2.2, fun e => hX10.out.lq.2.2.2 (e ▸ hi), fun e => hX10.out.lr.2.2.2 (e ▸ hi), fun e => hM10.out.row.2 i e hi⟩) R9.out (by rw [List.length_append]; unfold M47; omega) (Blk.lt hM10.out.sto) (Blk.lt hM10.out.log) hM10.out.row.ownlt)
                      clear hM10 hX10 hG10 hal hll a2 R9 k11
                      generalize hH11 : (fun i => (F i ∨ H i) ∨ (Value.slice B9 (bs.length + y.l.length) c9).ownBlock = some i) = H11 at *
                      clear hH11
                      obtain ⟨al, hal⟩ : ∃ al, al = bs ++ y.l := ⟨_, rfl⟩
                      have hll : al.length = bs.length + y.l.length := by rw [hal, List.length_append]
                      rw [← hal] at hX11
                      rw [← hll] at hX11 hcap ⊢
                      replace hal := Lib.hid hal
                      replace hll := Lib.hid hll
                      go_upto_if 95 with fail
                      go_cut [9] (fun u wx => ∃ su, ∃ ns : Nat, u = .int .i64 ns ∧ Hid (Blk wx q (stV su) 23) ∧ Keep [q] w11 wx ∧ Hid ((o1 = 0 ∧ su = gtF st y.s ∧ ns = al.length) ∨ (o1 ≠ 0 ∧ su = st ∧ ns = bs.length)))
                      case first =>
                        by_cases h0 : o1 = 0
                        · have q1 : (o1 == 0) = true := by rw [h0]; rfl
                          have H0 := Lib.hid h0
                          clear h0
                          go_upto_region 18 with fail
                          go_cut [] (fun wx => Hid (Blk wx q (stV (gtF st y.s)) 23) ∧ Keep [q] w11 wx)
                          case first =>
                            obtain ⟨u0, hu0, ku0⟩ : ∃ u0, u0 = w11.drew ∧ Keep [] w11 u0 := ⟨_, rfl, (Keep.refl _ _).drew⟩
                            have a0 : u0.cell? ⟨g, og + k * 7, none⟩ = some (.int .i64 y.s.v) := (hM11.out.keep.trans ku0).cell (by simp) (hr.out 0 _ rfl)
                            have a1 : u0.cell? ⟨g, og + k * 7 + 1, none⟩ = some (.int .i64 y.s.l) := (hM11.out.keep.trans ku0).cell (by simp) (hr.out 1 _ rfl)
                            have bq := Lib.hid (hX11.out.qq.keep ku0 (by simp))
                            have b0 : u0.cell? ⟨q, 0, none⟩ = some (.int .i64 st.v) := bq.out.cell 0
                            have b1 : u0.cell? ⟨q, 1, none⟩ = some (.int .i64 st.l) := bq.out.cell 1
                            clear hM11 hX11 hS hbl hr hI hok hbs5
                            refine wp_region_tail 19 (by kernel_rfl) (by kernel_rfl) u0 hu0 ?_
                            clear hu0
                            simp only [List.take_succ_cons, List.take_zero, List.drop_succ_cons, List.drop_zero]
                            iterate 8 still_step
                            refine still_max rfl (.tmp 97) (.tmp 103) _ rfl st.v y.s.v rfl rfl ?_
                            (try simp only [Act.put, List.setIfInBounds_toArray, List.set_cons_zero, List.set_cons_succ])
                            iterate 8 still_step
                            refine still_max rfl (.tmp 106) (.tmp 112) _ rfl st.l y.s.l rfl rfl ?_
                            (try simp only [Act.put, List.setIfInBounds_toArray, List.set_cons_zero, List.set_cons_succ])
                            still_step
                            refine wpStill_nil ?_
                            go_wp2_with (first | ((with_reducible refine wl_store 23 (.tmp 6) (.tmp 114) ?_ ?_); (with_reducible rfl); refine sx_storeW rfl 23 (.tmp 6) (.tmp 114) rfl q (stV (gtF st y.s)) (stV st) _ 2 rfl rfl bq.out zSt_size rfl rfl rfl ?_; intro wz bwz kwz zwz; clear zwz; (try simp only [Act.put, List.setIfInBounds_toArray, List.set_cons_zero, List.set_cons_succ])))
                            go_meet
                            exact ⟨Lib.hid bwz, (ku0.mono (by simp)).trans kwz⟩
                          case rest =>
                            rename World => wq
                            obtain ⟨bq, kq⟩ := hcut
                            go_wp2
                            go_meet
                            exact ⟨_, al.length, rfl, bq, kq, Lib.hid (.inl ⟨H0.out, rfl, rfl⟩)⟩
                        · have q1 : (o1 == 0) = false := beq_eq_false_iff_ne.2 h0
                          have H0 := Lib.hid h0
                          go_wp2
                          go_meet
                          exact ⟨st, bs.length, rfl, Lib.hid hX11.out.qq, Keep.refl _ _, Lib.hid (.inr ⟨H0.out, rfl, rfl⟩)⟩
                      case rest =>
                        rename World => w12
                        obtain ⟨su, ns, rfl, bq, k12, hsu⟩ := hcut
                        have hX12 := Lib.hid (hX11.out.setq k12 bq.out)
                        have hM12 := Lib.hid (hM11.out.keepQ k12 hX11.out.lq hX11.out.vq)
                        clear hM11 hX11 bq k12
                        have a5 : w12.cell? ⟨g, og + k * 7 + 5, none⟩ = some (.bool y.cr) := (hM12.out.keep).cell (by simp) (hr.out 5 _ rfl)
                        have a6 : w12.cell? ⟨g, og + k * 7 + 6, none⟩ = some (.int .i64 y.ke) := (hM12.out.keep).cell (by simp) (hr.out 6 _ rfl)
                        go_upto_region 20 with fail
                        go_cut [126] (fun u wx => u = .bool (decide (o1 = 0) && !y.cr) ∧ Keep [] w12 wx)
                        case first =>
                          generalize y.cr = cr at *
                          by_cases h0 : o1 = 0
                          · have q1 : (o1 == 0) = true := by rw [h0]; rfl
                            have H0 := Lib.hid h0
                            cases cr
                            · go_wp2
                              go_meet
                              exact ⟨by simp [H0.out], Keep.refl _ _⟩
                            · go_wp2
                              go_meet
                              exact ⟨by simp, Keep.refl _ _⟩
                          · have q1 : (o1 == 0) = false := beq_eq_false_iff_ne.2 h0
                            have H0 := Lib.hid h0
                            go_wp2
                            go_meet
                            exact ⟨by simp [H0.out], Keep.refl _ _⟩
                        case rest =>
                          rename World => w13
                          obtain ⟨rfl, k13⟩ := hcut
                          have hX13 := Lib.hid (hX12.out.keep0 k13)
                          have hM13 := Lib.hid (hM12.out.keep0 k13)
                          replace a6 := k13.cell (by simp) a6
                          clear hM12 hX12 a5
                          cases hgo : (decide (o1 = 0) && !y.cr) with
                          | true =>
                            have h0 : o1 = 0 := by
                              rw [Bool.and_eq_true] at hgo
                              exact of_decide_eq_true hgo.1
                            obtain ⟨g1, g2⟩ := hS.out.1 h0
                            simp only [Prod.mk.injEq] at g1
                            obtain ⟨rfl, rfl⟩ := g1
                            rcases hsu.out with ⟨-, e1, e2⟩ | ⟨h, -, -⟩
                            rotate_left
                            · exact absurd h0 h
                            subst e1 e2
                            have e3 := hal.out
                            subst e3
                            replace g2 := Lib.hid g2
                            clear hgo h0 hS hsu hal k13 a6
                            go_wp2
                            go_roundw
                            case rel => exact ⟨k + 1, by omega, by go_num, m, _, _, bs ++ y.l, v', Fs, H11, B9, c9, rfl, rfl, hcap, rfl, hM13, hX13, g2, hFs⟩
                            case measure => simp [intOf]; omega
                          | false =>
                            obtain ⟨-, j1, j2, j3, j4⟩ := hS.out
                            obtain ⟨z1, z2, t, n, hn, hrec, ht, h00, hgd⟩ := j4 y.ke
                            clear hgo hS k13
                            focus
                              have hk30 : k + 1 ≤ 30 := by omega
                              go_wp2_with fail
                              refine (crash_call p o2 y.ke _ hM13.out.log (by omega) j2).mono ?_
                              rintro e w14 ⟨rfl, h14, k14⟩
                              have hM14 := Lib.hid (hM13.out.keepP k14 h14)
                              have hX14 := Lib.hid (hX13.out.keepP k14)
                              clear hM13 hX13 h14 k14 a6
                              generalize hcx : crashF o2 y.ke = cx at *
                              have hcg : cx.g = false := by rw [← hcx]; rfl
                              clear hcx j1 j2 j3
                              replace hgd := Lib.hid hgd
                              replace h00 := Lib.hid h00
                              replace ht := Lib.hid ht
                              replace hrec := Lib.hid hrec
                              go_wp2_with fail
                              refine (open_call p cx _ hM14.out.log hcg (by omega) (by omega)).mono ?_
                              rw [hrec.out]
                              dsimp only
                              rintro e w15 ⟨m2, rfl, hm2, h15, k15, v6, G6, st6, x6, lt6, -⟩
                              obtain ⟨A6, c6, rfl⟩ := x6.1.form
                              have hM15 := Lib.hid (hM14.out.reopen (H := F) k15 h15 st6 x6 hm2 (fun i hi => lt6 i hi) HF.out)
                              have hX15 := Lib.hid (hX14.out.reopen (F' := fun i => G6 i ∨ F i) k15 hm2 (fun i e => (lt6 i (.inl e)).1) (fun i hi => hi.elim (fun h => .inr (lt6 i (.inr h)).1) (fun h => .inl (HF.out i h))))
                              have s15 := k15.size
                              have lp14 := Blk.lt hM14.out.log
                              have lq14 := hX14.out.qq.lt
                              have lr14 := hX14.out.rr.lt
                              have rd15 := Lib.hid x6.1.reads
                              replace lt6 := Lib.hid lt6
                              have own6 := Lib.hid x6.2
                              clear hM14 hX14 h15 k15 st6 x6 hrec z1 z2 hcg
                              obtain ⟨bs2, hbs2⟩ : ∃ bs2, bs2 = bs ++ y.l.take n := ⟨_, rfl⟩
                              have hl2 : bs2.length = bs.length + n := by rw [hbs2, List.length_append, List.length_take]; omega
                              have htk : Hid (al.take bs2.length = bs2) := Lib.hid (by
                                rw [hal.out, hl2, List.take_append, List.take_of_length_le (Nat.le_add_right _ _), hbs2]
                                congr 2
                                omega)
                              have hb6 : Hid (∀ b ∈ bs2, (blockF b).size ≤ 1000000) := Lib.hid (fun b hb => by have := hgd.out.size.2.2.2.2.2 b (by rw [← hbs2]; exact hb); omega)
                              rw [← hbs2] at hM15 hX15 hgd rd15 own6 lt6
                              have hn5 : n ≤ y.l.length := hn
                              clear hbs2
                              have f1 : ¬ t.v < su.v ∧ ¬ t.l < su.l ∧ ¬ (gtF st y.s).v < t.v ∧ ¬ (gtF st y.s).l < t.l := by
                                have g0 : st.v ≤ (gtF st y.s).v ∧ st.l ≤ (gtF st y.s).l := ⟨by show st.v ≤ max st.v y.s.v; omega, by show st.l ≤ max st.l y.s.l; omega⟩
                                rcases hsu.out with ⟨h0, rfl, -⟩ | ⟨h0, rfl, -⟩
                                · obtain ⟨rfl, -⟩ := h00.out h0
                                  omega
                                · rcases ht.out with rfl | rfl <;> omega
                              have f2 : ns ≤ bs2.length := by
                                rcases hsu.out with ⟨h0, -, rfl⟩ | ⟨h0, -, rfl⟩
                                · have := (h00.out h0).2
                                  have := hll.out
                                  omega
                                · omega
                              have f3 : bs2.length ≤ al.length := by have := hll.out; omega
                              obtain ⟨f11, f12, f13, f14⟩ := f1
                              generalize gtF st y.s = mo at *
                              have f2z : ¬ (bs2.length : Int) < (ns : Int) := by omega
                              have f3z : ¬ (al.length : Int) < (bs2.length : Int) := by omega
                              have f4 : bs2.length ≤ c9 := by omega
                              have f5 : bs2.length ≤ 1000 := by omega
                              clear hsu h00 ht hn hl2
                              go_wp2_with fail
                              refine (blocks2_call m2 p t A6 c6 bs2 G6 _ hM15.out.sto rd15.out (fun i hi => (lt6.out i (.inr hi)).2.1) (by omega)).mono ?_
                              rintro e w16 ⟨B14, cap14, rfl, s16, hc14, k16⟩
                              have hM16 := Lib.hid (hM15.out.keep0 k16)
                              have hX16 := Lib.hid (hX15.out.keep0 k16)
                              have l15 := Blk.lt hM15.out.sto
                              have lo15 := Lib.hid hM15.out.row.ownlt
                              have s16' := k16.size
                              clear hM15 hX15 rd15 k16
                              replace s16 := Lib.hid s16
                              go_wp2_with fail
                              refine (state_call m2 p t _ _ hM16.out.sto).mono ?_
                              rintro e w17 ⟨rfl, k17⟩
                              have hM17 := Lib.hid (hM16.out.keep0 k17)
                              have hX17 := Lib.hid (hX16.out.keep0 k17)
                              have s17 := Lib.hid (s16.out.keep (k17.at _ (by simp)))
                              have l17 := k17.size
                              clear hM16 hX16 s16 k17
                              go_upto_region 28 with (first | ((with_reducible refine wl_alloc 23 ?_ ?_); (with_reducible rfl); refine sx_alloc rfl 23 rfl _ 2 zSt zSt_info rfl ?_; intro wa bwa kwa zwa; clear zwa; (try simp only [Act.put, List.setIfInBounds_toArray, List.set_cons_zero, List.set_cons_succ])) | ((with_reducible refine wl_store 23 (.tmp 15) (.tmp 145) ?_ ?_); (with_reducible rfl); refine sx_storeW rfl 23 (.tmp 15) (.tmp 145) rfl w17.heap.size (stV t) zSt _ 2 rfl rfl bwa zSt_size rfl rfl rfl ?_; intro wb bwb kwb zwb; clear zwb; (try simp only [Act.put, List.setIfInBounds_toArray, List.set_cons_zero, List.set_cons_succ])))
                              have kab : Keep [] w17 wb := kwa.new kwb (fun i hi => .inr (by simp at hi; omega))
                              have bt := Lib.hid bwb
                              have hMb := Lib.hid (hM17.out.keep0 kab)
                              have hXb := Lib.hid (hX17.out.keep0 kab)
                              have sb := Lib.hid (s17.out.keep (kab.at _ (by simp)))
                              have lb := kab.size
                              have tq : w17.heap.size ≠ q := by omega
                              have tr : w17.heap.size ≠ r := by omega
                              have tp : w17.heap.size ≠ p := by omega
                              have tm : w17.heap.size ≠ m2 := by omega
                              clear hM17 hX17 s17 bwa kwa bwb kwb kab
                              generalize w17.heap.size = tb at *
                              have d0 : wb.cell? ⟨tb, 0, none⟩ = some (.int .i64 t.v) := bt.out.cell 0
                              have d1 : wb.cell? ⟨tb, 1, none⟩ = some (.int .i64 t.l) := bt.out.cell 1
                              have d2 : wb.cell? ⟨q, 0, none⟩ = some (.int .i64 su.v) := hXb.out.qq.cell 0
                              have d3 : wb.cell? ⟨q, 1, none⟩ = some (.int .i64 su.l) := hXb.out.qq.cell 1
                              have d4 : wb.cell? ⟨r, 0, none⟩ = some (.int .i64 mo.v) := hXb.out.rr.cell 0
                              have d5 : wb.cell? ⟨r, 1, none⟩ = some (.int .i64 mo.l) := hXb.out.rr.cell 1
                              have hSm := Lib.hid (fun cc => sameB_call B14 B9 bs2 cap14 cc _ _ wb sb.out (by
                                have := (hXb.out.ss.takeN (m := bs2.length) (c' := cc) f3)
                                rw [htk.out] at this
                                exact this) hb6.out (by omega))
                              go_wp2_with fail
                              refine (hSm.out _).mono ?_
                              rintro e wc ⟨rfl, kc⟩
                              have hMc := Lib.hid (hMb.out.keep0 kc)
                              have hXc := Lib.hid (hXb.out.keep0 kc)
                              have sc := Lib.hid (sb.out.keep (kc.at _ (by simp)))
                              have btc := Lib.hid (bt.out.keep kc (by simp))
                              have lc := kc.size
                              clear hMb hXb sb bt hSm d0 d1 d2 d3 d4 d5 hb6 htk hal kc
                              have bqc := Lib.hid hXc.out.qq
                              have brc := Lib.hid hXc.out.rr
                              have hqr : q ≠ r := hXc.out.qr
                              go_upto_region 33 with (first | ((with_reducible refine wl_load 23 (.tmp 15) ?_ ?_); (with_reducible rfl); refine sx_loadW rfl 23 (.tmp 15) rfl tb (stV t) _ _ 2 rfl btc.out Try.underlying23 rfl zSt_size rfl ?_; (try simp only [Act.put, List.setIfInBounds_toArray, List.set_cons_zero, List.set_cons_succ])) | ((with_reducible refine wl_store 23 (.tmp 6) (.tmp 197) ?_ ?_); (with_reducible rfl); refine sx_storeW rfl 23 (.tmp 6) (.tmp 197) rfl q (stV t) (stV su) _ 2 rfl rfl bqc.out zSt_size rfl rfl rfl ?_; intro wd bwd kwd zwd; clear zwd; (try simp only [Act.put, List.setIfInBounds_toArray, List.set_cons_zero, List.set_cons_succ])))
                              have btd := Lib.hid (btc.out.keep kwd (by simpa using tq))
                              have brd := Lib.hid (brc.out.keep kwd (by simpa using fun e => hqr e.symm))
                              have hMd := Lib.hid (hMc.out.keepQ kwd hXc.out.lq hXc.out.vq)
                              have hXd := Lib.hid (hXc.out.setq kwd bwd)
                              have HQ : ∀ i, (G6 i ∨ (w15.heap.size ≤ i ∧ i < w16.heap.size)) → i < wc.heap.size ∧ i ≠ m2 ∧ i ≠ p ∧ i ≠ q ∧ i ≠ r ∧ (Value.slice A6 bs2.length c6).ownBlock ≠ some i := fun i hi => by
                                rcases hi with hi | hi
                                · have h1 := lt6.out i (.inr hi)
                                  exact ⟨by omega, h1.2.2, by omega, by omega, by omega, fun e => own6.out i e hi⟩
                                · exact ⟨by omega, by omega, by omega, by omega, by omega, fun e => by have := lo15.out i e; omega⟩
                              replace HQ := Lib.hid HQ
                              have sd := Lib.hid (sc.out.keep (kwd.at _ (fun i hi hf => (HQ.out i hf).2.2.2.1 (by simpa using hi))))
                              have ld := kwd.size
                              clear hMc hXc bwd kwd btc brc bqc sc
                              go_wp2_with (first | ((with_reducible refine wl_load 23 (.tmp 15) ?_ ?_); (with_reducible rfl); refine sx_loadW rfl 23 (.tmp 15) rfl tb (stV t) _ _ 2 rfl btd.out Try.underlying23 rfl zSt_size rfl ?_; (try simp only [Act.put, List.setIfInBounds_toArray, List.set_cons_zero, List.set_cons_succ])) | ((with_reducible refine wl_store 23 (.tmp 7) (.tmp 198) ?_ ?_); (with_reducible rfl); refine sx_storeW rfl 23 (.tmp 7) (.tmp 198) rfl r (stV t) (stV mo) _ 2 rfl rfl brd.out zSt_size rfl rfl rfl ?_; intro we bwe kwe zwe; clear zwe; (try simp only [Act.put, List.setIfInBounds_toArray, List.set_cons_zero, List.set_cons_succ])))
                              have hMe := Lib.hid (hMd.out.keepQ kwe hXd.out.lr hXd.out.vr)
                              have hXe := hXd.out.setr kwe bwe
                              have se := sd.out.keep (kwe.at _ (fun i hi hf => (HQ.out i hf).2.2.2.2.1 (by simpa using hi)))
                              have le := kwe.size
                              have hXf : ExtC w we (fun i => G6 i ∨ F i) (fun i => G6 i ∨ (w15.heap.size ≤ i ∧ i < w16.heap.size)) m2 p q r (.slice A6 bs2.length c6) t t (.slice B14 bs2.length cap14) bs2 :=
                                ⟨hXe.qq, hXe.rr, se, hXe.lq, hXe.lr, hXe.qr, hXe.vq, hXe.vr, fun i hi => ⟨by have := (HQ.out i hi).1; omega, (HQ.out i hi).2⟩⟩
                              replace hXf := Lib.hid hXf
                              clear hMd hXd hXe sd se bwe kwe btd brd HQ
                              go_roundw
                              case rel => exact ⟨k + 1, by omega, by go_num, m2, _, t, bs2, _, _, _, B14, cap14, rfl, rfl, hc14, rfl, hMe, hXf, hgd, Lib.hid (fun i h => .inr h)⟩
                              case measure => simp [intOf]; omega
      · have hltz : ¬ (k : Int) < (l.length : Int) := by omega
        go_wp2
        go_ret
        exact ⟨rfl, hM.out.keep⟩
end Go.Proofs.Ytdhhibppcckbkaa
