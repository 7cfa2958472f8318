import Derived.Test.YtmpkhjfklgcmbaaLawMsg
namespace Go.Proofs.Ytmpkhjfklgcmbaa
open Go.RowKit
set_option linter.unusedVariables false
set_option linter.unusedSimpArgs false
/-! the law WireReads -/
theorem zRq_info : (Try.prog.info? 34).map (fun i => (i.zero, i.size)) = some (some (.agg #[.int .i64 0, .int .i64 0, .string ⟨#[]⟩]), 3) := by kernel_rfl
theorem zCt_info : (Try.prog.info? 28).map (fun i => (i.zero, i.size)) = some (some (.agg #[.int .i64 0, .string ⟨#[]⟩, .slice none 0 0]), 3) := by kernel_rfl
theorem zBk_info : (Try.prog.info? 31).map (fun i => (i.zero, i.size)) = some (some (.agg #[.int .i64 0, .int .i64 0, .int .i64 0, .string ⟨#[]⟩, .slice none 0 0, .slice none 0 0]), 6) := by kernel_rfl
theorem ne_req (x : Req) (w : World) : (binOp .neq 34 (.agg #[.int .i64 x.c, .int .i64 x.s, .string x.b]) (.agg #[.int .i64 x.c, .int .i64 x.s, .string x.b])).run Try.prog w = .ok (.bool false) w := by
  go_simp
/-- what came of reading: nothing, or what is right -/
def Got {α : Type} (z : α) (right : α → Bool) (f : α → ByteArray) (b : ByteArray) (x : α) (e : Int) : Prop := (x = z ∧ e = 2) ∨ (e = 0 ∧ right x = true ∧ f x = b)
theorem Got.of {α : Type} {z : α} {right : α → Bool} {f : α → ByteArray} {b : ByteArray} {p : α × Int} (h : p = (z, 2) ∨ ∃ x, p = (x, 0) ∧ right x = true ∧ f x = b) : Got z right f b p.1 p.2 := by
  rcases h with rfl | ⟨x, rfl, h1, h2⟩
  · exact .inl ⟨rfl, rfl⟩
  · exact .inr ⟨rfl, h1, h2⟩
theorem req_i64 {x : Req} (h : rightReq x = true) : I64 x.c ∧ I64 x.s ∧ x.b.size ≤ 4611686018427387904 := by
  have := (rightReq_iff x).1 h
  unfold I64; omega
theorem cert_i64 {x : Ct} (h : rightCert x = true) : I64 x.v := by
  have := (rightCert_iff x).1 h
  unfold I64; omega
theorem block_i64 {x : Bk} (h : rightBlock x = true) : I64 x.v ∧ I64 x.p ∧ I64 x.j.v := by
  have h1 := (rightBlock_iff x).1 h
  have h2 := cert_i64 h1.2.2.2.2.1
  exact ⟨by unfold I64; omega, by unfold I64; omega, h2⟩
set_option maxRecDepth 100000 in
set_option maxHeartbeats 16000000 in
theorem wireReads_call (b : ByteArray) (w : World) (hb : b.size ≤ 140737488355328) :
    Calls Try.prog 8 #[.string b] w fun e w' => e = .returned (.bool true) ∧ Keep [] w w' := by
  by_cases hlb : 800 < b.size
  · have hlz : (800 : Int) < (b.size : Int) := by omega
    go_enter Try.func8, Try.ntmps8
    go_wp2_with fail
    refine (awake_call _).mono ?_
    rintro e w1 ⟨rfl, k1⟩
    go_wp2_with fail
    refine (awake_call _).mono ?_
    rintro e w2 ⟨rfl, k2⟩
    go_wp2
    go_ret
    exact ⟨rfl, k1.trans k2⟩
  have hlz : ¬ (800 : Int) < (b.size : Int) := by omega
  have hsb : b.size ≤ 4611686018427387904 := by omega
  go_enter Try.func8, Try.ntmps8
  go_wp2_with fail
  refine (awake_call _).mono ?_
  rintro e w1 ⟨rfl, kk⟩
  go_wp2_with fail
  refine (readReq_call b _).mono ?_
  rintro e wr ⟨rfl, kpr⟩
  have Gr := Lib.hid (Got.of (P2_holds b))
  generalize readReqF b = rd at *
  obtain ⟨r, e1⟩ := rd
  dsimp only at *
  replace kk := kk.trans kpr
  have zr0 := kpr.size
  go_wp2_with (first | (refine sx_alloc rfl 34 rfl _ 3 #[.int .i64 0, .int .i64 0, .string ⟨#[]⟩] zRq_info rfl ?_; intro wra qr kpra zra; (try simp only [Act.put, List.setIfInBounds_toArray, List.set_cons_zero, List.set_cons_succ])) | (refine sx_storeW rfl 34 (.tmp 3) (.tmp 22) rfl wr.heap.size #[.int .i64 r.c, .int .i64 r.s, .string r.b] #[.int .i64 0, .int .i64 0, .string ⟨#[]⟩] _ 3 rfl rfl qr rqSize rfl rfl rfl ?_; intro wrb br kprb zrb; (try simp only [Act.put, List.setIfInBounds_toArray, List.set_cons_zero, List.set_cons_succ])))
  replace kk : Keep [] w wrb := (kk.trans kpra).new kprb (fun i hi => .inr (by have := kk.size; simp at hi; omega))
  replace zrb : wrb.heap.size = wr.heap.size + 1 := by omega
  clear kpra kprb qr zra kpr
  refine (readCert_call b _).mono ?_
  rintro e wc ⟨_, rfl, hc, kpc⟩
  have Gc := Lib.hid (Got.of (C3_holds b))
  generalize readCertF b = rd at *
  obtain ⟨c, e2⟩ := rd
  dsimp only at *
  replace kk := kk.trans kpc
  replace br := br.keep kpc (by simp)
  have zc0 := kpc.size
  obtain ⟨A1, d1, rfl, -⟩ := hc.form
  replace hc := hc.mono (G := fun i => i < wc.heap.size) (fun i _ hl => hl)
  go_wp2_with (first | (refine sx_alloc rfl 28 rfl _ 3 #[.int .i64 0, .string ⟨#[]⟩, .slice none 0 0] zCt_info rfl ?_; intro wca qc kpca zca; (try simp only [Act.put, List.setIfInBounds_toArray, List.set_cons_zero, List.set_cons_succ])) | (refine sx_storeW rfl 28 (.tmp 5) (.tmp 27) rfl wc.heap.size #[.int .i64 c.v, .string c.h, .slice A1 c.sg.length d1] #[.int .i64 0, .string ⟨#[]⟩, .slice none 0 0] _ 3 rfl rfl qc ctSize rfl rfl rfl ?_; intro wcb bc kpcb zcb; (try simp only [Act.put, List.setIfInBounds_toArray, List.set_cons_zero, List.set_cons_succ])))
  replace kk : Keep [] w wcb := (kk.trans kpca).new kpcb (fun i hi => .inr (by have := kk.size; simp at hi; omega))
  replace br := (br.keep kpca (by simp)).keep kpcb (by have := br.lt; simp; omega)
  replace hc := ((hc).keep (kpca.at _ (by simp))).keep (kpcb.at _ (by simp <;> omega))
  replace zcb : wcb.heap.size = wc.heap.size + 1 := by omega
  clear kpca kpcb qc zca kpc
  refine (readBlock_call b _).mono ?_
  rintro e wk ⟨_, _, rfl, hk1, hk2, kpk⟩
  have Gk := Lib.hid (Got.of (B3_holds b))
  generalize readBlockF b = rd at *
  obtain ⟨k, e3⟩ := rd
  dsimp only at *
  replace kk := kk.trans kpk
  replace br := br.keep kpk (by simp)
  replace bc := bc.keep kpk (by simp)
  have zk0 := kpk.size
  replace hc := hc.keep (kpk.at _ (by simp))
  obtain ⟨A2, d2, rfl, -⟩ := hk1.form
  obtain ⟨A3, d3, rfl, -⟩ := hk2.form
  replace hk1 := hk1.mono (G := fun i => i < wk.heap.size) (fun i _ hl => hl)
  replace hk2 := hk2.mono (G := fun i => i < wk.heap.size) (fun i _ hl => hl)
  go_wp2_with (first | (refine sx_alloc rfl 31 rfl _ 6 #[.int .i64 0, .int .i64 0, .int .i64 0, .string ⟨#[]⟩, .slice none 0 0, .slice none 0 0] zBk_info rfl ?_; intro wka qk kpka zka; (try simp only [Act.put, List.setIfInBounds_toArray, List.set_cons_zero, List.set_cons_succ])) | (refine sx_storeW rfl 31 (.tmp 7) (.tmp 32) rfl wk.heap.size #[.int .i64 k.v, .int .i64 k.p, .int .i64 k.j.v, .string k.j.h, .slice A2 k.j.sg.length d2, .slice A3 k.q.length d3] #[.int .i64 0, .int .i64 0, .int .i64 0, .string ⟨#[]⟩, .slice none 0 0, .slice none 0 0] _ 6 rfl rfl qk bkSize rfl rfl rfl ?_; intro wkb bk kpkb zkb; (try simp only [Act.put, List.setIfInBounds_toArray, List.set_cons_zero, List.set_cons_succ])))
  replace kk : Keep [] w wkb := (kk.trans kpka).new kpkb (fun i hi => .inr (by have := kk.size; simp at hi; omega))
  replace br := (br.keep kpka (by simp)).keep kpkb (by have := br.lt; simp; omega)
  replace bc := (bc.keep kpka (by simp)).keep kpkb (by have := bc.lt; simp; omega)
  replace hc := ((hc).keep (kpka.at _ (by simp))).keep (kpkb.at _ (by simp <;> omega))
  replace hk1 := ((hk1).keep (kpka.at _ (by simp))).keep (kpkb.at _ (by simp <;> omega))
  replace hk2 := ((hk2).keep (kpka.at _ (by simp))).keep (kpkb.at _ (by simp <;> omega))
  replace zkb : wkb.heap.size = wk.heap.size + 1 := by omega
  clear kpka kpkb qk zka kpk
  refine (readMsg_call b _).mono ?_
  rintro e wm ⟨_, _, _, _, rfl, hm, kpm⟩
  have Gm := Lib.hid (Got.of (M3_holds b))
  generalize readMsgF b = rd at *
  obtain ⟨m, e4⟩ := rd
  dsimp only at *
  replace kk := kk.trans kpm
  replace br := br.keep kpm (by simp)
  replace bc := bc.keep kpm (by simp)
  replace bk := bk.keep kpm (by simp)
  have zm0 := kpm.size
  replace hc := hc.keep (kpm.at _ (by simp))
  replace hk1 := hk1.keep (kpm.at _ (by simp))
  replace hk2 := hk2.keep (kpm.at _ (by simp))
  obtain ⟨A4, d4, rfl, -⟩ := hm.bs.form
  obtain ⟨A5, d5, rfl, -⟩ := hm.bq.form
  obtain ⟨A6, d6, rfl, -⟩ := hm.cs.form
  obtain ⟨A7, d7, rfl, -⟩ := hm.st.form
  replace hm := hm.mono (G := fun i => i < wm.heap.size) (fun i _ hl => hl)
  go_upto_region 7 with (first | (refine sx_alloc rfl 52 rfl _ 21 zMs zMs_info rfl ?_; intro wma qm kpma zma; (try simp only [Act.put, List.setIfInBounds_toArray, List.set_cons_zero, List.set_cons_succ])) | (refine sx_storeW rfl 52 (.tmp 9) (.tmp 37) rfl wm.heap.size (msgV m (.slice A4 m.b.j.sg.length d4) (.slice A5 m.b.q.length d5) (.slice A6 m.c.sg.length d6) (.slice A7 m.s.ts.length d7)) zMs _ 21 rfl rfl qm zMs_size rfl rfl rfl ?_; intro wmb bm kpmb zmb; (try simp only [Act.put, List.setIfInBounds_toArray, List.set_cons_zero, List.set_cons_succ])))
  replace kk : Keep [] w wmb := (kk.trans kpma).new kpmb (fun i hi => .inr (by have := kk.size; simp at hi; omega))
  replace br := (br.keep kpma (by simp)).keep kpmb (by have := br.lt; simp; omega)
  replace bc := (bc.keep kpma (by simp)).keep kpmb (by have := bc.lt; simp; omega)
  replace bk := (bk.keep kpma (by simp)).keep kpmb (by have := bk.lt; simp; omega)
  replace hc := ((hc).keep (kpma.at _ (by simp))).keep (kpmb.at _ (by simp <;> omega))
  replace hk1 := ((hk1).keep (kpma.at _ (by simp))).keep (kpmb.at _ (by simp <;> omega))
  replace hk2 := ((hk2).keep (kpma.at _ (by simp))).keep (kpmb.at _ (by simp <;> omega))
  replace hm := ((hm).keep (kpma.at _ (by simp))).keep (kpmb.at _ (by simp <;> omega))
  replace zmb : wmb.heap.size = wm.heap.size + 1 := by omega
  clear kpma kpmb qm zma kpm
  go_cut [88] (fun v wx => v = .bool false ∧ Keep [] wmb wx)
  case first =>
    have kq : Keep [] wmb wmb := Keep.refl _ _
    clear zr0 zrb zc0 zcb zk0 zkb zm0 zmb
    rcases Gr.out with ⟨rfl, rfl⟩ | ⟨rfl, h1r, h2r⟩
    · skip
      rcases Gc.out with ⟨rfl, rfl⟩ | ⟨rfl, h1c, h2c⟩
      · skip
        rcases Gk.out with ⟨rfl, rfl⟩ | ⟨rfl, h1k, h2k⟩
        · skip
          rcases Gm.out with ⟨rfl, rfl⟩ | ⟨rfl, h1m, h2m⟩
          · skip
            (try dsimp only at br); have hne := ne_req ⟨0, 0, ⟨#[]⟩⟩; dsimp only at hne
            (try dsimp only at bc)
            skip
            have m0 := bm.cell 0; simp only [msgV, List.getElem?_toArray, List.getElem?_cons_zero] at m0; have zk0 : zM.k = 0 := rfl
            clear Gr Gc Gk Gm
            go_wp2_with (first | ((with_reducible refine wl_load 34 (.tmp 3) ?_ ?_); (with_reducible rfl); refine sv_loadW 34 (.tmp 3) rfl rfl wr.heap.size _ _ _ 3 rfl br Try.underlying34 rfl rqSize rfl ?_; (try simp only [Act.put, List.setIfInBounds_toArray, List.set_cons_zero, List.set_cons_succ])) | ((with_reducible refine wl_load 28 (.tmp 5) ?_ ?_); (with_reducible rfl); refine sv_loadW 28 (.tmp 5) rfl rfl wc.heap.size _ _ _ 3 rfl bc Try.underlying28 rfl ctSize rfl ?_; (try simp only [Act.put, List.setIfInBounds_toArray, List.set_cons_zero, List.set_cons_succ])) | ((with_reducible refine wl_load 31 (.tmp 7) ?_ ?_); (with_reducible rfl); refine sv_loadW 31 (.tmp 7) rfl rfl wk.heap.size _ _ _ 6 rfl bk Try.underlying31 rfl bkSize rfl ?_; (try simp only [Act.put, List.setIfInBounds_toArray, List.set_cons_zero, List.set_cons_succ])) | (go_at_call 27; refine (zeroCert_call ⟨0, ⟨#[]⟩, []⟩ A1 d1 _).mono ?_; rintro e w8 ⟨rfl, k8⟩; rw [zeroCert_z]; replace m0 := k8.cell (by simp) m0; replace kq := kq.trans k8; replace br := br.keep k8 (by simp); replace bc := bc.keep k8 (by simp); replace bk := bk.keep k8 (by simp); replace bm := bm.keep k8 (by simp); replace hc := hc.keep (k8.at _ (by simp)); replace hk1 := hk1.keep (k8.at _ (by simp)); replace hk2 := hk2.keep (k8.at _ (by simp)); replace hm := hm.keep (k8.at _ (by simp))) | (go_at_call 32; refine (zeroBlock_call zBk A2 A3 d2 d3 _).mono ?_; rintro e w8 ⟨rfl, k8⟩; rw [zeroBlock_zBk]; replace m0 := k8.cell (by simp) m0; replace kq := kq.trans k8; replace br := br.keep k8 (by simp); replace bc := bc.keep k8 (by simp); replace bk := bk.keep k8 (by simp); replace bm := bm.keep k8 (by simp); replace hc := hc.keep (k8.at _ (by simp)); replace hk1 := hk1.keep (k8.at _ (by simp)); replace hk2 := hk2.keep (k8.at _ (by simp)); replace hm := hm.keep (k8.at _ (by simp))))
            go_meet
            exact ⟨rfl, kq⟩
          · skip
            (try dsimp only at br); have hne := ne_req ⟨0, 0, ⟨#[]⟩⟩; dsimp only at hne
            (try dsimp only at bc)
            skip
            have m0 : True := trivial
            clear h1m h2m
            clear Gr Gc Gk Gm
            go_wp2_with (first | ((with_reducible refine wl_load 34 (.tmp 3) ?_ ?_); (with_reducible rfl); refine sv_loadW 34 (.tmp 3) rfl rfl wr.heap.size _ _ _ 3 rfl br Try.underlying34 rfl rqSize rfl ?_; (try simp only [Act.put, List.setIfInBounds_toArray, List.set_cons_zero, List.set_cons_succ])) | ((with_reducible refine wl_load 28 (.tmp 5) ?_ ?_); (with_reducible rfl); refine sv_loadW 28 (.tmp 5) rfl rfl wc.heap.size _ _ _ 3 rfl bc Try.underlying28 rfl ctSize rfl ?_; (try simp only [Act.put, List.setIfInBounds_toArray, List.set_cons_zero, List.set_cons_succ])) | ((with_reducible refine wl_load 31 (.tmp 7) ?_ ?_); (with_reducible rfl); refine sv_loadW 31 (.tmp 7) rfl rfl wk.heap.size _ _ _ 6 rfl bk Try.underlying31 rfl bkSize rfl ?_; (try simp only [Act.put, List.setIfInBounds_toArray, List.set_cons_zero, List.set_cons_succ])) | (go_at_call 27; refine (zeroCert_call ⟨0, ⟨#[]⟩, []⟩ A1 d1 _).mono ?_; rintro e w8 ⟨rfl, k8⟩; rw [zeroCert_z]; replace kq := kq.trans k8; replace br := br.keep k8 (by simp); replace bc := bc.keep k8 (by simp); replace bk := bk.keep k8 (by simp); replace bm := bm.keep k8 (by simp); replace hc := hc.keep (k8.at _ (by simp)); replace hk1 := hk1.keep (k8.at _ (by simp)); replace hk2 := hk2.keep (k8.at _ (by simp)); replace hm := hm.keep (k8.at _ (by simp))) | (go_at_call 32; refine (zeroBlock_call zBk A2 A3 d2 d3 _).mono ?_; rintro e w8 ⟨rfl, k8⟩; rw [zeroBlock_zBk]; replace kq := kq.trans k8; replace br := br.keep k8 (by simp); replace bc := bc.keep k8 (by simp); replace bk := bk.keep k8 (by simp); replace bm := bm.keep k8 (by simp); replace hc := hc.keep (k8.at _ (by simp)); replace hk1 := hk1.keep (k8.at _ (by simp)); replace hk2 := hk2.keep (k8.at _ (by simp)); replace hm := hm.keep (k8.at _ (by simp))))
            go_meet
            exact ⟨rfl, kq⟩
        · skip
          rcases Gm.out with ⟨rfl, rfl⟩ | ⟨rfl, h1m, h2m⟩
          · skip
            (try dsimp only at br); have hne := ne_req ⟨0, 0, ⟨#[]⟩⟩; dsimp only at hne
            (try dsimp only at bc)
            skip
            clear h1k h2k
            have m0 := bm.cell 0; simp only [msgV, List.getElem?_toArray, List.getElem?_cons_zero] at m0; have zk0 : zM.k = 0 := rfl
            clear Gr Gc Gk Gm
            go_wp2_with (first | ((with_reducible refine wl_load 34 (.tmp 3) ?_ ?_); (with_reducible rfl); refine sv_loadW 34 (.tmp 3) rfl rfl wr.heap.size _ _ _ 3 rfl br Try.underlying34 rfl rqSize rfl ?_; (try simp only [Act.put, List.setIfInBounds_toArray, List.set_cons_zero, List.set_cons_succ])) | ((with_reducible refine wl_load 28 (.tmp 5) ?_ ?_); (with_reducible rfl); refine sv_loadW 28 (.tmp 5) rfl rfl wc.heap.size _ _ _ 3 rfl bc Try.underlying28 rfl ctSize rfl ?_; (try simp only [Act.put, List.setIfInBounds_toArray, List.set_cons_zero, List.set_cons_succ])) | (go_at_call 27; refine (zeroCert_call ⟨0, ⟨#[]⟩, []⟩ A1 d1 _).mono ?_; rintro e w8 ⟨rfl, k8⟩; rw [zeroCert_z]; replace m0 := k8.cell (by simp) m0; replace kq := kq.trans k8; replace br := br.keep k8 (by simp); replace bc := bc.keep k8 (by simp); replace bk := bk.keep k8 (by simp); replace bm := bm.keep k8 (by simp); replace hc := hc.keep (k8.at _ (by simp)); replace hk1 := hk1.keep (k8.at _ (by simp)); replace hk2 := hk2.keep (k8.at _ (by simp)); replace hm := hm.keep (k8.at _ (by simp))))
            go_meet
            exact ⟨rfl, kq⟩
          · skip
            (try dsimp only at br); have hne := ne_req ⟨0, 0, ⟨#[]⟩⟩; dsimp only at hne
            (try dsimp only at bc)
            skip
            clear h1k h2k
            have m0 : True := trivial
            clear h1m h2m
            clear Gr Gc Gk Gm
            go_wp2_with (first | ((with_reducible refine wl_load 34 (.tmp 3) ?_ ?_); (with_reducible rfl); refine sv_loadW 34 (.tmp 3) rfl rfl wr.heap.size _ _ _ 3 rfl br Try.underlying34 rfl rqSize rfl ?_; (try simp only [Act.put, List.setIfInBounds_toArray, List.set_cons_zero, List.set_cons_succ])) | ((with_reducible refine wl_load 28 (.tmp 5) ?_ ?_); (with_reducible rfl); refine sv_loadW 28 (.tmp 5) rfl rfl wc.heap.size _ _ _ 3 rfl bc Try.underlying28 rfl ctSize rfl ?_; (try simp only [Act.put, List.setIfInBounds_toArray, List.set_cons_zero, List.set_cons_succ])) | (go_at_call 27; refine (zeroCert_call ⟨0, ⟨#[]⟩, []⟩ A1 d1 _).mono ?_; rintro e w8 ⟨rfl, k8⟩; rw [zeroCert_z]; replace kq := kq.trans k8; replace br := br.keep k8 (by simp); replace bc := bc.keep k8 (by simp); replace bk := bk.keep k8 (by simp); replace bm := bm.keep k8 (by simp); replace hc := hc.keep (k8.at _ (by simp)); replace hk1 := hk1.keep (k8.at _ (by simp)); replace hk2 := hk2.keep (k8.at _ (by simp)); replace hm := hm.keep (k8.at _ (by simp))))
            go_meet
            exact ⟨rfl, kq⟩
      · skip
        rcases Gk.out with ⟨rfl, rfl⟩ | ⟨rfl, h1k, h2k⟩
        · skip
          rcases Gm.out with ⟨rfl, rfl⟩ | ⟨rfl, h1m, h2m⟩
          · skip
            (try dsimp only at br); have hne := ne_req ⟨0, 0, ⟨#[]⟩⟩; dsimp only at hne
            skip
            clear h1c h2c
            skip
            have m0 := bm.cell 0; simp only [msgV, List.getElem?_toArray, List.getElem?_cons_zero] at m0; have zk0 : zM.k = 0 := rfl
            clear Gr Gc Gk Gm
            go_wp2_with (first | ((with_reducible refine wl_load 34 (.tmp 3) ?_ ?_); (with_reducible rfl); refine sv_loadW 34 (.tmp 3) rfl rfl wr.heap.size _ _ _ 3 rfl br Try.underlying34 rfl rqSize rfl ?_; (try simp only [Act.put, List.setIfInBounds_toArray, List.set_cons_zero, List.set_cons_succ])) | ((with_reducible refine wl_load 31 (.tmp 7) ?_ ?_); (with_reducible rfl); refine sv_loadW 31 (.tmp 7) rfl rfl wk.heap.size _ _ _ 6 rfl bk Try.underlying31 rfl bkSize rfl ?_; (try simp only [Act.put, List.setIfInBounds_toArray, List.set_cons_zero, List.set_cons_succ])) | (go_at_call 32; refine (zeroBlock_call zBk A2 A3 d2 d3 _).mono ?_; rintro e w8 ⟨rfl, k8⟩; rw [zeroBlock_zBk]; replace m0 := k8.cell (by simp) m0; replace kq := kq.trans k8; replace br := br.keep k8 (by simp); replace bc := bc.keep k8 (by simp); replace bk := bk.keep k8 (by simp); replace bm := bm.keep k8 (by simp); replace hc := hc.keep (k8.at _ (by simp)); replace hk1 := hk1.keep (k8.at _ (by simp)); replace hk2 := hk2.keep (k8.at _ (by simp)); replace hm := hm.keep (k8.at _ (by simp))))
            go_meet
            exact ⟨rfl, kq⟩
          · skip
            (try dsimp only at br); have hne := ne_req ⟨0, 0, ⟨#[]⟩⟩; dsimp only at hne
            skip
            clear h1c h2c
            skip
            have m0 : True := trivial
            clear h1m h2m
            clear Gr Gc Gk Gm
            go_wp2_with (first | ((with_reducible refine wl_load 34 (.tmp 3) ?_ ?_); (with_reducible rfl); refine sv_loadW 34 (.tmp 3) rfl rfl wr.heap.size _ _ _ 3 rfl br Try.underlying34 rfl rqSize rfl ?_; (try simp only [Act.put, List.setIfInBounds_toArray, List.set_cons_zero, List.set_cons_succ])) | ((with_reducible refine wl_load 31 (.tmp 7) ?_ ?_); (with_reducible rfl); refine sv_loadW 31 (.tmp 7) rfl rfl wk.heap.size _ _ _ 6 rfl bk Try.underlying31 rfl bkSize rfl ?_; (try simp only [Act.put, List.setIfInBounds_toArray, List.set_cons_zero, List.set_cons_succ])) | (go_at_call 32; refine (zeroBlock_call zBk A2 A3 d2 d3 _).mono ?_; rintro e w8 ⟨rfl, k8⟩; rw [zeroBlock_zBk]; replace kq := kq.trans k8; replace br := br.keep k8 (by simp); replace bc := bc.keep k8 (by simp); replace bk := bk.keep k8 (by simp); replace bm := bm.keep k8 (by simp); replace hc := hc.keep (k8.at _ (by simp)); replace hk1 := hk1.keep (k8.at _ (by simp)); replace hk2 := hk2.keep (k8.at _ (by simp)); replace hm := hm.keep (k8.at _ (by simp))))
            go_meet
            exact ⟨rfl, kq⟩
        · skip
          rcases Gm.out with ⟨rfl, rfl⟩ | ⟨rfl, h1m, h2m⟩
          · skip
            (try dsimp only at br); have hne := ne_req ⟨0, 0, ⟨#[]⟩⟩; dsimp only at hne
            skip
            clear h1c h2c
            skip
            clear h1k h2k
            have m0 := bm.cell 0; simp only [msgV, List.getElem?_toArray, List.getElem?_cons_zero] at m0; have zk0 : zM.k = 0 := rfl
            clear Gr Gc Gk Gm
            go_wp2_with (first | ((with_reducible refine wl_load 34 (.tmp 3) ?_ ?_); (with_reducible rfl); refine sv_loadW 34 (.tmp 3) rfl rfl wr.heap.size _ _ _ 3 rfl br Try.underlying34 rfl rqSize rfl ?_; (try simp only [Act.put, List.setIfInBounds_toArray, List.set_cons_zero, List.set_cons_succ])))
            go_meet
            exact ⟨rfl, kq⟩
          · skip
            (try dsimp only at br); have hne := ne_req ⟨0, 0, ⟨#[]⟩⟩; dsimp only at hne
            skip
            clear h1c h2c
            skip
            clear h1k h2k
            have m0 : True := trivial
            clear h1m h2m
            clear Gr Gc Gk Gm
            go_wp2_with (first | ((with_reducible refine wl_load 34 (.tmp 3) ?_ ?_); (with_reducible rfl); refine sv_loadW 34 (.tmp 3) rfl rfl wr.heap.size _ _ _ 3 rfl br Try.underlying34 rfl rqSize rfl ?_; (try simp only [Act.put, List.setIfInBounds_toArray, List.set_cons_zero, List.set_cons_succ])))
            go_meet
            exact ⟨rfl, kq⟩
    · skip
      rcases Gc.out with ⟨rfl, rfl⟩ | ⟨rfl, h1c, h2c⟩
      · skip
        rcases Gk.out with ⟨rfl, rfl⟩ | ⟨rfl, h1k, h2k⟩
        · skip
          rcases Gm.out with ⟨rfl, rfl⟩ | ⟨rfl, h1m, h2m⟩
          · skip
            skip
            clear h1r h2r
            (try dsimp only at bc)
            skip
            have m0 := bm.cell 0; simp only [msgV, List.getElem?_toArray, List.getElem?_cons_zero] at m0; have zk0 : zM.k = 0 := rfl
            clear Gr Gc Gk Gm
            go_wp2_with (first | ((with_reducible refine wl_load 28 (.tmp 5) ?_ ?_); (with_reducible rfl); refine sv_loadW 28 (.tmp 5) rfl rfl wc.heap.size _ _ _ 3 rfl bc Try.underlying28 rfl ctSize rfl ?_; (try simp only [Act.put, List.setIfInBounds_toArray, List.set_cons_zero, List.set_cons_succ])) | ((with_reducible refine wl_load 31 (.tmp 7) ?_ ?_); (with_reducible rfl); refine sv_loadW 31 (.tmp 7) rfl rfl wk.heap.size _ _ _ 6 rfl bk Try.underlying31 rfl bkSize rfl ?_; (try simp only [Act.put, List.setIfInBounds_toArray, List.set_cons_zero, List.set_cons_succ])) | (go_at_call 27; refine (zeroCert_call ⟨0, ⟨#[]⟩, []⟩ A1 d1 _).mono ?_; rintro e w8 ⟨rfl, k8⟩; rw [zeroCert_z]; replace m0 := k8.cell (by simp) m0; replace kq := kq.trans k8; replace br := br.keep k8 (by simp); replace bc := bc.keep k8 (by simp); replace bk := bk.keep k8 (by simp); replace bm := bm.keep k8 (by simp); replace hc := hc.keep (k8.at _ (by simp)); replace hk1 := hk1.keep (k8.at _ (by simp)); replace hk2 := hk2.keep (k8.at _ (by simp)); replace hm := hm.keep (k8.at _ (by simp))) | (go_at_call 32; refine (zeroBlock_call zBk A2 A3 d2 d3 _).mono ?_; rintro e w8 ⟨rfl, k8⟩; rw [zeroBlock_zBk]; replace m0 := k8.cell (by simp) m0; replace kq := kq.trans k8; replace br := br.keep k8 (by simp); replace bc := bc.keep k8 (by simp); replace bk := bk.keep k8 (by simp); replace bm := bm.keep k8 (by simp); replace hc := hc.keep (k8.at _ (by simp)); replace hk1 := hk1.keep (k8.at _ (by simp)); replace hk2 := hk2.keep (k8.at _ (by simp)); replace hm := hm.keep (k8.at _ (by simp))))
            go_meet
            exact ⟨rfl, kq⟩
          · skip
            skip
            clear h1r h2r
            (try dsimp only at bc)
            skip
            have m0 : True := trivial
            clear h1m h2m
            clear Gr Gc Gk Gm
            go_wp2_with (first | ((with_reducible refine wl_load 28 (.tmp 5) ?_ ?_); (with_reducible rfl); refine sv_loadW 28 (.tmp 5) rfl rfl wc.heap.size _ _ _ 3 rfl bc Try.underlying28 rfl ctSize rfl ?_; (try simp only [Act.put, List.setIfInBounds_toArray, List.set_cons_zero, List.set_cons_succ])) | ((with_reducible refine wl_load 31 (.tmp 7) ?_ ?_); (with_reducible rfl); refine sv_loadW 31 (.tmp 7) rfl rfl wk.heap.size _ _ _ 6 rfl bk Try.underlying31 rfl bkSize rfl ?_; (try simp only [Act.put, List.setIfInBounds_toArray, List.set_cons_zero, List.set_cons_succ])) | (go_at_call 27; refine (zeroCert_call ⟨0, ⟨#[]⟩, []⟩ A1 d1 _).mono ?_; rintro e w8 ⟨rfl, k8⟩; rw [zeroCert_z]; replace kq := kq.trans k8; replace br := br.keep k8 (by simp); replace bc := bc.keep k8 (by simp); replace bk := bk.keep k8 (by simp); replace bm := bm.keep k8 (by simp); replace hc := hc.keep (k8.at _ (by simp)); replace hk1 := hk1.keep (k8.at _ (by simp)); replace hk2 := hk2.keep (k8.at _ (by simp)); replace hm := hm.keep (k8.at _ (by simp))) | (go_at_call 32; refine (zeroBlock_call zBk A2 A3 d2 d3 _).mono ?_; rintro e w8 ⟨rfl, k8⟩; rw [zeroBlock_zBk]; replace kq := kq.trans k8; replace br := br.keep k8 (by simp); replace bc := bc.keep k8 (by simp); replace bk := bk.keep k8 (by simp); replace bm := bm.keep k8 (by simp); replace hc := hc.keep (k8.at _ (by simp)); replace hk1 := hk1.keep (k8.at _ (by simp)); replace hk2 := hk2.keep (k8.at _ (by simp)); replace hm := hm.keep (k8.at _ (by simp))))
            go_meet
            exact ⟨rfl, kq⟩
        · skip
          rcases Gm.out with ⟨rfl, rfl⟩ | ⟨rfl, h1m, h2m⟩
          · skip
            skip
            clear h1r h2r
            (try dsimp only at bc)
            skip
            clear h1k h2k
            have m0 := bm.cell 0; simp only [msgV, List.getElem?_toArray, List.getElem?_cons_zero] at m0; have zk0 : zM.k = 0 := rfl
            clear Gr Gc Gk Gm
            go_wp2_with (first | ((with_reducible refine wl_load 28 (.tmp 5) ?_ ?_); (with_reducible rfl); refine sv_loadW 28 (.tmp 5) rfl rfl wc.heap.size _ _ _ 3 rfl bc Try.underlying28 rfl ctSize rfl ?_; (try simp only [Act.put, List.setIfInBounds_toArray, List.set_cons_zero, List.set_cons_succ])) | (go_at_call 27; refine (zeroCert_call ⟨0, ⟨#[]⟩, []⟩ A1 d1 _).mono ?_; rintro e w8 ⟨rfl, k8⟩; rw [zeroCert_z]; replace m0 := k8.cell (by simp) m0; replace kq := kq.trans k8; replace br := br.keep k8 (by simp); replace bc := bc.keep k8 (by simp); replace bk := bk.keep k8 (by simp); replace bm := bm.keep k8 (by simp); replace hc := hc.keep (k8.at _ (by simp)); replace hk1 := hk1.keep (k8.at _ (by simp)); replace hk2 := hk2.keep (k8.at _ (by simp)); replace hm := hm.keep (k8.at _ (by simp))))
            go_meet
            exact ⟨rfl, kq⟩
          · skip
            skip
            clear h1r h2r
            (try dsimp only at bc)
            skip
            clear h1k h2k
            have m0 : True := trivial
            clear h1m h2m
            clear Gr Gc Gk Gm
            go_wp2_with (first | ((with_reducible refine wl_load 28 (.tmp 5) ?_ ?_); (with_reducible rfl); refine sv_loadW 28 (.tmp 5) rfl rfl wc.heap.size _ _ _ 3 rfl bc Try.underlying28 rfl ctSize rfl ?_; (try simp only [Act.put, List.setIfInBounds_toArray, List.set_cons_zero, List.set_cons_succ])) | (go_at_call 27; refine (zeroCert_call ⟨0, ⟨#[]⟩, []⟩ A1 d1 _).mono ?_; rintro e w8 ⟨rfl, k8⟩; rw [zeroCert_z]; replace kq := kq.trans k8; replace br := br.keep k8 (by simp); replace bc := bc.keep k8 (by simp); replace bk := bk.keep k8 (by simp); replace bm := bm.keep k8 (by simp); replace hc := hc.keep (k8.at _ (by simp)); replace hk1 := hk1.keep (k8.at _ (by simp)); replace hk2 := hk2.keep (k8.at _ (by simp)); replace hm := hm.keep (k8.at _ (by simp))))
            go_meet
            exact ⟨rfl, kq⟩
      · skip
        rcases Gk.out with ⟨rfl, rfl⟩ | ⟨rfl, h1k, h2k⟩
        · skip
          rcases Gm.out with ⟨rfl, rfl⟩ | ⟨rfl, h1m, h2m⟩
          · skip
            skip
            clear h1r h2r
            skip
            clear h1c h2c
            skip
            have m0 := bm.cell 0; simp only [msgV, List.getElem?_toArray, List.getElem?_cons_zero] at m0; have zk0 : zM.k = 0 := rfl
            clear Gr Gc Gk Gm
            go_wp2_with (first | ((with_reducible refine wl_load 31 (.tmp 7) ?_ ?_); (with_reducible rfl); refine sv_loadW 31 (.tmp 7) rfl rfl wk.heap.size _ _ _ 6 rfl bk Try.underlying31 rfl bkSize rfl ?_; (try simp only [Act.put, List.setIfInBounds_toArray, List.set_cons_zero, List.set_cons_succ])) | (go_at_call 32; refine (zeroBlock_call zBk A2 A3 d2 d3 _).mono ?_; rintro e w8 ⟨rfl, k8⟩; rw [zeroBlock_zBk]; replace m0 := k8.cell (by simp) m0; replace kq := kq.trans k8; replace br := br.keep k8 (by simp); replace bc := bc.keep k8 (by simp); replace bk := bk.keep k8 (by simp); replace bm := bm.keep k8 (by simp); replace hc := hc.keep (k8.at _ (by simp)); replace hk1 := hk1.keep (k8.at _ (by simp)); replace hk2 := hk2.keep (k8.at _ (by simp)); replace hm := hm.keep (k8.at _ (by simp))))
            go_meet
            exact ⟨rfl, kq⟩
          · skip
            skip
            clear h1r h2r
            skip
            clear h1c h2c
            skip
            have m0 : True := trivial
            clear h1m h2m
            clear Gr Gc Gk Gm
            go_wp2_with (first | ((with_reducible refine wl_load 31 (.tmp 7) ?_ ?_); (with_reducible rfl); refine sv_loadW 31 (.tmp 7) rfl rfl wk.heap.size _ _ _ 6 rfl bk Try.underlying31 rfl bkSize rfl ?_; (try simp only [Act.put, List.setIfInBounds_toArray, List.set_cons_zero, List.set_cons_succ])) | (go_at_call 32; refine (zeroBlock_call zBk A2 A3 d2 d3 _).mono ?_; rintro e w8 ⟨rfl, k8⟩; rw [zeroBlock_zBk]; replace kq := kq.trans k8; replace br := br.keep k8 (by simp); replace bc := bc.keep k8 (by simp); replace bk := bk.keep k8 (by simp); replace bm := bm.keep k8 (by simp); replace hc := hc.keep (k8.at _ (by simp)); replace hk1 := hk1.keep (k8.at _ (by simp)); replace hk2 := hk2.keep (k8.at _ (by simp)); replace hm := hm.keep (k8.at _ (by simp))))
            go_meet
            exact ⟨rfl, kq⟩
        · skip
          rcases Gm.out with ⟨rfl, rfl⟩ | ⟨rfl, h1m, h2m⟩
          · skip
            skip
            clear h1r h2r
            skip
            clear h1c h2c
            skip
            clear h1k h2k
            have m0 := bm.cell 0; simp only [msgV, List.getElem?_toArray, List.getElem?_cons_zero] at m0; have zk0 : zM.k = 0 := rfl
            clear Gr Gc Gk Gm
            go_wp2_with fail
            go_meet
            exact ⟨rfl, kq⟩
          · skip
            skip
            clear h1r h2r
            skip
            clear h1c h2c
            skip
            clear h1k h2k
            have m0 : True := trivial
            clear h1m h2m
            clear Gr Gc Gk Gm
            go_wp2_with fail
            go_meet
            exact ⟨rfl, kq⟩
  case rest =>
    obtain ⟨rfl, kq⟩ := hcut
    rename World => wz
    replace kk := kk.trans kq
    replace br := br.keep kq (by simp)
    replace bc := bc.keep kq (by simp)
    replace bk := bk.keep kq (by simp)
    replace bm := bm.keep kq (by simp)
    replace hc := hc.keep (kq.at _ (by simp))
    replace hk1 := hk1.keep (kq.at _ (by simp))
    replace hk2 := hk2.keep (kq.at _ (by simp))
    replace hm := hm.keep (kq.at _ (by simp))
    clear kq zr0 zrb zc0 zcb zk0 zkb zm0 zmb
    have kq : Keep [] wz wz := Keep.refl _ _
    rcases Gr.out with ⟨rfl, rfl⟩ | ⟨rfl, h1r, h2r⟩
    · skip
      rcases Gc.out with ⟨rfl, rfl⟩ | ⟨rfl, h1c, h2c⟩
      · skip
        rcases Gk.out with ⟨rfl, rfl⟩ | ⟨rfl, h1k, h2k⟩
        · skip
          rcases Gm.out with ⟨rfl, rfl⟩ | ⟨rfl, h1m, h2m⟩
          · skip
            (try dsimp only at br)
            (try dsimp only at bc)
            skip
            skip
            clear Gr Gc Gk Gm
            go_wp2_with fail
            go_ret
            exact ⟨ret_bool (by simp), kk.trans kq⟩
          · skip
            (try dsimp only at br)
            (try dsimp only at bc)
            skip
            have ms1 := MsSz.of_size (x := m) (by rw [h2m]; omega)
            have HM1 := Lib.hid h1m; have HM2 := Lib.hid h2m
            clear h1m h2m
            clear Gr Gc Gk Gm
            go_wp2_with (first | ((with_reducible refine wl_load 52 (.tmp 9) ?_ ?_); (with_reducible rfl); refine sv_loadW 52 (.tmp 9) rfl rfl wm.heap.size _ _ _ 21 rfl bm Try.underlying52 rfl zMs_size rfl ?_; (try simp only [Act.put, List.setIfInBounds_toArray, List.set_cons_zero, List.set_cons_succ])) | (go_at_call 34; refine (rightMsg_call m _ _ _ _ _ _ hm).mono ?_; rintro e w8 ⟨rfl, k8⟩; rw [HM1.out]; replace kq := kq.trans k8; replace br := br.keep k8 (by simp); replace bc := bc.keep k8 (by simp); replace bk := bk.keep k8 (by simp); replace bm := bm.keep k8 (by simp); replace hc := hc.keep (k8.at _ (by simp)); replace hk1 := hk1.keep (k8.at _ (by simp)); replace hk2 := hk2.keep (k8.at _ (by simp)); replace hm := hm.keep (k8.at _ (by simp))) | (go_at_call 35; refine (rmsg_call m _ _ _ _ _ _ hm ms1).mono ?_; rintro e w8 ⟨rfl, k8⟩; rw [HM2.out]; replace kq := kq.trans k8; replace br := br.keep k8 (by simp); replace bc := bc.keep k8 (by simp); replace bk := bk.keep k8 (by simp); replace bm := bm.keep k8 (by simp); replace hc := hc.keep (k8.at _ (by simp)); replace hk1 := hk1.keep (k8.at _ (by simp)); replace hk2 := hk2.keep (k8.at _ (by simp)); replace hm := hm.keep (k8.at _ (by simp))))
            go_ret
            exact ⟨ret_bool (by simp), kk.trans kq⟩
        · skip
          rcases Gm.out with ⟨rfl, rfl⟩ | ⟨rfl, h1m, h2m⟩
          · skip
            (try dsimp only at br)
            (try dsimp only at bc)
            obtain ⟨ji1, ji2, ji3⟩ := block_i64 h1k; have js1 : (blockF k).size ≤ 4611686018427387904 := by rw [h2k]; omega
            have HJ1 := Lib.hid h1k; have HJ2 := Lib.hid h2k
            clear h1k h2k
            skip
            clear Gr Gc Gk Gm
            go_wp2_with (first | ((with_reducible refine wl_load 31 (.tmp 7) ?_ ?_); (with_reducible rfl); refine sv_loadW 31 (.tmp 7) rfl rfl wk.heap.size _ _ _ 6 rfl bk Try.underlying31 rfl bkSize rfl ?_; (try simp only [Act.put, List.setIfInBounds_toArray, List.set_cons_zero, List.set_cons_succ])) | (go_at_call 16; refine (rightBlock_call k _ _ _ _ hk1 hk2).mono ?_; rintro e w8 ⟨rfl, k8⟩; rw [HJ1.out]; replace kq := kq.trans k8; replace br := br.keep k8 (by simp); replace bc := bc.keep k8 (by simp); replace bk := bk.keep k8 (by simp); replace bm := bm.keep k8 (by simp); replace hc := hc.keep (k8.at _ (by simp)); replace hk1 := hk1.keep (k8.at _ (by simp)); replace hk2 := hk2.keep (k8.at _ (by simp)); replace hm := hm.keep (k8.at _ (by simp))) | (go_at_call 29; refine (rblock_call k _ _ _ _ hk1 hk2 ji1 ji2 ji3 js1).mono ?_; rintro e w8 ⟨rfl, k8⟩; rw [HJ2.out]; replace kq := kq.trans k8; replace br := br.keep k8 (by simp); replace bc := bc.keep k8 (by simp); replace bk := bk.keep k8 (by simp); replace bm := bm.keep k8 (by simp); replace hc := hc.keep (k8.at _ (by simp)); replace hk1 := hk1.keep (k8.at _ (by simp)); replace hk2 := hk2.keep (k8.at _ (by simp)); replace hm := hm.keep (k8.at _ (by simp))))
            go_ret
            exact ⟨ret_bool (by simp), kk.trans kq⟩
          · skip
            (try dsimp only at br)
            (try dsimp only at bc)
            obtain ⟨ji1, ji2, ji3⟩ := block_i64 h1k; have js1 : (blockF k).size ≤ 4611686018427387904 := by rw [h2k]; omega
            have HJ1 := Lib.hid h1k; have HJ2 := Lib.hid h2k
            clear h1k h2k
            have ms1 := MsSz.of_size (x := m) (by rw [h2m]; omega)
            have HM1 := Lib.hid h1m; have HM2 := Lib.hid h2m
            clear h1m h2m
            clear Gr Gc Gk Gm
            go_wp2_with (first | ((with_reducible refine wl_load 31 (.tmp 7) ?_ ?_); (with_reducible rfl); refine sv_loadW 31 (.tmp 7) rfl rfl wk.heap.size _ _ _ 6 rfl bk Try.underlying31 rfl bkSize rfl ?_; (try simp only [Act.put, List.setIfInBounds_toArray, List.set_cons_zero, List.set_cons_succ])) | (go_at_call 16; refine (rightBlock_call k _ _ _ _ hk1 hk2).mono ?_; rintro e w8 ⟨rfl, k8⟩; rw [HJ1.out]; replace kq := kq.trans k8; replace br := br.keep k8 (by simp); replace bc := bc.keep k8 (by simp); replace bk := bk.keep k8 (by simp); replace bm := bm.keep k8 (by simp); replace hc := hc.keep (k8.at _ (by simp)); replace hk1 := hk1.keep (k8.at _ (by simp)); replace hk2 := hk2.keep (k8.at _ (by simp)); replace hm := hm.keep (k8.at _ (by simp))) | (go_at_call 29; refine (rblock_call k _ _ _ _ hk1 hk2 ji1 ji2 ji3 js1).mono ?_; rintro e w8 ⟨rfl, k8⟩; rw [HJ2.out]; replace kq := kq.trans k8; replace br := br.keep k8 (by simp); replace bc := bc.keep k8 (by simp); replace bk := bk.keep k8 (by simp); replace bm := bm.keep k8 (by simp); replace hc := hc.keep (k8.at _ (by simp)); replace hk1 := hk1.keep (k8.at _ (by simp)); replace hk2 := hk2.keep (k8.at _ (by simp)); replace hm := hm.keep (k8.at _ (by simp))) | ((with_reducible refine wl_load 52 (.tmp 9) ?_ ?_); (with_reducible rfl); refine sv_loadW 52 (.tmp 9) rfl rfl wm.heap.size _ _ _ 21 rfl bm Try.underlying52 rfl zMs_size rfl ?_; (try simp only [Act.put, List.setIfInBounds_toArray, List.set_cons_zero, List.set_cons_succ])) | (go_at_call 34; refine (rightMsg_call m _ _ _ _ _ _ hm).mono ?_; rintro e w8 ⟨rfl, k8⟩; rw [HM1.out]; replace kq := kq.trans k8; replace br := br.keep k8 (by simp); replace bc := bc.keep k8 (by simp); replace bk := bk.keep k8 (by simp); replace bm := bm.keep k8 (by simp); replace hc := hc.keep (k8.at _ (by simp)); replace hk1 := hk1.keep (k8.at _ (by simp)); replace hk2 := hk2.keep (k8.at _ (by simp)); replace hm := hm.keep (k8.at _ (by simp))) | (go_at_call 35; refine (rmsg_call m _ _ _ _ _ _ hm ms1).mono ?_; rintro e w8 ⟨rfl, k8⟩; rw [HM2.out]; replace kq := kq.trans k8; replace br := br.keep k8 (by simp); replace bc := bc.keep k8 (by simp); replace bk := bk.keep k8 (by simp); replace bm := bm.keep k8 (by simp); replace hc := hc.keep (k8.at _ (by simp)); replace hk1 := hk1.keep (k8.at _ (by simp)); replace hk2 := hk2.keep (k8.at _ (by simp)); replace hm := hm.keep (k8.at _ (by simp))))
            go_ret
            exact ⟨ret_bool (by simp), kk.trans kq⟩
      · skip
        rcases Gk.out with ⟨rfl, rfl⟩ | ⟨rfl, h1k, h2k⟩
        · skip
          rcases Gm.out with ⟨rfl, rfl⟩ | ⟨rfl, h1m, h2m⟩
          · skip
            (try dsimp only at br)
            have ci1 := cert_i64 h1c; have cs1 : (certF c).size ≤ 4611686018427387904 := by rw [h2c]; omega
            have HC1 := Lib.hid h1c; have HC2 := Lib.hid h2c
            clear h1c h2c
            skip
            skip
            clear Gr Gc Gk Gm
            go_wp2_with (first | ((with_reducible refine wl_load 28 (.tmp 5) ?_ ?_); (with_reducible rfl); refine sv_loadW 28 (.tmp 5) rfl rfl wc.heap.size _ _ _ 3 rfl bc Try.underlying28 rfl ctSize rfl ?_; (try simp only [Act.put, List.setIfInBounds_toArray, List.set_cons_zero, List.set_cons_succ])) | (go_at_call 26; refine (rightCert_call c _ _ _ hc).mono ?_; rintro e w8 ⟨rfl, k8⟩; rw [HC1.out]; replace kq := kq.trans k8; replace br := br.keep k8 (by simp); replace bc := bc.keep k8 (by simp); replace bk := bk.keep k8 (by simp); replace bm := bm.keep k8 (by simp); replace hc := hc.keep (k8.at _ (by simp)); replace hk1 := hk1.keep (k8.at _ (by simp)); replace hk2 := hk2.keep (k8.at _ (by simp)); replace hm := hm.keep (k8.at _ (by simp))) | (go_at_call 25; refine (rcert_call c _ _ _ hc ci1 cs1).mono ?_; rintro e w8 ⟨rfl, k8⟩; rw [HC2.out]; replace kq := kq.trans k8; replace br := br.keep k8 (by simp); replace bc := bc.keep k8 (by simp); replace bk := bk.keep k8 (by simp); replace bm := bm.keep k8 (by simp); replace hc := hc.keep (k8.at _ (by simp)); replace hk1 := hk1.keep (k8.at _ (by simp)); replace hk2 := hk2.keep (k8.at _ (by simp)); replace hm := hm.keep (k8.at _ (by simp))))
            go_ret
            exact ⟨ret_bool (by simp), kk.trans kq⟩
          · skip
            (try dsimp only at br)
            have ci1 := cert_i64 h1c; have cs1 : (certF c).size ≤ 4611686018427387904 := by rw [h2c]; omega
            have HC1 := Lib.hid h1c; have HC2 := Lib.hid h2c
            clear h1c h2c
            skip
            have ms1 := MsSz.of_size (x := m) (by rw [h2m]; omega)
            have HM1 := Lib.hid h1m; have HM2 := Lib.hid h2m
            clear h1m h2m
            clear Gr Gc Gk Gm
            go_wp2_with (first | ((with_reducible refine wl_load 28 (.tmp 5) ?_ ?_); (with_reducible rfl); refine sv_loadW 28 (.tmp 5) rfl rfl wc.heap.size _ _ _ 3 rfl bc Try.underlying28 rfl ctSize rfl ?_; (try simp only [Act.put, List.setIfInBounds_toArray, List.set_cons_zero, List.set_cons_succ])) | (go_at_call 26; refine (rightCert_call c _ _ _ hc).mono ?_; rintro e w8 ⟨rfl, k8⟩; rw [HC1.out]; replace kq := kq.trans k8; replace br := br.keep k8 (by simp); replace bc := bc.keep k8 (by simp); replace bk := bk.keep k8 (by simp); replace bm := bm.keep k8 (by simp); replace hc := hc.keep (k8.at _ (by simp)); replace hk1 := hk1.keep (k8.at _ (by simp)); replace hk2 := hk2.keep (k8.at _ (by simp)); replace hm := hm.keep (k8.at _ (by simp))) | (go_at_call 25; refine (rcert_call c _ _ _ hc ci1 cs1).mono ?_; rintro e w8 ⟨rfl, k8⟩; rw [HC2.out]; replace kq := kq.trans k8; replace br := br.keep k8 (by simp); replace bc := bc.keep k8 (by simp); replace bk := bk.keep k8 (by simp); replace bm := bm.keep k8 (by simp); replace hc := hc.keep (k8.at _ (by simp)); replace hk1 := hk1.keep (k8.at _ (by simp)); replace hk2 := hk2.keep (k8.at _ (by simp)); replace hm := hm.keep (k8.at _ (by simp))) | ((with_reducible refine wl_load 52 (.tmp 9) ?_ ?_); (with_reducible rfl); refine sv_loadW 52 (.tmp 9) rfl rfl wm.heap.size _ _ _ 21 rfl bm Try.underlying52 rfl zMs_size rfl ?_; (try simp only [Act.put, List.setIfInBounds_toArray, List.set_cons_zero, List.set_cons_succ])) | (go_at_call 34; refine (rightMsg_call m _ _ _ _ _ _ hm).mono ?_; rintro e w8 ⟨rfl, k8⟩; rw [HM1.out]; replace kq := kq.trans k8; replace br := br.keep k8 (by simp); replace bc := bc.keep k8 (by simp); replace bk := bk.keep k8 (by simp); replace bm := bm.keep k8 (by simp); replace hc := hc.keep (k8.at _ (by simp)); replace hk1 := hk1.keep (k8.at _ (by simp)); replace hk2 := hk2.keep (k8.at _ (by simp)); replace hm := hm.keep (k8.at _ (by simp))) | (go_at_call 35; refine (rmsg_call m _ _ _ _ _ _ hm ms1).mono ?_; rintro e w8 ⟨rfl, k8⟩; rw [HM2.out]; replace kq := kq.trans k8; replace br := br.keep k8 (by simp); replace bc := bc.keep k8 (by simp); replace bk := bk.keep k8 (by simp); replace bm := bm.keep k8 (by simp); replace hc := hc.keep (k8.at _ (by simp)); replace hk1 := hk1.keep (k8.at _ (by simp)); replace hk2 := hk2.keep (k8.at _ (by simp)); replace hm := hm.keep (k8.at _ (by simp))))
            go_ret
            exact ⟨ret_bool (by simp), kk.trans kq⟩
        · skip
          rcases Gm.out with ⟨rfl, rfl⟩ | ⟨rfl, h1m, h2m⟩
          · skip
            (try dsimp only at br)
            have ci1 := cert_i64 h1c; have cs1 : (certF c).size ≤ 4611686018427387904 := by rw [h2c]; omega
            have HC1 := Lib.hid h1c; have HC2 := Lib.hid h2c
            clear h1c h2c
            obtain ⟨ji1, ji2, ji3⟩ := block_i64 h1k; have js1 : (blockF k).size ≤ 4611686018427387904 := by rw [h2k]; omega
            have HJ1 := Lib.hid h1k; have HJ2 := Lib.hid h2k
            clear h1k h2k
            skip
            clear Gr Gc Gk Gm
            go_wp2_with (first | ((with_reducible refine wl_load 28 (.tmp 5) ?_ ?_); (with_reducible rfl); refine sv_loadW 28 (.tmp 5) rfl rfl wc.heap.size _ _ _ 3 rfl bc Try.underlying28 rfl ctSize rfl ?_; (try simp only [Act.put, List.setIfInBounds_toArray, List.set_cons_zero, List.set_cons_succ])) | (go_at_call 26; refine (rightCert_call c _ _ _ hc).mono ?_; rintro e w8 ⟨rfl, k8⟩; rw [HC1.out]; replace kq := kq.trans k8; replace br := br.keep k8 (by simp); replace bc := bc.keep k8 (by simp); replace bk := bk.keep k8 (by simp); replace bm := bm.keep k8 (by simp); replace hc := hc.keep (k8.at _ (by simp)); replace hk1 := hk1.keep (k8.at _ (by simp)); replace hk2 := hk2.keep (k8.at _ (by simp)); replace hm := hm.keep (k8.at _ (by simp))) | (go_at_call 25; refine (rcert_call c _ _ _ hc ci1 cs1).mono ?_; rintro e w8 ⟨rfl, k8⟩; rw [HC2.out]; replace kq := kq.trans k8; replace br := br.keep k8 (by simp); replace bc := bc.keep k8 (by simp); replace bk := bk.keep k8 (by simp); replace bm := bm.keep k8 (by simp); replace hc := hc.keep (k8.at _ (by simp)); replace hk1 := hk1.keep (k8.at _ (by simp)); replace hk2 := hk2.keep (k8.at _ (by simp)); replace hm := hm.keep (k8.at _ (by simp))) | ((with_reducible refine wl_load 31 (.tmp 7) ?_ ?_); (with_reducible rfl); refine sv_loadW 31 (.tmp 7) rfl rfl wk.heap.size _ _ _ 6 rfl bk Try.underlying31 rfl bkSize rfl ?_; (try simp only [Act.put, List.setIfInBounds_toArray, List.set_cons_zero, List.set_cons_succ])) | (go_at_call 16; refine (rightBlock_call k _ _ _ _ hk1 hk2).mono ?_; rintro e w8 ⟨rfl, k8⟩; rw [HJ1.out]; replace kq := kq.trans k8; replace br := br.keep k8 (by simp); replace bc := bc.keep k8 (by simp); replace bk := bk.keep k8 (by simp); replace bm := bm.keep k8 (by simp); replace hc := hc.keep (k8.at _ (by simp)); replace hk1 := hk1.keep (k8.at _ (by simp)); replace hk2 := hk2.keep (k8.at _ (by simp)); replace hm := hm.keep (k8.at _ (by simp))) | (go_at_call 29; refine (rblock_call k _ _ _ _ hk1 hk2 ji1 ji2 ji3 js1).mono ?_; rintro e w8 ⟨rfl, k8⟩; rw [HJ2.out]; replace kq := kq.trans k8; replace br := br.keep k8 (by simp); replace bc := bc.keep k8 (by simp); replace bk := bk.keep k8 (by simp); replace bm := bm.keep k8 (by simp); replace hc := hc.keep (k8.at _ (by simp)); replace hk1 := hk1.keep (k8.at _ (by simp)); replace hk2 := hk2.keep (k8.at _ (by simp)); replace hm := hm.keep (k8.at _ (by simp))))
            go_ret
            exact ⟨ret_bool (by simp), kk.trans kq⟩
          · skip
            (try dsimp only at br)
            have ci1 := cert_i64 h1c; have cs1 : (certF c).size ≤ 4611686018427387904 := by rw [h2c]; omega
            have HC1 := Lib.hid h1c; have HC2 := Lib.hid h2c
            clear h1c h2c
            obtain ⟨ji1, ji2, ji3⟩ := block_i64 h1k; have js1 : (blockF k).size ≤ 4611686018427387904 := by rw [h2k]; omega
            have HJ1 := Lib.hid h1k; have HJ2 := Lib.hid h2k
            clear h1k h2k
            have ms1 := MsSz.of_size (x := m) (by rw [h2m]; omega)
            have HM1 := Lib.hid h1m; have HM2 := Lib.hid h2m
            clear h1m h2m
            clear Gr Gc Gk Gm
            go_wp2_with (first | ((with_reducible refine wl_load 28 (.tmp 5) ?_ ?_); (with_reducible rfl); refine sv_loadW 28 (.tmp 5) rfl rfl wc.heap.size _ _ _ 3 rfl bc Try.underlying28 rfl ctSize rfl ?_; (try simp only [Act.put, List.setIfInBounds_toArray, List.set_cons_zero, List.set_cons_succ])) | (go_at_call 26; refine (rightCert_call c _ _ _ hc).mono ?_; rintro e w8 ⟨rfl, k8⟩; rw [HC1.out]; replace kq := kq.trans k8; replace br := br.keep k8 (by simp); replace bc := bc.keep k8 (by simp); replace bk := bk.keep k8 (by simp); replace bm := bm.keep k8 (by simp); replace hc := hc.keep (k8.at _ (by simp)); replace hk1 := hk1.keep (k8.at _ (by simp)); replace hk2 := hk2.keep (k8.at _ (by simp)); replace hm := hm.keep (k8.at _ (by simp))) | (go_at_call 25; refine (rcert_call c _ _ _ hc ci1 cs1).mono ?_; rintro e w8 ⟨rfl, k8⟩; rw [HC2.out]; replace kq := kq.trans k8; replace br := br.keep k8 (by simp); replace bc := bc.keep k8 (by simp); replace bk := bk.keep k8 (by simp); replace bm := bm.keep k8 (by simp); replace hc := hc.keep (k8.at _ (by simp)); replace hk1 := hk1.keep (k8.at _ (by simp)); replace hk2 := hk2.keep (k8.at _ (by simp)); replace hm := hm.keep (k8.at _ (by simp))) | ((with_reducible refine wl_load 31 (.tmp 7) ?_ ?_); (with_reducible rfl); refine sv_loadW 31 (.tmp 7) rfl rfl wk.heap.size _ _ _ 6 rfl bk Try.underlying31 rfl bkSize rfl ?_; (try simp only [Act.put, List.setIfInBounds_toArray, List.set_cons_zero, List.set_cons_succ])) | (go_at_call 16; refine (rightBlock_call k _ _ _ _ hk1 hk2).mono ?_; rintro e w8 ⟨rfl, k8⟩; rw [HJ1.out]; replace kq := kq.trans k8; replace br := br.keep k8 (by simp); replace bc := bc.keep k8 (by simp); replace bk := bk.keep k8 (by simp); replace bm := bm.keep k8 (by simp); replace hc := hc.keep (k8.at _ (by simp)); replace hk1 := hk1.keep (k8.at _ (by simp)); replace hk2 := hk2.keep (k8.at _ (by simp)); replace hm := hm.keep (k8.at _ (by simp))) | (go_at_call 29; refine (rblock_call k _ _ _ _ hk1 hk2 ji1 ji2 ji3 js1).mono ?_; rintro e w8 ⟨rfl, k8⟩; rw [HJ2.out]; replace kq := kq.trans k8; replace br := br.keep k8 (by simp); replace bc := bc.keep k8 (by simp); replace bk := bk.keep k8 (by simp); replace bm := bm.keep k8 (by simp); replace hc := hc.keep (k8.at _ (by simp)); replace hk1 := hk1.keep (k8.at _ (by simp)); replace hk2 := hk2.keep (k8.at _ (by simp)); replace hm := hm.keep (k8.at _ (by simp))) | ((with_reducible refine wl_load 52 (.tmp 9) ?_ ?_); (with_reducible rfl); refine sv_loadW 52 (.tmp 9) rfl rfl wm.heap.size _ _ _ 21 rfl bm Try.underlying52 rfl zMs_size rfl ?_; (try simp only [Act.put, List.setIfInBounds_toArray, List.set_cons_zero, List.set_cons_succ])) | (go_at_call 34; refine (rightMsg_call m _ _ _ _ _ _ hm).mono ?_; rintro e w8 ⟨rfl, k8⟩; rw [HM1.out]; replace kq := kq.trans k8; replace br := br.keep k8 (by simp); replace bc := bc.keep k8 (by simp); replace bk := bk.keep k8 (by simp); replace bm := bm.keep k8 (by simp); replace hc := hc.keep (k8.at _ (by simp)); replace hk1 := hk1.keep (k8.at _ (by simp)); replace hk2 := hk2.keep (k8.at _ (by simp)); replace hm := hm.keep (k8.at _ (by simp))) | (go_at_call 35; refine (rmsg_call m _ _ _ _ _ _ hm ms1).mono ?_; rintro e w8 ⟨rfl, k8⟩; rw [HM2.out]; replace kq := kq.trans k8; replace br := br.keep k8 (by simp); replace bc := bc.keep k8 (by simp); replace bk := bk.keep k8 (by simp); replace bm := bm.keep k8 (by simp); replace hc := hc.keep (k8.at _ (by simp)); replace hk1 := hk1.keep (k8.at _ (by simp)); replace hk2 := hk2.keep (k8.at _ (by simp)); replace hm := hm.keep (k8.at _ (by simp))))
            go_ret
            exact ⟨ret_bool (by simp), kk.trans kq⟩
    · skip
      rcases Gc.out with ⟨rfl, rfl⟩ | ⟨rfl, h1c, h2c⟩
      · skip
        rcases Gk.out with ⟨rfl, rfl⟩ | ⟨rfl, h1k, h2k⟩
        · skip
          rcases Gm.out with ⟨rfl, rfl⟩ | ⟨rfl, h1m, h2m⟩
          · skip
            obtain ⟨ri1, ri2, ri3⟩ := req_i64 h1r; have HR1 := Lib.hid h1r; have HR2 := Lib.hid h2r
            clear h1r h2r
            (try dsimp only at bc)
            skip
            skip
            clear Gr Gc Gk Gm
            go_wp2_with (first | ((with_reducible refine wl_load 34 (.tmp 3) ?_ ?_); (with_reducible rfl); refine sv_loadW 34 (.tmp 3) rfl rfl wr.heap.size _ _ _ 3 rfl br Try.underlying34 rfl rqSize rfl ?_; (try simp only [Act.put, List.setIfInBounds_toArray, List.set_cons_zero, List.set_cons_succ])) | (go_at_call 21; refine (rightReq_call r _).mono ?_; rintro e w8 ⟨rfl, k8⟩; rw [HR1.out]; replace kq := kq.trans k8; replace br := br.keep k8 (by simp); replace bc := bc.keep k8 (by simp); replace bk := bk.keep k8 (by simp); replace bm := bm.keep k8 (by simp); replace hc := hc.keep (k8.at _ (by simp)); replace hk1 := hk1.keep (k8.at _ (by simp)); replace hk2 := hk2.keep (k8.at _ (by simp)); replace hm := hm.keep (k8.at _ (by simp))) | (go_at_call 20; refine (rrequest_call r _ ri1 ri2 ri3).mono ?_; rintro e w8 ⟨rfl, k8⟩; rw [HR2.out]; replace kq := kq.trans k8; replace br := br.keep k8 (by simp); replace bc := bc.keep k8 (by simp); replace bk := bk.keep k8 (by simp); replace bm := bm.keep k8 (by simp); replace hc := hc.keep (k8.at _ (by simp)); replace hk1 := hk1.keep (k8.at _ (by simp)); replace hk2 := hk2.keep (k8.at _ (by simp)); replace hm := hm.keep (k8.at _ (by simp))))
            go_ret
            exact ⟨ret_bool (by simp), kk.trans kq⟩
          · skip
            obtain ⟨ri1, ri2, ri3⟩ := req_i64 h1r; have HR1 := Lib.hid h1r; have HR2 := Lib.hid h2r
            clear h1r h2r
            (try dsimp only at bc)
            skip
            have ms1 := MsSz.of_size (x := m) (by rw [h2m]; omega)
            have HM1 := Lib.hid h1m; have HM2 := Lib.hid h2m
            clear h1m h2m
            clear Gr Gc Gk Gm
            go_wp2_with (first | ((with_reducible refine wl_load 34 (.tmp 3) ?_ ?_); (with_reducible rfl); refine sv_loadW 34 (.tmp 3) rfl rfl wr.heap.size _ _ _ 3 rfl br Try.underlying34 rfl rqSize rfl ?_; (try simp only [Act.put, List.setIfInBounds_toArray, List.set_cons_zero, List.set_cons_succ])) | (go_at_call 21; refine (rightReq_call r _).mono ?_; rintro e w8 ⟨rfl, k8⟩; rw [HR1.out]; replace kq := kq.trans k8; replace br := br.keep k8 (by simp); replace bc := bc.keep k8 (by simp); replace bk := bk.keep k8 (by simp); replace bm := bm.keep k8 (by simp); replace hc := hc.keep (k8.at _ (by simp)); replace hk1 := hk1.keep (k8.at _ (by simp)); replace hk2 := hk2.keep (k8.at _ (by simp)); replace hm := hm.keep (k8.at _ (by simp))) | (go_at_call 20; refine (rrequest_call r _ ri1 ri2 ri3).mono ?_; rintro e w8 ⟨rfl, k8⟩; rw [HR2.out]; replace kq := kq.trans k8; replace br := br.keep k8 (by simp); replace bc := bc.keep k8 (by simp); replace bk := bk.keep k8 (by simp); replace bm := bm.keep k8 (by simp); replace hc := hc.keep (k8.at _ (by simp)); replace hk1 := hk1.keep (k8.at _ (by simp)); replace hk2 := hk2.keep (k8.at _ (by simp)); replace hm := hm.keep (k8.at _ (by simp))) | ((with_reducible refine wl_load 52 (.tmp 9) ?_ ?_); (with_reducible rfl); refine sv_loadW 52 (.tmp 9) rfl rfl wm.heap.size _ _ _ 21 rfl bm Try.underlying52 rfl zMs_size rfl ?_; (try simp only [Act.put, List.setIfInBounds_toArray, List.set_cons_zero, List.set_cons_succ])) | (go_at_call 34; refine (rightMsg_call m _ _ _ _ _ _ hm).mono ?_; rintro e w8 ⟨rfl, k8⟩; rw [HM1.out]; replace kq := kq.trans k8; replace br := br.keep k8 (by simp); replace bc := bc.keep k8 (by simp); replace bk := bk.keep k8 (by simp); replace bm := bm.keep k8 (by simp); replace hc := hc.keep (k8.at _ (by simp)); replace hk1 := hk1.keep (k8.at _ (by simp)); replace hk2 := hk2.keep (k8.at _ (by simp)); replace hm := hm.keep (k8.at _ (by simp))) | (go_at_call 35; refine (rmsg_call m _ _ _ _ _ _ hm ms1).mono ?_; rintro e w8 ⟨rfl, k8⟩; rw [HM2.out]; replace kq := kq.trans k8; replace br := br.keep k8 (by simp); replace bc := bc.keep k8 (by simp); replace bk := bk.keep k8 (by simp); replace bm := bm.keep k8 (by simp); replace hc := hc.keep (k8.at _ (by simp)); replace hk1 := hk1.keep (k8.at _ (by simp)); replace hk2 := hk2.keep (k8.at _ (by simp)); replace hm := hm.keep (k8.at _ (by simp))))
            go_ret
            exact ⟨ret_bool (by simp), kk.trans kq⟩
        · skip
          rcases Gm.out with ⟨rfl, rfl⟩ | ⟨rfl, h1m, h2m⟩
          · skip
            obtain ⟨ri1, ri2, ri3⟩ := req_i64 h1r; have HR1 := Lib.hid h1r; have HR2 := Lib.hid h2r
            clear h1r h2r
            (try dsimp only at bc)
            obtain ⟨ji1, ji2, ji3⟩ := block_i64 h1k; have js1 : (blockF k).size ≤ 4611686018427387904 := by rw [h2k]; omega
            have HJ1 := Lib.hid h1k; have HJ2 := Lib.hid h2k
            clear h1k h2k
            skip
            clear Gr Gc Gk Gm
            go_wp2_with (first | ((with_reducible refine wl_load 34 (.tmp 3) ?_ ?_); (with_reducible rfl); refine sv_loadW 34 (.tmp 3) rfl rfl wr.heap.size _ _ _ 3 rfl br Try.underlying34 rfl rqSize rfl ?_; (try simp only [Act.put, List.setIfInBounds_toArray, List.set_cons_zero, List.set_cons_succ])) | (go_at_call 21; refine (rightReq_call r _).mono ?_; rintro e w8 ⟨rfl, k8⟩; rw [HR1.out]; replace kq := kq.trans k8; replace br := br.keep k8 (by simp); replace bc := bc.keep k8 (by simp); replace bk := bk.keep k8 (by simp); replace bm := bm.keep k8 (by simp); replace hc := hc.keep (k8.at _ (by simp)); replace hk1 := hk1.keep (k8.at _ (by simp)); replace hk2 := hk2.keep (k8.at _ (by simp)); replace hm := hm.keep (k8.at _ (by simp))) | (go_at_call 20; refine (rrequest_call r _ ri1 ri2 ri3).mono ?_; rintro e w8 ⟨rfl, k8⟩; rw [HR2.out]; replace kq := kq.trans k8; replace br := br.keep k8 (by simp); replace bc := bc.keep k8 (by simp); replace bk := bk.keep k8 (by simp); replace bm := bm.keep k8 (by simp); replace hc := hc.keep (k8.at _ (by simp)); replace hk1 := hk1.keep (k8.at _ (by simp)); replace hk2 := hk2.keep (k8.at _ (by simp)); replace hm := hm.keep (k8.at _ (by simp))) | ((with_reducible refine wl_load 31 (.tmp 7) ?_ ?_); (with_reducible rfl); refine sv_loadW 31 (.tmp 7) rfl rfl wk.heap.size _ _ _ 6 rfl bk Try.underlying31 rfl bkSize rfl ?_; (try simp only [Act.put, List.setIfInBounds_toArray, List.set_cons_zero, List.set_cons_succ])) | (go_at_call 16; refine (rightBlock_call k _ _ _ _ hk1 hk2).mono ?_; rintro e w8 ⟨rfl, k8⟩; rw [HJ1.out]; replace kq := kq.trans k8; replace br := br.keep k8 (by simp); replace bc := bc.keep k8 (by simp); replace bk := bk.keep k8 (by simp); replace bm := bm.keep k8 (by simp); replace hc := hc.keep (k8.at _ (by simp)); replace hk1 := hk1.keep (k8.at _ (by simp)); replace hk2 := hk2.keep (k8.at _ (by simp)); replace hm := hm.keep (k8.at _ (by simp))) | (go_at_call 29; refine (rblock_call k _ _ _ _ hk1 hk2 ji1 ji2 ji3 js1).mono ?_; rintro e w8 ⟨rfl, k8⟩; rw [HJ2.out]; replace kq := kq.trans k8; replace br := br.keep k8 (by simp); replace bc := bc.keep k8 (by simp); replace bk := bk.keep k8 (by simp); replace bm := bm.keep k8 (by simp); replace hc := hc.keep (k8.at _ (by simp)); replace hk1 := hk1.keep (k8.at _ (by simp)); replace hk2 := hk2.keep (k8.at _ (by simp)); replace hm := hm.keep (k8.at _ (by simp))))
            go_ret
            exact ⟨ret_bool (by simp), kk.trans kq⟩
          · skip
            obtain ⟨ri1, ri2, ri3⟩ := req_i64 h1r; have HR1 := Lib.hid h1r; have HR2 := Lib.hid h2r
            clear h1r h2r
            (try dsimp only at bc)
            obtain ⟨ji1, ji2, ji3⟩ := block_i64 h1k; have js1 : (blockF k).size ≤ 4611686018427387904 := by rw [h2k]; omega
            have HJ1 := Lib.hid h1k; have HJ2 := Lib.hid h2k
            clear h1k h2k
            have ms1 := MsSz.of_size (x := m) (by rw [h2m]; omega)
            have HM1 := Lib.hid h1m; have HM2 := Lib.hid h2m
            clear h1m h2m
            clear Gr Gc Gk Gm
            go_wp2_with (first | ((with_reducible refine wl_load 34 (.tmp 3) ?_ ?_); (with_reducible rfl); refine sv_loadW 34 (.tmp 3) rfl rfl wr.heap.size _ _ _ 3 rfl br Try.underlying34 rfl rqSize rfl ?_; (try simp only [Act.put, List.setIfInBounds_toArray, List.set_cons_zero, List.set_cons_succ])) | (go_at_call 21; refine (rightReq_call r _).mono ?_; rintro e w8 ⟨rfl, k8⟩; rw [HR1.out]; replace kq := kq.trans k8; replace br := br.keep k8 (by simp); replace bc := bc.keep k8 (by simp); replace bk := bk.keep k8 (by simp); replace bm := bm.keep k8 (by simp); replace hc := hc.keep (k8.at _ (by simp)); replace hk1 := hk1.keep (k8.at _ (by simp)); replace hk2 := hk2.keep (k8.at _ (by simp)); replace hm := hm.keep (k8.at _ (by simp))) | (go_at_call 20; refine (rrequest_call r _ ri1 ri2 ri3).mono ?_; rintro e w8 ⟨rfl, k8⟩; rw [HR2.out]; replace kq := kq.trans k8; replace br := br.keep k8 (by simp); replace bc := bc.keep k8 (by simp); replace bk := bk.keep k8 (by simp); replace bm := bm.keep k8 (by simp); replace hc := hc.keep (k8.at _ (by simp)); replace hk1 := hk1.keep (k8.at _ (by simp)); replace hk2 := hk2.keep (k8.at _ (by simp)); replace hm := hm.keep (k8.at _ (by simp))) | ((with_reducible refine wl_load 31 (.tmp 7) ?_ ?_); (with_reducible rfl); refine sv_loadW 31 (.tmp 7) rfl rfl wk.heap.size _ _ _ 6 rfl bk Try.underlying31 rfl bkSize rfl ?_; (try simp only [Act.put, List.setIfInBounds_toArray, List.set_cons_zero, List.set_cons_succ])) | (go_at_call 16; refine (rightBlock_call k _ _ _ _ hk1 hk2).mono ?_; rintro e w8 ⟨rfl, k8⟩; rw [HJ1.out]; replace kq := kq.trans k8; replace br := br.keep k8 (by simp); replace bc := bc.keep k8 (by simp); replace bk := bk.keep k8 (by simp); replace bm := bm.keep k8 (by simp); replace hc := hc.keep (k8.at _ (by simp)); replace hk1 := hk1.keep (k8.at _ (by simp)); replace hk2 := hk2.keep (k8.at _ (by simp)); replace hm := hm.keep (k8.at _ (by simp))) | (go_at_call 29; refine (rblock_call k _ _ _ _ hk1 hk2 ji1 ji2 ji3 js1).mono ?_; rintro e w8 ⟨rfl, k8⟩; rw [HJ2.out]; replace kq := kq.trans k8; replace br := br.keep k8 (by simp); replace bc := bc.keep k8 (by simp); replace bk := bk.keep k8 (by simp); replace bm := bm.keep k8 (by simp); replace hc := hc.keep (k8.at _ (by simp)); replace hk1 := hk1.keep (k8.at _ (by simp)); replace hk2 := hk2.keep (k8.at _ (by simp)); replace hm := hm.keep (k8.at _ (by simp))) | ((with_reducible refine wl_load 52 (.tmp 9) ?_ ?_); (with_reducible rfl); refine sv_loadW 52 (.tmp 9) rfl rfl wm.heap.size _ _ _ 21 rfl bm Try.underlying52 rfl zMs_size rfl ?_; (try simp only [Act.put, List.setIfInBounds_toArray, List.set_cons_zero, List.set_cons_succ])) | (go_at_call 34; refine (rightMsg_call m _ _ _ _ _ _ hm).mono ?_; rintro e w8 ⟨rfl, k8⟩; rw [HM1.out]; replace kq := kq.trans k8; replace br := br.keep k8 (by simp); replace bc := bc.keep k8 (by simp); replace bk := bk.keep k8 (by simp); replace bm := bm.keep k8 (by simp); replace hc := hc.keep (k8.at _ (by simp)); replace hk1 := hk1.keep (k8.at _ (by simp)); replace hk2 := hk2.keep (k8.at _ (by simp)); replace hm := hm.keep (k8.at _ (by simp))) | (go_at_call 35; refine (rmsg_call m _ _ _ _ _ _ hm ms1).mono ?_; rintro e w8 ⟨rfl, k8⟩; rw [HM2.out]; replace kq := kq.trans k8; replace br := br.keep k8 (by simp); replace bc := bc.keep k8 (by simp); replace bk := bk.keep k8 (by simp); replace bm := bm.keep k8 (by simp); replace hc := hc.keep (k8.at _ (by simp)); replace hk1 := hk1.keep (k8.at _ (by simp)); replace hk2 := hk2.keep (k8.at _ (by simp)); replace hm := hm.keep (k8.at _ (by simp))))
            go_ret
            exact ⟨ret_bool (by simp), kk.trans kq⟩
      · skip
        rcases Gk.out with ⟨rfl, rfl⟩ | ⟨rfl, h1k, h2k⟩
        · skip
          rcases Gm.out with ⟨rfl, rfl⟩ | ⟨rfl, h1m, h2m⟩
          · skip
            obtain ⟨ri1, ri2, ri3⟩ := req_i64 h1r; have HR1 := Lib.hid h1r; have HR2 := Lib.hid h2r
            clear h1r h2r
            have ci1 := cert_i64 h1c; have cs1 : (certF c).size ≤ 4611686018427387904 := by rw [h2c]; omega
            have HC1 := Lib.hid h1c; have HC2 := Lib.hid h2c
            clear h1c h2c
            skip
            skip
            clear Gr Gc Gk Gm
            go_wp2_with (first | ((with_reducible refine wl_load 34 (.tmp 3) ?_ ?_); (with_reducible rfl); refine sv_loadW 34 (.tmp 3) rfl rfl wr.heap.size _ _ _ 3 rfl br Try.underlying34 rfl rqSize rfl ?_; (try simp only [Act.put, List.setIfInBounds_toArray, List.set_cons_zero, List.set_cons_succ])) | (go_at_call 21; refine (rightReq_call r _).mono ?_; rintro e w8 ⟨rfl, k8⟩; rw [HR1.out]; replace kq := kq.trans k8; replace br := br.keep k8 (by simp); replace bc := bc.keep k8 (by simp); replace bk := bk.keep k8 (by simp); replace bm := bm.keep k8 (by simp); replace hc := hc.keep (k8.at _ (by simp)); replace hk1 := hk1.keep (k8.at _ (by simp)); replace hk2 := hk2.keep (k8.at _ (by simp)); replace hm := hm.keep (k8.at _ (by simp))) | (go_at_call 20; refine (rrequest_call r _ ri1 ri2 ri3).mono ?_; rintro e w8 ⟨rfl, k8⟩; rw [HR2.out]; replace kq := kq.trans k8; replace br := br.keep k8 (by simp); replace bc := bc.keep k8 (by simp); replace bk := bk.keep k8 (by simp); replace bm := bm.keep k8 (by simp); replace hc := hc.keep (k8.at _ (by simp)); replace hk1 := hk1.keep (k8.at _ (by simp)); replace hk2 := hk2.keep (k8.at _ (by simp)); replace hm := hm.keep (k8.at _ (by simp))) | ((with_reducible refine wl_load 28 (.tmp 5) ?_ ?_); (with_reducible rfl); refine sv_loadW 28 (.tmp 5) rfl rfl wc.heap.size _ _ _ 3 rfl bc Try.underlying28 rfl ctSize rfl ?_; (try simp only [Act.put, List.setIfInBounds_toArray, List.set_cons_zero, List.set_cons_succ])) | (go_at_call 26; refine (rightCert_call c _ _ _ hc).mono ?_; rintro e w8 ⟨rfl, k8⟩; rw [HC1.out]; replace kq := kq.trans k8; replace br := br.keep k8 (by simp); replace bc := bc.keep k8 (by simp); replace bk := bk.keep k8 (by simp); replace bm := bm.keep k8 (by simp); replace hc := hc.keep (k8.at _ (by simp)); replace hk1 := hk1.keep (k8.at _ (by simp)); replace hk2 := hk2.keep (k8.at _ (by simp)); replace hm := hm.keep (k8.at _ (by simp))) | (go_at_call 25; refine (rcert_call c _ _ _ hc ci1 cs1).mono ?_; rintro e w8 ⟨rfl, k8⟩; rw [HC2.out]; replace kq := kq.trans k8; replace br := br.keep k8 (by simp); replace bc := bc.keep k8 (by simp); replace bk := bk.keep k8 (by simp); replace bm := bm.keep k8 (by simp); replace hc := hc.keep (k8.at _ (by simp)); replace hk1 := hk1.keep (k8.at _ (by simp)); replace hk2 := hk2.keep (k8.at _ (by simp)); replace hm := hm.keep (k8.at _ (by simp))))
            go_ret
            exact ⟨ret_bool (by simp), kk.trans kq⟩
          · skip
            obtain ⟨ri1, ri2, ri3⟩ := req_i64 h1r; have HR1 := Lib.hid h1r; have HR2 := Lib.hid h2r
            clear h1r h2r
            have ci1 := cert_i64 h1c; have cs1 : (certF c).size ≤ 4611686018427387904 := by rw [h2c]; omega
            have HC1 := Lib.hid h1c; have HC2 := Lib.hid h2c
            clear h1c h2c
            skip
            have ms1 := MsSz.of_size (x := m) (by rw [h2m]; omega)
            have HM1 := Lib.hid h1m; have HM2 := Lib.hid h2m
            clear h1m h2m
            clear Gr Gc Gk Gm
            go_wp2_with (first | ((with_reducible refine wl_load 34 (.tmp 3) ?_ ?_); (with_reducible rfl); refine sv_loadW 34 (.tmp 3) rfl rfl wr.heap.size _ _ _ 3 rfl br Try.underlying34 rfl rqSize rfl ?_; (try simp only [Act.put, List.setIfInBounds_toArray, List.set_cons_zero, List.set_cons_succ])) | (go_at_call 21; refine (rightReq_call r _).mono ?_; rintro e w8 ⟨rfl, k8⟩; rw [HR1.out]; replace kq := kq.trans k8; replace br := br.keep k8 (by simp); replace bc := bc.keep k8 (by simp); replace bk := bk.keep k8 (by simp); replace bm := bm.keep k8 (by simp); replace hc := hc.keep (k8.at _ (by simp)); replace hk1 := hk1.keep (k8.at _ (by simp)); replace hk2 := hk2.keep (k8.at _ (by simp)); replace hm := hm.keep (k8.at _ (by simp))) | (go_at_call 20; refine (rrequest_call r _ ri1 ri2 ri3).mono ?_; rintro e w8 ⟨rfl, k8⟩; rw [HR2.out]; replace kq := kq.trans k8; replace br := br.keep k8 (by simp); replace bc := bc.keep k8 (by simp); replace bk := bk.keep k8 (by simp); replace bm := bm.keep k8 (by simp); replace hc := hc.keep (k8.at _ (by simp)); replace hk1 := hk1.keep (k8.at _ (by simp)); replace hk2 := hk2.keep (k8.at _ (by simp)); replace hm := hm.keep (k8.at _ (by simp))) | ((with_reducible refine wl_load 28 (.tmp 5) ?_ ?_); (with_reducible rfl); refine sv_loadW 28 (.tmp 5) rfl rfl wc.heap.size _ _ _ 3 rfl bc Try.underlying28 rfl ctSize rfl ?_; (try simp only [Act.put, List.setIfInBounds_toArray, List.set_cons_zero, List.set_cons_succ])) | (go_at_call 26; refine (rightCert_call c _ _ _ hc).mono ?_; rintro e w8 ⟨rfl, k8⟩; rw [HC1.out]; replace kq := kq.trans k8; replace br := br.keep k8 (by simp); replace bc := bc.keep k8 (by simp); replace bk := bk.keep k8 (by simp); replace bm := bm.keep k8 (by simp); replace hc := hc.keep (k8.at _ (by simp)); replace hk1 := hk1.keep (k8.at _ (by simp)); replace hk2 := hk2.keep (k8.at _ (by simp)); replace hm := hm.keep (k8.at _ (by simp))) | (go_at_call 25; refine (rcert_call c _ _ _ hc ci1 cs1).mono ?_; rintro e w8 ⟨rfl, k8⟩; rw [HC2.out]; replace kq := kq.trans k8; replace br := br.keep k8 (by simp); replace bc := bc.keep k8 (by simp); replace bk := bk.keep k8 (by simp); replace bm := bm.keep k8 (by simp); replace hc := hc.keep (k8.at _ (by simp)); replace hk1 := hk1.keep (k8.at _ (by simp)); replace hk2 := hk2.keep (k8.at _ (by simp)); replace hm := hm.keep (k8.at _ (by simp))) | ((with_reducible refine wl_load 52 (.tmp 9) ?_ ?_); (with_reducible rfl); refine sv_loadW 52 (.tmp 9) rfl rfl wm.heap.size _ _ _ 21 rfl bm Try.underlying52 rfl zMs_size rfl ?_; (try simp only [Act.put, List.setIfInBounds_toArray, List.set_cons_zero, List.set_cons_succ])) | (go_at_call 34; refine (rightMsg_call m _ _ _ _ _ _ hm).mono ?_; rintro e w8 ⟨rfl, k8⟩; rw [HM1.out]; replace kq := kq.trans k8; replace br := br.keep k8 (by simp); replace bc := bc.keep k8 (by simp); replace bk := bk.keep k8 (by simp); replace bm := bm.keep k8 (by simp); replace hc := hc.keep (k8.at _ (by simp)); replace hk1 := hk1.keep (k8.at _ (by simp)); replace hk2 := hk2.keep (k8.at _ (by simp)); replace hm := hm.keep (k8.at _ (by simp))) | (go_at_call 35; refine (rmsg_call m _ _ _ _ _ _ hm ms1).mono ?_; rintro e w8 ⟨rfl, k8⟩; rw [HM2.out]; replace kq := kq.trans k8; replace br := br.keep k8 (by simp); replace bc := bc.keep k8 (by simp); replace bk := bk.keep k8 (by simp); replace bm := bm.keep k8 (by simp); replace hc := hc.keep (k8.at _ (by simp)); replace hk1 := hk1.keep (k8.at _ (by simp)); replace hk2 := hk2.keep (k8.at _ (by simp)); replace hm := hm.keep (k8.at _ (by simp))))
            go_ret
            exact ⟨ret_bool (by simp), kk.trans kq⟩
        · skip
          rcases Gm.out with ⟨rfl, rfl⟩ | ⟨rfl, h1m, h2m⟩
          · skip
            obtain ⟨ri1, ri2, ri3⟩ := req_i64 h1r; have HR1 := Lib.hid h1r; have HR2 := Lib.hid h2r
            clear h1r h2r
            have ci1 := cert_i64 h1c; have cs1 : (certF c).size ≤ 4611686018427387904 := by rw [h2c]; omega
            have HC1 := Lib.hid h1c; have HC2 := Lib.hid h2c
            clear h1c h2c
            obtain ⟨ji1, ji2, ji3⟩ := block_i64 h1k; have js1 : (blockF k).size ≤ 4611686018427387904 := by rw [h2k]; omega
            have HJ1 := Lib.hid h1k; have HJ2 := Lib.hid h2k
            clear h1k h2k
            skip
            clear Gr Gc Gk Gm
            go_wp2_with (first | ((with_reducible refine wl_load 34 (.tmp 3) ?_ ?_); (with_reducible rfl); refine sv_loadW 34 (.tmp 3) rfl rfl wr.heap.size _ _ _ 3 rfl br Try.underlying34 rfl rqSize rfl ?_; (try simp only [Act.put, List.setIfInBounds_toArray, List.set_cons_zero, List.set_cons_succ])) | (go_at_call 21; refine (rightReq_call r _).mono ?_; rintro e w8 ⟨rfl, k8⟩; rw [HR1.out]; replace kq := kq.trans k8; replace br := br.keep k8 (by simp); replace bc := bc.keep k8 (by simp); replace bk := bk.keep k8 (by simp); replace bm := bm.keep k8 (by simp); replace hc := hc.keep (k8.at _ (by simp)); replace hk1 := hk1.keep (k8.at _ (by simp)); replace hk2 := hk2.keep (k8.at _ (by simp)); replace hm := hm.keep (k8.at _ (by simp))) | (go_at_call 20; refine (rrequest_call r _ ri1 ri2 ri3).mono ?_; rintro e w8 ⟨rfl, k8⟩; rw [HR2.out]; replace kq := kq.trans k8; replace br := br.keep k8 (by simp); replace bc := bc.keep k8 (by simp); replace bk := bk.keep k8 (by simp); replace bm := bm.keep k8 (by simp); replace hc := hc.keep (k8.at _ (by simp)); replace hk1 := hk1.keep (k8.at _ (by simp)); replace hk2 := hk2.keep (k8.at _ (by simp)); replace hm := hm.keep (k8.at _ (by simp))) | ((with_reducible refine wl_load 28 (.tmp 5) ?_ ?_); (with_reducible rfl); refine sv_loadW 28 (.tmp 5) rfl rfl wc.heap.size _ _ _ 3 rfl bc Try.underlying28 rfl ctSize rfl ?_; (try simp only [Act.put, List.setIfInBounds_toArray, List.set_cons_zero, List.set_cons_succ])) | (go_at_call 26; refine (rightCert_call c _ _ _ hc).mono ?_; rintro e w8 ⟨rfl, k8⟩; rw [HC1.out]; replace kq := kq.trans k8; replace br := br.keep k8 (by simp); replace bc := bc.keep k8 (by simp); replace bk := bk.keep k8 (by simp); replace bm := bm.keep k8 (by simp); replace hc := hc.keep (k8.at _ (by simp)); replace hk1 := hk1.keep (k8.at _ (by simp)); replace hk2 := hk2.keep (k8.at _ (by simp)); replace hm := hm.keep (k8.at _ (by simp))) | (go_at_call 25; refine (rcert_call c _ _ _ hc ci1 cs1).mono ?_; rintro e w8 ⟨rfl, k8⟩; rw [HC2.out]; replace kq := kq.trans k8; replace br := br.keep k8 (by simp); replace bc := bc.keep k8 (by simp); replace bk := bk.keep k8 (by simp); replace bm := bm.keep k8 (by simp); replace hc := hc.keep (k8.at _ (by simp)); replace hk1 := hk1.keep (k8.at _ (by simp)); replace hk2 := hk2.keep (k8.at _ (by simp)); replace hm := hm.keep (k8.at _ (by simp))) | ((with_reducible refine wl_load 31 (.tmp 7) ?_ ?_); (with_reducible rfl); refine sv_loadW 31 (.tmp 7) rfl rfl wk.heap.size _ _ _ 6 rfl bk Try.underlying31 rfl bkSize rfl ?_; (try simp only [Act.put, List.setIfInBounds_toArray, List.set_cons_zero, List.set_cons_succ])) | (go_at_call 16; refine (rightBlock_call k _ _ _ _ hk1 hk2).mono ?_; rintro e w8 ⟨rfl, k8⟩; rw [HJ1.out]; replace kq := kq.trans k8; replace br := br.keep k8 (by simp); replace bc := bc.keep k8 (by simp); replace bk := bk.keep k8 (by simp); replace bm := bm.keep k8 (by simp); replace hc := hc.keep (k8.at _ (by simp)); replace hk1 := hk1.keep (k8.at _ (by simp)); replace hk2 := hk2.keep (k8.at _ (by simp)); replace hm := hm.keep (k8.at _ (by simp))) | (go_at_call 29; refine (rblock_call k _ _ _ _ hk1 hk2 ji1 ji2 ji3 js1).mono ?_; rintro e w8 ⟨rfl, k8⟩; rw [HJ2.out]; replace kq := kq.trans k8; replace br := br.keep k8 (by simp); replace bc := bc.keep k8 (by simp); replace bk := bk.keep k8 (by simp); replace bm := bm.keep k8 (by simp); replace hc := hc.keep (k8.at _ (by simp)); replace hk1 := hk1.keep (k8.at _ (by simp)); replace hk2 := hk2.keep (k8.at _ (by simp)); replace hm := hm.keep (k8.at _ (by simp))))
            go_ret
            exact ⟨ret_bool (by simp), kk.trans kq⟩
          · skip
            obtain ⟨ri1, ri2, ri3⟩ := req_i64 h1r; have HR1 := Lib.hid h1r; have HR2 := Lib.hid h2r
            clear h1r h2r
            have ci1 := cert_i64 h1c; have cs1 : (certF c).size ≤ 4611686018427387904 := by rw [h2c]; omega
            have HC1 := Lib.hid h1c; have HC2 := Lib.hid h2c
            clear h1c h2c
            obtain ⟨ji1, ji2, ji3⟩ := block_i64 h1k; have js1 : (blockF k).size ≤ 4611686018427387904 := by rw [h2k]; omega
            have HJ1 := Lib.hid h1k; have HJ2 := Lib.hid h2k
            clear h1k h2k
            have ms1 := MsSz.of_size (x := m) (by rw [h2m]; omega)
            have HM1 := Lib.hid h1m; have HM2 := Lib.hid h2m
            clear h1m h2m
            clear Gr Gc Gk Gm
            go_wp2_with (first | ((with_reducible refine wl_load 34 (.tmp 3) ?_ ?_); (with_reducible rfl); refine sv_loadW 34 (.tmp 3) rfl rfl wr.heap.size _ _ _ 3 rfl br Try.underlying34 rfl rqSize rfl ?_; (try simp only [Act.put, List.setIfInBounds_toArray, List.set_cons_zero, List.set_cons_succ])) | (go_at_call 21; refine (rightReq_call r _).mono ?_; rintro e w8 ⟨rfl, k8⟩; rw [HR1.out]; replace kq := kq.trans k8; replace br := br.keep k8 (by simp); replace bc := bc.keep k8 (by simp); replace bk := bk.keep k8 (by simp); replace bm := bm.keep k8 (by simp); replace hc := hc.keep (k8.at _ (by simp)); replace hk1 := hk1.keep (k8.at _ (by simp)); replace hk2 := hk2.keep (k8.at _ (by simp)); replace hm := hm.keep (k8.at _ (by simp))) | (go_at_call 20; refine (rrequest_call r _ ri1 ri2 ri3).mono ?_; rintro e w8 ⟨rfl, k8⟩; rw [HR2.out]; replace kq := kq.trans k8; replace br := br.keep k8 (by simp); replace bc := bc.keep k8 (by simp); replace bk := bk.keep k8 (by simp); replace bm := bm.keep k8 (by simp); replace hc := hc.keep (k8.at _ (by simp)); replace hk1 := hk1.keep (k8.at _ (by simp)); replace hk2 := hk2.keep (k8.at _ (by simp)); replace hm := hm.keep (k8.at _ (by simp))) | ((with_reducible refine wl_load 28 (.tmp 5) ?_ ?_); (with_reducible rfl); refine sv_loadW 28 (.tmp 5) rfl rfl wc.heap.size _ _ _ 3 rfl bc Try.underlying28 rfl ctSize rfl ?_; (try simp only [Act.put, List.setIfInBounds_toArray, List.set_cons_zero, List.set_cons_succ])) | (go_at_call 26; refine (rightCert_call c _ _ _ hc).mono ?_; rintro e w8 ⟨rfl, k8⟩; rw [HC1.out]; replace kq := kq.trans k8; replace br := br.keep k8 (by simp); replace bc := bc.keep k8 (by simp); replace bk := bk.keep k8 (by simp); replace bm := bm.keep k8 (by simp); replace hc := hc.keep (k8.at _ (by simp)); replace hk1 := hk1.keep (k8.at _ (by simp)); replace hk2 := hk2.keep (k8.at _ (by simp)); replace hm := hm.keep (k8.at _ (by simp))) | (go_at_call 25; refine (rcert_call c _ _ _ hc ci1 cs1).mono ?_; rintro e w8 ⟨rfl, k8⟩; rw [HC2.out]; replace kq := kq.trans k8; replace br := br.keep k8 (by simp); replace bc := bc.keep k8 (by simp); replace bk := bk.keep k8 (by simp); replace bm := bm.keep k8 (by simp); replace hc := hc.keep (k8.at _ (by simp)); replace hk1 := hk1.keep (k8.at _ (by simp)); replace hk2 := hk2.keep (k8.at _ (by simp)); replace hm := hm.keep (k8.at _ (by simp))) | ((with_reducible refine wl_load 31 (.tmp 7) ?_ ?_); (with_reducible rfl); refine sv_loadW 31 (.tmp 7) rfl rfl wk.heap.size _ _ _ 6 rfl bk Try.underlying31 rfl bkSize rfl ?_; (try simp only [Act.put, List.setIfInBounds_toArray, List.set_cons_zero, List.set_cons_succ])) | (go_at_call 16; refine (rightBlock_call k _ _ _ _ hk1 hk2).mono ?_; rintro e w8 ⟨rfl, k8⟩; rw [HJ1.out]; replace kq := kq.trans k8; replace br := br.keep k8 (by simp); replace bc := bc.keep k8 (by simp); replace bk := bk.keep k8 (by simp); replace bm := bm.keep k8 (by simp); replace hc := hc.keep (k8.at _ (by simp)); replace hk1 := hk1.keep (k8.at _ (by simp)); replace hk2 := hk2.keep (k8.at _ (by simp)); replace hm := hm.keep (k8.at _ (by simp))) | (go_at_call 29; refine (rblock_call k _ _ _ _ hk1 hk2 ji1 ji2 ji3 js1).mono ?_; rintro e w8 ⟨rfl, k8⟩; rw [HJ2.out]; replace kq := kq.trans k8; replace br := br.keep k8 (by simp); replace bc := bc.keep k8 (by simp); replace bk := bk.keep k8 (by simp); replace bm := bm.keep k8 (by simp); replace hc := hc.keep (k8.at _ (by simp)); replace hk1 := hk1.keep (k8.at _ (by simp)); replace hk2 := hk2.keep (k8.at _ (by simp)); replace hm := hm.keep (k8.at _ (by simp))) | ((with_reducible refine wl_load 52 (.tmp 9) ?_ ?_); (with_reducible rfl); refine sv_loadW 52 (.tmp 9) rfl rfl wm.heap.size _ _ _ 21 rfl bm Try.underlying52 rfl zMs_size rfl ?_; (try simp only [Act.put, List.setIfInBounds_toArray, List.set_cons_zero, List.set_cons_succ])) | (go_at_call 34; refine (rightMsg_call m _ _ _ _ _ _ hm).mono ?_; rintro e w8 ⟨rfl, k8⟩; rw [HM1.out]; replace kq := kq.trans k8; replace br := br.keep k8 (by simp); replace bc := bc.keep k8 (by simp); replace bk := bk.keep k8 (by simp); replace bm := bm.keep k8 (by simp); replace hc := hc.keep (k8.at _ (by simp)); replace hk1 := hk1.keep (k8.at _ (by simp)); replace hk2 := hk2.keep (k8.at _ (by simp)); replace hm := hm.keep (k8.at _ (by simp))) | (go_at_call 35; refine (rmsg_call m _ _ _ _ _ _ hm ms1).mono ?_; rintro e w8 ⟨rfl, k8⟩; rw [HM2.out]; replace kq := kq.trans k8; replace br := br.keep k8 (by simp); replace bc := bc.keep k8 (by simp); replace bk := bk.keep k8 (by simp); replace bm := bm.keep k8 (by simp); replace hc := hc.keep (k8.at _ (by simp)); replace hk1 := hk1.keep (k8.at _ (by simp)); replace hk2 := hk2.keep (k8.at _ (by simp)); replace hm := hm.keep (k8.at _ (by simp))))
            go_ret
            exact ⟨ret_bool (by simp), kk.trans kq⟩
end Go.Proofs.Ytmpkhjfklgcmbaa
