import Derived.Test.YtdhhibppcckbkaaStore2
import Derived.Test.YtdhhibppcckbkaaThy3
import Derived.Test.YtdhhibppcckbkaaOwn
import Derived.Test.YtdhhibppcckbkaaStrcR
namespace Go.Proofs.Ytdhhibppcckbkaa
open Go.RowKit
set_option linter.unusedVariables false
set_option linter.unusedSimpArgs false
/-! store.Recall -/
inductive Rc where
  | no
  | st (s : Stt)
  | bk (b : Bk)
def rcF (r : ByteArray) : Rc :=
  if h : 0 < r.size then
    (if r.data[0].toNat = 83 then (if (readStF (r.extract 1 r.size)).2 = 0 then .st (readStF (r.extract 1 r.size)).1 else .no)
     else if r.data[0].toNat = 66 then (if (readBlockF (r.extract 1 r.size)).2 = 0 then .bk (readBlockF (r.extract 1 r.size)).1 else .no) else .no)
  else .no
def recallF : List ByteArray → Stt → List Bk → Stt × List Bk
  | [], s, xs => (s, xs)
  | r :: l, s, xs => match rcF r with
    | .no => (s, xs)
    | .st t => recallF l (gtF s t) xs
    | .bk b => recallF l s (xs ++ [b])
abbrev zBv : Array Value := #[.int .i64 0, .int .i64 0, .int .i64 0, .string ⟨#[]⟩, .slice none 0 0, .slice none 0 0]
theorem infoBk : (Try.prog.info? 29).map (fun i => (i.zero, i.size, i.bytes)) = some (some (.agg zBv), 6, 88) := by kernel_rfl
theorem zBk_info : (Try.prog.info? 29).map (fun i => (i.zero, i.size)) = some (some (.agg zBv), 6) := by kernel_rfl
theorem zBk_size : (Try.prog.info? 29).map (·.size) = some 6 := by kernel_rfl
theorem maxIf (a b : Int) : max a b = if a < b then b else a := by rw [Int.max_def]; split <;> split <;> omega
theorem nil_of_size (b : ByteArray) (h : b.size = 0) : b = ⟨#[]⟩ := by
  obtain ⟨a⟩ := b
  congr
  exact Array.eq_empty_of_size_eq_zero h
theorem ne_nil {r : ByteArray} (h : 0 < r.size) : (r.toList == []) = false ∧ ¬ r.toList = [] := by
  have h2 : ¬ r.toList = [] := by
    intro e
    rw [ByteArray.toList_eq] at e
    have : r.data.toList.length = 0 := by rw [e]; rfl
    rw [Array.length_toList] at this
    exact absurd h (by show ¬ 0 < r.data.size; omega)
  exact ⟨beq_eq_false_iff_ne.2 h2, h2⟩
theorem bk_bounds {r : ByteArray} {b : Bk} (h : ((b, (0 : Int)) = (⟨0, 0, ⟨0, ⟨#[]⟩, []⟩, []⟩, 2)) ∨ ∃ x, (b, (0 : Int)) = (x, 0) ∧ rightBlock x = true ∧ blockF x = r) : I64 b.v ∧ I64 b.p ∧ I64 b.j.v ∧ b.j.h.size ≤ M47 := by
  rcases h with e | ⟨z, e, h, -⟩
  · have := congrArg Prod.snd e
    simp at this
  · obtain rfl : b = z := congrArg Prod.fst e
    obtain ⟨h1, h2, h3, h4, h5, h6, -⟩ := (rightBlock_iff b).1 h
    unfold rightCert at h5
    simp only [Bool.and_eq_true, decide_eq_true_eq] at h5
    obtain ⟨⟨⟨⟨g1, g2⟩, g3⟩, g4⟩, g5⟩ := h5
    unfold I64 M47
    exact ⟨⟨by omega, by omega⟩, ⟨by omega, by omega⟩, ⟨by omega, by omega⟩, by omega⟩
set_option maxHeartbeats 2000000 in
theorem greater_call (a b : Stt) (w : World) : Calls Try.prog 36 #[.agg (stV a), .agg (stV b)] w fun e w' => e = .returned (.agg (stV (gtF a b))) ∧ Keep [] w w' := by
  obtain ⟨a1, a2⟩ := a
  obtain ⟨b1, b2⟩ := b
  go_enter Try.func36, Try.ntmps36
  go_upto_region 1 with (first | ((with_reducible refine wl_box 23 (.tmp 0) ?_ ?_); (with_reducible rfl); refine sx_box rfl 23 (.tmp 0) rfl (stV ⟨a1, a2⟩) rfl ?_; intro w1 bw1 kw1 zw1; clear zw1; (try simp only [Act.put, List.setIfInBounds_toArray, List.set_cons_zero, List.set_cons_succ])) | ((with_reducible refine wl_box 23 (.tmp 1) ?_ ?_); (with_reducible rfl); refine sx_box rfl 23 (.tmp 1) rfl (stV ⟨b1, b2⟩) rfl ?_; intro w2 bw2 kw2 zw2; clear zw2; (try simp only [Act.put, List.setIfInBounds_toArray, List.set_cons_zero, List.set_cons_succ])) | ((with_reducible refine wl_alloc 23 ?_ ?_); (with_reducible rfl); refine sx_alloc rfl 23 rfl _ 2 zSt zSt_info rfl ?_; intro w3 bw3 kw3 zw3; clear zw3; (try simp only [Act.put, List.setIfInBounds_toArray, List.set_cons_zero, List.set_cons_succ])))
  have d1 := (bw1.keep kw2 (by simp)).keep kw3 (by simp)
  have d2 := bw2.keep kw3 (by simp)
  have kk := (kw1.trans kw2).trans kw3
  have l2 := (kw1.trans kw2).size
  have x0 : w3.cell? ⟨w.heap.size, 0, none⟩ = some (.int .i64 a1) := d1.cell 0
  have x1 : w3.cell? ⟨w.heap.size, 1, none⟩ = some (.int .i64 a2) := d1.cell 1
  have y0 : w3.cell? ⟨w1.heap.size, 0, none⟩ = some (.int .i64 b1) := d2.cell 0
  have y1 : w3.cell? ⟨w1.heap.size, 1, none⟩ = some (.int .i64 b2) := d2.cell 1
  clear bw1 bw2 d1 d2 kw1 kw2 kw3
  have kf : ∀ w4, Keep [w2.heap.size] w3 w4 → Keep [] w w4 := fun w4 k => kk.new k (fun i hi => .inr (by simp at hi; omega))
  have hgt : ∀ p q : Int, (p = if a1 < b1 then b1 else a1) → (q = if a2 < b2 then b2 else a2) → gtF ⟨a1, a2⟩ ⟨b1, b2⟩ = ⟨p, q⟩ := fun p q hp hq => by rw [hp, hq]; unfold gtF; rw [maxIf, maxIf]
  replace hgt := Lib.hid hgt
  replace kf := Lib.hid kf
  by_cases h1 : a1 < b1 <;> by_cases h2 : a2 < b2
  · have hG := Lib.hid (hgt.out b1 b2 (by simp [h1]) (by simp [h2]))
    go_wp2_with (first | ((with_reducible refine wl_store 23 (.tmp 4) (.tmp 15) ?_ ?_); (with_reducible rfl); refine sx_storeW rfl 23 (.tmp 4) (.tmp 15) rfl w2.heap.size (stV ⟨b1, b2⟩) zSt _ 2 rfl rfl bw3 zSt_size rfl rfl rfl ?_; intro w4 bw4 kw4 zw4; clear zw4; (try simp only [Act.put, List.setIfInBounds_toArray, List.set_cons_zero, List.set_cons_succ])))
    refine ret_cell rfl rfl rfl bw4 Try.underlying23 rfl zSt_size ?_
    exact ⟨by rw [hG.out], kf.out _ kw4⟩
  · have hG := Lib.hid (hgt.out b1 a2 (by simp [h1]) (by simp [h2]))
    replace h2 := Int.not_lt.1 h2
    go_wp2_with (first | ((with_reducible refine wl_store 23 (.tmp 4) (.tmp 15) ?_ ?_); (with_reducible rfl); refine sx_storeW rfl 23 (.tmp 4) (.tmp 15) rfl w2.heap.size (stV ⟨b1, a2⟩) zSt _ 2 rfl rfl bw3 zSt_size rfl rfl rfl ?_; intro w4 bw4 kw4 zw4; clear zw4; (try simp only [Act.put, List.setIfInBounds_toArray, List.set_cons_zero, List.set_cons_succ])))
    refine ret_cell rfl rfl rfl bw4 Try.underlying23 rfl zSt_size ?_
    exact ⟨by rw [hG.out], kf.out _ kw4⟩
  · have hG := Lib.hid (hgt.out a1 b2 (by simp [h1]) (by simp [h2]))
    replace h1 := Int.not_lt.1 h1
    go_wp2_with (first | ((with_reducible refine wl_store 23 (.tmp 4) (.tmp 15) ?_ ?_); (with_reducible rfl); refine sx_storeW rfl 23 (.tmp 4) (.tmp 15) rfl w2.heap.size (stV ⟨a1, b2⟩) zSt _ 2 rfl rfl bw3 zSt_size rfl rfl rfl ?_; intro w4 bw4 kw4 zw4; clear zw4; (try simp only [Act.put, List.setIfInBounds_toArray, List.set_cons_zero, List.set_cons_succ])))
    refine ret_cell rfl rfl rfl bw4 Try.underlying23 rfl zSt_size ?_
    exact ⟨by rw [hG.out], kf.out _ kw4⟩
  · have hG := Lib.hid (hgt.out a1 a2 (by simp [h1]) (by simp [h2]))
    replace h1 := Int.not_lt.1 h1
    replace h2 := Int.not_lt.1 h2
    go_wp2_with (first | ((with_reducible refine wl_store 23 (.tmp 4) (.tmp 15) ?_ ?_); (with_reducible rfl); refine sx_storeW rfl 23 (.tmp 4) (.tmp 15) rfl w2.heap.size (stV ⟨a1, a2⟩) zSt _ 2 rfl rfl bw3 zSt_size rfl rfl rfl ?_; intro w4 bw4 kw4 zw4; clear zw4; (try simp only [Act.put, List.setIfInBounds_toArray, List.set_cons_zero, List.set_cons_succ])))
    refine ret_cell rfl rfl rfl bw4 Try.underlying23 rfl zSt_size ?_
    exact ⟨by rw [hG.out], kf.out _ kw4⟩
set_option maxRecDepth 100000 in
set_option maxHeartbeats 8000000 in
theorem recall_call (A : Option Addr) (l : List ByteArray) (c : Nat) (F : Nat → Prop) (w : World) (hs : SliceOf Rep.str w F (.slice A l.length c) l) (hF : ∀ i, F i → i < w.heap.size) (hl : l.length ≤ 1000000) :
    Calls Try.prog 15 #[.slice A l.length c] w fun e w' => ∃ v, e = .returned (.tuple #[.agg (stV (recallF l ⟨0, 0⟩ []).1), v]) ∧ ∃ lo, w.heap.size ≤ lo ∧ Own Rep.bk 29 w' lo v (recallF l ⟨0, 0⟩ []).2 ∧ Keep [] w w' ∧ ((recallF l ⟨0, 0⟩ []).2 = [] → v = .slice none 0 0) := by
  have HS := Lib.hid hs
  have HF := Lib.hid hF
  clear hs hF
  go_enter Try.func15, Try.ntmps15
  go_upto_region 1 with (first | ((with_reducible refine wl_alloc 23 ?_ ?_); (with_reducible rfl); refine sx_alloc rfl 23 rfl _ 2 zSt zSt_info rfl ?_; intro w1 bw1 kw1 zw1; clear zw1; (try simp only [Act.put, List.setIfInBounds_toArray, List.set_cons_zero, List.set_cons_succ])))
  go_upto_region 3 with (first | ((with_reducible refine wl_alloc 23 ?_ ?_); (with_reducible rfl); refine sx_alloc rfl 23 rfl _ 2 zSt zSt_info rfl ?_; intro w2 bw2 kw2 zw2; clear zw2; (try simp only [Act.put, List.setIfInBounds_toArray, List.set_cons_zero, List.set_cons_succ])))
  have d1 := bw1.keep kw2 (by simp)
  have kk2 := kw1.trans kw2
  have l1 := bw1.lt
  have l2 := bw2.lt
  clear bw1 kw1 kw2
  go_wp2_with fail
  go_loopw [5, 14] (fun bv i wr => ∃ k : Nat, k ≤ l.length ∧ i = .int .i64 k ∧ ∃ s xs, Hid (recallF l ⟨0, 0⟩ [] = recallF (l.drop k) s xs) ∧ xs.length ≤ k ∧ Hid (Own Rep.bk 29 wr w2.heap.size bv xs ∧ Blk wr w.heap.size zSt 23 ∧ Blk wr w1.heap.size (stV s) 23 ∧ Keep [] w wr ∧ w2.heap.size ≤ wr.heap.size ∧ (xs = [] → bv = .slice none 0 0))) (fun _ i _ => l.length - (intOf i).toNat)
  case atStart => exact ⟨0, Nat.zero_le _, rfl, ⟨0, 0⟩, [], Lib.hid rfl, Nat.le_refl _, Lib.hid ⟨Own.nil _ _ _ _, d1, bw2, kk2, Nat.le_refl _, fun _ => rfl⟩⟩
  case round =>
    obtain ⟨k, hk, rfl, s, xs, hrec, hxl, hw⟩ := hrel
    clear d1 bw2 kk2
    obtain ⟨hown, hb0, hb1, kk, hsz2, hnil⟩ := hw.out
    clear hw
    obtain ⟨A5, c5, rfl, -⟩ := hown.form
    replace hown := Lib.hid hown
    replace hnil := Lib.hid hnil
    by_cases hlt : k < l.length
    · have hltz : (k : Int) < (l.length : Int) := by omega
      obtain ⟨g, o, rfl, hc, hsz⟩ := (HS.out.keep (kk.at F (by simp))).str_at hlt
      have hdr : l.drop k = l[k] :: l.drop (k + 1) := List.drop_eq_getElem_cons hlt
      rw [hdr] at hrec
      clear hdr
      generalize l[k] = r at *
      by_cases hz : r.size = 0
      · obtain rfl := nil_of_size r hz
        clear hz
        have hst : Hid (recallF l ⟨0, 0⟩ [] = (s, xs)) := Lib.hid (by rw [hrec.out]; rfl)
        go_wp2_with (first | ((with_reducible refine wl_load 23 (.tmp 4) ?_ ?_); (with_reducible rfl); refine sx_loadW rfl 23 (.tmp 4) rfl w1.heap.size (stV s) _ _ 2 rfl hb1 Try.underlying23 rfl zSt_size rfl ?_; (try simp only [Act.put, List.setIfInBounds_toArray, List.set_cons_zero, List.set_cons_succ])) | ((with_reducible refine wl_store 23 (.tmp 2) (.tmp 20) ?_ ?_); (with_reducible rfl); refine sx_storeW rfl 23 (.tmp 2) (.tmp 20) rfl w.heap.size (stV s) zSt _ 2 rfl rfl hb0 zSt_size rfl rfl rfl ?_; intro wz bwz kwz zwz; clear zwz; (try simp only [Act.put, List.setIfInBounds_toArray, List.set_cons_zero, List.set_cons_succ])))
        refine ret_cell2 rfl rfl rfl bwz Try.underlying23 rfl zSt_size _ rfl ?_
        rw [hst.out]
        exact ⟨_, rfl, _, by omega, hown.out.keep kwz (fun i hi => by simp at hi; omega), kk.new kwz (fun i hi => .inr (by simp at hi; omega)), hnil.out⟩
      · have hz1 : 0 < r.size := by omega
        obtain ⟨he1, he2⟩ := ne_nil hz1
        clear hz
        have hrc : rcF r = (if (r[0]'hz1).toNat = 83 then (if (readStF (r.extract 1 r.size)).2 = 0 then .st (readStF (r.extract 1 r.size)).1 else .no) else if (r[0]'hz1).toNat = 66 then (if (readBlockF (r.extract 1 r.size)).2 = 0 then .bk (readBlockF (r.extract 1 r.size)).1 else .no) else .no) := by unfold rcF; rw [dif_pos hz1]; rfl
        have hb1s : (r.extract 1 r.size).size ≤ M47 := by rw [ByteArray.size_extract]; unfold M47; omega
        have hN : recallF (r :: l.drop (k + 1)) s xs = (match rcF r with | .no => (s, xs) | .st t => recallF (l.drop (k + 1)) (gtF s t) xs | .bk b => recallF (l.drop (k + 1)) s (xs ++ [b])) := rfl
        replace hN := Lib.hid hN
        replace hrc := Lib.hid hrc
        have hRd := Lib.hid (fun w' => rread_call (r.extract 1 r.size) w' hb1s)
        have hRb := Lib.hid (fun w' => readBlock_call (r.extract 1 r.size) w')
        have hB3 := Lib.hid (B3_holds (r.extract 1 r.size))
        clear hb1s
        go_upto_region 10 with fail
        generalize readStF (r.extract 1 r.size) = rd at *
        generalize readBlockF (r.extract 1 r.size) = rb at *
        generalize (r[0]'hz1).toNat = cn at *
        by_cases h83 : cn = 83
        · subst h83
          clear hRb hB3
          obtain ⟨t, er⟩ := rd
          dsimp only at *
          go_wp2_with fail
          refine (hRd.out _).mono ?_
          rintro e w3 ⟨rfl, k3⟩
          go_upto_region 12 with (first | ((with_reducible refine wl_alloc 23 ?_ ?_); (with_reducible rfl); refine sx_alloc rfl 23 rfl _ 2 zSt zSt_info rfl ?_; intro w4 bw4 kw4 zw4; clear zw4; (try simp only [Act.put, List.setIfInBounds_toArray, List.set_cons_zero, List.set_cons_succ])) | ((with_reducible refine wl_store 23 (.tmp 8) (.tmp 32) ?_ ?_); (with_reducible rfl); refine sx_storeW rfl 23 (.tmp 8) (.tmp 32) rfl w3.heap.size (stV t) zSt _ 2 rfl rfl bw4 zSt_size rfl rfl rfl ?_; intro w5 bw5 kw5 zw5; clear zw5; (try simp only [Act.put, List.setIfInBounds_toArray, List.set_cons_zero, List.set_cons_succ])))
          have k35 : Keep [] w3 w5 := kw4.new kw5 (fun i hi => .inr (by simp at hi; omega))
          have kr5 := k3.trans k35
          have s3 := k3.size
          replace hb0 := hb0.keep kr5 (by simp)
          replace hb1 := hb1.keep kr5 (by simp)
          replace hown := Lib.hid (hown.out.keep kr5 (by simp))
          replace kk := kk.trans kr5
          have s5 := kr5.size
          clear bw4 kw4 kw5 k35
          by_cases her : er = 0
          · subst her
            have hN2 : Hid (recallF l ⟨0, 0⟩ [] = recallF (l.drop (k + 1)) (gtF s t) xs) := Lib.hid (by rw [hrec.out, hN.out, hrc.out]; rfl)
            go_wp2_with (first | ((with_reducible refine wl_load 23 (.tmp 4) ?_ ?_); (with_reducible rfl); refine sx_loadW rfl 23 (.tmp 4) rfl w1.heap.size (stV s) _ _ 2 rfl hb1 Try.underlying23 rfl zSt_size rfl ?_; (try simp only [Act.put, List.setIfInBounds_toArray, List.set_cons_zero, List.set_cons_succ])) | ((with_reducible refine wl_load 23 (.tmp 8) ?_ ?_); (with_reducible rfl); refine sx_loadW rfl 23 (.tmp 8) rfl w3.heap.size (stV t) _ _ 2 rfl bw5 Try.underlying23 rfl zSt_size rfl ?_; (try simp only [Act.put, List.setIfInBounds_toArray, List.set_cons_zero, List.set_cons_succ])))
            refine (greater_call s t _).mono ?_
            rintro e w6 ⟨rfl, k6⟩
            replace hb1 := hb1.keep k6 (by simp)
            go_wp2_with (first | ((with_reducible refine wl_store 23 (.tmp 4) (.tmp 40) ?_ ?_); (with_reducible rfl); refine sx_storeW rfl 23 (.tmp 4) (.tmp 40) rfl w1.heap.size (stV (gtF s t)) (stV s) _ 2 rfl rfl hb1 zSt_size rfl rfl rfl ?_; intro w7 bw7 kw7 zw7; clear zw7; (try simp only [Act.put, List.setIfInBounds_toArray, List.set_cons_zero, List.set_cons_succ])))
            have s6 := k6.size
            have s7 := kw7.size
            have ho7 := Lib.hid ((hown.out.keep k6 (by simp)).keep kw7 (fun i hi => by simp at hi; omega))
            have hb07 := (hb0.keep k6 (by simp)).keep kw7 (by simp; omega)
            have kk7 := (kk.trans k6).new kw7 (fun i hi => .inr (by simp at hi; omega))
            clear hb0 hb1 hown kk
            go_roundw
            case rel => exact ⟨k + 1, by omega, by go_num, gtF s t, xs, hN2, by omega, Lib.hid ⟨ho7.out, hb07, bw7, kk7, by omega, hnil.out⟩⟩
            case measure => simp [intOf]; omega
          · have her1 : (er == 0) = false := by rw [beq_eq_false_iff_ne]; exact her
            have hst : Hid (recallF l ⟨0, 0⟩ [] = (s, xs)) := Lib.hid (by rw [hrec.out, hN.out, hrc.out]; simp [her])
            go_wp2_with (first | ((with_reducible refine wl_load 23 (.tmp 4) ?_ ?_); (with_reducible rfl); refine sx_loadW rfl 23 (.tmp 4) rfl w1.heap.size (stV s) _ _ 2 rfl hb1 Try.underlying23 rfl zSt_size rfl ?_; (try simp only [Act.put, List.setIfInBounds_toArray, List.set_cons_zero, List.set_cons_succ])) | ((with_reducible refine wl_store 23 (.tmp 2) (.tmp 36) ?_ ?_); (with_reducible rfl); refine sx_storeW rfl 23 (.tmp 2) (.tmp 36) rfl w.heap.size (stV s) zSt _ 2 rfl rfl hb0 zSt_size rfl rfl rfl ?_; intro wz bwz kwz zwz; clear zwz; (try simp only [Act.put, List.setIfInBounds_toArray, List.set_cons_zero, List.set_cons_succ])))
            refine ret_cell2 rfl rfl rfl bwz Try.underlying23 rfl zSt_size _ rfl ?_
            rw [hst.out]
            exact ⟨_, rfl, _, by omega, hown.out.keep kwz (fun i hi => by simp at hi; omega), kk.new kwz (fun i hi => .inr (by simp at hi; omega)), hnil.out⟩
        · by_cases h66 : cn = 66
          · subst h66
            clear hRd h83
            obtain ⟨b, er⟩ := rb
            dsimp only at *
            go_wp2_with fail
            refine (hRb.out _).mono ?_
            rintro e w3 ⟨v, u, rfl, hv, hu, k3⟩
            obtain ⟨Av, cv, rfl, -⟩ := hv.form
            obtain ⟨Au, cu, rfl, -⟩ := hu.form
            go_upto_region 17 with (first | ((with_reducible refine wl_alloc 29 ?_ ?_); (with_reducible rfl); refine sx_alloc rfl 29 rfl _ 6 zBv zBk_info rfl ?_; intro w4 bw4 kw4 zw4; clear zw4; (try simp only [Act.put, List.setIfInBounds_toArray, List.set_cons_zero, List.set_cons_succ])) | ((with_reducible refine wl_store 29 (.tmp 10) (.tmp 47) ?_ ?_); (with_reducible rfl); refine sx_storeW rfl 29 (.tmp 10) (.tmp 47) rfl w3.heap.size (bkV b (.slice Av b.j.sg.length cv) (.slice Au b.q.length cu)) zBv _ 6 rfl rfl bw4 zBk_size rfl rfl rfl ?_; intro w5 bw5 kw5 zw5; clear zw5; (try simp only [Act.put, List.setIfInBounds_toArray, List.set_cons_zero, List.set_cons_succ])))
            have k35 : Keep [] w3 w5 := kw4.new kw5 (fun i hi => .inr (by simp at hi; omega))
            have kr5 := k3.trans k35
            have s3 := k3.size
            replace hb0 := hb0.keep kr5 (by simp)
            replace hb1 := hb1.keep kr5 (by simp)
            replace kk := kk.trans kr5
            have s5 := kr5.size
            clear bw4 kw4 kw5
            by_cases her : er = 0
            · subst her
              have hN2 : Hid (recallF l ⟨0, 0⟩ [] = recallF (l.drop (k + 1)) s (xs ++ [b])) := Lib.hid (by rw [hrec.out, hN.out, hrc.out]; rfl)
              have hbl := hown.out.lt
              have mvF : ∀ i, New wr i → i < w3.heap.size → Off w2.heap.size (.slice A5 xs.length c5) i := fun i hi hl => ⟨Nat.le_trans hsz2 hi, fun he => by have h1 := (hbl i he.symm).2; have h2 : wr.heap.size ≤ i := hi; omega⟩
              have hv5 : SliceOf Rep.sg w5 (Off w2.heap.size (.slice A5 xs.length c5)) (.slice Av b.j.sg.length cv) b.j.sg := (hv.mono mvF).keep (k35.at _ (by simp))
              have hu5 : SliceOf Rep.req w5 (Off w2.heap.size (.slice A5 xs.length c5)) (.slice Au b.q.length cu) b.q := (hu.mono mvF).keep (k35.at _ (by simp))
              have hbd := Lib.hid (bk_bounds hB3.out)
              have hown5 := Lib.hid (hown.out.keep kr5 (by simp))
              replace hv5 := Lib.hid hv5
              replace hu5 := Lib.hid hu5
              clear hown hv hu mvF k35
              replace hbl := Lib.hid hbl
              go_wp2_with (first | ((with_reducible refine wl_load 29 (.tmp 10) ?_ ?_); (with_reducible rfl); refine sx_loadW rfl 29 (.tmp 10) rfl w3.heap.size (bkV b (.slice Av b.j.sg.length cv) (.slice Au b.q.length cu)) _ _ 6 rfl bw5 Try.underlying29 rfl zBk_size rfl ?_; (try simp only [Act.put, List.setIfInBounds_toArray, List.set_cons_zero, List.set_cons_succ])) | (at_builtin; refine wpList_app Rep.bk rfl _ _ 37 29 _ 88 w2.heap.size rfl Try.underlying37 infoBk rfl (by decide) (by decide) _ (.slice A5 xs.length c5) xs b (bkV b (.slice Av b.j.sg.length cv) (.slice Au b.q.length cu)) rfl rfl hown5.out ⟨_, _, rfl, hbd.out.1, hbd.out.2.1, hbd.out.2.2.1, hbd.out.2.2.2, hv5.out, hu5.out⟩ (by simp [Value.oneCell']) (by omega) (by omega) ?_; intro gg cap w7 ho7 hg7 hat7 hlt7 hlo7))
              have k7 : Keep (Value.slice A5 xs.length c5).ownBlock.toList w5 w7 := (Keep.refl _ _).grown hg7 (fun i hi => .inl (by rw [hi]; simp))
              have hnb : ∀ i, i ∈ (Value.slice A5 xs.length c5).ownBlock.toList → w2.heap.size ≤ i := fun i hi => (hbl.out i (by simpa using hi)).1
              have hb07 := hb0.keep k7 (fun hm => by have := hnb _ hm; omega)
              have hb17 := hb1.keep k7 (fun hm => by have := hnb _ hm; omega)
              have kk7 := kk.new k7 (fun i hi => .inr (by have := hnb i hi; omega))
              have s7 := k7.size
              replace ho7 := Lib.hid ho7
              clear hb0 hb1 kk k7 hg7
              go_roundw
              case rel => exact ⟨k + 1, by omega, by go_num, s, xs ++ [b], hN2, by simp; omega, Lib.hid ⟨by simpa using ho7.out, hb07, hb17, kk7, by omega, fun h => absurd h (by simp)⟩⟩
              case measure => simp [intOf]; omega
            · have her1 : (er == 0) = false := by rw [beq_eq_false_iff_ne]; exact her
              replace hown := Lib.hid (hown.out.keep kr5 (by simp))
              have hst : Hid (recallF l ⟨0, 0⟩ [] = (s, xs)) := Lib.hid (by rw [hrec.out, hN.out, hrc.out]; simp [her])
              go_wp2_with (first | ((with_reducible refine wl_load 23 (.tmp 4) ?_ ?_); (with_reducible rfl); refine sx_loadW rfl 23 (.tmp 4) rfl w1.heap.size (stV s) _ _ 2 rfl hb1 Try.underlying23 rfl zSt_size rfl ?_; (try simp only [Act.put, List.setIfInBounds_toArray, List.set_cons_zero, List.set_cons_succ])) | ((with_reducible refine wl_store 23 (.tmp 2) (.tmp 51) ?_ ?_); (with_reducible rfl); refine sx_storeW rfl 23 (.tmp 2) (.tmp 51) rfl w.heap.size (stV s) zSt _ 2 rfl rfl hb0 zSt_size rfl rfl rfl ?_; intro wz bwz kwz zwz; clear zwz; (try simp only [Act.put, List.setIfInBounds_toArray, List.set_cons_zero, List.set_cons_succ])))
              refine ret_cell2 rfl rfl rfl bwz Try.underlying23 rfl zSt_size _ rfl ?_
              rw [hst.out]
              exact ⟨_, rfl, _, by omega, hown.out.keep kwz (fun i hi => by simp at hi; omega), kk.new kwz (fun i hi => .inr (by simp at hi; omega)), hnil.out⟩
          · have z83 : ((cn : Int) == 83) = false := by rw [beq_eq_false_iff_ne]; omega
            have z66 : ((cn : Int) == 66) = false := by rw [beq_eq_false_iff_ne]; omega
            have y83 : ¬ (cn : Int) = 83 := by omega
            have y66 : ¬ (cn : Int) = 66 := by omega
            have hst : Hid (recallF l ⟨0, 0⟩ [] = (s, xs)) := Lib.hid (by rw [hrec.out, hN.out, hrc.out]; simp [h83, h66])
            go_wp2_with (first | ((with_reducible refine wl_load 23 (.tmp 4) ?_ ?_); (with_reducible rfl); refine sx_loadW rfl 23 (.tmp 4) rfl w1.heap.size (stV s) _ _ 2 rfl hb1 Try.underlying23 rfl zSt_size rfl ?_; (try simp only [Act.put, List.setIfInBounds_toArray, List.set_cons_zero, List.set_cons_succ])) | ((with_reducible refine wl_store 23 (.tmp 2) (.tmp 24) ?_ ?_); (with_reducible rfl); refine sx_storeW rfl 23 (.tmp 2) (.tmp 24) rfl w.heap.size (stV s) zSt _ 2 rfl rfl hb0 zSt_size rfl rfl rfl ?_; intro wz bwz kwz zwz; clear zwz; (try simp only [Act.put, List.setIfInBounds_toArray, List.set_cons_zero, List.set_cons_succ])))
            refine ret_cell2 rfl rfl rfl bwz Try.underlying23 rfl zSt_size _ rfl ?_
            rw [hst.out]
            exact ⟨_, rfl, _, by omega, hown.out.keep kwz (fun i hi => by simp at hi; omega), kk.new kwz (fun i hi => .inr (by simp at hi; omega)), hnil.out⟩
    · have hltz : ¬ (k : Int) < (l.length : Int) := by omega
      have hst : Hid (recallF l ⟨0, 0⟩ [] = (s, xs)) := Lib.hid (by rw [hrec.out, List.drop_eq_nil_of_le (by omega)]; rfl)
      go_wp2_with (first | ((with_reducible refine wl_load 23 (.tmp 4) ?_ ?_); (with_reducible rfl); refine sx_loadW rfl 23 (.tmp 4) rfl w1.heap.size (stV s) _ _ 2 rfl hb1 Try.underlying23 rfl zSt_size rfl ?_; (try simp only [Act.put, List.setIfInBounds_toArray, List.set_cons_zero, List.set_cons_succ])) | ((with_reducible refine wl_store 23 (.tmp 2) (.tmp 58) ?_ ?_); (with_reducible rfl); refine sx_storeW rfl 23 (.tmp 2) (.tmp 58) rfl w.heap.size (stV s) zSt _ 2 rfl rfl hb0 zSt_size rfl rfl rfl ?_; intro wz bwz kwz zwz; clear zwz; (try simp only [Act.put, List.setIfInBounds_toArray, List.set_cons_zero, List.set_cons_succ])))
      refine ret_cell2 rfl rfl rfl bwz Try.underlying23 rfl zSt_size _ rfl ?_
      rw [hst.out]
      exact ⟨_, rfl, _, by omega, hown.out.keep kwz (fun i hi => by simp at hi; omega), kk.new kwz (fun i hi => .inr (by simp at hi; omega)), hnil.out⟩
end Go.Proofs.Ytdhhibppcckbkaa
