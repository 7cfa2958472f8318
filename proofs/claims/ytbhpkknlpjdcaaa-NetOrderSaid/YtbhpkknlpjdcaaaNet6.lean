import Derived.Test.YtbhpkknlpjdcaaaNet4
namespace Go.Proofs.Ytbhpkknlpjdcaaa
open Go.RowKit
set_option linter.unusedVariables false
set_option linter.unusedSimpArgs false
/-! net: NetOrder -/
def wantL (l : List Ms) : List ByteArray := (l.filter (fun m => rightMsg m)).map msgF
theorem wantL_take (l : List Ms) (k : Nat) (hk : k < l.length) : wantL (l.take (k + 1)) = if rightMsg l[k] = true then wantL (l.take k) ++ [msgF l[k]] else wantL (l.take k) := by
  unfold wantL
  rw [List.take_succ_eq_append_getElem hk, List.filter_append, List.map_append]
  by_cases h : rightMsg l[k] = true
  · simp [h]
  · simp [h]
theorem wantL_le (l : List Ms) : (wantL l).length ≤ l.length := by
  unfold wantL
  rw [List.length_map]
  exact List.length_filter_le _ _
theorem putL_want (l : List Ms) (h : l.length ≤ 1000) : putL [] l = (wantL l, (wantL l).length) := by
  have hk : ∀ k, k ≤ l.length → putL [] (l.take k) = (wantL (l.take k), (wantL (l.take k)).length) := by
    intro k
    induction k with
    | zero => intro _; rfl
    | succ k ih =>
      intro hk
      rw [putL_take [] l k hk, ih (by omega), wantL_take l k hk]
      unfold putS
      have := wantL_le (l.take k)
      have : (l.take k).length ≤ k := by simp; omega
      by_cases hr : rightMsg l[k] = true
      · rw [if_pos ⟨hr, by dsimp only; omega⟩, if_pos hr]
        simp
      · rw [if_neg (fun h => hr h.1), if_neg hr]
  have := hk l.length (Nat.le_refl _)
  rwa [List.take_length] at this
set_option maxHeartbeats 8000000 in
theorem netOrder_call (A : Option Addr) (l : List Ms) (c : Nat) (F : Nat → Prop) (w : World) (hl : SliceOf Rep.ms w F (.slice A l.length c) l) (hF : ∀ i, F i → i < w.heap.size) :
    Calls Try.prog 3 #[.slice A l.length c] w fun e w' => e = .returned (.bool true) ∧ Keep [] w w' := by
  have HL := Lib.hid hl
  have HF := Lib.hid hF
  clear hl hF
  go_enter Try.func3, Try.ntmps3
  go_wp2_with fail
  refine (nawake_call _).mono ?_
  rintro e w1 ⟨rfl, k1⟩
  by_cases h40 : 40 < l.length
  · have h40z : (40 : Int) < (l.length : Int) := by omega
    go_wp2_with fail
    refine (nawake_call _).mono ?_
    rintro e w2 ⟨rfl, k2⟩
    go_wp2
    go_ret
    exact ⟨rfl, k1.trans k2⟩
  · have h40z : ¬ (40 : Int) < (l.length : Int) := by omega
    go_wp2_with fail
    refine (nnew_NS _).mono ?_
    rintro e w2 ⟨n, rfl, h2, hn, k2⟩
    have kk2 := k1.trans k2
    have hnl := h2.lt n (by simp)
    have hnw := k1.size
    have HN := Lib.hid h2
    clear h2 k1 k2
    go_wp2_with fail
    go_loopw [4, 5] (fun v i wr => ∃ k : Nat, k ≤ l.length ∧ i = .int .i64 k ∧ ∃ B ws d, v = .slice B ws.length d ∧ ws.length ≤ k ∧ Hid (Own Rep.str 9 wr w2.heap.size (.slice B ws.length d) ws) ∧ Keep [] w2 wr ∧ Hid (ws = wantL (l.take k)) ∧ Hid (∀ m, m ∈ l.take k → fewMsg m = true)) (fun _ i _ => l.length - (intOf i).toNat)
    case atStart => exact ⟨0, Nat.zero_le _, rfl, none, [], 0, rfl, Nat.le_refl _, Lib.hid (Own.nil _ _ _ _), Keep.refl _ _, Lib.hid rfl, Lib.hid (by simp)⟩
    case round =>
      obtain ⟨k, hk, rfl, B, ws, d, rfl, hwl, hown, kr, hws, hfew⟩ := hrel
      by_cases hlt : k < l.length
      · have hltz : (k : Int) < (l.length : Int) := by omega
        have hl1 := HL.out.keep ((kk2.trans kr).at F (by simp))
        obtain ⟨g, o, v1, v2, v3, v4, rfl, hr, hok⟩ := hl1.ms_at hlt
        have hw2 := wantL_take l k hlt
        have hf2 : fewMsg l[k] = true → ∀ m, m ∈ l.take (k + 1) → fewMsg m = true := fun h m hm => by
          rw [List.take_succ_eq_append_getElem hlt, List.mem_append] at hm
          rcases hm with hm | hm
          · exact hfew.out m hm
          · simp at hm; rw [hm]; exact h
        generalize l[k] = m at *
        obtain ⟨A1, c1, rfl, -⟩ := hok.bs.form
        obtain ⟨A2, c2, rfl, -⟩ := hok.bq.form
        obtain ⟨A3, c3, rfl, -⟩ := hok.cs.form
        obtain ⟨A4, c4, rfl, -⟩ := hok.st.form
        replace hw2 := Lib.hid hw2
        replace hf2 := Lib.hid hf2
        replace hok := Lib.hid hok
        replace hr := Lib.hid hr
        clear hl1
        go_wp2_with (first
          | ((with_reducible refine wl_load 39 (.tmp 28) ?_ ?_); (with_reducible rfl); refine sx_loadR rfl 39 (.tmp 28) rfl g (o + k * 21) (msgV m (.slice A1 m.b.j.sg.length c1) (.slice A2 m.b.q.length c2) (.slice A3 m.c.sg.length c3) (.slice A4 m.s.ts.length c4)) _ 21 rfl hr.out Try.underlying39 rfl zMs_size rfl ?_; (try simp only [Act.put, List.setIfInBounds_toArray, List.set_cons_zero, List.set_cons_succ])))
        refine (fewMsg_call m _ _ _ _ F _ hok.out).mono ?_
        rintro e w5 ⟨rfl, k5⟩
        cases hfm : fewMsg m with
        | false =>
          clear hfm
          go_wp2
          go_ret
          exact ⟨rfl, (kk2.trans kr).trans k5⟩
        | true =>
          have hsz := fewMsg_sz hfm
          have hsm := fewMsg_small hfm
          have hf3 := Lib.hid (hf2.out hfm)
          clear hfm hf2
          have hr5 : Hid (∀ j v, (msgV m (.slice A1 m.b.j.sg.length c1) (.slice A2 m.b.q.length c2) (.slice A3 m.c.sg.length c3) (.slice A4 m.s.ts.length c4))[j]? = some v → w5.cell? ⟨g, o + k * 21 + j, none⟩ = some v) := Lib.hid (fun j v hj => k5.cell (by simp) (hr.out j v hj))
          go_wp2_with (first
            | ((with_reducible refine wl_load 39 (.tmp 34) ?_ ?_); (with_reducible rfl); refine sx_loadR rfl 39 (.tmp 34) rfl g (o + k * 21) (msgV m (.slice A1 m.b.j.sg.length c1) (.slice A2 m.b.q.length c2) (.slice A3 m.c.sg.length c3) (.slice A4 m.s.ts.length c4)) _ 21 rfl hr5.out Try.underlying39 rfl zMs_size rfl ?_; (try simp only [Act.put, List.setIfInBounds_toArray, List.set_cons_zero, List.set_cons_succ])))
          refine (rightMsg_call m _ _ _ _ F _ (hok.out.keep (k5.at F (by simp)))).mono ?_
          rintro e w6 ⟨rfl, k6⟩
          have kk6 := (kr.trans k5).trans k6
          have o6 := hown.out.keep ((k5.trans k6)) (by simp)
          cases hrm : rightMsg m with
          | false =>
            rw [hrm] at hw2
            have e2 := hw2.out
            simp only [Bool.false_eq_true, if_false] at e2
            rw [← hws.out] at e2
            replace e2 := Lib.hid e2.symm
            replace o6 := Lib.hid o6
            clear hrm hw2
            go_wp2
            go_roundw
            case rel => exact ⟨k + 1, by omega, by go_num, B, ws, d, rfl, by omega, o6, kk6, e2, hf3⟩
            case measure => simp [intOf]; omega
          | true =>
            rw [hrm] at hw2
            have e2 := hw2.out
            simp only [if_true] at e2
            rw [← hws.out] at e2
            replace e2 := Lib.hid e2.symm
            clear hrm hw2
            have hr6 : Hid (∀ j v, (msgV m (.slice A1 m.b.j.sg.length c1) (.slice A2 m.b.q.length c2) (.slice A3 m.c.sg.length c3) (.slice A4 m.s.ts.length c4))[j]? = some v → w6.cell? ⟨g, o + k * 21 + j, none⟩ = some v) := Lib.hid (fun j v hj => k6.cell (by simp) (hr5.out j v hj))
            go_wp2_with (first
              | ((with_reducible refine wl_load 39 (.tmp 40) ?_ ?_); (with_reducible rfl); refine sx_loadR rfl 39 (.tmp 40) rfl g (o + k * 21) (msgV m (.slice A1 m.b.j.sg.length c1) (.slice A2 m.b.q.length c2) (.slice A3 m.c.sg.length c3) (.slice A4 m.s.ts.length c4)) _ 21 rfl hr6.out Try.underlying39 rfl zMs_size rfl ?_; (try simp only [Act.put, List.setIfInBounds_toArray, List.set_cons_zero, List.set_cons_succ])))
            refine (rmsg_call m _ _ _ _ F _ (hok.out.keep ((k5.trans k6).at F (by simp))) hsz).mono ?_
            rintro e w7 ⟨rfl, k7⟩
            have o7 := o6.keep k7 (by simp)
            have kk7 := kk6.trans k7
            have hbig : (msgF m).size ≤ M47 := by unfold M47; omega
            have hs7 := kk7.size
            generalize msgF m = bm at *
            replace o7 := Lib.hid o7
            clear o6 hr hr5 hr6
            go_wp2_with (first | (at_builtin; refine wpList_app Rep.str rfl (.tmp 37) (.tmp 43) 26 9 _ 16 w2.heap.size rfl Try.underlying26 infoStrN rfl (by decide) (by decide) _ (.slice B ws.length d) ws bm _ (by simp [Act.eval, Act.put]) (by simp [Act.eval, Act.put]) o7.out ⟨rfl, hbig⟩ (by simp [Value.oneCell']) (by omega) hs7 ?_; intro gg cap w8 ho8 hg8 hat8 hlt8 hlo8; replace ho8 := Lib.hid ho8; replace hg8 := Lib.hid hg8; clear hat8 hlt8 hlo8) | go_in)
            go_roundw
            case rel =>
              refine ⟨k + 1, by omega, by go_num, some ⟨gg, 0, none⟩, ws ++ [bm], cap, by simp, by simp; omega, by simpa using ho8, kk7.grown hg8.out (fun i hi => .inr (o7.out.lt i hi).1), e2, hf3⟩
            case measure => simp [intOf]; omega
      · have hltz : ¬ (k : Int) < (l.length : Int) := by omega
        obtain rfl : k = l.length := by omega
        rw [List.take_length] at hws hfew
        have hl1 := HL.out.keep ((kk2.trans kr).at F (by simp))
        have hns := HN.out.keep kr (by simp)
        have HP := nput_call n A c l F [n] [] 0 wr hns hl1 (fun i hFi _ hm => by have := HF.out i hFi; simp at hm; omega) (fun m hm => ⟨fewMsg_sz (hfew.out m hm), by have := fewMsg_small (hfew.out m hm); unfold M47; omega⟩) (by omega) (by omega)
        rw [putL_want l (by omega), ← hws.out] at HP
        replace HP := Lib.hid HP
        have hsr := kr.size
        have o3 : SliceOf Rep.str wr (fun k => w2.heap.size ≤ k ∧ k < wr.heap.size) (.slice B ws.length d) ws := (hown.out.slice (by unfold M47; omega)).mono (fun i hi hl => ⟨hi, hl⟩)
        replace o3 := Lib.hid o3
        clear hl1 hns hown hws hfew HN
        go_wp2_with fail
        refine HP.out.mono ?_
        rintro e w3 ⟨rfl, h3⟩
        replace h3 := Lib.hid h3
        clear HP
        go_wp2_with fail
        go_loopw [6, 7, 8] (fun i _ _ wx => ∃ j : Nat, j ≤ ws.length ∧ i = .int .i64 j ∧ Hid (NP wr wx [n] n (ws.drop j) (0 + (ws.length : Nat)))) (fun i _ _ _ => ws.length - (intOf i).toNat)
        case atStart => exact ⟨0, Nat.zero_le _, rfl, h3⟩
        case round =>
          obtain ⟨j, hj, rfl, hq⟩ := hrel
          rename World => wx
          have k3 : Keep [n] wr wx := hq.out.choose_spec.2.2
          by_cases hlt : j < ws.length
          · have hltz : (j : Int) < (ws.length : Int) := by omega
            have hT := hq.out.take 0 0 ws[j] (by unfold atF; rw [List.length_drop]; simp) (by simp [hlt]) (by simp; omega)
            rw [show (ws.drop j).eraseIdx 0 = ws.drop (j + 1) by rw [List.drop_eq_getElem_cons hlt]; rfl] at hT
            replace hT := Lib.hid hT
            clear h3 hq
            go_wp2_with fail
            refine hT.out.mono ?_
            rintro e w4 ⟨rfl, h4⟩
            have k4 : Keep [n] wr w4 := h4.choose_spec.2.2
            obtain ⟨g, o, rfl, d0, -⟩ := (o3.out.keep (k4.at _ (fun i hi hn => by simp at hi; omega))).str_at hlt
            replace h4 := Lib.hid h4
            generalize ws[j] = bj at *
            go_wp2
            go_roundw
            case rel => exact ⟨j + 1, by omega, by go_num, h4⟩
            case measure => simp [intOf]; omega
          · have hltz : ¬ (j : Int) < (ws.length : Int) := by omega
            obtain rfl : j = ws.length := by omega
            have hz := hq.out
            rw [List.drop_length] at hz
            replace hz := Lib.hid hz
            clear hq h3
            go_wp2_with fail
            refine (hz.out.take0 0).mono ?_
            rintro e w4 ⟨rfl, rfl⟩
            go_wp2_with fail
            refine hz.out.len.mono ?_
            rintro e w5 ⟨rfl, rfl⟩
            have kf : Keep [] w wx := (kk2.trans kr).new k3 (fun i hi => .inr (by simp at hi; omega))
            clear hz
            go_wp2
            go_ret
            exact ⟨rfl, kf⟩
end Go.Proofs.Ytbhpkknlpjdcaaa
