import Derived.Test.YtbhpkknlpjdcaaaDel
namespace Go.Proofs.Ytbhpkknlpjdcaaa
open Go.RowKit
set_option linter.unusedVariables false
set_option linter.unusedSimpArgs false
set_option maxHeartbeats 2000000 in
theorem delete_call (g c : Nat) (xs : List ByteArray) (i : Nat) (w : World) (h : StrRow w g c xs) (hi : i < xs.length) (hn : xs.length ≤ 4000) :
    Calls Try.prog 40 #[.slice (some ⟨g, 0, none⟩) xs.length c, .int .i64 (i : Nat), .int .i64 ((i : Nat) + 1 : Int)] w fun e w' => e = .returned (.slice (some ⟨g, 0, none⟩) (xs.eraseIdx i).length c) ∧ StrRow w' g c (xs.eraseIdx i) ∧ Keep [g] w w' := by
  obtain ⟨cur, hb, h1, h2, h3, h4, h5⟩ := h
  unfold maxLen at h2
  obtain ⟨n, hn0⟩ : ∃ n, n + 1 = xs.length := ⟨xs.length - 1, by omega⟩
  have hel : (xs.eraseIdx i).length = n := by rw [List.length_eraseIdx, if_pos hi]; omega
  rw [hel]
  rw [← hn0] at hi hn h3 ⊢
  have HEL := Lib.hid hel
  clear hel
  have H4 := Lib.hid h4
  have HN := Lib.hid hn0
  have H1 := Lib.hid h1
  clear h4 hn0 h1
  have z1 : ((i : Int) == (i : Int) + 1) = false := by rw [beq_eq_false_iff_ne]; omega
  have z2 : (i : Int) + 1 ≤ (n : Int) + 1 := by omega
  have z3 : (n : Int) + 1 ≤ (c : Int) := by omega
  have z4 : (i : Int) ≤ (n : Int) + 1 := by omega
  have z5 : (i : Int) ≤ (c : Int) := by omega
  have z6 : (0 : Int) ≤ (i : Int) := by omega
  have z10 : (0 : Int) ≤ (i : Int) + 1 := by omega
  go_enter Try.func40, Try.ntmps40
  go_wp2_with fail
  have hinf : (Try.prog.info? 9).map (fun i => (i.zero, i.size, i.bytes)) = some (some (.string ⟨#[]⟩), 1, 16) := by kernel_rfl
  obtain ⟨i0, hi0, hq0, hq1, hq2⟩ := info_parts hinf
  obtain ⟨news, hnews⟩ : ∃ news, news = (xs.drop (i + 1)).map Value.string := ⟨_, rfl⟩
  have hl : news.length = n - i := by rw [hnews]; have := HN.out; simp; omega
  have hone : ∀ u ∈ news, u.oneCell' = true := by rw [hnews]; intro u hu; obtain ⟨s, -, rfl⟩ := List.mem_map.1 hu; rfl
  have hcell : ∀ j, j < c → w.cell? ⟨g, j, none⟩ = cur[j]? := fun j _ => hb.cell j
  have hsome : ∀ j, j < c → (w.cell? ⟨g, j, none⟩).isSome = true ∧ w.frozen? ⟨g, j, none⟩ = false := fun j hj => ⟨by rw [hb.cell j, Array.getElem?_eq_getElem (by rw [H1.out]; exact hj)]; rfl, hb.frozen j⟩
  have hsrc : ∀ j u, news[j]? = some u → w.cell? ⟨g, i + 1 + j, none⟩ = some u := fun j u hu => by
    have hj : j < n - i := by rw [← hl]; exact (List.getElem?_eq_some_iff.1 hu).1
    rw [hb.cell, H4.out (i + 1 + j) (by rw [← HN.out]; omega)]
    rw [hnews] at hu
    simp only [List.getElem?_map, List.getElem?_drop] at hu
    rw [List.getElem?_eq_getElem (by rw [← HN.out]; omega)] at hu
    simpa using hu
  have HL := Lib.hid hl
  have HO := Lib.hid hone
  have HS := Lib.hid hsome
  have HC := Lib.hid hsrc
  have HW := Lib.hid hnews
  clear hl hone hsome hsrc hcell hnews
  by_cases hc : c = i + 1
  · obtain rfl : n = i := by omega
    have z9 : c = n + 1 := hc
    have z8 : (c : Int) = (n : Int) + 1 := by omega
    have hnil : news = [] := List.eq_nil_of_length_eq_zero (by rw [HL.out]; omega)
    subst hc
    subst hnil
    clear z9 z8
    go_region_law (refine step_append_room rfl (.tmp 22) (.tmp 25) 26 rfl 9 i0 1 Try.underlying26 hi0 hq1 g 0 n (n + 1) (by simp [Act.eval, Act.put]) ⟨g, 0, none⟩ (n - n) 0 [] (by simp [Act.eval, Act.put] <;> omega) (by rw [HL.out]; omega) (fun j u hu => by simp at hu) HO.out (by omega) (fun j hj => by simp at hj) ?_)
    all_goals
      obtain ⟨cur5, b5, s5, e5⟩ := blk_setCells [] w.drew cur n hb
      have k5 : Keep [g] w (w.drew.setCells g n []) := (Keep.refl _ _).drew.trans (keep_setCells [] w.drew n)
      (try simp only [show n + (n - n) = n by omega])
      have hcl : ∀ ty c', (Builtin.clear_ #[26] ty #[.slice (some ⟨g, n, none⟩) 1 c']).run Try.prog (w.drew.setCells g n []) = .ok (.tuple #[]) ((w.drew.setCells g n []).setCells g n [.string ⟨#[]⟩]) := fun ty c' =>
        run_clearS _ ty g n c' (by rw [b5.cell n, Array.getElem?_eq_getElem (by rw [s5, H1.out]; omega)]; rfl) (b5.frozen n)
      (try simp only [Nat.zero_add, Nat.mul_one])
      generalize w.drew.setCells g n [] = w5 at *
      go_wp2_with fail
      go_ret
      obtain ⟨cur6, b6, s6, e6⟩ := blk_setCells [.string ⟨#[]⟩] w5 cur5 n b5
      have hlen := HEL.out
      have hN := HN.out
      have hL := HL.out
      have hW := HW.out
      have hsz := H1.out
      refine ⟨rfl, ⟨cur6, b6, by rw [s6, s5, hsz], by unfold maxLen; omega, by omega, fun j hj => ?_, fun x hx => h5 x (List.mem_of_mem_eraseIdx hx)⟩, k5.trans (keep_setCells _ _ _)⟩
      rw [hlen] at hj
      rw [e6 j, if_neg (by simp; omega), e5 j]
      rw [List.getElem_eraseIdx]
      by_cases hji : j < n
      · rw [if_neg (by omega), dif_pos hji]
        exact H4.out j (by omega)
      · rw [if_pos (by omega), dif_neg hji, hW]
        simp only [List.getElem?_map, List.getElem?_drop]
        rw [show n + 1 + (j - n) = j + 1 by omega, List.getElem?_eq_getElem (by omega)]
        rfl
  · have z7 : (i : Int) + 1 ≤ (c : Int) := by omega
    have z8 : ¬ (c : Int) = (i : Int) + 1 := by omega
    have z9 : ¬ c = i + 1 := hc
    go_region_law (refine step_append_room rfl (.tmp 22) (.tmp 25) 26 rfl 9 i0 1 Try.underlying26 hi0 hq1 g 0 i c (by simp [Act.eval, Act.put]) ⟨g, i + 1, none⟩ (n - i) (c - (i + 1)) news (by simp [Act.eval, Act.put] <;> omega) (by rw [HL.out]; omega) (fun j u hu => by rw [Addr.add_mid]; exact HC.out j u hu) HO.out (by omega) (fun j hj => by have := HL.out; rw [show 0 + i * 1 + j = i + j by omega]; exact HS.out (i + j) (by omega)) ?_)
    all_goals
      obtain ⟨cur5, b5, s5, e5⟩ := blk_setCells news w.drew cur i hb
      have k5 : Keep [g] w (w.drew.setCells g i news) := (Keep.refl _ _).drew.trans (keep_setCells news w.drew i)
      simp only [show i + (n - i) = n by omega]
      have hcl : ∀ ty c', (Builtin.clear_ #[26] ty #[.slice (some ⟨g, n, none⟩) 1 c']).run Try.prog (w.drew.setCells g i news) = .ok (.tuple #[]) ((w.drew.setCells g i news).setCells g n [.string ⟨#[]⟩]) := fun ty c' =>
        run_clearS _ ty g n c' (by rw [b5.cell n, Array.getElem?_eq_getElem (by rw [s5, H1.out]; omega)]; rfl) (b5.frozen n)
      (try simp only [Nat.zero_add, Nat.mul_one])
      generalize w.drew.setCells g i news = w5 at *
      go_wp2_with fail
      go_ret
      obtain ⟨cur6, b6, s6, e6⟩ := blk_setCells [.string ⟨#[]⟩] w5 cur5 n b5
      have hlen := HEL.out
      have hN := HN.out
      have hL := HL.out
      have hW := HW.out
      have hsz := H1.out
      refine ⟨rfl, ⟨cur6, b6, by rw [s6, s5, hsz], by unfold maxLen; omega, by omega, fun j hj => ?_, fun x hx => h5 x (List.mem_of_mem_eraseIdx hx)⟩, k5.trans (keep_setCells _ _ _)⟩
      rw [hlen] at hj
      rw [e6 j, if_neg (by simp; omega), e5 j]
      rw [List.getElem_eraseIdx]
      by_cases hji : j < i
      · rw [if_neg (by omega), dif_pos hji]
        exact H4.out j (by omega)
      · rw [if_pos (by omega), dif_neg hji, hW]
        simp only [List.getElem?_map, List.getElem?_drop]
        rw [show i + 1 + (j - i) = j + 1 by omega, List.getElem?_eq_getElem (by omega)]
        rfl
end Go.Proofs.Ytbhpkknlpjdcaaa
