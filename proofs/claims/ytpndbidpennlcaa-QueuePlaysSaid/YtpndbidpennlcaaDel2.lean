import Derived.Test.YtpndbidpennlcaaOwn
import Derived.Deep.RegionLaw
import Derived.Deep.MidRow
namespace Go.Proofs.Ytpndbidpennlcaa
open Go.RowKit
set_option linter.unusedVariables false
set_option linter.unusedSimpArgs false
/-! slices.Delete over a row of strings, in place -/
theorem blk_setCells {g t : Nat} : ∀ (vs : List Value) (w : World) (cs : Array Value) (o : Nat), Blk w g cs t → ∃ cs', Blk (w.setCells g o vs) g cs' t ∧ cs'.size = cs.size ∧ ∀ j, cs'[j]? = if o ≤ j ∧ j < o + vs.length ∧ j < cs.size then vs[j - o]? else cs[j]?
  | [], w, cs, o, h => ⟨cs, h, rfl, fun j => by rw [if_neg (by simp; omega)]⟩
  | v :: r, w, cs, o, h => by
    obtain ⟨cs', h1, h2, h3⟩ := blk_setCells r (w.setCell ⟨g, o, none⟩ v) (cs.setIfInBounds o v) (o + 1) (h.set o v)
    refine ⟨cs', h1, by rw [h2]; simp, fun j => ?_⟩
    rw [h3 j]
    simp only [Array.size_setIfInBounds, List.length_cons]
    by_cases h0 : j = o
    · subst h0
      rw [if_neg (by omega)]
      by_cases hj : j < cs.size
      · rw [if_pos (by omega)]
        simp [hj]
      · rw [if_neg (by omega)]
        simp [hj]
    · by_cases h1 : o ≤ j ∧ j < o + (r.length + 1) ∧ j < cs.size
      · rw [if_pos h1, if_pos (by omega)]
        obtain ⟨k, rfl⟩ : ∃ k, j = o + 1 + k := ⟨j - (o + 1), by omega⟩
        rw [show o + 1 + k - (o + 1) = k by omega, show o + 1 + k - o = k + 1 by omega]
        rfl
      · rw [if_neg h1, if_neg (by omega)]
        simp [Array.getElem?_setIfInBounds, Ne.symm h0]
theorem keep_setCells {g : Nat} : ∀ (vs : List Value) (w : World) (o : Nat), Keep [g] w (w.setCells g o vs)
  | [], w, o => Keep.refl _ _
  | v :: r, w, o => ((Keep.refl [g] w).setCell ⟨g, o, none⟩ v (.inl (by simp))).trans (keep_setCells r _ (o + 1))
/-- A row of strings in a block of its own. -/
def StrRow (w : World) (g c : Nat) (xs : List ByteArray) : Prop :=
  ∃ cur, Blk w g cur 9 ∧ cur.size = c ∧ c ≤ maxLen ∧ xs.length ≤ c ∧ (∀ j (hj : j < xs.length), cur[j]? = some (.string xs[j])) ∧ ∀ x ∈ xs, x.size ≤ M47
theorem flat_strs (xs : List ByteArray) : (xs.map fun s => [Value.string s]).flatten = xs.map Value.string := by
  induction xs with
  | nil => rfl
  | cons x l ih => simp [ih]
theorem own_strs {w : World} {lo : Nat} {v : Value} {xs : List ByteArray} (h : Own Rep.str 9 w lo v xs) : w.ownsRow lo 9 1 v xs.length (xs.map Value.string) ∧ ∀ x ∈ xs, x.size ≤ M47 := by
  obtain ⟨css, h1, h2, h3⟩ := h
  have h4 : ∀ i (hi : i < xs.length) (hi' : i < css.length), css[i] = [Value.string xs[i]] ∧ xs[i].size ≤ M47 := fun i hi hi' =>
    h3 i xs[i] css[i] (List.getElem?_eq_getElem hi) (List.getElem?_eq_getElem hi')
  have e : css = xs.map fun s => [Value.string s] := by
    apply List.ext_getElem
    · simp [h2]
    · intro i hi hi'
      simp only [List.getElem_map]
      exact (h4 i (by omega) hi).1
  refine ⟨by rw [← flat_strs, ← e]; exact h1, fun x hx => ?_⟩
  obtain ⟨i, hi, rfl⟩ := List.getElem_of_mem hx
  exact (h4 i hi (by omega)).2
theorem own_of_strs {w : World} {lo : Nat} {v : Value} {xs : List ByteArray} (h : w.ownsRow lo 9 1 v xs.length (xs.map Value.string)) (ho : ∀ x ∈ xs, x.size ≤ M47) : Own Rep.str 9 w lo v xs := by
  refine ⟨xs.map fun s => [Value.string s], by rw [flat_strs]; exact h, by simp, fun i x cs hx hc => ?_⟩
  rw [List.getElem?_map, hx] at hc
  simp at hc
  subst hc
  exact ⟨rfl, ho x (List.mem_of_getElem? hx)⟩
theorem Own.strRow {w : World} {lo : Nat} {A : Option Addr} {n c : Nat} {xs : List ByteArray} (h : Own Rep.str 9 w lo (.slice A n c) xs) (hx : 0 < xs.length) : n = xs.length ∧ ∃ g, A = some ⟨g, 0, none⟩ ∧ lo ≤ g ∧ StrRow w g c xs := by
  obtain ⟨⟨hl, h1⟩, h2⟩ := own_strs h
  rcases h1 with ⟨e, h0⟩ | ⟨g, cap, cur, e, hlo, hb, h3, h4, h5, h6⟩
  · omega
  · cases e
    refine ⟨rfl, g, rfl, hlo, cur, hb, by simpa using h5, h4, h3, fun j hj => ?_, h2⟩
    have : (cur.toList.take (xs.length * 1))[j]? = (xs.map Value.string)[j]? := by rw [h6]
    rw [List.getElem?_take, if_pos (by omega)] at this
    simpa [hj] using this
theorem StrRow.own {w : World} {lo g c : Nat} {xs : List ByteArray} (h : StrRow w g c xs) (hlo : lo ≤ g) : Own Rep.str 9 w lo (.slice (some ⟨g, 0, none⟩) xs.length c) xs := by
  obtain ⟨cur, hb, h1, h2, h3, h4, h5⟩ := h
  refine own_of_strs ⟨by simp, .inr ⟨g, c, cur, rfl, hlo, hb, h3, h2, by omega, ?_⟩⟩ h5
  apply List.ext_getElem?
  intro j
  rw [List.getElem?_take]
  by_cases hj : j < xs.length
  · rw [if_pos (by omega)]
    simpa [hj] using h4 j hj
  · rw [if_neg (by omega), List.getElem?_eq_none (by simp; omega)]
theorem zeroStr (w : World) : (zeroValue 9).run Try.prog w = .ok (.string ⟨#[]⟩) w := by kernel_rfl
theorem run_clearS (w : World) (ty : TypeId) (b o c : Nat) (hc : (w.cell? ⟨b, o, none⟩).isSome = true) (hf : w.frozen? ⟨b, o, none⟩ = false) :
    (Builtin.clear_ #[34] ty #[.slice (some ⟨b, o, none⟩) 1 c]).run Try.prog w = .ok (.tuple #[]) (w.setCells b o [.string ⟨#[]⟩]) := by
  have hst := run_storeCells_cells (P := Try.prog) b o [.string ⟨#[]⟩] 0 w (fun j hj => by simp at hj; subst hj; simpa using hc) (fun j hj => by simp at hj; subst hj; simpa using hf) (by simp [Value.oneCell'])
  simp only [Nat.add_zero] at hst
  have hz : (Builtin.zeroCells #[.string ⟨#[]⟩] 1).toList = [.string ⟨#[]⟩] := by kernel_rfl
  simp [Builtin.clear_, run_underlying Try.underlying34, zeroStr, Value.cells, hz, hst]
end Go.Proofs.Ytpndbidpennlcaa
namespace Go.Proofs.Ytpndbidpennlcaa
open Go.RowKit
set_option linter.unusedVariables false
set_option linter.unusedSimpArgs false
set_option maxHeartbeats 2000000 in
theorem delete_call (g c : Nat) (xs : List ByteArray) (i : Nat) (w : World) (h : StrRow w g c xs) (hi : i < xs.length) (hn : xs.length ≤ 4000) :
    Calls Try.prog 31 #[.slice (some ⟨g, 0, none⟩) xs.length c, .int .i64 (i : Nat), .int .i64 ((i : Nat) + 1 : Int)] w fun e w' => e = .returned (.slice (some ⟨g, 0, none⟩) (xs.eraseIdx i).length c) ∧ StrRow w' g c (xs.eraseIdx i) ∧ Keep [g] w w' := by
  obtain ⟨cur, hb, h1, h2, h3, h4, h5⟩ := h
  unfold maxLen at h2
  obtain ⟨n, hn0⟩ : ∃ n, n + 1 = xs.length := ⟨xs.length - 1, by omega⟩
  have hel : (xs.eraseIdx i).length = n := by rw [List.length_eraseIdx, if_pos hi]; omega
  rw [hel]
  rw [← hn0] at hi hn h3 ⊢
  have HEL := Lib.hid hel
  clear hel
  have H4 := Lib.hid h4
  have HN := Lib.hid hn0
  have H1 := Lib.hid h1
  clear h4 hn0 h1
  have z1 : ((i : Int) == (i : Int) + 1) = false := by rw [beq_eq_false_iff_ne]; omega
  have z2 : (i : Int) + 1 ≤ (n : Int) + 1 := by omega
  have z3 : (n : Int) + 1 ≤ (c : Int) := by omega
  have z4 : (i : Int) ≤ (n : Int) + 1 := by omega
  have z5 : (i : Int) ≤ (c : Int) := by omega
  have z6 : (0 : Int) ≤ (i : Int) := by omega
  have z10 : (0 : Int) ≤ (i : Int) + 1 := by omega
  go_enter Try.func31, Try.ntmps31
  go_wp2_with fail
  have hinf : (Try.prog.info? 9).map (fun i => (i.zero, i.size, i.bytes)) = some (some (.string ⟨#[]⟩), 1, 16) := by kernel_rfl
  obtain ⟨i0, hi0, hq0, hq1, hq2⟩ := info_parts hinf
  obtain ⟨news, hnews⟩ : ∃ news, news = (xs.drop (i + 1)).map Value.string := ⟨_, rfl⟩
  have hl : news.length = n - i := by rw [hnews]; have := HN.out; simp; omega
  have hone : ∀ u ∈ news, u.oneCell' = true := by rw [hnews]; intro u hu; obtain ⟨s, -, rfl⟩ := List.mem_map.1 hu; rfl
  have hcell : ∀ j, j < c → w.cell? ⟨g, j, none⟩ = cur[j]? := fun j _ => hb.cell j
  have hsome : ∀ j, j < c → (w.cell? ⟨g, j, none⟩).isSome = true ∧ w.frozen? ⟨g, j, none⟩ = false := fun j hj => ⟨by rw [hb.cell j, Array.getElem?_eq_getElem (by rw [H1.out]; exact hj)]; rfl, hb.frozen j⟩
  have hsrc : ∀ j u, news[j]? = some u → w.cell? ⟨g, i + 1 + j, none⟩ = some u := fun j u hu => by
    have hj : j < n - i := by rw [← hl]; exact (List.getElem?_eq_some_iff.1 hu).1
    rw [hb.cell, H4.out (i + 1 + j) (by rw [← HN.out]; omega)]
    rw [hnews] at hu
    simp only [List.getElem?_map, List.getElem?_drop] at hu
    rw [List.getElem?_eq_getElem (by rw [← HN.out]; omega)] at hu
    simpa using hu
  have HL := Lib.hid hl
  have HO := Lib.hid hone
  have HS := Lib.hid hsome
  have HC := Lib.hid hsrc
  have HW := Lib.hid hnews
  clear hl hone hsome hsrc hcell hnews
  by_cases hc : c = i + 1
  · obtain rfl : n = i := by omega
    have z9 : c = n + 1 := hc
    have z8 : (c : Int) = (n : Int) + 1 := by omega
    have hnil : news = [] := List.eq_nil_of_length_eq_zero (by rw [HL.out]; omega)
    subst hc
    subst hnil
    clear z9 z8
    go_region_law (refine step_append_room rfl (.tmp 22) (.tmp 25) 34 rfl 9 i0 1 Try.underlying34 hi0 hq1 g 0 n (n + 1) (by simp [Act.eval, Act.put]) ⟨g, 0, none⟩ (n - n) 0 [] (by simp [Act.eval, Act.put] <;> omega) (by rw [HL.out]; omega) (fun j u hu => by simp at hu) HO.out (by omega) (fun j hj => by simp at hj) ?_)
    all_goals
      obtain ⟨cur5, b5, s5, e5⟩ := blk_setCells [] w.drew cur n hb
      have k5 : Keep [g] w (w.drew.setCells g n []) := (Keep.refl _ _).drew.trans (keep_setCells [] w.drew n)
      (try simp only [show n + (n - n) = n by omega])
      have hcl : ∀ ty c', (Builtin.clear_ #[34] ty #[.slice (some ⟨g, n, none⟩) 1 c']).run Try.prog (w.drew.setCells g n []) = .ok (.tuple #[]) ((w.drew.setCells g n []).setCells g n [.string ⟨#[]⟩]) := fun ty c' =>
        run_clearS _ ty g n c' (by rw [b5.cell n, Array.getElem?_eq_getElem (by rw [s5, H1.out]; omega)]; rfl) (b5.frozen n)
      (try simp only [Nat.zero_add, Nat.mul_one])
      generalize w.drew.setCells g n [] = w5 at *
      go_wp2_with fail
      go_ret
      obtain ⟨cur6, b6, s6, e6⟩ := blk_setCells [.string ⟨#[]⟩] w5 cur5 n b5
      have hlen := HEL.out
      have hN := HN.out
      have hL := HL.out
      have hW := HW.out
      have hsz := H1.out
      refine ⟨rfl, ⟨cur6, b6, by rw [s6, s5, hsz], by unfold maxLen; omega, by omega, fun j hj => ?_, fun x hx => h5 x (List.mem_of_mem_eraseIdx hx)⟩, k5.trans (keep_setCells _ _ _)⟩
      rw [hlen] at hj
      rw [e6 j, if_neg (by simp; omega), e5 j]
      rw [List.getElem_eraseIdx]
      by_cases hji : j < n
      · rw [if_neg (by omega), dif_pos hji]
        exact H4.out j (by omega)
      · rw [if_pos (by omega), dif_neg hji, hW]
        simp only [List.getElem?_map, List.getElem?_drop]
        rw [show n + 1 + (j - n) = j + 1 by omega, List.getElem?_eq_getElem (by omega)]
        rfl
  · have z7 : (i : Int) + 1 ≤ (c : Int) := by omega
    have z8 : ¬ (c : Int) = (i : Int) + 1 := by omega
    have z9 : ¬ c = i + 1 := hc
    go_region_law (refine step_append_room rfl (.tmp 22) (.tmp 25) 34 rfl 9 i0 1 Try.underlying34 hi0 hq1 g 0 i c (by simp [Act.eval, Act.put]) ⟨g, i + 1, none⟩ (n - i) (c - (i + 1)) news (by simp [Act.eval, Act.put] <;> omega) (by rw [HL.out]; omega) (fun j u hu => by rw [Addr.add_mid]; exact HC.out j u hu) HO.out (by omega) (fun j hj => by have := HL.out; rw [show 0 + i * 1 + j = i + j by omega]; exact HS.out (i + j) (by omega)) ?_)
    all_goals
      obtain ⟨cur5, b5, s5, e5⟩ := blk_setCells news w.drew cur i hb
      have k5 : Keep [g] w (w.drew.setCells g i news) := (Keep.refl _ _).drew.trans (keep_setCells news w.drew i)
      simp only [show i + (n - i) = n by omega]
      have hcl : ∀ ty c', (Builtin.clear_ #[34] ty #[.slice (some ⟨g, n, none⟩) 1 c']).run Try.prog (w.drew.setCells g i news) = .ok (.tuple #[]) ((w.drew.setCells g i news).setCells g n [.string ⟨#[]⟩]) := fun ty c' =>
        run_clearS _ ty g n c' (by rw [b5.cell n, Array.getElem?_eq_getElem (by rw [s5, H1.out]; omega)]; rfl) (b5.frozen n)
      (try simp only [Nat.zero_add, Nat.mul_one])
      generalize w.drew.setCells g i news = w5 at *
      go_wp2_with fail
      go_ret
      obtain ⟨cur6, b6, s6, e6⟩ := blk_setCells [.string ⟨#[]⟩] w5 cur5 n b5
      have hlen := HEL.out
      have hN := HN.out
      have hL := HL.out
      have hW := HW.out
      have hsz := H1.out
      refine ⟨rfl, ⟨cur6, b6, by rw [s6, s5, hsz], by unfold maxLen; omega, by omega, fun j hj => ?_, fun x hx => h5 x (List.mem_of_mem_eraseIdx hx)⟩, k5.trans (keep_setCells _ _ _)⟩
      rw [hlen] at hj
      rw [e6 j, if_neg (by simp; omega), e5 j]
      rw [List.getElem_eraseIdx]
      by_cases hji : j < i
      · rw [if_neg (by omega), dif_pos hji]
        exact H4.out j (by omega)
      · rw [if_pos (by omega), dif_neg hji, hW]
        simp only [List.getElem?_map, List.getElem?_drop]
        rw [show i + 1 + (j - i) = j + 1 by omega, List.getElem?_eq_getElem (by omega)]
        rfl
end Go.Proofs.Ytpndbidpennlcaa
