import Derived.Test.YtpndbidpennlcaaRefO
import Derived.Test.YtpndbidpennlcaaStrc2
import Derived.Test.YtpndbidpennlcaaLawMsg
import Derived.Test.YtpndbidpennlcaaDel2
namespace Go.Proofs.Ytpndbidpennlcaa
open Go.RowKit
set_option linter.unusedVariables false
set_option linter.unusedSimpArgs false
/-! the queue: small functions -/
def QAt (w : World) (q : Nat) (va vb : Value) (d : Int) : Prop := Blk w q #[va, vb, .int .i64 d] 63
def laneF (k : Int) : Int := if k = 4 ∨ k = 5 then 1 else 0
theorem lane_call (x : Ms) (v1 v2 v3 v4 : Value) (w : World) :
    Calls Try.prog 30 #[.agg (msgV x v1 v2 v3 v4)] w fun e w' => e = .returned (.int .i64 (laneF x.k)) ∧ Keep [] w w' := by
  have HE : Hid (laneF x.k = if x.k = 4 ∨ x.k = 5 then 1 else 0) := Lib.hid rfl
  generalize laneF x.k = out at *
  go_enter Try.func30, Try.ntmps30
  go_upto_region 1 with (first | ((with_reducible refine wl_box 38 (.tmp 0) ?_ ?_); (with_reducible rfl); refine sx_box rfl 38 (.tmp 0) rfl (msgV x v1 v2 v3 v4) rfl ?_; intro w0 b0 k0 z0; clear z0; (try simp only [Act.put, List.setIfInBounds_toArray, List.set_cons_zero, List.set_cons_succ])))
  have c0 : w0.cell? ⟨w.heap.size, 0, none⟩ = some (.int .i64 x.k) := b0.cell 0
  by_cases h4 : x.k = 4
  · have t4 : (x.k == 4) = true := by simp [h4]
    rw [if_pos (.inl h4)] at HE
    clear h4
    go_wp2
    go_ret
    exact ⟨by rw [HE.out]; rfl, k0⟩
  · have t4 : (x.k == 4) = false := by simp [h4]
    by_cases h5 : x.k = 5
    · have t5 : (x.k == 5) = true := by simp [h5]
      rw [if_pos (.inr h5)] at HE
      clear h4 h5
      go_wp2
      go_ret
      exact ⟨by rw [HE.out]; rfl, k0⟩
    · have t5 : (x.k == 5) = false := by simp [h5]
      rw [if_neg (by omega)] at HE
      clear h4 h5
      go_wp2
      go_ret
      exact ⟨by rw [HE.out]; rfl, k0⟩
theorem qnew_call (w : World) : Calls Try.prog 7 #[] w fun e w' => ∃ q, e = .returned (.pointer (some ⟨q, 0, none⟩)) ∧ w.heap.size ≤ q ∧ QAt w' q (.slice none 0 0) (.slice none 0 0) 0 ∧ Keep [] w w' := by
  go_enter Try.func7, Try.ntmps7
  go_wp2
  go_ret
  exact ⟨w.heap.size, rfl, Nat.le_refl _, Blk.new _ _ _, (Keep.refl _ _).alloc _⟩
theorem qlen_call (q : Nat) (A B : Option Addr) (a b c1 c2 : Nat) (d : Int) (w : World) (h : QAt w q (.slice A a c1) (.slice B b c2) d) (ha : a ≤ 1000000) (hb : b ≤ 1000000) :
    Calls Try.prog 14 #[.pointer (some ⟨q, 0, none⟩)] w fun e w' => e = .returned (.int .i64 ((a : Int) + b)) ∧ Keep [] w w' := by
  have c0 : w.cell? ⟨q, 0, none⟩ = some (.slice A a c1) := Blk.cell h 0
  have c1 : w.cell? ⟨q, 1, none⟩ = some (.slice B b c2) := Blk.cell h 1
  go_enter Try.func14, Try.ntmps14
  go_wp2
  go_quiet (fail)
  go_wp2
  go_ret
  exact ⟨rfl, (Keep.refl _ _).drewN _⟩
theorem qdropped_call (q : Nat) (va vb : Value) (d : Int) (w : World) (h : QAt w q va vb d) :
    Calls Try.prog 11 #[.pointer (some ⟨q, 0, none⟩)] w fun e w' => e = .returned (.int .i64 d) ∧ w = w' := by
  have c0 : w.cell? ⟨q, 2, none⟩ = some (.int .i64 d) := Blk.cell h 2
  go_enter Try.func11, Try.ntmps11
  go_wp2
  go_ret
  exact ⟨rfl, rfl⟩
theorem qlanes_call (q : Nat) (A B : Option Addr) (a b c1 c2 : Nat) (d : Int) (w : World) (h : QAt w q (.slice A a c1) (.slice B b c2) d) :
    Calls Try.prog 10 #[.pointer (some ⟨q, 0, none⟩)] w fun e w' => e = .returned (.tuple #[.int .i64 (a : Nat), .int .i64 (b : Nat)]) ∧ Keep [] w w' := by
  have c0 : w.cell? ⟨q, 0, none⟩ = some (.slice A a c1) := Blk.cell h 0
  have c1 : w.cell? ⟨q, 1, none⟩ = some (.slice B b c2) := Blk.cell h 1
  go_enter Try.func10, Try.ntmps10
  go_wp2
  go_quiet (fail)
  go_wp2
  go_ret2
  exact ⟨rfl, (Keep.refl _ _).drewN _⟩
theorem qclear_call (q : Nat) (A B : Option Addr) (a b c1 c2 : Nat) (d : Int) (w : World) (h : QAt w q (.slice A a c1) (.slice B b c2) d) :
    Calls Try.prog 18 #[.pointer (some ⟨q, 0, none⟩)] w fun e w' => e = .returned (.tuple #[]) ∧ QAt w' q (.slice none 0 0) (.slice none 0 0) d ∧ Keep [q] w w' := by
  have c0 : w.cell? ⟨q, 0, none⟩ = some (.slice A a c1) := Blk.cell h 0
  have c1 : w.cell? ⟨q, 1, none⟩ = some (.slice B b c2) := Blk.cell h 1
  have f0 := Blk.frozen h 0
  have f1 := Blk.frozen h 1
  have H := Lib.hid h
  clear h
  go_enter Try.func18, Try.ntmps18
  go_wp2
  go_end0
  have h1 := ((Blk.set H.out 0 (.slice none 0 0)).set 1 (.slice none 0 0))
  exact ⟨rfl, by simpa [QAt] using h1, ((Keep.refl [q] w).setCell _ _ (.inl (by simp))).setCell _ _ (.inl (by simp))⟩
end Go.Proofs.Ytpndbidpennlcaa
namespace Go.Proofs.Ytpndbidpennlcaa
open Go.RowKit
set_option linter.unusedVariables false
set_option linter.unusedSimpArgs false
/-! the queue: Push -/
set_option maxHeartbeats 2000000 in
theorem qpush_bad (q : Nat) (b : ByteArray) (w : World) (m : Int) (hr : (readMsgF b).2 = m) (hm : m ≠ 0) :
    Calls Try.prog 9 #[.pointer (some ⟨q, 0, none⟩), .string b] w fun e w' => e = .returned (.int .i64 m) ∧ Keep [] w w' := by
  have hm2 : (m != 0) = true := by simpa using hm
  have HM := Lib.hid hm
  clear hm
  go_enter Try.func9, Try.ntmps9
  go_wp2_with fail
  refine (readMsg_call _ _).mono ?_
  rintro e w1 ⟨v1, v2, v3, v4, rfl, hok, k1⟩
  obtain ⟨A1, c1, rfl, -⟩ := hok.bs.form
  obtain ⟨A2, c2, rfl, -⟩ := hok.bq.form
  obtain ⟨A3, c3, rfl, -⟩ := hok.cs.form
  obtain ⟨A4, c4, rfl, -⟩ := hok.st.form
  rw [hr]
  clear hr hok
  go_wp2_with (first
    | ((with_reducible refine wl_alloc 38 ?_ ?_); (with_reducible rfl); refine sx_alloc rfl 38 rfl _ 21 zMs zMs_info rfl ?_; intro w2 b2 k2 z2; clear z2; (try simp only [Act.put, List.setIfInBounds_toArray, List.set_cons_zero, List.set_cons_succ]))
    | ((with_reducible refine wl_store 38 (.tmp 5) (.tmp 11) ?_ ?_); (with_reducible rfl); refine sx_storeW rfl 38 (.tmp 5) (.tmp 11) rfl w1.heap.size _ zMs _ 21 rfl rfl b2 zMs_size rfl rfl rfl ?_; intro w3 b3 k3 z3; clear z3; (try simp only [Act.put, List.setIfInBounds_toArray, List.set_cons_zero, List.set_cons_succ])))
  go_ret
  exact ⟨rfl, (k1.trans k2).new k3 (fun i hi => .inr (by have := k1.size; simp at hi; omega))⟩
theorem Own.strKeep {w w' : World} {lo : Nat} {v : Value} {xs : List ByteArray} (h : Own Rep.str 9 w lo v xs) (hk : ∀ k, v.ownBlock = some k → w'.heap[k]? = w.heap[k]?) : Own Rep.str 9 w' lo v xs := by
  obtain ⟨⟨hl, h1⟩, h2⟩ := own_strs h
  refine own_of_strs ⟨hl, ?_⟩ h2
  rcases h1 with h1 | ⟨g, cap, cur, rfl, hlo, hb, rest⟩
  · exact .inl h1
  · exact .inr ⟨g, cap, cur, rfl, hlo, (hk g rfl).trans hb, rest⟩
theorem infoStr2 : (Try.prog.info? 9).map (fun i => (i.zero, i.size, i.bytes)) = some (some (.string ⟨#[]⟩), 1, 16) := by kernel_rfl
set_option maxHeartbeats 4000000 in
theorem qpush0 (q : Nat) (b : ByteArray) (x : Ms) (A B : Option Addr) (c n2 c2 : Nat) (xs : List ByteArray) (d : Int) (w : World) (hr : readMsgF b = (x, 0)) (hk : laneF x.k = 0) (hb : b.size ≤ M47)
    (h : QAt w q (.slice A xs.length c) (.slice B n2 c2) d) (ho : Own Rep.str 9 w 0 (.slice A xs.length c) xs) (hq : (Value.slice A xs.length c).ownBlock ≠ some q) (hn : xs.length < 64) :
    Calls Try.prog 9 #[.pointer (some ⟨q, 0, none⟩), .string b] w fun e w' => ∃ g c', e = .returned (.int .i64 0) ∧ QAt w' q (.slice (some ⟨g, 0, none⟩) (xs.length + 1) c') (.slice B n2 c2) d ∧
      Own Rep.str 9 w' 0 (.slice (some ⟨g, 0, none⟩) (xs.length + 1) c') (xs ++ [b]) ∧ ((Value.slice A xs.length c).ownBlock = some g ∨ w.heap.size ≤ g) ∧ Keep (q :: (Value.slice A xs.length c).ownBlock.toList) w w' := by
  have hlt : ¬ (64 : Int) ≤ (xs.length : Int) := by omega
  have HR := Lib.hid hr
  have HK := Lib.hid hk
  clear hr hk
  go_enter Try.func9, Try.ntmps9
  go_wp2_with fail
  refine (readMsg_call _ _).mono ?_
  rw [HR.out]
  rintro e w1 ⟨v1, v2, v3, v4, rfl, hok, k1⟩
  dsimp only at *
  obtain ⟨A1, c1, rfl, -⟩ := hok.bs.form
  obtain ⟨A2, d2, rfl, -⟩ := hok.bq.form
  obtain ⟨A3, c3, rfl, -⟩ := hok.cs.form
  obtain ⟨A4, c4, rfl, -⟩ := hok.st.form
  clear hok
  go_wp2_with (first
    | ((with_reducible refine wl_alloc 38 ?_ ?_); (with_reducible rfl); refine sx_alloc rfl 38 rfl _ 21 zMs zMs_info rfl ?_; intro w2 b2 k2 z2; clear z2; (try simp only [Act.put, List.setIfInBounds_toArray, List.set_cons_zero, List.set_cons_succ]))
    | ((with_reducible refine wl_store 38 (.tmp 5) (.tmp 11) ?_ ?_); (with_reducible rfl); refine sx_storeW rfl 38 (.tmp 5) (.tmp 11) rfl w1.heap.size _ zMs _ 21 rfl rfl b2 zMs_size rfl rfl rfl ?_; intro w3 b3 k3 z3; clear z3; (try simp only [Act.put, List.setIfInBounds_toArray, List.set_cons_zero, List.set_cons_succ]))
    | ((with_reducible refine wl_load 38 (.tmp 5) ?_ ?_); (with_reducible rfl); refine sx_loadW rfl 38 (.tmp 5) rfl w1.heap.size _ _ _ 21 rfl b3 Try.underlying38 rfl zMs_size rfl ?_; (try simp only [Act.put, List.setIfInBounds_toArray, List.set_cons_zero, List.set_cons_succ])))
  have kk3 : Keep [] w w3 := (k1.trans k2).new k3 (fun i hi => .inr (by have := k1.size; simp at hi; omega))
  refine (lane_call x _ _ _ _ _).mono ?_
  rintro e w4 ⟨rfl, k4⟩
  rw [HK.out]
  have kk4 := kk3.trans k4
  have h4 : QAt w4 q (.slice A xs.length c) (.slice B n2 c2) d := Blk.keep h kk4 (by simp)
  have o4 := ho.keep kk4 (by simp)
  have e0 : w4.cell? ⟨q, 0, none⟩ = some (.slice A xs.length c) := Blk.cell h4 0
  go_wp2_with fail
  have o5 : Own Rep.str 9 w4.drew 0 (.slice A xs.length c) xs := o4.keep (Keep.refl [] _).drew (by simp)
  have h5 : QAt w4.drew q (.slice A xs.length c) (.slice B n2 c2) d := h4
  have d4 : ∀ o, (w4.drew.alloc o).cell? ⟨q, 0, none⟩ = some (.slice A xs.length c) := fun o => (Blk.alloc h5 o).cell 0
  have d5 : ∀ o, (w4.alloc o).cell? ⟨q, 0, none⟩ = some (.slice A xs.length c) := fun o => (Blk.alloc h4 o).cell 0
  have hq2 : some q ≠ (Value.slice A xs.length c).ownBlock := fun e => hq e.symm
  go_region_law (refine step_app Rep.str rfl (.tmp 40) (.tmp 42) 34 9 _ 16 0 rfl Try.underlying34 infoStr rfl (by decide) (by decide) _ (.slice A xs.length c) xs b _ (by simp [Act.eval, Act.put]) (by simp [Act.eval, Act.put]) o5 ⟨rfl, hb⟩ (by simp [Value.oneCell']) (by omega) (Nat.zero_le _) ?_; intro gg cap w7 ho7 hg7 hat7 hlt7 hlo7; have b7 : QAt w7 q (.slice A xs.length c) (.slice B n2 c2) d := (hg7.block _ (Blk.lt h5) hq2).trans h5; have c7 : w7.cell? ⟨q, 0, none⟩ = some (.slice A xs.length c) := Blk.cell b7 0; have f7 := Blk.frozen b7 0)
  all_goals
    go_wp2
    go_ret
    have hgq : ¬ q = gg := by
      rcases hat7 with e | e
      · intro he; subst he; exact hq e
      · have := Blk.lt h4; have : w4.drew.heap.size = w4.heap.size := rfl; omega
    refine ⟨gg, cap, rfl, by simpa [QAt] using Blk.set b7 0 (.slice (some ⟨gg, 0, none⟩) (xs.length + 1) cap), ho7.strKeep (fun k hk => ?_), ?_, ?_⟩
    · have hk : gg = k := by simpa [Value.ownBlock] using hk
      exact Below.heap_setCell _ _ _ _ (by simp; omega)
    · rcases hat7 with e | e
      · exact .inl e
      · have := kk4.size; have : w4.drew.heap.size = w4.heap.size := rfl; exact .inr (by omega)
    · refine Keep.setCell ?_ _ _ (.inl (by simp))
      exact ((kk4.mono (T := q :: (Value.slice A xs.length c).ownBlock.toList) (by simp)).drew).grown hg7 (fun i hi => .inl (by rw [hi]; simp))
set_option maxHeartbeats 4000000 in
theorem qpush1 (q : Nat) (b : ByteArray) (x : Ms) (A B : Option Addr) (c n2 c2 : Nat) (xs : List ByteArray) (d : Int) (w : World) (hr : readMsgF b = (x, 0)) (hk : laneF x.k = 1) (hb : b.size ≤ M47)
    (h : QAt w q (.slice B n2 c2) (.slice A xs.length c) d) (ho : Own Rep.str 9 w 0 (.slice A xs.length c) xs) (hq : (Value.slice A xs.length c).ownBlock ≠ some q) (hn : xs.length < 64) :
    Calls Try.prog 9 #[.pointer (some ⟨q, 0, none⟩), .string b] w fun e w' => ∃ g c', e = .returned (.int .i64 0) ∧ QAt w' q (.slice B n2 c2) (.slice (some ⟨g, 0, none⟩) (xs.length + 1) c') d ∧
      Own Rep.str 9 w' 0 (.slice (some ⟨g, 0, none⟩) (xs.length + 1) c') (xs ++ [b]) ∧ ((Value.slice A xs.length c).ownBlock = some g ∨ w.heap.size ≤ g) ∧ Keep (q :: (Value.slice A xs.length c).ownBlock.toList) w w' := by
  have hlt : ¬ (64 : Int) ≤ (xs.length : Int) := by omega
  have HR := Lib.hid hr
  have HK := Lib.hid hk
  clear hr hk
  go_enter Try.func9, Try.ntmps9
  go_wp2_with fail
  refine (readMsg_call _ _).mono ?_
  rw [HR.out]
  rintro e w1 ⟨v1, v2, v3, v4, rfl, hok, k1⟩
  dsimp only at *
  obtain ⟨A1, c1, rfl, -⟩ := hok.bs.form
  obtain ⟨A2, d2, rfl, -⟩ := hok.bq.form
  obtain ⟨A3, c3, rfl, -⟩ := hok.cs.form
  obtain ⟨A4, c4, rfl, -⟩ := hok.st.form
  clear hok
  go_wp2_with (first
    | ((with_reducible refine wl_alloc 38 ?_ ?_); (with_reducible rfl); refine sx_alloc rfl 38 rfl _ 21 zMs zMs_info rfl ?_; intro w2 b2 k2 z2; clear z2; (try simp only [Act.put, List.setIfInBounds_toArray, List.set_cons_zero, List.set_cons_succ]))
    | ((with_reducible refine wl_store 38 (.tmp 5) (.tmp 11) ?_ ?_); (with_reducible rfl); refine sx_storeW rfl 38 (.tmp 5) (.tmp 11) rfl w1.heap.size _ zMs _ 21 rfl rfl b2 zMs_size rfl rfl rfl ?_; intro w3 b3 k3 z3; clear z3; (try simp only [Act.put, List.setIfInBounds_toArray, List.set_cons_zero, List.set_cons_succ]))
    | ((with_reducible refine wl_load 38 (.tmp 5) ?_ ?_); (with_reducible rfl); refine sx_loadW rfl 38 (.tmp 5) rfl w1.heap.size _ _ _ 21 rfl b3 Try.underlying38 rfl zMs_size rfl ?_; (try simp only [Act.put, List.setIfInBounds_toArray, List.set_cons_zero, List.set_cons_succ])))
  have kk3 : Keep [] w w3 := (k1.trans k2).new k3 (fun i hi => .inr (by have := k1.size; simp at hi; omega))
  refine (lane_call x _ _ _ _ _).mono ?_
  rintro e w4 ⟨rfl, k4⟩
  rw [HK.out]
  have kk4 := kk3.trans k4
  have h4 : QAt w4 q (.slice B n2 c2) (.slice A xs.length c) d := Blk.keep h kk4 (by simp)
  have o4 := ho.keep kk4 (by simp)
  have e0 : w4.cell? ⟨q, 1, none⟩ = some (.slice A xs.length c) := Blk.cell h4 1
  go_wp2_with fail
  have o5 : Own Rep.str 9 w4.drew 0 (.slice A xs.length c) xs := o4.keep (Keep.refl [] _).drew (by simp)
  have h5 : QAt w4.drew q (.slice B n2 c2) (.slice A xs.length c) d := h4
  have d4 : ∀ o, (w4.drew.alloc o).cell? ⟨q, 1, none⟩ = some (.slice A xs.length c) := fun o => (Blk.alloc h5 o).cell 1
  have d5 : ∀ o, (w4.alloc o).cell? ⟨q, 1, none⟩ = some (.slice A xs.length c) := fun o => (Blk.alloc h4 o).cell 1
  have hq2 : some q ≠ (Value.slice A xs.length c).ownBlock := fun e => hq e.symm
  go_region_law (refine step_app Rep.str rfl (.tmp 40) (.tmp 42) 34 9 _ 16 0 rfl Try.underlying34 infoStr rfl (by decide) (by decide) _ (.slice A xs.length c) xs b _ (by simp [Act.eval, Act.put]) (by simp [Act.eval, Act.put]) o5 ⟨rfl, hb⟩ (by simp [Value.oneCell']) (by omega) (Nat.zero_le _) ?_; intro gg cap w7 ho7 hg7 hat7 hlt7 hlo7; have b7 : QAt w7 q (.slice B n2 c2) (.slice A xs.length c) d := (hg7.block _ (Blk.lt h5) hq2).trans h5; have c7 : w7.cell? ⟨q, 1, none⟩ = some (.slice A xs.length c) := Blk.cell b7 1; have f7 := Blk.frozen b7 1)
  all_goals
    go_wp2
    go_ret
    have hgq : ¬ q = gg := by
      rcases hat7 with e | e
      · intro he; subst he; exact hq e
      · have := Blk.lt h4; have : w4.drew.heap.size = w4.heap.size := rfl; omega
    refine ⟨gg, cap, rfl, by simpa [QAt] using Blk.set b7 1 (.slice (some ⟨gg, 0, none⟩) (xs.length + 1) cap), ho7.strKeep (fun k hk => ?_), ?_, ?_⟩
    · have hk : gg = k := by simpa [Value.ownBlock] using hk
      exact Below.heap_setCell _ _ _ _ (by simp; omega)
    · rcases hat7 with e | e
      · exact .inl e
      · have := kk4.size; have : w4.drew.heap.size = w4.heap.size := rfl; exact .inr (by omega)
    · refine Keep.setCell ?_ _ _ (.inl (by simp))
      exact ((kk4.mono (T := q :: (Value.slice A xs.length c).ownBlock.toList) (by simp)).drew).grown hg7 (fun i hi => .inl (by rw [hi]; simp))
set_option maxHeartbeats 4000000 in
theorem qpush_busy0 (q : Nat) (b : ByteArray) (x : Ms) (A B : Option Addr) (n c n2 c2 : Nat) (d : Int) (w : World) (hr : readMsgF b = (x, 0)) (hk : laneF x.k = 0)
    (h : QAt w q (.slice A n c) (.slice B n2 c2) d) (hn : 64 ≤ n) (hn2 : n ≤ 1000000) (hd : 0 ≤ d ∧ d ≤ 1000000) :
    Calls Try.prog 9 #[.pointer (some ⟨q, 0, none⟩), .string b] w fun e w' => e = .returned (.int .i64 7) ∧ QAt w' q (.slice A n c) (.slice B n2 c2) (d + 1) ∧ Keep [q] w w' := by
  have hlt : (64 : Int) ≤ (n : Int) := by omega
  obtain ⟨hd1, hd2⟩ := hd
  have HR := Lib.hid hr
  have HK := Lib.hid hk
  clear hr hk
  go_enter Try.func9, Try.ntmps9
  go_wp2_with fail
  refine (readMsg_call _ _).mono ?_
  rw [HR.out]
  rintro e w1 ⟨v1, v2, v3, v4, rfl, hok, k1⟩
  dsimp only at *
  obtain ⟨A1, c1, rfl, -⟩ := hok.bs.form
  obtain ⟨A2, d2, rfl, -⟩ := hok.bq.form
  obtain ⟨A3, c3, rfl, -⟩ := hok.cs.form
  obtain ⟨A4, c4, rfl, -⟩ := hok.st.form
  clear hok
  go_wp2_with (first
    | ((with_reducible refine wl_alloc 38 ?_ ?_); (with_reducible rfl); refine sx_alloc rfl 38 rfl _ 21 zMs zMs_info rfl ?_; intro w2 b2 k2 z2; clear z2; (try simp only [Act.put, List.setIfInBounds_toArray, List.set_cons_zero, List.set_cons_succ]))
    | ((with_reducible refine wl_store 38 (.tmp 5) (.tmp 11) ?_ ?_); (with_reducible rfl); refine sx_storeW rfl 38 (.tmp 5) (.tmp 11) rfl w1.heap.size _ zMs _ 21 rfl rfl b2 zMs_size rfl rfl rfl ?_; intro w3 b3 k3 z3; clear z3; (try simp only [Act.put, List.setIfInBounds_toArray, List.set_cons_zero, List.set_cons_succ]))
    | ((with_reducible refine wl_load 38 (.tmp 5) ?_ ?_); (with_reducible rfl); refine sx_loadW rfl 38 (.tmp 5) rfl w1.heap.size _ _ _ 21 rfl b3 Try.underlying38 rfl zMs_size rfl ?_; (try simp only [Act.put, List.setIfInBounds_toArray, List.set_cons_zero, List.set_cons_succ])))
  have kk3 : Keep [] w w3 := (k1.trans k2).new k3 (fun i hi => .inr (by have := k1.size; simp at hi; omega))
  refine (lane_call x _ _ _ _ _).mono ?_
  rintro e w4 ⟨rfl, k4⟩
  rw [HK.out]
  have kk4 := kk3.trans k4
  have h4 : QAt w4 q (.slice A n c) (.slice B n2 c2) d := Blk.keep h kk4 (by simp)
  have e0 : w4.cell? ⟨q, 0, none⟩ = some (.slice A n c) := Blk.cell h4 0
  have e2 : w4.cell? ⟨q, 2, none⟩ = some (.int .i64 d) := Blk.cell h4 2
  have f2 := Blk.frozen h4 2
  have H4 := Lib.hid h4
  clear h4 h
  go_wp2
  go_ret
  exact ⟨rfl, by simpa [QAt] using Blk.set H4.out 2 (.int .i64 (d + 1)), (kk4.mono (T := [q]) (by simp)).setCell _ _ (.inl (by simp))⟩
set_option maxHeartbeats 4000000 in
theorem qpush_busy1 (q : Nat) (b : ByteArray) (x : Ms) (A B : Option Addr) (n c n2 c2 : Nat) (d : Int) (w : World) (hr : readMsgF b = (x, 0)) (hk : laneF x.k = 1)
    (h : QAt w q (.slice B n2 c2) (.slice A n c) d) (hn : 64 ≤ n) (hn2 : n ≤ 1000000) (hd : 0 ≤ d ∧ d ≤ 1000000) :
    Calls Try.prog 9 #[.pointer (some ⟨q, 0, none⟩), .string b] w fun e w' => e = .returned (.int .i64 7) ∧ QAt w' q (.slice B n2 c2) (.slice A n c) (d + 1) ∧ Keep [q] w w' := by
  have hlt : (64 : Int) ≤ (n : Int) := by omega
  obtain ⟨hd1, hd2⟩ := hd
  have HR := Lib.hid hr
  have HK := Lib.hid hk
  clear hr hk
  go_enter Try.func9, Try.ntmps9
  go_wp2_with fail
  refine (readMsg_call _ _).mono ?_
  rw [HR.out]
  rintro e w1 ⟨v1, v2, v3, v4, rfl, hok, k1⟩
  dsimp only at *
  obtain ⟨A1, c1, rfl, -⟩ := hok.bs.form
  obtain ⟨A2, d2, rfl, -⟩ := hok.bq.form
  obtain ⟨A3, c3, rfl, -⟩ := hok.cs.form
  obtain ⟨A4, c4, rfl, -⟩ := hok.st.form
  clear hok
  go_wp2_with (first
    | ((with_reducible refine wl_alloc 38 ?_ ?_); (with_reducible rfl); refine sx_alloc rfl 38 rfl _ 21 zMs zMs_info rfl ?_; intro w2 b2 k2 z2; clear z2; (try simp only [Act.put, List.setIfInBounds_toArray, List.set_cons_zero, List.set_cons_succ]))
    | ((with_reducible refine wl_store 38 (.tmp 5) (.tmp 11) ?_ ?_); (with_reducible rfl); refine sx_storeW rfl 38 (.tmp 5) (.tmp 11) rfl w1.heap.size _ zMs _ 21 rfl rfl b2 zMs_size rfl rfl rfl ?_; intro w3 b3 k3 z3; clear z3; (try simp only [Act.put, List.setIfInBounds_toArray, List.set_cons_zero, List.set_cons_succ]))
    | ((with_reducible refine wl_load 38 (.tmp 5) ?_ ?_); (with_reducible rfl); refine sx_loadW rfl 38 (.tmp 5) rfl w1.heap.size _ _ _ 21 rfl b3 Try.underlying38 rfl zMs_size rfl ?_; (try simp only [Act.put, List.setIfInBounds_toArray, List.set_cons_zero, List.set_cons_succ])))
  have kk3 : Keep [] w w3 := (k1.trans k2).new k3 (fun i hi => .inr (by have := k1.size; simp at hi; omega))
  refine (lane_call x _ _ _ _ _).mono ?_
  rintro e w4 ⟨rfl, k4⟩
  rw [HK.out]
  have kk4 := kk3.trans k4
  have h4 : QAt w4 q (.slice B n2 c2) (.slice A n c) d := Blk.keep h kk4 (by simp)
  have e0 : w4.cell? ⟨q, 1, none⟩ = some (.slice A n c) := Blk.cell h4 1
  have e2 : w4.cell? ⟨q, 2, none⟩ = some (.int .i64 d) := Blk.cell h4 2
  have f2 := Blk.frozen h4 2
  have H4 := Lib.hid h4
  clear h4 h
  go_wp2
  go_ret
  exact ⟨rfl, by simpa [QAt] using Blk.set H4.out 2 (.int .i64 (d + 1)), (kk4.mono (T := [q]) (by simp)).setCell _ _ (.inl (by simp))⟩
end Go.Proofs.Ytpndbidpennlcaa
namespace Go.Proofs.Ytpndbidpennlcaa
open Go.RowKit
set_option linter.unusedVariables false
set_option linter.unusedSimpArgs false
/-! the queue: Pop -/
set_option maxHeartbeats 2000000 in
theorem qpop_none (q : Nat) (A B : Option Addr) (c1 c2 : Nat) (d i : Int) (w : World) (h : QAt w q (.slice A 0 c1) (.slice B 0 c2) d) :
    Calls Try.prog 12 #[.pointer (some ⟨q, 0, none⟩), .int .i64 i] w fun e w' => e = .returned (.tuple #[.agg zMs, .bool false]) ∧ Keep [] w w' := by
  go_enter Try.func12, Try.ntmps12
  go_wp2_with (first
    | ((with_reducible refine wl_alloc 38 ?_ ?_); (with_reducible rfl); refine sx_alloc rfl 38 rfl _ 21 zMs zMs_info rfl ?_; intro w2 b2 k2 z2; clear z2; (try simp only [Act.put, List.setIfInBounds_toArray, List.set_cons_zero, List.set_cons_succ])))
  refine (qlen_call q A B 0 0 c1 c2 d _ (Blk.keep h k2 (by simp)) (by omega) (by omega)).mono ?_
  rintro e w3 ⟨rfl, k3⟩
  have b3 := b2.keep k3 (by simp)
  go_wp2_with (first
    | ((with_reducible refine wl_build 38 _ ?_ ?_); (with_reducible rfl); refine sx_build rfl 38 _ rfl zMs (by kernel_rfl) ?_; (try simp only [Act.put, List.setIfInBounds_toArray, List.set_cons_zero, List.set_cons_succ]))
    | ((with_reducible refine wl_store 38 (.tmp 4) (.tmp 14) ?_ ?_); (with_reducible rfl); refine sx_storeW rfl 38 (.tmp 4) (.tmp 14) rfl w.heap.size _ zMs _ 21 rfl rfl b3 zMs_size rfl rfl rfl ?_; intro w4 b4 k4 z4; clear z4; (try simp only [Act.put, List.setIfInBounds_toArray, List.set_cons_zero, List.set_cons_succ])))
  refine ret_cell2 rfl rfl rfl b4 Try.underlying38 rfl zMs_size _ rfl ?_
  exact ⟨rfl, (k2.trans k3).new k4 (fun i hi => .inr (by simp at hi; omega))⟩
end Go.Proofs.Ytpndbidpennlcaa
