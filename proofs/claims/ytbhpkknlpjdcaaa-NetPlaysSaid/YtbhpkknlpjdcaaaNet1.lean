import Derived.Test.YtbhpkknlpjdcaaaNetRight
import Derived.Test.YtbhpkknlpjdcaaaDel2
namespace Go.Proofs.Ytbhpkknlpjdcaaa
open Go.RowKit
set_option linter.unusedVariables false
set_option linter.unusedSimpArgs false
/-! net: bytes on their way -/
def NAt (w : World) (n : Nat) (v : Value) (s : Int) : Prop := Blk w n #[v, .int .i64 s] 57
theorem nnew_call (w : World) : Calls Try.prog 7 #[] w fun e w' => ∃ n, e = .returned (.pointer (some ⟨n, 0, none⟩)) ∧ w.heap.size ≤ n ∧ NAt w' n (.slice none 0 0) 0 ∧ Keep [] w w' := by
  go_enter Try.func7, Try.ntmps7
  go_wp2
  go_ret
  exact ⟨w.heap.size, rfl, Nat.le_refl _, Blk.new _ _ _, (Keep.refl _ _).alloc _⟩
theorem nlen_call (n : Nat) (A : Option Addr) (a c : Nat) (s : Int) (w : World) (h : NAt w n (.slice A a c) s) :
    Calls Try.prog 13 #[.pointer (some ⟨n, 0, none⟩)] w fun e w' => e = .returned (.int .i64 (a : Nat)) ∧ w = w' := by
  have c0 : w.cell? ⟨n, 0, none⟩ = some (.slice A a c) := Blk.cell h 0
  clear h
  go_enter Try.func13, Try.ntmps13
  go_wp2
  go_ret
  exact ⟨rfl, rfl⟩
theorem nsent_call (n : Nat) (v : Value) (s : Int) (w : World) (h : NAt w n v s) :
    Calls Try.prog 18 #[.pointer (some ⟨n, 0, none⟩)] w fun e w' => e = .returned (.int .i64 s) ∧ w = w' := by
  have c0 : w.cell? ⟨n, 1, none⟩ = some (.int .i64 s) := Blk.cell h 1
  clear h
  go_enter Try.func18, Try.ntmps18
  go_wp2
  go_ret
  exact ⟨rfl, rfl⟩
theorem nadd_full (n : Nat) (b : ByteArray) (A : Option Addr) (a c : Nat) (s : Int) (w : World) (h : NAt w n (.slice A a c) s) (ha : 2000 ≤ a) :
    Calls Try.prog 38 #[.pointer (some ⟨n, 0, none⟩), .string b] w fun e w' => e = .returned (.bool false) ∧ w = w' := by
  have c0 : w.cell? ⟨n, 0, none⟩ = some (.slice A a c) := Blk.cell h 0
  have ha2 : (2000 : Int) ≤ (a : Int) := by omega
  clear h
  go_enter Try.func38, Try.ntmps38
  go_wp2
  go_ret
  exact ⟨rfl, rfl⟩
theorem infoStrN : (Try.prog.info? 9).map (fun i => (i.zero, i.size, i.bytes)) = some (some (.string ⟨#[]⟩), 1, 16) := by kernel_rfl
theorem Own.strKeep {w w' : World} {lo : Nat} {v : Value} {xs : List ByteArray} (h : Own Rep.str 9 w lo v xs) (hk : ∀ k, v.ownBlock = some k → w'.heap[k]? = w.heap[k]?) : Own Rep.str 9 w' lo v xs := by
  obtain ⟨⟨hl, h1⟩, h2⟩ := own_strs h
  refine own_of_strs ⟨hl, ?_⟩ h2
  rcases h1 with h1 | ⟨g, cap, cur, rfl, hlo, hb, rest⟩
  · exact .inl h1
  · exact .inr ⟨g, cap, cur, rfl, hlo, (hk g rfl).trans hb, rest⟩
set_option maxHeartbeats 2000000 in
theorem nadd_room (n : Nat) (b : ByteArray) (A : Option Addr) (c : Nat) (xs : List ByteArray) (s : Int) (w : World) (hb : b.size ≤ M47)
    (h : NAt w n (.slice A xs.length c) s) (ho : Own Rep.str 9 w 0 (.slice A xs.length c) xs) (hq : (Value.slice A xs.length c).ownBlock ≠ some n) (hn : xs.length < 2000) :
    Calls Try.prog 38 #[.pointer (some ⟨n, 0, none⟩), .string b] w fun e w' => e = .returned (.bool true) ∧ ∃ g c', NAt w' n (.slice (some ⟨g, 0, none⟩) (xs.length + 1) c') s ∧
      Own Rep.str 9 w' 0 (.slice (some ⟨g, 0, none⟩) (xs.length + 1) c') (xs ++ [b]) ∧ ((Value.slice A xs.length c).ownBlock = some g ∨ w.heap.size ≤ g) ∧ Keep (n :: (Value.slice A xs.length c).ownBlock.toList) w w' := by
  have hlt : ¬ (2000 : Int) ≤ (xs.length : Int) := by omega
  have e0 : w.cell? ⟨n, 0, none⟩ = some (.slice A xs.length c) := Blk.cell h 0
  have hq2 : some n ≠ (Value.slice A xs.length c).ownBlock := fun e => hq e.symm
  have hnl := Blk.lt h
  have H := Lib.hid h
  have HO := Lib.hid ho
  clear h ho
  go_enter Try.func38, Try.ntmps38
  go_wp2_with (first | (at_builtin; refine wpList_app Rep.str rfl (.tmp 15) (.tmp 17) 26 9 _ 16 0 rfl Try.underlying26 infoStrN rfl (by decide) (by decide) _ (.slice A xs.length c) xs b _ (by simp [Act.eval, Act.put]) (by simp [Act.eval, Act.put]) HO.out ⟨rfl, hb⟩ (by simp [Value.oneCell']) (by omega) (Nat.zero_le _) ?_; intro gg cap w7 ho7 hg7 hat7 hlt7 hlo7; have b7 : NAt w7 n (.slice A xs.length c) s := (hg7.block _ hnl hq2).trans H.out; have c7 : w7.cell? ⟨n, 0, none⟩ = some (.slice A xs.length c) := Blk.cell b7 0; have f7 := Blk.frozen b7 0; replace ho7 := Lib.hid ho7; replace hg7 := Lib.hid hg7; replace hat7 := Lib.hid hat7) | go_in)
  go_ret
  have hg7 := hg7.out
  have ho7 := ho7.out
  have hat7 := hat7.out
  have hgq : ¬ n = gg := by
    rcases hat7 with e | e
    · intro he; subst he; exact hq e
    · omega
  refine ⟨rfl, gg, cap, by simpa [NAt] using Blk.set b7 0 (.slice (some ⟨gg, 0, none⟩) (xs.length + 1) cap), ?_, ?_, ?_⟩
  · refine ho7.strKeep (fun k hk => ?_)
    have hk : gg = k := by simpa [Value.ownBlock] using hk
    exact Below.heap_setCell _ _ _ _ (by simp; omega)
  · rcases hat7 with e | e
    · exact .inl e
    · exact .inr (by omega)
  · refine Keep.setCell ?_ _ _ (.inl (by simp))
    exact (Keep.refl (n :: (Value.slice A xs.length c).ownBlock.toList) w).grown hg7 (fun i hi => .inl (by rw [hi]; simp))
/-- (i % n + n) % n -/
def atF (i : Int) (n : Nat) : Nat := (Int.tmod (Int.tmod i n + n) n).toNat
theorem atF_lt (i : Int) (n : Nat) (h : 0 < n) : atF i n < n := by
  unfold atF
  have h1 : 0 ≤ Int.tmod i n + n := by have := Int.lt_tmod_of_pos i (b := (n : Int)) (by omega); omega
  have h2 := Int.tmod_lt_of_pos (Int.tmod i n + n) (b := (n : Int)) (by omega)
  omega
theorem atF_eq (i : Int) (n : Nat) (h : 0 < n) : Int.tmod (Int.tmod i n + n) n = (atF i n : Int) := by
  unfold atF
  have h1 : 0 ≤ Int.tmod i n + n := by have := Int.lt_tmod_of_pos i (b := (n : Int)) (by omega); omega
  have h2 := Int.tmod_nonneg (n : Int) h1
  omega
theorem atF_wrap (i : Int) (n : Nat) (h : 0 < n) (hn : n ≤ 1000000) : (RowKit.wrap64 (Int.tmod i n + n)).tmod n = (atF i n : Int) := by
  have h1 := Int.lt_tmod_of_pos i (b := (n : Int)) (by omega)
  have h2 := Int.tmod_lt_of_pos i (b := (n : Int)) (by omega)
  rw [show RowKit.wrap64 (Int.tmod i n + n) = Int.tmod i n + n by unfold RowKit.wrap64; omega]
  exact atF_eq i n h
theorem atF_wrap2 (i : Int) (n : Nat) (h : 0 < n) (hn : n ≤ 1000000) : (IntKind.i64.wrap (Int.tmod i n + n)).tmod n = (atF i n : Int) := by
  have h1 := Int.lt_tmod_of_pos i (b := (n : Int)) (by omega)
  have h2 := Int.tmod_lt_of_pos i (b := (n : Int)) (by omega)
  rw [show IntKind.i64.wrap (Int.tmod i n + n) = Int.tmod i n + n by rw [IntKind.wrap_i64]; omega]
  exact atF_eq i n h
theorem nat_call (n : Nat) (A : Option Addr) (a c : Nat) (s i : Int) (w : World) (h : NAt w n (.slice A a c) s) (ha : 0 < a) (ha2 : a ≤ 1000000) :
    Calls Try.prog 39 #[.pointer (some ⟨n, 0, none⟩), .int .i64 i] w fun e w' => e = .returned (.int .i64 (atF i a : Nat)) ∧ Keep [] w w' := by
  have c0 : w.cell? ⟨n, 0, none⟩ = some (.slice A a c) := Blk.cell h 0
  have z0 : ((a : Int) == 0) = false := by rw [beq_eq_false_iff_ne]; omega
  have z1 : ¬ (a : Int) = 0 := by omega
  have z2 := atF_wrap i a ha ha2
  have z3 : (IntKind.i64.wrap (Int.tmod i a + a)).tmod a = (atF i a : Int) := atF_wrap2 i a ha ha2
  have z4 := atF_lt i a ha
  generalize atF i a = p at *
  clear h
  go_enter Try.func39, Try.ntmps39
  go_wp2_with fail
  go_quiet (fail)
  go_wp2
  go_ret
  exact ⟨rfl, (Keep.refl _ _).drewN _⟩
end Go.Proofs.Ytbhpkknlpjdcaaa
