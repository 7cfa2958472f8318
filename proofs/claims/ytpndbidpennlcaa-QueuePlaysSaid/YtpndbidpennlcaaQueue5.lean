import Derived.Test.YtpndbidpennlcaaQueue4
namespace Go.Proofs.Ytpndbidpennlcaa
open Go.RowKit
set_option linter.unusedVariables false
set_option linter.unusedSimpArgs false
/-! the queue as a state: both lanes' bytes, what was dropped, its blocks -/
def QS (w : World) (S : List Nat) (q : Nat) (xs ys : List ByteArray) (d : Int) : Prop :=
  ∃ A B c1 c2, QAt w q (.slice A xs.length c1) (.slice B ys.length c2) d ∧ Own Rep.str 9 w 0 (.slice A xs.length c1) xs ∧ Own Rep.str 9 w 0 (.slice B ys.length c2) ys ∧
    (Value.slice A xs.length c1).ownBlock ≠ some q ∧ (Value.slice B ys.length c2).ownBlock ≠ some q ∧ (∀ k, (Value.slice A xs.length c1).ownBlock = some k → (Value.slice B ys.length c2).ownBlock ≠ some k) ∧
    S = q :: ((Value.slice A xs.length c1).ownBlock.toList ++ (Value.slice B ys.length c2).ownBlock.toList)
theorem QS.keep {w w' : World} {S T : List Nat} {q : Nat} {xs ys : List ByteArray} {d : Int} (h : QS w S q xs ys d) (k : Keep T w w') (hT : ∀ i, i ∈ T → i ∉ S) : QS w' S q xs ys d := by
  obtain ⟨A, B, c1, c2, h1, h2, h3, h4, h5, h6, rfl⟩ := h
  refine ⟨A, B, c1, c2, Blk.keep h1 k (fun hm => hT _ hm (by simp)), h2.strKeep (fun i hi => k.block i (h2.lt i hi).2 (fun hm => hT _ hm (by simp [hi]))), h3.strKeep (fun i hi => k.block i (h3.lt i hi).2 (fun hm => hT _ hm (by simp [hi]))), h4, h5, h6, rfl⟩
theorem QS.lt {w : World} {S : List Nat} {q : Nat} {xs ys : List ByteArray} {d : Int} (h : QS w S q xs ys d) : ∀ k, k ∈ S → k < w.heap.size := by
  obtain ⟨A, B, c1, c2, h1, h2, h3, h4, h5, h6, rfl⟩ := h
  intro k hk
  simp only [List.mem_cons, List.mem_append, Option.mem_toList] at hk
  rcases hk with rfl | hk | hk
  · exact Blk.lt h1
  · exact (h2.lt k hk).2
  · exact (h3.lt k hk).2
theorem qnew_QS (w : World) : Calls Try.prog 7 #[] w fun e w' => ∃ q, e = .returned (.pointer (some ⟨q, 0, none⟩)) ∧ QS w' [q] q [] [] 0 ∧ w.heap.size ≤ q ∧ Keep [] w w' := by
  refine (qnew_call w).mono ?_
  rintro e w' ⟨q, rfl, hq, h, k⟩
  exact ⟨q, rfl, ⟨none, none, 0, 0, h, Own.nil _ _ _ _, Own.nil _ _ _ _, by simp [Value.ownBlock], by simp [Value.ownBlock], by simp [Value.ownBlock], by simp [Value.ownBlock]⟩, hq, k⟩
theorem qlen_QS {w : World} {S : List Nat} {q : Nat} {xs ys : List ByteArray} {d : Int} (h : QS w S q xs ys d) (ha : xs.length ≤ 1000000) (hb : ys.length ≤ 1000000) :
    Calls Try.prog 14 #[.pointer (some ⟨q, 0, none⟩)] w fun e w' => e = .returned (.int .i64 ((xs.length : Int) + ys.length)) ∧ Keep [] w w' := by
  obtain ⟨A, B, c1, c2, h1, -⟩ := h
  exact qlen_call q A B _ _ c1 c2 d w h1 ha hb
theorem qdropped_QS {w : World} {S : List Nat} {q : Nat} {xs ys : List ByteArray} {d : Int} (h : QS w S q xs ys d) :
    Calls Try.prog 11 #[.pointer (some ⟨q, 0, none⟩)] w fun e w' => e = .returned (.int .i64 d) ∧ w = w' := by
  obtain ⟨A, B, c1, c2, h1, -⟩ := h
  exact qdropped_call q _ _ d w h1
theorem qlanes_QS {w : World} {S : List Nat} {q : Nat} {xs ys : List ByteArray} {d : Int} (h : QS w S q xs ys d) :
    Calls Try.prog 10 #[.pointer (some ⟨q, 0, none⟩)] w fun e w' => e = .returned (.tuple #[.int .i64 (xs.length : Nat), .int .i64 (ys.length : Nat)]) ∧ Keep [] w w' := by
  obtain ⟨A, B, c1, c2, h1, -⟩ := h
  exact qlanes_call q A B _ _ c1 c2 d w h1
theorem qclear_QS {w : World} {S : List Nat} {q : Nat} {xs ys : List ByteArray} {d : Int} (h : QS w S q xs ys d) :
    Calls Try.prog 18 #[.pointer (some ⟨q, 0, none⟩)] w fun e w' => e = .returned (.tuple #[]) ∧ QS w' [q] q [] [] d ∧ q ∈ S ∧ Keep [q] w w' := by
  obtain ⟨A, B, c1, c2, h1, h2, h3, h4, h5, h6, rfl⟩ := h
  refine (qclear_call q A B _ _ c1 c2 d w h1).mono ?_
  rintro e w' ⟨rfl, h, k⟩
  exact ⟨rfl, ⟨none, none, 0, 0, h, Own.nil _ _ _ _, Own.nil _ _ _ _, by simp [Value.ownBlock], by simp [Value.ownBlock], by simp [Value.ownBlock], by simp [Value.ownBlock]⟩, by simp, k⟩
/-- What Push answers, and what is then. -/
def pushQ (b : ByteArray) (xs ys : List ByteArray) (d : Int) : Int × List ByteArray × List ByteArray × Int :=
  if (readMsgF b).2 ≠ 0 then ((readMsgF b).2, xs, ys, d)
  else if laneF (readMsgF b).1.k = 0 then (if xs.length < 64 then (0, xs ++ [b], ys, d) else (7, xs, ys, d + 1))
  else (if ys.length < 64 then (0, xs, ys ++ [b], d) else (7, xs, ys, d + 1))
theorem qpush_QS {w : World} {S : List Nat} {q : Nat} {xs ys : List ByteArray} {d : Int} (b : ByteArray) (h : QS w S q xs ys d) (hb : b.size ≤ M47) (h1 : xs.length ≤ 1000000) (h2 : ys.length ≤ 1000000) (hd : 0 ≤ d ∧ d ≤ 1000000) :
    Calls Try.prog 9 #[.pointer (some ⟨q, 0, none⟩), .string b] w fun e w' => e = .returned (.int .i64 (pushQ b xs ys d).1) ∧ ∃ S', QS w' S' q (pushQ b xs ys d).2.1 (pushQ b xs ys d).2.2.1 (pushQ b xs ys d).2.2.2 ∧ (∀ k, k ∈ S' → k ∈ S ∨ w.heap.size ≤ k) ∧ Keep S w w' := by
  have hS := h
  obtain ⟨A, B, c1, c2, g1, g2, g3, g4, g5, g6, rfl⟩ := h
  unfold pushQ
  by_cases h0 : (readMsgF b).2 ≠ 0
  · rw [if_pos h0]
    refine (qpush_bad q b w _ rfl h0).mono ?_
    rintro e w' ⟨rfl, k⟩
    exact ⟨rfl, _, hS.keep k (by simp), fun k hk => .inl hk, k.mono (by simp)⟩
  · rw [if_neg h0]
    have hr : readMsgF b = ((readMsgF b).1, 0) := by
      have : (readMsgF b).2 = 0 := by omega
      rw [← this]
    generalize (readMsgF b).1 = x at *
    have qlt := Blk.lt g1
    by_cases hl : laneF x.k = 0
    · rw [if_pos hl]
      by_cases hn : xs.length < 64
      · rw [if_pos hn]
        refine (qpush0 q b x A B c1 ys.length c2 xs d w hr hl hb g1 g2 g4 hn).mono ?_
        rintro e w' ⟨g, c', rfl, e1, e2, e3, k⟩
        have gq : g ≠ q := by
          rcases e3 with e3 | e3
          · rintro rfl; exact g4 e3
          · omega
        have gy : (Value.slice B ys.length c2).ownBlock ≠ some g := by
          intro he
          rcases e3 with e3 | e3
          · exact g6 g e3 he
          · have := (g3.lt g he).2; omega
        refine ⟨rfl, _, ⟨some ⟨g, 0, none⟩, B, c', c2, by simpa using e1, by simpa using e2, g3.strKeep (fun i hi => k.block i (g3.lt i hi).2 ?_), by simpa [Value.ownBlock] using gq, g5, ?_, rfl⟩, ?_, k.mono ?_⟩
        · simp only [List.mem_cons, Option.mem_toList, not_or]
          refine ⟨?_, fun hm => g6 i hm hi⟩
          rintro rfl
          exact g5 hi
        · intro i hi
          have : g = i := by simpa [Value.ownBlock] using hi
          subst this
          exact gy
        · intro i hi
          simp only [List.mem_cons, List.mem_append, Option.mem_toList] at hi ⊢
          rcases hi with rfl | hi | hi
          · exact .inl (.inl rfl)
          · have : g = i := by simpa [Value.ownBlock] using hi
            subst this
            rcases e3 with e3 | e3
            · exact .inl (.inr (.inl e3))
            · exact .inr e3
          · exact .inl (.inr (.inr hi))
        · intro i _ hi
          simp only [List.mem_cons, List.mem_append, Option.mem_toList] at hi ⊢
          rcases hi with rfl | hi
          · exact .inl rfl
          · exact .inr (.inl hi)
      · rw [if_neg hn]
        refine (qpush_busy0 q b x A B xs.length c1 ys.length c2 d w hr hl g1 (by omega) h1 hd).mono ?_
        rintro e w' ⟨rfl, e1, k⟩
        exact ⟨rfl, _, ⟨A, B, c1, c2, e1, g2.strKeep (fun i hi => k.block i (g2.lt i hi).2 (by simp; rintro rfl; exact g4 hi)), g3.strKeep (fun i hi => k.block i (g3.lt i hi).2 (by simp; rintro rfl; exact g5 hi)), g4, g5, g6, rfl⟩, fun i hi => .inl hi, k.mono (by intro i _ hi; simp at hi; simp [hi])⟩
    · rw [if_neg hl]
      have hl1 : laneF x.k = 1 := by
        unfold laneF at *
        split at hl
        · rw [if_pos (by assumption)]
        · exact absurd rfl hl
      by_cases hn : ys.length < 64
      · rw [if_pos hn]
        refine (qpush1 q b x B A c2 xs.length c1 ys d w hr hl1 hb g1 g3 g5 hn).mono ?_
        rintro e w' ⟨g, c', rfl, e1, e2, e3, k⟩
        have gq : g ≠ q := by
          rcases e3 with e3 | e3
          · rintro rfl; exact g5 e3
          · omega
        have gy : (Value.slice A xs.length c1).ownBlock ≠ some g := by
          intro he
          rcases e3 with e3 | e3
          · exact g6 g he e3
          · have := (g2.lt g he).2; omega
        refine ⟨rfl, _, ⟨A, some ⟨g, 0, none⟩, c1, c', by simpa using e1, g2.strKeep (fun i hi => k.block i (g2.lt i hi).2 ?_), by simpa using e2, g4, by simpa [Value.ownBlock] using gq, ?_, rfl⟩, ?_, k.mono ?_⟩
        · simp only [List.mem_cons, Option.mem_toList, not_or]
          refine ⟨?_, fun hm => g6 i hi hm⟩
          rintro rfl
          exact g4 hi
        · intro i hi hj
          have : g = i := by simpa [Value.ownBlock] using hj
          subst this
          exact gy hi
        · intro i hi
          simp only [List.mem_cons, List.mem_append, Option.mem_toList] at hi ⊢
          rcases hi with rfl | hi | hi
          · exact .inl (.inl rfl)
          · exact .inl (.inr (.inl hi))
          · have : g = i := by simpa [Value.ownBlock] using hi
            subst this
            rcases e3 with e3 | e3
            · exact .inl (.inr (.inr e3))
            · exact .inr e3
        · intro i _ hi
          simp only [List.mem_cons, List.mem_append, Option.mem_toList] at hi ⊢
          rcases hi with rfl | hi
          · exact .inl rfl
          · exact .inr (.inr hi)
      · rw [if_neg hn]
        refine (qpush_busy1 q b x B A ys.length c2 xs.length c1 d w hr hl1 g1 (by omega) h2 hd).mono ?_
        rintro e w' ⟨rfl, e1, k⟩
        exact ⟨rfl, _, ⟨A, B, c1, c2, e1, g2.strKeep (fun i hi => k.block i (g2.lt i hi).2 (by simp; rintro rfl; exact g4 hi)), g3.strKeep (fun i hi => k.block i (g3.lt i hi).2 (by simp; rintro rfl; exact g5 hi)), g4, g5, g6, rfl⟩, fun i hi => .inl hi, k.mono (by intro i _ hi; simp at hi; simp [hi])⟩
theorem qpop0_QS {w : World} {S : List Nat} {q : Nat} {d : Int} (i : Int) (h : QS w S q [] [] d) :
    Calls Try.prog 12 #[.pointer (some ⟨q, 0, none⟩), .int .i64 i] w fun e w' => e = .returned (.tuple #[.agg zMs, .bool false]) ∧ Keep [] w w' := by
  obtain ⟨A, B, c1, c2, g1, -⟩ := h
  exact qpop_none q A B c1 c2 d i w g1
/-- What is when the message at a place is out. -/
def popQ (p : Nat) (xs ys : List ByteArray) : List ByteArray × List ByteArray := if p < xs.length then (xs.eraseIdx p, ys) else (xs, ys.eraseIdx (p - xs.length))
theorem qpop_QS {w : World} {S : List Nat} {q : Nat} {xs ys : List ByteArray} {d : Int} (i : Int) (n p : Nat) (b : ByteArray) (h : QS w S q xs ys d) (hn : xs.length + ys.length = n) (hn2 : n ≤ 1000)
    (hp : Int.tmod (Int.tmod i n + n) n = (p : Int)) (hb : (xs ++ ys)[p]? = some b) :
    Calls Try.prog 12 #[.pointer (some ⟨q, 0, none⟩), .int .i64 i] w fun e w' => ∃ v1 v2 v3 v4, e = .returned (.tuple #[.agg (msgV (readMsgF b).1 v1 v2 v3 v4), .bool ((readMsgF b).2 == 0)]) ∧ MsOk w' (New w) (readMsgF b).1 v1 v2 v3 v4 ∧
      QS w' S q (popQ p xs ys).1 (popQ p xs ys).2 d ∧ Keep S w w' := by
  obtain ⟨A, B, c1, c2, g1, g2, g3, g4, g5, g6, rfl⟩ := h
  unfold popQ
  have hpn : p < xs.length + ys.length := by
    have := (List.getElem?_eq_some_iff.1 hb).1
    simpa using this
  by_cases hx : p < xs.length
  · rw [if_pos hx]
    obtain ⟨-, g, rfl, -, s⟩ := g2.strRow (by omega)
    have gq : g ≠ q := by rintro rfl; exact g4 rfl
    have hbx : xs[p] = b := by
      rw [List.getElem?_append_left hx, List.getElem?_eq_getElem hx] at hb
      simpa using hb
    refine (qpop0 q g B c1 ys.length c2 n p xs d i w g1 s gq hn hn2 hp hx).mono ?_
    rw [hbx]
    rintro e w' ⟨v1, v2, v3, v4, rfl, e1, e2, e3, k⟩
    refine ⟨v1, v2, v3, v4, rfl, e1, ⟨some ⟨g, 0, none⟩, B, c1, c2, e2, e3.own (Nat.zero_le _), g3.strKeep (fun i hi => k.block i (g3.lt i hi).2 ?_), by simpa [Value.ownBlock] using gq, g5, fun k hk => g6 k (by simpa [Value.ownBlock] using hk), by simp [Value.ownBlock]⟩, k.mono (by intro i _ hi; simp at hi; rcases hi with rfl | rfl <;> simp [Value.ownBlock])⟩
    simp only [List.mem_cons, List.not_mem_nil, or_false, not_or]
    refine ⟨?_, ?_⟩
    · rintro rfl; exact g5 hi
    · rintro rfl; exact g6 i rfl hi
  · rw [if_neg hx]
    obtain ⟨-, g, rfl, -, s⟩ := g3.strRow (by omega)
    have gq : g ≠ q := by rintro rfl; exact g5 rfl
    have hy : p - xs.length < ys.length := by omega
    have hbx : ys[p - xs.length] = b := by
      rw [List.getElem?_append_right (by omega), List.getElem?_eq_getElem hy] at hb
      simpa using hb
    refine (qpop1 q g A c2 xs.length c1 n (p - xs.length) ys d i w g1 s gq (by omega) hn2 (by rw [hp]; omega) hy).mono ?_
    rw [hbx]
    rintro e w' ⟨v1, v2, v3, v4, rfl, e1, e2, e3, k⟩
    refine ⟨v1, v2, v3, v4, rfl, e1, ⟨A, some ⟨g, 0, none⟩, c1, c2, e2, g2.strKeep (fun i hi => k.block i (g2.lt i hi).2 ?_), e3.own (Nat.zero_le _), g4, by simpa [Value.ownBlock] using gq, fun k hk => by have := g6 k hk; simpa [Value.ownBlock] using this, by simp [Value.ownBlock]⟩, k.mono (by intro i _ hi; simp at hi; rcases hi with rfl | rfl <;> simp [Value.ownBlock])⟩
    simp only [List.mem_cons, List.not_mem_nil, or_false, not_or]
    refine ⟨?_, ?_⟩
    · rintro rfl; exact g4 hi
    · rintro rfl; exact g6 i hi rfl
end Go.Proofs.Ytpndbidpennlcaa
