/- Whatever is pushed, popped, and cleared (at most 100 calls): each answer is the chapter's: the law QueuePlays returns true for every list of calls. -/
import Derived.Test.YtpndbidpennlcaaQueue14
import Derived.Test.YtpndbidpennlcaaOpenM
import Derived.Test.YtpndbidpennlcaaRep17
import Derived.Test.YtpndbidpennlcaaRows
import Derived.WalkKit
import Derived.ProofKit
import Derived.OpenShut
import Derived.ShutString
import Derived.ChangeOld
import Derived.Below
import Derived.SizedLaws
namespace Go.Proofs.Ytpndbidpennlcaa
open Go.RowKit
set_option linter.unusedVariables false
set_option linter.unusedSimpArgs false
/-! the queue and its reference side by side -/
def MidQ (w0 w : World) (q n top : Nat) (xs ys : List ByteArray) (d : Int) (a b : List Ms) (f : Int) (e : Option (Ms × Value × Value × Value × Value)) : Prop :=
  ∃ S G A B ca cb, QS w S q xs ys d ∧ (∀ k, k ∈ S → w0.heap.size ≤ k ∧ k < top) ∧ Keep [] w0 w ∧ (SliceOf Rep.ms w G (.slice A a.length ca) a ∧ SliceOf Rep.ms w G (.slice B b.length cb) b) ∧
    (∀ i, G i → i < w.heap.size ∧ i ∉ S ∧ i ≠ n) ∧ (n ∉ S ∧ w0.heap.size ≤ n) ∧ Blk w n #[.slice A a.length ca, .slice B b.length cb, .int .i64 f] 53 ∧ (∀ t, e = some t → MsOk w G t.1 t.2.1 t.2.2.1 t.2.2.2.1 t.2.2.2.2)
theorem MidQ.kept {w0 w : World} {q n top : Nat} {xs ys : List ByteArray} {d : Int} {a b : List Ms} {f : Int} {e : Option (Ms × Value × Value × Value × Value)} (h : MidQ w0 w q n top xs ys d a b f e) : Keep [] w0 w := by
  obtain ⟨S, G, A, B, ca, cb, h1, h2, h3, -⟩ := h
  exact h3
theorem MidQ.next {w0 w w' : World} {q n top : Nat} {xs ys : List ByteArray} {d : Int} {a b : List Ms} {f : Int} {e : Option (Ms × Value × Value × Value × Value)} (h : MidQ w0 w q n top xs ys d a b f e) (k : Keep [] w w') : MidQ w0 w' q n top xs ys d a b f e := by
  obtain ⟨S, G, A, B, ca, cb, h1, h2, h3, ⟨h4, h5⟩, h6, h7, h8, h9⟩ := h
  exact ⟨S, G, A, B, ca, cb, h1.keep k (by simp), h2, h3.trans k, ⟨h4.keep (k.at G (by simp)), h5.keep (k.at G (by simp))⟩, fun i hi => ⟨Nat.lt_of_lt_of_le (h6 i hi).1 k.size, (h6 i hi).2⟩, h7, h8.keep k (by simp), fun t ht => (h9 t ht).keep (k.at G (by simp))⟩
theorem MidQ.tops {w0 w : World} {q n top : Nat} {xs ys : List ByteArray} {d : Int} {a b : List Ms} {f : Int} {e : Option (Ms × Value × Value × Value × Value)} (h : MidQ w0 w q n top xs ys d a b f e) : MidQ w0 w q n w.heap.size xs ys d a b f none := by
  obtain ⟨S, G, A, B, ca, cb, h1, h2, h3, h4, h6, h7, h8, h9⟩ := h
  exact ⟨S, G, A, B, ca, cb, h1, fun k hk => ⟨(h2 k hk).1, h1.lt k hk⟩, h3, h4, h6, h7, h8, fun t ht => by cases ht⟩
theorem MidQ.blk {w0 w : World} {q n top : Nat} {xs ys : List ByteArray} {d : Int} {a b : List Ms} {f : Int} {e : Option (Ms × Value × Value × Value × Value)} (h : MidQ w0 w q n top xs ys d a b f e) :
    ∃ A B ca cb, Blk w n #[.slice A a.length ca, .slice B b.length cb, .int .i64 f] 53 := by
  obtain ⟨S, G, A, B, ca, cb, h1, h2, h3, h4, h6, h7, h8, h9⟩ := h
  exact ⟨A, B, ca, cb, h8⟩
theorem MidQ.msg {w0 w : World} {q n top : Nat} {xs ys : List ByteArray} {d : Int} {a b : List Ms} {f : Int} {x : Ms} {v1 v2 v3 v4 : Value} (h : MidQ w0 w q n top xs ys d a b f (some (x, v1, v2, v3, v4))) : ∃ F, MsOk w F x v1 v2 v3 v4 := by
  obtain ⟨S, G, A, B, ca, cb, h1, h2, h3, h4, h6, h7, h8, h9⟩ := h
  exact ⟨G, h9 _ rfl⟩
/-- The reference's side turned. -/
theorem midQ_turn {w0 w w' : World} {q n : Nat} {S : List Nat} {xs ys : List ByteArray} {d f' : Int} {a' b' : List Ms} {G' : Nat → Prop} {A' B' : Option Addr} {ca' cb' : Nat} {e : Option (Ms × Value × Value × Value × Value)}
    (h1 : QS w S q xs ys d) (h2 : ∀ k, k ∈ S → w0.heap.size ≤ k) (h3 : Keep [] w0 w) (hn : n ∉ S ∧ w0.heap.size ≤ n) (hnl : n < w.heap.size) (k : Keep [] w w') (hG' : ∀ i, G' i → i < w.heap.size → i ∉ S ∧ i ≠ n)
    (s1 : SliceOf Rep.ms w' G' (.slice A' a'.length ca') a') (s2 : SliceOf Rep.ms w' G' (.slice B' b'.length cb') b') (he : ∀ t, e = some t → MsOk w' G' t.1 t.2.1 t.2.2.1 t.2.2.2.1 t.2.2.2.2) (w2 : World) (k2 : Keep [n] w' w2)
    (hb : Blk w2 n #[.slice A' a'.length ca', .slice B' b'.length cb', .int .i64 f'] 53) : MidQ w0 w2 q n w.heap.size xs ys d a' b' f' e := by
  have hx : ∀ i, i ∈ [n] → ¬ (G' i ∧ i < w'.heap.size) := fun i hi hg => by
    obtain rfl : i = n := by simpa using hi
    exact (hG' i hg.1 hnl).2 rfl
  refine ⟨S, fun i => G' i ∧ i < w'.heap.size, A', B', ca', cb', (h1.keep k (by simp)).keep k2 (fun i hi => by rw [List.mem_singleton.1 hi]; exact hn.1), fun i hi => ⟨h2 i hi, h1.lt i hi⟩, (h3.trans k).new k2 (fun i hi => .inr (by rw [List.mem_singleton.1 hi]; exact hn.2)),
    ⟨(s1.mono (fun i hi hl => ⟨hi, hl⟩)).keep (k2.at _ hx), (s2.mono (fun i hi hl => ⟨hi, hl⟩)).keep (k2.at _ hx)⟩, fun i hi => ⟨Nat.lt_of_lt_of_le hi.2 k2.size, ?_⟩, hn, hb, fun t ht => ((he t ht).mono (fun i hi hl => ⟨hi, hl⟩)).keep (k2.at _ hx)⟩
  by_cases hl : i < w.heap.size
  · exact hG' i hi.1 hl
  · exact ⟨fun hm => hl (h1.lt i hm), fun e => hl (e ▸ hnl)⟩
theorem MidQ.push {w0 w : World} {q n top : Nat} {xs ys : List ByteArray} {d : Int} {a b : List Ms} {f : Int} (h : MidQ w0 w q n top xs ys d a b f none) (ha : a.length ≤ 64) (hb : b.length ≤ 64) (hf : 0 ≤ f ∧ f ≤ 1000000) :
    ∃ A B ca cb, Blk w n #[.slice A a.length ca, .slice B b.length cb, .int .i64 f] 53 ∧ ∀ (m : Ms) (v1 v2 v3 v4 : Value) (F : Nat → Prop), MsOk w F m v1 v2 v3 v4 → (∀ i, F i → i < w0.heap.size) →
      Calls Try.prog 16 #[.agg #[.slice A a.length ca, .slice B b.length cb, .int .i64 f], .agg (msgV m v1 v2 v3 v4)] w fun e w' => ∃ A' B' ca' cb',
        e = .returned (.tuple #[.agg #[.slice A' (pushR m a b f).2.1.length ca', .slice B' (pushR m a b f).2.2.1.length cb', .int .i64 (pushR m a b f).2.2.2], .int .i64 (pushR m a b f).1]) ∧ Keep [] w w' ∧
        ∀ w2, Keep [n] w' w2 → Blk w2 n #[.slice A' (pushR m a b f).2.1.length ca', .slice B' (pushR m a b f).2.2.1.length cb', .int .i64 (pushR m a b f).2.2.2] 53 → MidQ w0 w2 q n w.heap.size xs ys d (pushR m a b f).2.1 (pushR m a b f).2.2.1 (pushR m a b f).2.2.2 none := by
  obtain ⟨S, G, A, B, ca, cb, h1, h2, h3, ⟨h4, h5⟩, h6, h7, h8, -⟩ := h
  refine ⟨A, B, ca, cb, h8, fun m v1 v2 v3 v4 F hok hF => ?_⟩
  have hF2 : ∀ i, F i → i < w.heap.size := fun i hi => Nat.lt_of_lt_of_le (hF i hi) h3.size
  refine (rpush_call _ a b f m v1 v2 v3 v4 (fun i => G i ∨ F i) w ⟨A, B, ca, cb, rfl, h4.mono (fun i hi _ => .inl hi), h5.mono (fun i hi _ => .inl hi)⟩ (hok.mono (fun i hi _ => .inr hi)) (fun i hi => hi.elim (fun h => (h6 i h).1) (hF2 i)) ha hb hf).mono ?_
  rintro e w' ⟨v', rfl, ⟨A', B', ca', cb', rfl, s1, s2⟩, k⟩
  refine ⟨A', B', ca', cb', rfl, k, fun w2 k2 hb2 => midQ_turn h1 (fun k hk => (h2 k hk).1) h3 h7 h8.lt k (fun i hi hl => ?_) s1 s2 (fun t ht => by cases ht) w2 k2 hb2⟩
  rcases hi with (hi | hi) | hi
  · exact (h6 i hi).2
  · have := hF i hi
    exact ⟨fun hm => by have := (h2 i hm).1; omega, fun e => by have := h7.2; omega⟩
  · omega
theorem MidQ.pop {w0 w : World} {q n top : Nat} {xs ys : List ByteArray} {d : Int} {a b : List Ms} {f : Int} (h : MidQ w0 w q n top xs ys d a b f none) :
    ∃ A B ca cb, Blk w n #[.slice A a.length ca, .slice B b.length cb, .int .i64 f] 53 ∧ ∀ (i : Int) (z p : Nat) (hz : a.length + b.length = z) (hz2 : z ≤ 128) (hp : Int.tmod (Int.tmod i z + z) z = (p : Int)) (hpz : p < z),
      Calls Try.prog 17 #[.agg #[.slice A a.length ca, .slice B b.length cb, .int .i64 f], .int .i64 i] w fun e w' => ∃ A' B' ca' cb' v1 v2 v3 v4,
        e = .returned (.tuple #[.agg #[.slice A' (popR p a b).1.length ca', .slice B' (popR p a b).2.length cb', .int .i64 f], .agg (msgV ((a ++ b)[p]'(by simp; omega)) v1 v2 v3 v4), .bool true]) ∧ Keep [] w w' ∧ (∃ G', MsOk w' G' ((a ++ b)[p]'(by simp; omega)) v1 v2 v3 v4) ∧
        ∀ w2, Keep [n] w' w2 → Blk w2 n #[.slice A' (popR p a b).1.length ca', .slice B' (popR p a b).2.length cb', .int .i64 f] 53 → MidQ w0 w2 q n w.heap.size xs ys d (popR p a b).1 (popR p a b).2 f (some ((a ++ b)[p]'(by simp; omega), v1, v2, v3, v4)) := by
  obtain ⟨S, G, A, B, ca, cb, h1, h2, h3, ⟨h4, h5⟩, h6, h7, h8, -⟩ := h
  refine ⟨A, B, ca, cb, h8, fun i z p hz hz2 hp hpz => ?_⟩
  refine (rpop_some A B ca cb a b f i G w h4 h5 (fun i hi => (h6 i hi).1) z p hz hz2 hp hpz).mono ?_
  rintro e w' ⟨v', v1, v2, v3, v4, rfl, ⟨A', B', ca', cb', rfl, s1, s2⟩, hm, k⟩
  refine ⟨A', B', ca', cb', v1, v2, v3, v4, rfl, k, ⟨G, hm⟩, fun w2 k2 hb2 => midQ_turn h1 (fun k hk => (h2 k hk).1) h3 h7 h8.lt k (fun i hi hl => ?_) s1 s2 (fun t ht => by cases ht; exact hm.mono (fun i hi _ => .inl hi)) w2 k2 hb2⟩
  rcases hi with hi | hi
  · exact (h6 i hi).2
  · omega
theorem MidQ.pop0 {w0 w : World} {q n top : Nat} {xs ys : List ByteArray} {d : Int} {f : Int} (h : MidQ w0 w q n top xs ys d [] [] f none) :
    ∃ A B ca cb, Blk w n #[.slice A ([] : List Ms).length ca, .slice B ([] : List Ms).length cb, .int .i64 f] 53 ∧ ∀ (i : Int), 
      Calls Try.prog 17 #[.agg #[.slice A ([] : List Ms).length ca, .slice B ([] : List Ms).length cb, .int .i64 f], .int .i64 i] w fun e w' =>
        e = .returned (.tuple #[.agg #[.slice A ([] : List Ms).length ca, .slice B ([] : List Ms).length cb, .int .i64 f], .agg zMs, .bool false]) ∧ Keep [] w w' ∧
        ∀ w2, Keep [n] w' w2 → Blk w2 n #[.slice A ([] : List Ms).length ca, .slice B ([] : List Ms).length cb, .int .i64 f] 53 → MidQ w0 w2 q n w.heap.size xs ys d [] [] f none := by
  obtain ⟨S, G, A, B, ca, cb, h1, h2, h3, ⟨h4, h5⟩, h6, h7, h8, -⟩ := h
  refine ⟨A, B, ca, cb, h8, fun i => ?_⟩
  refine (rpop_none A B ca cb [] [] f i G w h4 h5 (fun i hi => (h6 i hi).1) rfl rfl).mono ?_
  rintro e w' ⟨rfl, k⟩
  exact ⟨rfl, k, fun w2 k2 hb2 => midQ_turn h1 (fun k hk => (h2 k hk).1) h3 h7 h8.lt k (fun i hi hl => (h6 i hi).2) (h4.keep (k.at G (by simp))) (h5.keep (k.at G (by simp))) (fun t ht => by cases ht) w2 k2 hb2⟩
theorem MidQ.emptied {w0 w w2 : World} {q n top : Nat} {xs ys : List ByteArray} {d : Int} {a b : List Ms} {f : Int} {e : Option (Ms × Value × Value × Value × Value)} (h : MidQ w0 w q n top xs ys d a b f e) (k2 : Keep [n] w w2)
    (hb2 : Blk w2 n #[.slice none 0 0, .slice none 0 0, .int .i64 f] 53) : MidQ w0 w2 q n w.heap.size xs ys d [] [] f none := by
  obtain ⟨S, G, A, B, ca, cb, h1, h2, h3, ⟨h4, h5⟩, h6, h7, h8, -⟩ := h
  exact midQ_turn (G' := fun _ => False) (A' := none) (B' := none) (ca' := 0) (cb' := 0) (a' := []) (b' := []) h1 (fun k hk => (h2 k hk).1) h3 h7 h8.lt (Keep.refl _ _) (fun i hi => hi.elim) (SliceOf.nil _ _ _ _ _) (SliceOf.nil _ _ _ _ _) (fun t ht => by cases ht) w2 k2 hb2
/-- The queue's side turned. -/
theorem midQ_real {w0 w w' : World} {q n : Nat} {S S' : List Nat} {xs' ys' : List ByteArray} {d' f : Int} {a b : List Ms} {G : Nat → Prop} {A B : Option Addr} {ca cb : Nat} {e : Option (Ms × Value × Value × Value × Value)}
    (h2 : ∀ k, k ∈ S → w0.heap.size ≤ k) (h3 : Keep [] w0 w) (h4 : SliceOf Rep.ms w G (.slice A a.length ca) a ∧ SliceOf Rep.ms w G (.slice B b.length cb) b) (h6 : ∀ i, G i → i < w.heap.size ∧ i ∉ S ∧ i ≠ n) (h7 : n ∉ S ∧ w0.heap.size ≤ n)
    (h8 : Blk w n #[.slice A a.length ca, .slice B b.length cb, .int .i64 f] 53) (h9 : ∀ t, e = some t → MsOk w G t.1 t.2.1 t.2.2.1 t.2.2.2.1 t.2.2.2.2)
    (q1 : QS w' S' q xs' ys' d') (q2 : ∀ k, k ∈ S' → k ∈ S ∨ w.heap.size ≤ k) (k : Keep S w w') : MidQ w0 w' q n w'.heap.size xs' ys' d' a b f e := by
  have hx : ∀ i, i ∈ S → ¬ G i := fun i hi hg => (h6 i hg).2.1 hi
  refine ⟨S', G, A, B, ca, cb, q1, fun i hi => ⟨?_, q1.lt i hi⟩, h3.new k (fun i hi => .inr (h2 i hi)), ⟨h4.1.keep (k.at G hx), h4.2.keep (k.at G hx)⟩, fun i hi => ⟨Nat.lt_of_lt_of_le (h6 i hi).1 k.size, fun hm => ?_, (h6 i hi).2.2⟩, ⟨fun hm => ?_, h7.2⟩, h8.keep k h7.1, fun t ht => (h9 t ht).keep (k.at G hx)⟩
  · rcases q2 i hi with h | h
    · exact h2 i h
    · exact Nat.le_trans h3.size h
  · rcases q2 i hm with h | h
    · exact (h6 i hi).2.1 h
    · have := (h6 i hi).1; omega
  · rcases q2 n hm with h | h
    · exact h7.1 h
    · have := h8.lt; omega
theorem MidQ.qpush {w0 w : World} {q n top : Nat} {xs ys : List ByteArray} {d : Int} {a b : List Ms} {f : Int} {e : Option (Ms × Value × Value × Value × Value)} (h : MidQ w0 w q n top xs ys d a b f e) (s : ByteArray) (hs : s.size ≤ M47) (hx : xs.length ≤ 1000000) (hy : ys.length ≤ 1000000) (hd : 0 ≤ d ∧ d ≤ 1000000) :
    Calls Try.prog 9 #[.pointer (some ⟨q, 0, none⟩), .string s] w fun e' w' => e' = .returned (.int .i64 (pushQ s xs ys d).1) ∧ MidQ w0 w' q n w'.heap.size (pushQ s xs ys d).2.1 (pushQ s xs ys d).2.2.1 (pushQ s xs ys d).2.2.2 a b f e := by
  obtain ⟨S, G, A, B, ca, cb, h1, h2, h3, h4, h6, h7, h8, h9⟩ := h
  refine (qpush_QS s h1 hs hx hy hd).mono ?_
  rintro e w' ⟨rfl, S', q1, q2, k⟩
  exact ⟨rfl, midQ_real (fun k hk => (h2 k hk).1) h3 h4 h6 h7 h8 h9 q1 q2 k⟩
theorem MidQ.qpop {w0 w : World} {q n top : Nat} {xs ys : List ByteArray} {d : Int} {a b : List Ms} {f : Int} {e : Option (Ms × Value × Value × Value × Value)} (h : MidQ w0 w q n top xs ys d a b f e) (i : Int) (z p : Nat) (s : ByteArray) (hz : xs.length + ys.length = z) (hz2 : z ≤ 1000) (hp : Int.tmod (Int.tmod i z + z) z = (p : Int)) (hs : (xs ++ ys)[p]? = some s) :
    Calls Try.prog 12 #[.pointer (some ⟨q, 0, none⟩), .int .i64 i] w fun e' w' => ∃ v1 v2 v3 v4, e' = .returned (.tuple #[.agg (msgV (readMsgF s).1 v1 v2 v3 v4), .bool ((readMsgF s).2 == 0)]) ∧ MsOk w' (New w) (readMsgF s).1 v1 v2 v3 v4 ∧
      MidQ w0 w' q n w'.heap.size (popQ p xs ys).1 (popQ p xs ys).2 d a b f e ∧ ∃ T, Keep T w w' ∧ ∀ k, k ∈ T → k < top := by
  obtain ⟨S, G, A, B, ca, cb, h1, h2, h3, h4, h6, h7, h8, h9⟩ := h
  refine (qpop_QS i z p s h1 hz hz2 hp hs).mono ?_
  rintro e w' ⟨v1, v2, v3, v4, rfl, hm, q1, k⟩
  exact ⟨v1, v2, v3, v4, rfl, hm, midQ_real (fun k hk => (h2 k hk).1) h3 h4 h6 h7 h8 h9 q1 (fun k hk => .inl hk) k, S, k, fun k hk => (h2 k hk).2⟩
theorem MidQ.qpop0 {w0 w : World} {q n top : Nat} {d : Int} {a b : List Ms} {f : Int} {e : Option (Ms × Value × Value × Value × Value)} (h : MidQ w0 w q n top [] [] d a b f e) (i : Int) :
    Calls Try.prog 12 #[.pointer (some ⟨q, 0, none⟩), .int .i64 i] w fun e' w' => e' = .returned (.tuple #[.agg zMs, .bool false]) ∧ MidQ w0 w' q n top [] [] d a b f e ∧ Keep [] w w' := by
  have hh := h
  obtain ⟨S, G, A, B, ca, cb, h1, -⟩ := h
  refine (qpop0_QS i h1).mono ?_
  rintro e w' ⟨rfl, k⟩
  exact ⟨rfl, hh.next k, k⟩
theorem MidQ.qclear {w0 w : World} {q n top : Nat} {xs ys : List ByteArray} {d : Int} {a b : List Ms} {f : Int} {e : Option (Ms × Value × Value × Value × Value)} (h : MidQ w0 w q n top xs ys d a b f e) :
    Calls Try.prog 18 #[.pointer (some ⟨q, 0, none⟩)] w fun e' w' => e' = .returned (.tuple #[]) ∧ MidQ w0 w' q n w'.heap.size [] [] d a b f e := by
  obtain ⟨S, G, A, B, ca, cb, h1, h2, h3, h4, h6, h7, h8, h9⟩ := h
  refine (qclear_QS h1).mono ?_
  rintro e w' ⟨rfl, q1, hq, k⟩
  exact ⟨rfl, midQ_real (fun k hk => (h2 k hk).1) h3 h4 h6 h7 h8 h9 q1 (fun k hk => .inl (by rw [List.mem_singleton.1 hk]; exact hq)) (k.mono (fun i _ hi => by rw [List.mem_singleton.1 hi]; exact hq))⟩
theorem MidQ.qlanes {w0 w : World} {q n top : Nat} {xs ys : List ByteArray} {d : Int} {a b : List Ms} {f : Int} {e : Option (Ms × Value × Value × Value × Value)} (h : MidQ w0 w q n top xs ys d a b f e) (la lb : Nat) (hx : xs.length = la) (hy : ys.length = lb) :
    Calls Try.prog 10 #[.pointer (some ⟨q, 0, none⟩)] w fun e' w' => e' = .returned (.tuple #[.int .i64 (la : Nat), .int .i64 (lb : Nat)]) ∧ Keep [] w w' := by
  obtain ⟨S, G, A, B, ca, cb, h1, -⟩ := h
  subst hx hy
  exact qlanes_QS h1
theorem MidQ.qlen {w0 w : World} {q n top : Nat} {xs ys : List ByteArray} {d : Int} {a b : List Ms} {f : Int} {e : Option (Ms × Value × Value × Value × Value)} (h : MidQ w0 w q n top xs ys d a b f e) (la lb : Nat) (hx : xs.length = la) (hy : ys.length = lb) (h1a : la ≤ 1000000) (h1b : lb ≤ 1000000) :
    Calls Try.prog 14 #[.pointer (some ⟨q, 0, none⟩)] w fun e' w' => e' = .returned (.int .i64 ((la : Int) + lb)) ∧ Keep [] w w' := by
  obtain ⟨S, G, A, B, ca, cb, h1, -⟩ := h
  subst hx hy
  exact qlen_QS h1 h1a h1b
theorem MidQ.qdropped {w0 w : World} {q n top : Nat} {xs ys : List ByteArray} {d : Int} {a b : List Ms} {f : Int} {e : Option (Ms × Value × Value × Value × Value)} (h : MidQ w0 w q n top xs ys d a b f e) :
    Calls Try.prog 11 #[.pointer (some ⟨q, 0, none⟩)] w fun e' w' => e' = .returned (.int .i64 d) ∧ w = w' := by
  obtain ⟨S, G, A, B, ca, cb, h1, -⟩ := h
  exact qdropped_QS h1
theorem MidQ.begin {w0 w1 w2 : World} {q n : Nat} (h : QS w1 [q] q [] [] 0) (hq : w0.heap.size ≤ q) (k : Keep [] w0 w1) (hn : w1.heap.size ≤ n) (k2 : Keep [] w1 w2) (hb : Blk w2 n #[.slice none 0 0, .slice none 0 0, .int .i64 0] 53) :
    MidQ w0 w2 q n w2.heap.size [] [] 0 [] [] 0 none :=
  ⟨[q], fun _ => False, none, none, 0, 0, h.keep k2 (by simp), fun i hi => by
    obtain rfl : i = q := by simpa using hi
    exact ⟨hq, Nat.lt_of_lt_of_le (h.lt _ (by simp)) k2.size⟩, k.trans k2, ⟨SliceOf.nil _ _ _ _ _, SliceOf.nil _ _ _ _ _⟩, fun i hi => hi.elim, ⟨fun hm => by
    obtain rfl : n = q := by simpa using hm
    have := h.lt n (by simp); omega, Nat.le_trans k.size hn⟩, hb, fun t ht => by cases ht⟩
theorem MidQ.qpopM {w0 w : World} {q n top : Nat} {ua ub : List Ms} {d : Int} {a b : List Ms} {f : Int} {e : Option (Ms × Value × Value × Value × Value)} (h : MidQ w0 w q n top (ua.map msgF) (ub.map msgF) d a b f e) (i : Int) (z p : Nat) (x : Ms) (hz : ua.length + ub.length = z) (hz2 : z ≤ 128) (hp : Int.tmod (Int.tmod i z + z) z = (p : Int)) (hs : (ua ++ ub)[p]? = some x) (hr : rightMsg x = true) :
    Calls Try.prog 12 #[.pointer (some ⟨q, 0, none⟩), .int .i64 i] w fun e' w' => ∃ v1 v2 v3 v4, e' = .returned (.tuple #[.agg (msgV x v1 v2 v3 v4), .bool true]) ∧ MsOk w' (New w) x v1 v2 v3 v4 ∧
      MidQ w0 w' q n w'.heap.size ((popR p ua ub).1.map msgF) ((popR p ua ub).2.map msgF) d a b f e ∧ ∃ T, Keep T w w' ∧ ∀ k, k ∈ T → k < top := by
  refine (h.qpop i z p (msgF x) (by simpa using hz) (by omega) hp (by rw [← List.map_append, List.getElem?_map, hs]; rfl)).mono ?_
  rw [M2_holds x hr, pop_same]
  rintro e w' ⟨v1, v2, v3, v4, rfl, hm, q1, T, k, hT⟩
  exact ⟨v1, v2, v3, v4, rfl, hm, q1, T, k, hT⟩
theorem MidQ.qpop0M {w0 w : World} {q n top : Nat} {d : Int} {a b : List Ms} {f : Int} {e : Option (Ms × Value × Value × Value × Value)} (h : MidQ w0 w q n top (([] : List Ms).map msgF) (([] : List Ms).map msgF) d a b f e) (i : Int) :
    Calls Try.prog 12 #[.pointer (some ⟨q, 0, none⟩), .int .i64 i] w fun e' w' => e' = .returned (.tuple #[.agg zMs, .bool false]) ∧ MidQ w0 w' q n top (([] : List Ms).map msgF) (([] : List Ms).map msgF) d a b f e ∧ Keep [] w w' := MidQ.qpop0 h i
theorem MidQ.qclearM {w0 w : World} {q n top : Nat} {xs ys : List ByteArray} {d : Int} {a b : List Ms} {f : Int} {e : Option (Ms × Value × Value × Value × Value)} (h : MidQ w0 w q n top xs ys d a b f e) :
    Calls Try.prog 18 #[.pointer (some ⟨q, 0, none⟩)] w fun e' w' => e' = .returned (.tuple #[]) ∧ MidQ w0 w' q n w'.heap.size (([] : List Ms).map msgF) (([] : List Ms).map msgF) d a b f e := h.qclear
theorem MidQ.qpushM {w0 w : World} {q n top : Nat} {ua ub : List Ms} {d : Int} {a b : List Ms} {f : Int} {e : Option (Ms × Value × Value × Value × Value)} (h : MidQ w0 w q n top (ua.map msgF) (ub.map msgF) d a b f e) (x : Ms) (hr : rightMsg x = true) (hs : (msgF x).size ≤ M47) (hx : ua.length ≤ 64) (hy : ub.length ≤ 64) (hd : 0 ≤ d ∧ d ≤ 1000000) :
    Calls Try.prog 9 #[.pointer (some ⟨q, 0, none⟩), .string (msgF x)] w fun e' w' => e' = .returned (.int .i64 (pushR x ua ub d).1) ∧ MidQ w0 w' q n w'.heap.size ((pushR x ua ub d).2.1.map msgF) ((pushR x ua ub d).2.2.1.map msgF) (pushR x ua ub d).2.2.2 a b f e := by
  refine (h.qpush (msgF x) hs (by simp; omega) (by simp; omega) hd).mono ?_
  rw [push_same x hr ua ub d]
  rintro e w' ⟨rfl, hm⟩
  exact ⟨rfl, hm⟩
/-- What holds of both lanes throughout. -/
def LaneOk (a b : List Ms) (d : Int) (j : Nat) : Prop := a.length ≤ 64 ∧ b.length ≤ 64 ∧ 0 ≤ d ∧ d ≤ j ∧ ∀ x, x ∈ a ∨ x ∈ b → rightMsg x = true ∧ MsSz x
theorem LaneOk.start : LaneOk [] [] 0 0 := ⟨by simp, by simp, by omega, by omega, fun x h => by simp at h⟩
theorem LaneOk.same {a b : List Ms} {d : Int} {j : Nat} (h : LaneOk a b d j) : LaneOk a b d (j + 1) := by
  obtain ⟨h1, h2, h3, h4, h5⟩ := h
  exact ⟨h1, h2, h3, by omega, h5⟩
theorem LaneOk.clear {a b : List Ms} {d : Int} {j : Nat} (h : LaneOk a b d j) : LaneOk [] [] d (j + 1) := by
  obtain ⟨h1, h2, h3, h4, h5⟩ := h
  exact ⟨by simp, by simp, h3, by omega, fun x h => by simp at h⟩
theorem LaneOk.push {a b : List Ms} {d : Int} {j : Nat} (h : LaneOk a b d j) (x : Ms) (hr : rightMsg x = true) (hs : MsSz x) : LaneOk (pushR x a b d).2.1 (pushR x a b d).2.2.1 (pushR x a b d).2.2.2 (j + 1) := by
  obtain ⟨h1, h2, h3, h4, h5⟩ := h
  have h0 : ¬ rightMsg x = false := by simp [hr]
  unfold pushR
  rw [if_neg h0]
  split
  · split
    · refine ⟨h1, by simp; omega, h3, by show d ≤ _; omega, fun y hy => ?_⟩
      rcases hy with hy | hy
      · exact h5 y (.inl hy)
      · rcases List.mem_append.1 hy with hy | hy
        · exact h5 y (.inr hy)
        · obtain rfl : y = x := by simpa using hy
          exact ⟨hr, hs⟩
    · exact ⟨h1, h2, by show 0 ≤ d + 1; omega, by show d + 1 ≤ _; omega, h5⟩
  · split
    · refine ⟨by simp; omega, h2, h3, by show d ≤ _; omega, fun y hy => ?_⟩
      rcases hy with hy | hy
      · rcases List.mem_append.1 hy with hy | hy
        · exact h5 y (.inl hy)
        · obtain rfl : y = x := by simpa using hy
          exact ⟨hr, hs⟩
      · exact h5 y (.inr hy)
    · exact ⟨h1, h2, by show 0 ≤ d + 1; omega, by show d + 1 ≤ _; omega, h5⟩
theorem LaneOk.pop {a b : List Ms} {d : Int} {j : Nat} (h : LaneOk a b d j) (p : Nat) : LaneOk (popR p a b).1 (popR p a b).2 d (j + 1) := by
  obtain ⟨h1, h2, h3, h4, h5⟩ := h
  unfold popR
  split
  · exact ⟨by show (a.eraseIdx p).length ≤ 64; rw [List.length_eraseIdx]; split <;> omega, h2, h3, by omega, fun y hy => hy.elim (fun hy => h5 y (.inl (List.mem_of_mem_eraseIdx hy))) (fun hy => h5 y (.inr hy))⟩
  · exact ⟨h1, by show (b.eraseIdx _).length ≤ 64; rw [List.length_eraseIdx]; split <;> omega, h3, by omega, fun y hy => hy.elim (fun hy => h5 y (.inl hy)) (fun hy => h5 y (.inr (List.mem_of_mem_eraseIdx hy)))⟩
theorem tmod_at (i : Int) (n : Nat) (h : 0 < n) : ∃ p : Nat, p < n ∧ Int.tmod (Int.tmod i n + n) n = (p : Int) := by
  have h1 : 0 ≤ Int.tmod i n + n := by have := Int.lt_tmod_of_pos i (b := (n : Int)) (by omega); omega
  have h2 := Int.tmod_lt_of_pos (Int.tmod i n + n) (b := (n : Int)) (by omega)
  have h3 := Int.tmod_nonneg (n : Int) h1
  exact ⟨(Int.tmod (Int.tmod i n + n) n).toNat, by omega, by omega⟩
theorem quiet_loadW {P : Program} {C : World → Prop} {a : Act} {o : Oper} {K : Act → Prop} (ty : TypeId) (x : Operand) (ho : o.op = .load ty x) (g : Nat) (D : Array Value) (t : Nat) (d : TypeDesc) (n : Nat) (hx : a.eval x = .pointer (some ⟨g, 0, none⟩)) (hb : ∀ w, C w → Blk w g D t)
    (hu : P.underlying ty = some d) (hd : d.isRow = true) (hi : (P.info? ty).map (·.size) = some n) (hn : D.size = n) (hk : K (a.put o.dst (.agg D))) : o.quiet P a C K :=
  quiet_run (fun w hw => by
    unfold execOp
    simp only [ho, hx, Sem.run_bind, run_loadW w g ty D t d n (hb w hw) hu hd hi hn, Result.andThen_ok]
    rfl) hk
end Go.Proofs.Ytpndbidpennlcaa
namespace Go.Proofs.Ytpndbidpennlcaa
open Go.RowKit
set_option linter.unusedVariables false
set_option linter.unusedSimpArgs false
/-! the law QueuePlays -/
def zOp17 : Array Value := #[.int .u8 0, .int .i64 0, .int .i64 0, .int .i64 0, .int .i64 0, .string ⟨#[]⟩, .int .i64 0, .int .i64 0, .int .i64 0, .string ⟨#[]⟩, .slice none 0 0, .slice none 0 0, .int .i64 0, .string ⟨#[]⟩, .slice none 0 0, .int .i64 0, .slice none 0 0, .int .i64 0, .int .i64 0, .string ⟨#[]⟩, .int .i64 0, .string ⟨#[]⟩, .int .i64 0]
theorem zOp17_info : (Try.prog.info? 55).map (fun i => (i.zero, i.size)) = some (some (.agg zOp17), 23) := by kernel_rfl
theorem zOp17_size : (Try.prog.info? 55).map (·.size) = some 23 := by kernel_rfl
set_option maxRecDepth 100000 in
set_option maxHeartbeats 32000000 in
theorem queuePlays_call (A : Option Addr) (l : List Op17) (c : Nat) (F : Nat → Prop) (w : World) (hl : SliceOf Rep.op17 w F (.slice A l.length c) l) (hF : ∀ i, F i → i < w.heap.size) :
    Calls Try.prog 5 #[.slice A l.length c] w fun e w' => e = .returned (.bool true) ∧ Keep [] w w' := by
  have HL := Lib.hid hl
  have HF := Lib.hid hF
  clear hl hF
  go_enter Try.func5, Try.ntmps5
  go_wp2_with fail
  refine (qawake_call _).mono ?_
  rintro e w1 ⟨rfl, k1⟩
  go_wp2_with fail
  refine (few17_call A l c F 100 _ (HL.out.keep (k1.at F (by simp))) (by omega)).mono ?_
  rintro e w2 ⟨rfl, k2⟩
  have kk2 := k1.trans k2
  clear k1 k2
  cases hfew : few17 l 100 with
  | false =>
    clear hfew
    go_wp2_with fail
    refine (qawake_call _).mono ?_
    rintro e w3 ⟨rfl, k3⟩
    go_wp2
    go_ret
    exact ⟨rfl, kk2.trans k3⟩
  | true =>
    obtain ⟨hlen, hall⟩ := few17_le hfew (by omega)
    replace hall := Lib.hid hall
    clear hfew
    go_wp2_with fail
    refine (qnew_QS _).mono ?_
    rintro e w3 ⟨q, rfl, h3, hq, k3⟩
    go_wp2_with (first | ((with_reducible refine wl_alloc 53 ?_ ?_); (with_reducible rfl); refine sx_alloc rfl 53 rfl _ 3 zRq zRq_info rfl ?_; intro w4 bw4 kw4 zw4; clear zw4; (try simp only [Act.put, List.setIfInBounds_toArray, List.set_cons_zero, List.set_cons_succ])))
    have H0 := Lib.hid (MidQ.begin h3 (Nat.le_trans kk2.size hq) (kk2.trans k3) (Nat.le_refl _) kw4 bw4)
    have hn0 : w.heap.size ≤ w3.heap.size := Nat.le_trans kk2.size k3.size
    generalize w3.heap.size = n at *
    clear h3 hq k3 kw4 bw4
    go_loopw [5] (fun i wr => ∃ j : Nat, j ≤ l.length ∧ i = .int .i64 j ∧ ∃ a b d, Hid (LaneOk a b d j) ∧ Hid (MidQ w wr q n wr.heap.size (a.map msgF) (b.map msgF) d a b d none)) (fun i _ => l.length - (intOf i).toNat)
    case atStart => exact ⟨0, Nat.zero_le _, rfl, [], [], 0, Lib.hid LaneOk.start, H0⟩
    case round =>
      obtain ⟨j, hj, rfl, a, b, d, hinv, hmid⟩ := hrel
      by_cases hlt : j < l.length
      · have hltz : (j : Int) < (l.length : Int) := by omega
        obtain ⟨g, o, v1, v2, v3, v4, rfl, hr, hk, hok, hxi⟩ := (HL.out.keep (hmid.out.kept.at F (by simp))).op17_at hlt
        have hfx := hall.out l[j] (List.getElem_mem hlt)
        generalize l[j] = x at *
        have hsz := fewMsg_sz hfx
        have hsm : (msgF x.m).size ≤ M47 := by have := fewMsg_small hfx; unfold M47; omega
        clear hfx
        obtain ⟨A1, c1, rfl, -⟩ := hok.bs.form
        obtain ⟨A2, c2, rfl, -⟩ := hok.bq.form
        obtain ⟨A3, c3, rfl, -⟩ := hok.cs.form
        obtain ⟨A4, c4, rfl, -⟩ := hok.st.form
        replace hr := Lib.hid hr
        replace hok := Lib.hid hok
        replace hsz := Lib.hid hsz
        replace hsm := Lib.hid hsm
        obtain ⟨_, _, _, _, bn0⟩ := hmid.out.blk
        have hnl := bn0.lt
        clear H0 bn0
        have nF : ∀ i, i ∈ [n] → ¬ F i := fun i hi hf => by
          rw [List.mem_singleton.1 hi] at hf
          have := HF.out n hf
          omega
        replace nF := Lib.hid nF
        go_upto_region 9 with (first
          | ((with_reducible refine wl_load 55 (.tmp 33) ?_ ?_); (with_reducible rfl); refine sx_loadR rfl 55 (.tmp 33) rfl g (o + j * 23) (opV17 x (.slice A1 x.m.b.j.sg.length c1) (.slice A2 x.m.b.q.length c2) (.slice A3 x.m.c.sg.length c3) (.slice A4 x.m.s.ts.length c4)) _ 23 rfl hr.out Try.underlying55 rfl zOp17_size rfl ?_; (try simp only [Act.put, List.setIfInBounds_toArray, List.set_cons_zero, List.set_cons_succ]))
          | ((with_reducible refine wl_alloc 55 ?_ ?_); (with_reducible rfl); refine sx_alloc rfl 55 rfl _ 23 zOp17 zOp17_info rfl ?_; intro w5 b5 k5 z5; clear z5; (try simp only [Act.put, List.setIfInBounds_toArray, List.set_cons_zero, List.set_cons_succ]))
          | ((with_reducible refine wl_store 55 (.tmp 6) (.tmp 34) ?_ ?_); (with_reducible rfl); refine sx_storeW rfl 55 (.tmp 6) (.tmp 34) rfl wr.heap.size (opV17 x (.slice A1 x.m.b.j.sg.length c1) (.slice A2 x.m.b.q.length c2) (.slice A3 x.m.c.sg.length c3) (.slice A4 x.m.s.ts.length c4)) zOp17 _ 23 rfl rfl b5 zOp17_size rfl rfl rfl ?_; intro w6 b6 k6 z6; clear z6; (try simp only [Act.put, List.setIfInBounds_toArray, List.set_cons_zero, List.set_cons_succ])))
        have kk6 : Keep [] wr w6 := k5.new k6 (fun i hi => .inr (by simp at hi; omega))
        clear b5 k5 k6 hr
        have q0 : w6.cell? ⟨wr.heap.size, 0, none⟩ = some (.int .u8 x.k) := b6.cell 0
        have q22 : w6.cell? ⟨wr.heap.size, 22, none⟩ = some (.int .i64 x.i) := b6.cell 22
        obtain ⟨hk1, hk2⟩ := hk
        have zm : x.k.tmod 3 = x.k % 3 := Int.tmod_eq_emod_of_nonneg hk1
        by_cases h0 : x.k % 3 = 0
        · skip
          have z0 : (x.k % 3 == 0) = true := by rw [beq_iff_eq]; omega
          have y0 : (x.k % 3 = 0) := by omega
          replace y0 := Lib.hid y0
          replace h0 := Lib.hid h0
          go_wp2_with (first | ((with_reducible refine wl_load 38 (.tmp 45) ?_ ?_); (with_reducible rfl); refine sx_load rfl 38 (.tmp 45) rfl wr.heap.size 1 (opV17 x (.slice A1 x.m.b.j.sg.length c1) (.slice A2 x.m.b.q.length c2) (.slice A3 x.m.c.sg.length c3) (.slice A4 x.m.s.ts.length c4)) #[.int .i64 x.m.k, .int .i64 x.m.f, .int .i64 x.m.t, .int .i64 x.m.v, .string x.m.h, .int .i64 x.m.b.v, .int .i64 x.m.b.p, .int .i64 x.m.b.j.v, .string x.m.b.j.h, .slice A1 x.m.b.j.sg.length c1, .slice A2 x.m.b.q.length c2, .int .i64 x.m.c.v, .string x.m.c.h, .slice A3 x.m.c.sg.length c3, .int .i64 x.m.s.f, .slice A4 x.m.s.ts.length c4, .int .i64 x.m.r.c, .int .i64 x.m.r.s, .string x.m.r.b, .int .i64 x.m.i, .string x.m.g] _ _ rfl b6 Try.underlying38 rfl zMs_size rfl ?_; (try simp only [Act.put, List.setIfInBounds_toArray, List.set_cons_zero, List.set_cons_succ])))
          refine (rightMsg_call x.m _ _ _ _ F _ (hok.out.keep (kk6.at F (by simp)))).mono ?_
          rintro e w7 ⟨rfl, k7⟩
          have kk7 := kk6.trans k7
          cases hrm : rightMsg x.m with
          | false =>
            clear hrm
            go_wp2
            go_roundw
            case rel => exact ⟨j + 1, by omega, by go_num, a, b, d, Lib.hid hinv.out.same, Lib.hid (hmid.out.next kk7).tops⟩
            case measure => simp [intOf]; omega
          | true =>
            have hrm' := Lib.hid hrm
            clear hrm
            have b7 := b6.keep k7 (by simp)
            clear b6 q0 q22
            obtain ⟨A7, B7, ca7, cb7, bn7, hP⟩ := (hmid.out.next kk7).push hinv.out.1 hinv.out.2.1 ⟨hinv.out.2.2.1, by have := hinv.out.2.2.2.1; omega⟩
            have HP := Lib.hid (hP x.m _ _ _ _ F (hok.out.keep (kk7.at F (by simp))) HF.out)
            clear hP
            have hnx := Lib.hid (hinv.out.push x.m hrm'.out hsz.out)
            have HQ := Lib.hid (fun w' (h : MidQ w w' q n w7.heap.size (a.map msgF) (b.map msgF) d (pushR x.m a b d).2.1 (pushR x.m a b d).2.2.1 (pushR x.m a b d).2.2.2 none) => h.qpushM x.m hrm'.out hsm.out hinv.out.1 hinv.out.2.1 ⟨hinv.out.2.2.1, by have := hinv.out.2.2.2.1; omega⟩)
            go_wp2_with (first | ((with_reducible refine wl_load 53 (.tmp 4) ?_ ?_); (with_reducible rfl); refine sx_loadW rfl 53 (.tmp 4) rfl n #[.slice A7 a.length ca7, .slice B7 b.length cb7, .int .i64 d] _ _ 3 rfl bn7 Try.underlying53 rfl zRq_size rfl ?_; (try simp only [Act.put, List.setIfInBounds_toArray, List.set_cons_zero, List.set_cons_succ])) | ((with_reducible refine wl_load 38 (.tmp 51) ?_ ?_); (with_reducible rfl); refine sx_load rfl 38 (.tmp 51) rfl wr.heap.size 1 (opV17 x (.slice A1 x.m.b.j.sg.length c1) (.slice A2 x.m.b.q.length c2) (.slice A3 x.m.c.sg.length c3) (.slice A4 x.m.s.ts.length c4)) #[.int .i64 x.m.k, .int .i64 x.m.f, .int .i64 x.m.t, .int .i64 x.m.v, .string x.m.h, .int .i64 x.m.b.v, .int .i64 x.m.b.p, .int .i64 x.m.b.j.v, .string x.m.b.j.h, .slice A1 x.m.b.j.sg.length c1, .slice A2 x.m.b.q.length c2, .int .i64 x.m.c.v, .string x.m.c.h, .slice A3 x.m.c.sg.length c3, .int .i64 x.m.s.f, .slice A4 x.m.s.ts.length c4, .int .i64 x.m.r.c, .int .i64 x.m.r.s, .string x.m.r.b, .int .i64 x.m.i, .string x.m.g] _ _ rfl b7 Try.underlying38 rfl zMs_size rfl ?_; (try simp only [Act.put, List.setIfInBounds_toArray, List.set_cons_zero, List.set_cons_succ])))
            refine HP.out.mono ?_
            generalize pushR x.m a b d = r at *
            obtain ⟨r1, r2, r3, r4⟩ := r
            dsimp only at *
            rintro e w8 ⟨A8, B8, ca8, cb8, rfl, k8, hT⟩
            replace hT := Lib.hid hT
            go_upto_region 15 with (first | ((with_reducible refine wl_alloc 53 ?_ ?_); (with_reducible rfl); refine sx_alloc rfl 53 rfl _ 3 zRq zRq_info rfl ?_; intro w9 bw9 kw9 zw9; clear zw9; (try simp only [Act.put, List.setIfInBounds_toArray, List.set_cons_zero, List.set_cons_succ])) | ((with_reducible refine wl_store 53 (.tmp 7) (.tmp 54) ?_ ?_); (with_reducible rfl); refine sx_storeW rfl 53 (.tmp 7) (.tmp 54) rfl w8.heap.size #[.slice A8 r2.length ca8, .slice B8 r3.length cb8, .int .i64 r4] zRq _ 3 rfl rfl bw9 zRq_size rfl rfl rfl ?_; intro w10 bw10 kw10 zw10; clear zw10; (try simp only [Act.put, List.setIfInBounds_toArray, List.set_cons_zero, List.set_cons_succ])))
            have kk10 : Keep [] w7 w10 := (k8.trans kw9).new kw10 (fun i hi => .inr (by have := k8.size; simp at hi; omega))
            have kk8 : Keep [] w8 w10 := kw9.new kw10 (fun i hi => .inr (by simp at hi; omega))
            have bn10 := bn7.keep kk10 (by simp)
            have b10 := b7.keep kk10 (by simp)
            clear bw9 kw9 kw10 k8
            go_upto_region 16 with (first | ((with_reducible refine wl_load 53 (.tmp 7) ?_ ?_); (with_reducible rfl); refine sx_loadW rfl 53 (.tmp 7) rfl w8.heap.size #[.slice A8 r2.length ca8, .slice B8 r3.length cb8, .int .i64 r4] _ _ 3 rfl bw10 Try.underlying53 rfl zRq_size rfl ?_; (try simp only [Act.put, List.setIfInBounds_toArray, List.set_cons_zero, List.set_cons_succ])) | ((with_reducible refine wl_store 53 (.tmp 4) (.tmp 56) ?_ ?_); (with_reducible rfl); refine sx_storeW rfl 53 (.tmp 4) (.tmp 56) rfl n #[.slice A8 r2.length ca8, .slice B8 r3.length cb8, .int .i64 r4] #[.slice A7 a.length ca7, .slice B7 b.length cb7, .int .i64 d] _ 3 rfl rfl bn10 zRq_size rfl rfl rfl ?_; intro w11 bw11 kw11 zw11; clear zw11; (try simp only [Act.put, List.setIfInBounds_toArray, List.set_cons_zero, List.set_cons_succ])))
            have hm11 := Lib.hid (hT.out w11 ((kk8.mono (by simp)).trans kw11) bw11)
            have b11 := b10.keep kw11 (by simp; omega)
            have kr11 : Keep [n] wr w11 := ((kk7.trans kk10).mono (by simp)).trans kw11
            clear bn10 b10 bw10 bw11 hT kk8 kk10 kw11
            go_wp2_with (first | ((with_reducible refine wl_load 38 (.tmp 58) ?_ ?_); (with_reducible rfl); refine sx_load rfl 38 (.tmp 58) rfl wr.heap.size 1 (opV17 x (.slice A1 x.m.b.j.sg.length c1) (.slice A2 x.m.b.q.length c2) (.slice A3 x.m.c.sg.length c3) (.slice A4 x.m.s.ts.length c4)) #[.int .i64 x.m.k, .int .i64 x.m.f, .int .i64 x.m.t, .int .i64 x.m.v, .string x.m.h, .int .i64 x.m.b.v, .int .i64 x.m.b.p, .int .i64 x.m.b.j.v, .string x.m.b.j.h, .slice A1 x.m.b.j.sg.length c1, .slice A2 x.m.b.q.length c2, .int .i64 x.m.c.v, .string x.m.c.h, .slice A3 x.m.c.sg.length c3, .int .i64 x.m.s.f, .slice A4 x.m.s.ts.length c4, .int .i64 x.m.r.c, .int .i64 x.m.r.s, .string x.m.r.b, .int .i64 x.m.i, .string x.m.g] _ _ rfl b11 Try.underlying38 rfl zMs_size rfl ?_; (try simp only [Act.put, List.setIfInBounds_toArray, List.set_cons_zero, List.set_cons_succ])))
            refine (rmsg_call x.m _ _ _ _ F _ (hok.out.keep (kr11.at F nF.out)) hsz.out).mono ?_
            rintro e w12 ⟨rfl, k12⟩
            go_wp2_with fail
            refine (HQ.out _ (hm11.out.next k12)).mono ?_
            rintro e w13 ⟨rfl, hm13⟩
            clear HQ HP b7 b11 bn7
            replace hm13 := Lib.hid hm13
            go_wp2_with fail
            refine (hm13.out.qlanes r2.length r3.length (by simp) (by simp)).mono ?_
            rintro e w20 ⟨rfl, k20⟩
            have hm20 := Lib.hid (hm13.out.next k20)
            obtain ⟨A9, B9, ca9, cb9, b20⟩ := hm20.out.blk
            have t0 : w20.cell? ⟨n, 0, none⟩ = some (.slice A9 r2.length ca9) := b20.cell 0
            have t1 : w20.cell? ⟨n, 1, none⟩ = some (.slice B9 r3.length cb9) := b20.cell 1
            have t2 : w20.cell? ⟨n, 2, none⟩ = some (.int .i64 r4) := b20.cell 2
            have hLen := Lib.hid (fun w' (kq : Keep [] w20 w') => (hm20.out.next kq).qlen r2.length r3.length (by simp) (by simp) (by have := hnx.out.1; omega) (by have := hnx.out.2.1; omega))
            have hDr := Lib.hid (fun w' (kq : Keep [] w20 w') => (hm20.out.next kq).qdropped)
            have zs : IntKind.i64.wrap ((r2.length : Int) + (r3.length : Int)) = (r2.length : Int) + (r3.length : Int) := by have := hnx.out.1; have := hnx.out.2.1; rw [IntKind.wrap_i64]; omega
            clear b20 hm13 k20
            go_wp2_with fail
            refine wp_region_class (C := fun w' => Keep [] w20 w' ∧ w'.cell? ⟨n, 0, none⟩ = some (.slice A9 r2.length ca9) ∧ w'.cell? ⟨n, 1, none⟩ = some (.slice B9 r3.length cb9) ∧ w'.cell? ⟨n, 2, none⟩ = some (.int .i64 r4)) (by kernel_rfl) (by kernel_rfl) ⟨(Keep.refl _ _).drew, t0, t1, t2⟩ ?_
            iterate 27 (first
              | go_big_quiet_skip
              | (go_big_quiet_want; first
                | (go_big_quiet_op; go_big_quiet_on)
                | (refine quiet_run (v := ?_) ?_ ?_; (rotate_left; (intro w' hC; (try dsimp only at hC); go_split_ands; go_simp; with_reducible rfl); simp only [Act.put, List.setIfInBounds_toArray, List.set_cons_zero, List.set_cons_succ]; go_big_quiet_on))
                | (refine quiet_call (v := ?_) (f := ?_) (args := ?_) ?_ ?_ ?_; (rotate_left; rotate_left; rotate_left; (intro w' hC; (try dsimp only at hC); go_split_ands; go_simp; (refine ⟨?_, ?_⟩ <;> with_reducible rfl)); (intro w' hC; first | (go_at_call 14; (with_reducible refine (hLen.out _ hC.1).mono ?_); rintro e w28 ⟨rfl, kq⟩; refine ⟨?_, Keep.trans hC.1 kq, kq.cell (by simp) hC.2.1, kq.cell (by simp) hC.2.2.1, kq.cell (by simp) hC.2.2.2⟩; with_reducible rfl) | (go_at_call 11; (with_reducible refine (hDr.out _ hC.1).mono ?_); rintro e w28 ⟨rfl, rfl⟩; refine ⟨?_, hC⟩; with_reducible rfl)); simp only [Act.put, List.setIfInBounds_toArray, List.set_cons_zero, List.set_cons_succ]; go_big_quiet_on))))
            refine wpQuiet_nil ?_
            intro w30 hC30
            have k30 := hC30.1
            clear hC30
            go_wp2
            go_roundw
            case rel => exact ⟨j + 1, by omega, by go_num, r2, r3, r4, hnx, Lib.hid (hm20.out.next k30).tops⟩
            case measure => simp [intOf]; omega
        · by_cases h1 : x.k % 3 = 1
          · by_cases hz : a.length + b.length = 0
            · skip
              have z0 : (x.k % 3 == 0) = false := by rw [beq_eq_false_iff_ne]; omega
              have y0 : ¬ (x.k % 3 = 0) := by omega
              have z1 : (x.k % 3 == 1) = true := by rw [beq_iff_eq]; omega
              have y1 : (x.k % 3 = 1) := by omega
              replace h1 := Lib.hid h1
              replace y1 := Lib.hid y1
              obtain rfl : a = [] := List.eq_nil_of_length_eq_zero (by omega)
              obtain rfl : b = [] := List.eq_nil_of_length_eq_zero (by omega)
              clear hz
              obtain ⟨A7, B7, ca7, cb7, bn7, hP⟩ := (hmid.out.next kk6).pop0
              have HP := Lib.hid (hP x.i)
              clear hP
              have hnx := Lib.hid hinv.out.same
              go_wp2_with (first | ((with_reducible refine wl_load 53 (.tmp 4) ?_ ?_); (with_reducible rfl); refine sx_loadW rfl 53 (.tmp 4) rfl n #[.slice A7 ([] : List Ms).length ca7, .slice B7 ([] : List Ms).length cb7, .int .i64 d] _ _ 3 rfl bn7 Try.underlying53 rfl zRq_size rfl ?_; (try simp only [Act.put, List.setIfInBounds_toArray, List.set_cons_zero, List.set_cons_succ])))
              refine HP.out.mono ?_
              rintro e w8 ⟨rfl, k8, hT⟩
              replace hT := Lib.hid hT
              go_upto_region 20 with (first | ((with_reducible refine wl_alloc 53 ?_ ?_); (with_reducible rfl); refine sx_alloc rfl 53 rfl _ 3 zRq zRq_info rfl ?_; intro w9 bw9 kw9 zw9; clear zw9; (try simp only [Act.put, List.setIfInBounds_toArray, List.set_cons_zero, List.set_cons_succ])) | ((with_reducible refine wl_alloc 38 ?_ ?_); (with_reducible rfl); refine sx_alloc rfl 38 rfl _ 21 zMs zMs_info rfl ?_; intro w10 bw10 kw10 zw10; clear zw10; (try simp only [Act.put, List.setIfInBounds_toArray, List.set_cons_zero, List.set_cons_succ])) | ((with_reducible refine wl_store 53 (.tmp 9) (.tmp 71) ?_ ?_); (with_reducible rfl); refine sx_storeW rfl 53 (.tmp 9) (.tmp 71) rfl w8.heap.size #[.slice A7 ([] : List Ms).length ca7, .slice B7 ([] : List Ms).length cb7, .int .i64 d] zRq _ 3 rfl rfl (bw9.keep kw10 (by simp)) zRq_size rfl rfl rfl ?_; intro w11 bw11 kw11 zw11; clear zw11; (try simp only [Act.put, List.setIfInBounds_toArray, List.set_cons_zero, List.set_cons_succ])) | ((with_reducible refine wl_store 38 (.tmp 10) (.tmp 72) ?_ ?_); (with_reducible rfl); refine sx_storeW rfl 38 (.tmp 10) (.tmp 72) rfl w9.heap.size zMs zMs _ 21 rfl rfl (bw10.keep kw11 (by have := bw9.lt; simp; omega)) zMs_size rfl rfl rfl ?_; intro w12 bw12 kw12 zw12; clear zw12; (try simp only [Act.put, List.setIfInBounds_toArray, List.set_cons_zero, List.set_cons_succ])))
              have l9 := bw9.lt
              have s8 := k8.size
              have s6 := kk6.size
              have k8a : Keep [] w8 w12 := ((kw9.trans kw10).new kw11 (fun i hi => .inr (by simp at hi; omega))).new kw12 (fun i hi => .inr (by simp at hi; omega))
              have bn12 := (bn7.keep k8 (by simp)).keep k8a (by simp)
              have bx12 := bw11.keep kw12 (by simp; omega)
              have kk12 := (kk6.trans k8).trans k8a
              have b12 := (b6.keep k8 (by simp)).keep k8a (by simp)
              have g10 : w6.heap.size ≤ w9.heap.size := Nat.le_trans s8 kw9.size
              generalize w9.heap.size = g9 at *
              clear bw9 bw10 bw11 kw9 kw10 kw11 kw12 bn7
              go_upto_region 21 with (first | ((with_reducible refine wl_load 53 (.tmp 9) ?_ ?_); (with_reducible rfl); refine sx_loadW rfl 53 (.tmp 9) rfl w8.heap.size #[.slice A7 ([] : List Ms).length ca7, .slice B7 ([] : List Ms).length cb7, .int .i64 d] _ _ 3 rfl bx12 Try.underlying53 rfl zRq_size rfl ?_; (try simp only [Act.put, List.setIfInBounds_toArray, List.set_cons_zero, List.set_cons_succ])) | ((with_reducible refine wl_store 53 (.tmp 4) (.tmp 74) ?_ ?_); (with_reducible rfl); refine sx_storeW rfl 53 (.tmp 4) (.tmp 74) rfl n #[.slice A7 ([] : List Ms).length ca7, .slice B7 ([] : List Ms).length cb7, .int .i64 d] #[.slice A7 ([] : List Ms).length ca7, .slice B7 ([] : List Ms).length cb7, .int .i64 d] _ 3 rfl rfl bn12 zRq_size rfl rfl rfl ?_; intro w13 bw13 kw13 zw13; clear zw13; (try simp only [Act.put, List.setIfInBounds_toArray, List.set_cons_zero, List.set_cons_succ])))
              have hm13 := Lib.hid (hT.out w13 ((k8a.mono (by simp)).trans kw13) bw13)
              have q22b : w13.cell? ⟨wr.heap.size, 22, none⟩ = some (.int .i64 x.i) := (b12.keep kw13 (by simp; omega)).cell 22
              have bm13 := bw12.keep kw13 (by simp; omega)
              clear bx12 bn12 bw13 bw12 b12 q0 q22 hT kw13 k8a
              go_wp2_with fail
              refine (hm13.out.qpop0M x.i).mono ?_
              rintro e w14 ⟨rfl, hm14, k14⟩
              have bm14 := bm13.keep k14 (by simp)
              replace hm14 := Lib.hid hm14
              clear hm13 bm13 q22b HP
              go_upto_region 22 with (first | ((with_reducible refine wl_alloc 38 ?_ ?_); (with_reducible rfl); refine sx_alloc rfl 38 rfl _ 21 zMs zMs_info rfl ?_; intro w15 bw15 kw15 zw15; clear zw15; (try simp only [Act.put, List.setIfInBounds_toArray, List.set_cons_zero, List.set_cons_succ])) | ((with_reducible refine wl_store 38 (.tmp 12) (.tmp 80) ?_ ?_); (with_reducible rfl); refine sx_storeW rfl 38 (.tmp 12) (.tmp 80) rfl w14.heap.size zMs zMs _ 21 rfl rfl bw15 zMs_size rfl rfl rfl ?_; intro w16 bw16 kw16 zw16; clear zw16; (try simp only [Act.put, List.setIfInBounds_toArray, List.set_cons_zero, List.set_cons_succ])))
              have k16 : Keep [] w14 w16 := kw15.new kw16 (fun i hi => .inr (by simp at hi; omega))
              have ba := Lib.hid bw16
              have bb := Lib.hid (bm14.keep k16 (by simp))
              have hm16 := Lib.hid (hm14.out.next k16)
              have hMa : Hid (∀ w', Keep [] w16 w' → Calls Try.prog 8 #[.agg zMs] w' (fun e w'' => e = .returned (.string (msgF zM)) ∧ Keep [] w' w'')) := Lib.hid (fun w' (kq : Keep [] w16 w') => rmsg_call zM _ _ _ _ (fun _ => False) w' (zM_ok w' _ none none none none 0 0 0 0) zM_sz)
              have hMb := hMa
              clear bw15 kw15 kw16 bw16 bm14 hm14
              clear k16
              go_wp2_with fail
              refine wp_region_class (C := fun w' => Keep [] w16 w') (by kernel_rfl) (by kernel_rfl) ((Keep.refl _ _).drew) ?_
              iterate 10 (first
                | go_big_quiet_skip
                | (go_big_quiet_want; first
                  | (refine quiet_loadW 38 (.tmp 12) rfl w14.heap.size zMs _ _ 21 rfl (fun w' hw => ba.out.keep hw (by simp)) Try.underlying38 rfl zMs_size rfl ?_; simp only [Act.put, List.setIfInBounds_toArray, List.set_cons_zero, List.set_cons_succ]; go_big_quiet_on)
                  | (refine quiet_loadW 38 (.tmp 10) rfl g9 zMs _ _ 21 rfl (fun w' hw => bb.out.keep hw (by simp)) Try.underlying38 rfl zMs_size rfl ?_; simp only [Act.put, List.setIfInBounds_toArray, List.set_cons_zero, List.set_cons_succ]; go_big_quiet_on)
                  | (go_big_quiet_op; go_big_quiet_on)
                  | (refine quiet_run (v := ?_) ?_ ?_; (rotate_left; (intro w' hC; (try dsimp only at hC); go_split_ands; go_simp; with_reducible rfl); simp only [Act.put, List.setIfInBounds_toArray, List.set_cons_zero, List.set_cons_succ]; go_big_quiet_on))
                  | (refine quiet_call (v := ?_) (f := ?_) (args := ?_) ?_ ?_ ?_; (rotate_left; rotate_left; rotate_left; (intro w' hC; (try dsimp only at hC); go_split_ands; go_simp; (refine ⟨?_, ?_⟩ <;> with_reducible rfl)); (intro w' hC; first | (go_at_call 8; (with_reducible refine (hMa.out _ hC).mono ?_); rintro e w28 ⟨rfl, kq⟩; refine ⟨?_, Keep.trans hC kq⟩; with_reducible rfl) | (go_at_call 8; (with_reducible refine (hMb.out _ hC).mono ?_); rintro e w28 ⟨rfl, kq⟩; refine ⟨?_, Keep.trans hC kq⟩; with_reducible rfl)); simp only [Act.put, List.setIfInBounds_toArray, List.set_cons_zero, List.set_cons_succ]; go_big_quiet_on))))
              refine wpQuiet_nil ?_
              intro w17 k17
              have hm17 := hm16.out.next k17
              clear hMa hMb ba bb hm16 k17
              replace hm17 := Lib.hid hm17
              generalize hE : ([] : List Ms) = e0 at *
              clear hE
              have hm17' := hm17.out
              clear hm17
              replace hm17' := Lib.hid hm17'
              go_wp2_with fail
              refine (hm17'.out.qlanes e0.length e0.length (by simp) (by simp)).mono ?_
              rintro e w20 ⟨rfl, k20⟩
              have hm20 := Lib.hid (hm17'.out.next k20)
              obtain ⟨A9, B9, ca9, cb9, b20⟩ := hm20.out.blk
              have t0 : w20.cell? ⟨n, 0, none⟩ = some (.slice A9 e0.length ca9) := b20.cell 0
              have t1 : w20.cell? ⟨n, 1, none⟩ = some (.slice B9 e0.length cb9) := b20.cell 1
              have t2 : w20.cell? ⟨n, 2, none⟩ = some (.int .i64 d) := b20.cell 2
              have hLen := Lib.hid (fun w' (kq : Keep [] w20 w') => (hm20.out.next kq).qlen e0.length e0.length (by simp) (by simp) (by have := hnx.out.1; omega) (by have := hnx.out.2.1; omega))
              have hDr := Lib.hid (fun w' (kq : Keep [] w20 w') => (hm20.out.next kq).qdropped)
              have zs : IntKind.i64.wrap ((e0.length : Int) + (e0.length : Int)) = (e0.length : Int) + (e0.length : Int) := by have := hnx.out.1; have := hnx.out.2.1; rw [IntKind.wrap_i64]; omega
              clear b20 hm17' k20
              go_wp2_with fail
              refine wp_region_class (C := fun w' => Keep [] w20 w' ∧ w'.cell? ⟨n, 0, none⟩ = some (.slice A9 e0.length ca9) ∧ w'.cell? ⟨n, 1, none⟩ = some (.slice B9 e0.length cb9) ∧ w'.cell? ⟨n, 2, none⟩ = some (.int .i64 d)) (by kernel_rfl) (by kernel_rfl) ⟨(Keep.refl _ _).drew, t0, t1, t2⟩ ?_
              iterate 27 (first
                | go_big_quiet_skip
                | (go_big_quiet_want; first
                  | (go_big_quiet_op; go_big_quiet_on)
                  | (refine quiet_run (v := ?_) ?_ ?_; (rotate_left; (intro w' hC; (try dsimp only at hC); go_split_ands; go_simp; with_reducible rfl); simp only [Act.put, List.setIfInBounds_toArray, List.set_cons_zero, List.set_cons_succ]; go_big_quiet_on))
                  | (refine quiet_call (v := ?_) (f := ?_) (args := ?_) ?_ ?_ ?_; (rotate_left; rotate_left; rotate_left; (intro w' hC; (try dsimp only at hC); go_split_ands; go_simp; (refine ⟨?_, ?_⟩ <;> with_reducible rfl)); (intro w' hC; first | (go_at_call 14; (with_reducible refine (hLen.out _ hC.1).mono ?_); rintro e w28 ⟨rfl, kq⟩; refine ⟨?_, Keep.trans hC.1 kq, kq.cell (by simp) hC.2.1, kq.cell (by simp) hC.2.2.1, kq.cell (by simp) hC.2.2.2⟩; with_reducible rfl) | (go_at_call 11; (with_reducible refine (hDr.out _ hC.1).mono ?_); rintro e w28 ⟨rfl, rfl⟩; refine ⟨?_, hC⟩; with_reducible rfl)); simp only [Act.put, List.setIfInBounds_toArray, List.set_cons_zero, List.set_cons_succ]; go_big_quiet_on))))
              refine wpQuiet_nil ?_
              intro w30 hC30
              have k30 := hC30.1
              clear hC30
              go_wp2
              go_roundw
              case rel => exact ⟨j + 1, by omega, by go_num, e0, e0, d, hnx, Lib.hid (hm20.out.next k30).tops⟩
              case measure => simp [intOf]; omega
            · skip
              have z0 : (x.k % 3 == 0) = false := by rw [beq_eq_false_iff_ne]; omega
              have y0 : ¬ (x.k % 3 = 0) := by omega
              have z1 : (x.k % 3 == 1) = true := by rw [beq_iff_eq]; omega
              have y1 : (x.k % 3 = 1) := by omega
              replace h1 := Lib.hid h1
              replace y1 := Lib.hid y1
              obtain ⟨p, hp1, hp2⟩ := tmod_at x.i (a.length + b.length) (by omega)
              have hpl : p < (a ++ b).length := by simp; omega
              obtain ⟨A7, B7, ca7, cb7, bn7, hP⟩ := (hmid.out.next kk6).pop
              have HP := Lib.hid (hP x.i (a.length + b.length) p rfl (by have := hinv.out.1; have := hinv.out.2.1; omega) hp2 hp1)
              clear hP
              have hnx := Lib.hid (hinv.out.pop p)
              have hxp : (a ++ b)[p]? = some ((a ++ b)[p]'hpl) := List.getElem?_eq_getElem hpl
              have hxr := hinv.out.2.2.2.2 _ (List.mem_append.1 (List.getElem_mem hpl))
              have HQ := Lib.hid (fun w' e (h : MidQ w w' q n w6.heap.size (a.map msgF) (b.map msgF) d (popR p a b).1 (popR p a b).2 d e) => h.qpopM x.i (a.length + b.length) p ((a ++ b)[p]'hpl) rfl (by have := hinv.out.1; have := hinv.out.2.1; omega) hp2 hxp hxr.1)
              have hxs := Lib.hid hxr.2
              clear hxp hxr hz
              generalize (a ++ b)[p]'hpl = xx at *
              clear hp2 hp1 hpl
              go_wp2_with (first | ((with_reducible refine wl_load 53 (.tmp 4) ?_ ?_); (with_reducible rfl); refine sx_loadW rfl 53 (.tmp 4) rfl n #[.slice A7 a.length ca7, .slice B7 b.length cb7, .int .i64 d] _ _ 3 rfl bn7 Try.underlying53 rfl zRq_size rfl ?_; (try simp only [Act.put, List.setIfInBounds_toArray, List.set_cons_zero, List.set_cons_succ])))
              refine HP.out.mono ?_
              generalize popR p a b = r at *
              obtain ⟨r1, r2⟩ := r
              dsimp only at *
              rintro e w8 ⟨A8, B8, ca8, cb8, m0, m1, m2, m3, rfl, k8, ⟨G8, hg8⟩, hT⟩
              obtain ⟨am0, cm0, rfl, -⟩ := hg8.bs.form
              obtain ⟨am1, cm1, rfl, -⟩ := hg8.bq.form
              obtain ⟨am2, cm2, rfl, -⟩ := hg8.cs.form
              obtain ⟨am3, cm3, rfl, -⟩ := hg8.st.form
              clear hg8
              replace hT := Lib.hid hT
              go_upto_region 20 with (first | ((with_reducible refine wl_alloc 53 ?_ ?_); (with_reducible rfl); refine sx_alloc rfl 53 rfl _ 3 zRq zRq_info rfl ?_; intro w9 bw9 kw9 zw9; clear zw9; (try simp only [Act.put, List.setIfInBounds_toArray, List.set_cons_zero, List.set_cons_succ])) | ((with_reducible refine wl_alloc 38 ?_ ?_); (with_reducible rfl); refine sx_alloc rfl 38 rfl _ 21 zMs zMs_info rfl ?_; intro w10 bw10 kw10 zw10; clear zw10; (try simp only [Act.put, List.setIfInBounds_toArray, List.set_cons_zero, List.set_cons_succ])) | ((with_reducible refine wl_store 53 (.tmp 9) (.tmp 71) ?_ ?_); (with_reducible rfl); refine sx_storeW rfl 53 (.tmp 9) (.tmp 71) rfl w8.heap.size #[.slice A8 r1.length ca8, .slice B8 r2.length cb8, .int .i64 d] zRq _ 3 rfl rfl (bw9.keep kw10 (by simp)) zRq_size rfl rfl rfl ?_; intro w11 bw11 kw11 zw11; clear zw11; (try simp only [Act.put, List.setIfInBounds_toArray, List.set_cons_zero, List.set_cons_succ])) | ((with_reducible refine wl_store 38 (.tmp 10) (.tmp 72) ?_ ?_); (with_reducible rfl); refine sx_storeW rfl 38 (.tmp 10) (.tmp 72) rfl w9.heap.size (msgV xx (.slice am0 xx.b.j.sg.length cm0) (.slice am1 xx.b.q.length cm1) (.slice am2 xx.c.sg.length cm2) (.slice am3 xx.s.ts.length cm3)) zMs _ 21 rfl rfl (bw10.keep kw11 (by have := bw9.lt; simp; omega)) zMs_size rfl rfl rfl ?_; intro w12 bw12 kw12 zw12; clear zw12; (try simp only [Act.put, List.setIfInBounds_toArray, List.set_cons_zero, List.set_cons_succ])))
              have l9 := bw9.lt
              have s8 := k8.size
              have s6 := kk6.size
              have k8a : Keep [] w8 w12 := ((kw9.trans kw10).new kw11 (fun i hi => .inr (by simp at hi; omega))).new kw12 (fun i hi => .inr (by simp at hi; omega))
              have bn12 := (bn7.keep k8 (by simp)).keep k8a (by simp)
              have bx12 := bw11.keep kw12 (by simp; omega)
              have kk12 := (kk6.trans k8).trans k8a
              have b12 := (b6.keep k8 (by simp)).keep k8a (by simp)
              have g10 : w6.heap.size ≤ w9.heap.size := Nat.le_trans s8 kw9.size
              generalize w9.heap.size = g9 at *
              clear bw9 bw10 bw11 kw9 kw10 kw11 kw12 bn7
              go_upto_region 21 with (first | ((with_reducible refine wl_load 53 (.tmp 9) ?_ ?_); (with_reducible rfl); refine sx_loadW rfl 53 (.tmp 9) rfl w8.heap.size #[.slice A8 r1.length ca8, .slice B8 r2.length cb8, .int .i64 d] _ _ 3 rfl bx12 Try.underlying53 rfl zRq_size rfl ?_; (try simp only [Act.put, List.setIfInBounds_toArray, List.set_cons_zero, List.set_cons_succ])) | ((with_reducible refine wl_store 53 (.tmp 4) (.tmp 74) ?_ ?_); (with_reducible rfl); refine sx_storeW rfl 53 (.tmp 4) (.tmp 74) rfl n #[.slice A8 r1.length ca8, .slice B8 r2.length cb8, .int .i64 d] #[.slice A7 a.length ca7, .slice B7 b.length cb7, .int .i64 d] _ 3 rfl rfl bn12 zRq_size rfl rfl rfl ?_; intro w13 bw13 kw13 zw13; clear zw13; (try simp only [Act.put, List.setIfInBounds_toArray, List.set_cons_zero, List.set_cons_succ])))
              have hm13 := Lib.hid (hT.out w13 ((k8a.mono (by simp)).trans kw13) bw13)
              have q22b : w13.cell? ⟨wr.heap.size, 22, none⟩ = some (.int .i64 x.i) := (b12.keep kw13 (by simp; omega)).cell 22
              have bm13 := bw12.keep kw13 (by simp; omega)
              clear bx12 bn12 bw13 bw12 b12 q0 q22 hT kw13 k8a
              go_wp2_with fail
              refine (HQ.out _ _ hm13.out).mono ?_
              rintro e w14 ⟨n0, n1, n2, n3, rfl, hg14, hm14, T, k14, hT14⟩
              have bm14 := bm13.keep k14 (fun hm => by have := hT14 _ hm; omega)
              obtain ⟨an0, cn0, rfl, -⟩ := hg14.bs.form
              obtain ⟨an1, cn1, rfl, -⟩ := hg14.bq.form
              obtain ⟨an2, cn2, rfl, -⟩ := hg14.cs.form
              obtain ⟨an3, cn3, rfl, -⟩ := hg14.st.form
              replace hm14 := Lib.hid hm14
              clear hm13 bm13 q22b HP
              go_upto_region 22 with (first | ((with_reducible refine wl_alloc 38 ?_ ?_); (with_reducible rfl); refine sx_alloc rfl 38 rfl _ 21 zMs zMs_info rfl ?_; intro w15 bw15 kw15 zw15; clear zw15; (try simp only [Act.put, List.setIfInBounds_toArray, List.set_cons_zero, List.set_cons_succ])) | ((with_reducible refine wl_store 38 (.tmp 12) (.tmp 80) ?_ ?_); (with_reducible rfl); refine sx_storeW rfl 38 (.tmp 12) (.tmp 80) rfl w14.heap.size (msgV xx (.slice an0 xx.b.j.sg.length cn0) (.slice an1 xx.b.q.length cn1) (.slice an2 xx.c.sg.length cn2) (.slice an3 xx.s.ts.length cn3)) zMs _ 21 rfl rfl bw15 zMs_size rfl rfl rfl ?_; intro w16 bw16 kw16 zw16; clear zw16; (try simp only [Act.put, List.setIfInBounds_toArray, List.set_cons_zero, List.set_cons_succ])))
              have k16 : Keep [] w14 w16 := kw15.new kw16 (fun i hi => .inr (by simp at hi; omega))
              have ba := Lib.hid bw16
              have bb := Lib.hid (bm14.keep k16 (by simp))
              have hm16 := Lib.hid (hm14.out.next k16)
              obtain ⟨GG, hgg⟩ := hm16.out.msg
              have hMa := Lib.hid (fun w' (kq : Keep [] w16 w') => rmsg_call xx _ _ _ _ _ w' ((hg14.keep (k16.at _ (by simp))).keep (kq.at _ (by simp))) hxs.out)
              have hMb := Lib.hid (fun w' (kq : Keep [] w16 w') => rmsg_call xx _ _ _ _ _ w' (hgg.keep (kq.at _ (by simp))) hxs.out)
              clear hgg
              clear bw15 kw15 kw16 bw16 bm14 hm14
              clear k16 hg14 k14 hT14 HQ
              go_wp2_with fail
              refine wp_region_class (C := fun w' => Keep [] w16 w') (by kernel_rfl) (by kernel_rfl) ((Keep.refl _ _).drew) ?_
              iterate 10 (first
                | go_big_quiet_skip
                | (go_big_quiet_want; first
                  | (refine quiet_loadW 38 (.tmp 12) rfl w14.heap.size (msgV xx (.slice an0 xx.b.j.sg.length cn0) (.slice an1 xx.b.q.length cn1) (.slice an2 xx.c.sg.length cn2) (.slice an3 xx.s.ts.length cn3)) _ _ 21 rfl (fun w' hw => ba.out.keep hw (by simp)) Try.underlying38 rfl zMs_size rfl ?_; simp only [Act.put, List.setIfInBounds_toArray, List.set_cons_zero, List.set_cons_succ]; go_big_quiet_on)
                  | (refine quiet_loadW 38 (.tmp 10) rfl g9 (msgV xx (.slice am0 xx.b.j.sg.length cm0) (.slice am1 xx.b.q.length cm1) (.slice am2 xx.c.sg.length cm2) (.slice am3 xx.s.ts.length cm3)) _ _ 21 rfl (fun w' hw => bb.out.keep hw (by simp)) Try.underlying38 rfl zMs_size rfl ?_; simp only [Act.put, List.setIfInBounds_toArray, List.set_cons_zero, List.set_cons_succ]; go_big_quiet_on)
                  | (go_big_quiet_op; go_big_quiet_on)
                  | (refine quiet_run (v := ?_) ?_ ?_; (rotate_left; (intro w' hC; (try dsimp only at hC); go_split_ands; go_simp; with_reducible rfl); simp only [Act.put, List.setIfInBounds_toArray, List.set_cons_zero, List.set_cons_succ]; go_big_quiet_on))
                  | (refine quiet_call (v := ?_) (f := ?_) (args := ?_) ?_ ?_ ?_; (rotate_left; rotate_left; rotate_left; (intro w' hC; (try dsimp only at hC); go_split_ands; go_simp; (refine ⟨?_, ?_⟩ <;> with_reducible rfl)); (intro w' hC; first | (go_at_call 8; (with_reducible refine (hMa.out _ hC).mono ?_); rintro e w28 ⟨rfl, kq⟩; refine ⟨?_, Keep.trans hC kq⟩; with_reducible rfl) | (go_at_call 8; (with_reducible refine (hMb.out _ hC).mono ?_); rintro e w28 ⟨rfl, kq⟩; refine ⟨?_, Keep.trans hC kq⟩; with_reducible rfl)); simp only [Act.put, List.setIfInBounds_toArray, List.set_cons_zero, List.set_cons_succ]; go_big_quiet_on))))
              refine wpQuiet_nil ?_
              intro w17 k17
              have hm17 := hm16.out.next k17
              clear hMa hMb ba bb hm16 k17
              replace hm17 := Lib.hid hm17
              go_wp2_with fail
              refine (hm17.out.qlanes r1.length r2.length (by simp) (by simp)).mono ?_
              rintro e w20 ⟨rfl, k20⟩
              have hm20 := Lib.hid (hm17.out.next k20)
              obtain ⟨A9, B9, ca9, cb9, b20⟩ := hm20.out.blk
              have t0 : w20.cell? ⟨n, 0, none⟩ = some (.slice A9 r1.length ca9) := b20.cell 0
              have t1 : w20.cell? ⟨n, 1, none⟩ = some (.slice B9 r2.length cb9) := b20.cell 1
              have t2 : w20.cell? ⟨n, 2, none⟩ = some (.int .i64 d) := b20.cell 2
              have hLen := Lib.hid (fun w' (kq : Keep [] w20 w') => (hm20.out.next kq).qlen r1.length r2.length (by simp) (by simp) (by have := hnx.out.1; omega) (by have := hnx.out.2.1; omega))
              have hDr := Lib.hid (fun w' (kq : Keep [] w20 w') => (hm20.out.next kq).qdropped)
              have zs : IntKind.i64.wrap ((r1.length : Int) + (r2.length : Int)) = (r1.length : Int) + (r2.length : Int) := by have := hnx.out.1; have := hnx.out.2.1; rw [IntKind.wrap_i64]; omega
              clear b20 hm17 k20
              go_wp2_with fail
              refine wp_region_class (C := fun w' => Keep [] w20 w' ∧ w'.cell? ⟨n, 0, none⟩ = some (.slice A9 r1.length ca9) ∧ w'.cell? ⟨n, 1, none⟩ = some (.slice B9 r2.length cb9) ∧ w'.cell? ⟨n, 2, none⟩ = some (.int .i64 d)) (by kernel_rfl) (by kernel_rfl) ⟨(Keep.refl _ _).drew, t0, t1, t2⟩ ?_
              iterate 27 (first
                | go_big_quiet_skip
                | (go_big_quiet_want; first
                  | (go_big_quiet_op; go_big_quiet_on)
                  | (refine quiet_run (v := ?_) ?_ ?_; (rotate_left; (intro w' hC; (try dsimp only at hC); go_split_ands; go_simp; with_reducible rfl); simp only [Act.put, List.setIfInBounds_toArray, List.set_cons_zero, List.set_cons_succ]; go_big_quiet_on))
                  | (refine quiet_call (v := ?_) (f := ?_) (args := ?_) ?_ ?_ ?_; (rotate_left; rotate_left; rotate_left; (intro w' hC; (try dsimp only at hC); go_split_ands; go_simp; (refine ⟨?_, ?_⟩ <;> with_reducible rfl)); (intro w' hC; first | (go_at_call 14; (with_reducible refine (hLen.out _ hC.1).mono ?_); rintro e w28 ⟨rfl, kq⟩; refine ⟨?_, Keep.trans hC.1 kq, kq.cell (by simp) hC.2.1, kq.cell (by simp) hC.2.2.1, kq.cell (by simp) hC.2.2.2⟩; with_reducible rfl) | (go_at_call 11; (with_reducible refine (hDr.out _ hC.1).mono ?_); rintro e w28 ⟨rfl, rfl⟩; refine ⟨?_, hC⟩; with_reducible rfl)); simp only [Act.put, List.setIfInBounds_toArray, List.set_cons_zero, List.set_cons_succ]; go_big_quiet_on))))
              refine wpQuiet_nil ?_
              intro w30 hC30
              have k30 := hC30.1
              clear hC30
              go_wp2
              go_roundw
              case rel => exact ⟨j + 1, by omega, by go_num, r1, r2, d, hnx, Lib.hid (hm20.out.next k30).tops⟩
              case measure => simp [intOf]; omega
          · skip
            have z0 : (x.k % 3 == 0) = false := by rw [beq_eq_false_iff_ne]; omega
            have y0 : ¬ (x.k % 3 = 0) := by omega
            have z1 : (x.k % 3 == 1) = false := by rw [beq_eq_false_iff_ne]; omega
            have y1 : ¬ (x.k % 3 = 1) := by omega
            clear h0 h1 q22
            go_wp2_with fail
            refine (hmid.out.next kk6).qclearM.mono ?_
            rintro e w8 ⟨rfl, hm8⟩
            have hnx := Lib.hid hinv.out.clear
            obtain ⟨A7, B7, ca7, cb7, bn7⟩ := hm8.blk
            have u2 : w8.cell? ⟨n, 2, none⟩ = some (.int .i64 d) := bn7.cell 2
            replace hm8 := Lib.hid hm8
            go_upto_region 24 with (first | ((with_reducible refine wl_build 53 _ ?_ ?_); (with_reducible rfl); refine sx_build rfl 53 _ rfl #[.slice none 0 0, .slice none 0 0, .int .i64 d] (by kernel_rfl) ?_; (try simp only [Act.put, List.setIfInBounds_toArray, List.set_cons_zero, List.set_cons_succ])) | ((with_reducible refine wl_store 53 (.tmp 4) (.tmp 42) ?_ ?_); (with_reducible rfl); refine sx_storeW rfl 53 (.tmp 4) (.tmp 42) rfl n #[.slice none 0 0, .slice none 0 0, .int .i64 d] #[.slice A7 a.length ca7, .slice B7 b.length cb7, .int .i64 d] _ 3 rfl rfl bn7 zRq_size rfl rfl rfl ?_; intro w9 bw9 kw9 zw9; clear zw9; (try simp only [Act.put, List.setIfInBounds_toArray, List.set_cons_zero, List.set_cons_succ])))
            have hm9 := hm8.out.emptied kw9 bw9
            clear bn7 u2 bw9 kw9 hm8
            replace hm9 := Lib.hid hm9
            generalize hE : ([] : List Ms) = e0 at *
            clear hE
            have hm9' := hm9.out
            clear hm9
            replace hm9' := Lib.hid hm9'
            go_wp2_with fail
            refine (hm9'.out.qlanes e0.length e0.length (by simp) (by simp)).mono ?_
            rintro e w20 ⟨rfl, k20⟩
            have hm20 := Lib.hid (hm9'.out.next k20)
            obtain ⟨A9, B9, ca9, cb9, b20⟩ := hm20.out.blk
            have t0 : w20.cell? ⟨n, 0, none⟩ = some (.slice A9 e0.length ca9) := b20.cell 0
            have t1 : w20.cell? ⟨n, 1, none⟩ = some (.slice B9 e0.length cb9) := b20.cell 1
            have t2 : w20.cell? ⟨n, 2, none⟩ = some (.int .i64 d) := b20.cell 2
            have hLen := Lib.hid (fun w' (kq : Keep [] w20 w') => (hm20.out.next kq).qlen e0.length e0.length (by simp) (by simp) (by have := hnx.out.1; omega) (by have := hnx.out.2.1; omega))
            have hDr := Lib.hid (fun w' (kq : Keep [] w20 w') => (hm20.out.next kq).qdropped)
            have zs : IntKind.i64.wrap ((e0.length : Int) + (e0.length : Int)) = (e0.length : Int) + (e0.length : Int) := by have := hnx.out.1; have := hnx.out.2.1; rw [IntKind.wrap_i64]; omega
            clear b20 hm9' k20
            go_wp2_with fail
            refine wp_region_class (C := fun w' => Keep [] w20 w' ∧ w'.cell? ⟨n, 0, none⟩ = some (.slice A9 e0.length ca9) ∧ w'.cell? ⟨n, 1, none⟩ = some (.slice B9 e0.length cb9) ∧ w'.cell? ⟨n, 2, none⟩ = some (.int .i64 d)) (by kernel_rfl) (by kernel_rfl) ⟨(Keep.refl _ _).drew, t0, t1, t2⟩ ?_
            iterate 27 (first
              | go_big_quiet_skip
              | (go_big_quiet_want; first
                | (go_big_quiet_op; go_big_quiet_on)
                | (refine quiet_run (v := ?_) ?_ ?_; (rotate_left; (intro w' hC; (try dsimp only at hC); go_split_ands; go_simp; with_reducible rfl); simp only [Act.put, List.setIfInBounds_toArray, List.set_cons_zero, List.set_cons_succ]; go_big_quiet_on))
                | (refine quiet_call (v := ?_) (f := ?_) (args := ?_) ?_ ?_ ?_; (rotate_left; rotate_left; rotate_left; (intro w' hC; (try dsimp only at hC); go_split_ands; go_simp; (refine ⟨?_, ?_⟩ <;> with_reducible rfl)); (intro w' hC; first | (go_at_call 14; (with_reducible refine (hLen.out _ hC.1).mono ?_); rintro e w28 ⟨rfl, kq⟩; refine ⟨?_, Keep.trans hC.1 kq, kq.cell (by simp) hC.2.1, kq.cell (by simp) hC.2.2.1, kq.cell (by simp) hC.2.2.2⟩; with_reducible rfl) | (go_at_call 11; (with_reducible refine (hDr.out _ hC.1).mono ?_); rintro e w28 ⟨rfl, rfl⟩; refine ⟨?_, hC⟩; with_reducible rfl)); simp only [Act.put, List.setIfInBounds_toArray, List.set_cons_zero, List.set_cons_succ]; go_big_quiet_on))))
            refine wpQuiet_nil ?_
            intro w30 hC30
            have k30 := hC30.1
            clear hC30
            go_wp2
            go_roundw
            case rel => exact ⟨j + 1, by omega, by go_num, e0, e0, d, hnx, Lib.hid (hm20.out.next k30).tops⟩
            case measure => simp [intOf]; omega
      · have hltz : ¬ (j : Int) < (l.length : Int) := by omega
        have kf := hmid.out.kept
        go_wp2
        go_ret
        exact ⟨rfl, kf⟩
end Go.Proofs.Ytpndbidpennlcaa
namespace Go.Proofs.Ytpndbidpennlcaa
open Go.RowKit Go.ChangeShapes Go.WideShapes Go.ChangeAt
set_option linter.unusedVariables false
set_option linter.unusedSimpArgs false
theorem li23 {α : Type} (l : List α) (h : l.length = 23) : ∃ a0 a1 a2 a3 a4 a5 a6 a7 a8 a9 a10 a11 a12 a13 a14 a15 a16 a17 a18 a19 a20 a21 a22, l = [a0, a1, a2, a3, a4, a5, a6, a7, a8, a9, a10, a11, a12, a13, a14, a15, a16, a17, a18, a19, a20, a21, a22] := by
  match l, h with
  | [a0, a1, a2, a3, a4, a5, a6, a7, a8, a9, a10, a11, a12, a13, a14, a15, a16, a17, a18, a19, a20, a21, a22], _ => exact ⟨a0, a1, a2, a3, a4, a5, a6, a7, a8, a9, a10, a11, a12, a13, a14, a15, a16, a17, a18, a19, a20, a21, a22, rfl⟩
theorem liX3 {α : Type} (l : List α) (h : l.length = 3) : ∃ a0 a1 a2, l = [a0, a1, a2] := by
  match l, h with
  | [a0, a1, a2], _ => exact ⟨a0, a1, a2, rfl⟩
section
variable {H : Type} {enc : TypeId × Value → H} {W : World}
def Rep.u8 : Rep Int where
  sz := 1
  R := fun _ _ n cs => cs = [.int .u8 n] ∧ 0 ≤ n ∧ n ≤ 255
  len := by rintro _ _ _ _ ⟨rfl, _⟩; rfl
  keep := fun h _ => h
  mono := fun h _ => h
theorem opens_u8 {t : TypeId} (ht : Try.prog.underlying t = some (.int .u8)) : Opens enc Try.prog W Rep.u8 t := by
  intro fuel cs x h _
  obtain ⟨n, rfl, rfl, hw⟩ := DataW.trod_int ht h
  simp [Lit.wf, IntKind.min, IntKind.max, IntKind.signed, IntKind.bits] at hw
  exact ⟨n, rfl, hw.1, by omega⟩
theorem open_op17 : Opens enc Try.prog W Rep.op17 55 := by
  intro fuel cs x h hw
  obtain ⟨xs, n, rfl, rfl, hl, hxl, hf⟩ := DataW.trod_struct Try.underlying55 h
  rw [show Try.prog.cellsOf 55 = 23 by kernel_rfl] at hl
  obtain ⟨c0, c1, c2, c3, c4, c5, c6, c7, c8, c9, c10, c11, c12, c13, c14, c15, c16, c17, c18, c19, c20, c21, c22, rfl⟩ := li23 cs hl
  obtain ⟨x0, x1, x2, rfl⟩ := liX3 xs hxl
  have f0 : DataW.trod enc Try.prog W 0 (fun _ => true) true n 5 (([c0, c1, c2, c3, c4, c5, c6, c7, c8, c9, c10, c11, c12, c13, c14, c15, c16, c17, c18, c19, c20, c21, c22].drop 0).take (Try.prog.cellsOf 5)) = some x0 := hf 0 _ rfl
  rw [show Try.prog.cellsOf 5 = 1 by kernel_rfl] at f0
  replace f0 : DataW.trod enc Try.prog W 0 (fun _ => true) true n 5 [c0] = some x0 := f0
  have f1 : DataW.trod enc Try.prog W 0 (fun _ => true) true n 38 (([c0, c1, c2, c3, c4, c5, c6, c7, c8, c9, c10, c11, c12, c13, c14, c15, c16, c17, c18, c19, c20, c21, c22].drop 1).take (Try.prog.cellsOf 38)) = some x1 := hf 1 _ rfl
  rw [show Try.prog.cellsOf 38 = 21 by kernel_rfl] at f1
  replace f1 : DataW.trod enc Try.prog W 0 (fun _ => true) true n 38 [c1, c2, c3, c4, c5, c6, c7, c8, c9, c10, c11, c12, c13, c14, c15, c16, c17, c18, c19, c20, c21] = some x1 := f1
  have f2 : DataW.trod enc Try.prog W 0 (fun _ => true) true n 3 (([c0, c1, c2, c3, c4, c5, c6, c7, c8, c9, c10, c11, c12, c13, c14, c15, c16, c17, c18, c19, c20, c21, c22].drop 22).take (Try.prog.cellsOf 3)) = some x2 := hf 2 _ rfl
  rw [show Try.prog.cellsOf 3 = 1 by kernel_rfl] at f2
  replace f2 : DataW.trod enc Try.prog W 0 (fun _ => true) true n 3 [c22] = some x2 := f2
  have hw' : ∀ k, k ∈ x0.1.weights Try.prog 5 ++ (x1.1.weights Try.prog 38 ++ (x2.1.weights Try.prog 3 ++ ([]))) → k ≤ reachBytes := by
    intro k hk
    refine hw k ?_
    simp only [DataW.weights, Try.underlying55, List.map_cons, List.map_nil, DataW.weightsEach]
    exact hk
  simp only [List.mem_append] at hw'
  obtain ⟨y0, h0⟩ := opens_u8 Try.underlying5 n _ _ f0 (fun k hk => hw' k (.inl hk))
  obtain ⟨y1, h1⟩ := open_ms n _ _ f1 (fun k hk => hw' k (.inr (.inl hk)))
  obtain ⟨y2, h2⟩ := opens_int Try.underlying3 n _ _ f2 (fun k hk => hw' k (.inr (.inr (.inl hk))))
  obtain ⟨e0, b0, c0'⟩ := h0
  obtain ⟨v1, v2, v3, v4, e1, b1⟩ := h1
  obtain ⟨e2, b2⟩ := h2
  simp only [msgV, List.cons.injEq, and_true] at e0 e1 e2
  obtain ⟨d0, d1, d2, d3, d4, d5, d6, d7, d8, d9, d10, d11, d12, d13, d14, d15, d16, d17, d18, d19, d20⟩ := e1
  subst e0 d0 d1 d2 d3 d4 d5 d6 d7 d8 d9 d10 d11 d12 d13 d14 d15 d16 d17 d18 d19 d20 e2
  exact ⟨⟨y0, y1, y2⟩, _, _, _, _, rfl, ⟨b0, c0'⟩, b1, b2⟩
theorem open_op17s : Opens enc Try.prog W (Rep.slice Rep.op17) 49 :=
  opens_slice Try.underlying49 (by kernel_rfl) (by decide) (by rw [show Try.prog.bytesOf 55 = 288 by kernel_rfl]; decide) open_op17
theorem open_msgs : Opens enc Try.prog W (Rep.slice Rep.ms) 51 :=
  opens_slice Try.underlying51 (by kernel_rfl) (by decide) (by rw [show Try.prog.bytesOf 38 = 272 by kernel_rfl]; decide) open_ms
end
end Go.Proofs.Ytpndbidpennlcaa
namespace Go.Proofs.Ytpndbidpennlcaa.queuePlays
open Go.ChangeShapes Go.WideShapes Go.ChangeAt Go.RowKit
open Go.ChangeMaps (open_string shut_string)
set_option linter.unusedVariables false
set_option linter.unusedSimpArgs false
theorem own : ownKnob Try.prog.godebug = none := by kernel_rfl
theorem laidOut : laidOutB Try.prog = true := by kernel_rfl
set_option maxRecDepth 100000 in
theorem lifted (os : Os) (started : os.Started) (H : Type) (enc : TypeId × Value → H) :
    ReturnsInHanded {} Try.checked os 5 .any (Rows.queuePlaysSpec.pre6 enc Try.prog Try.f5 Rows.queuePlaysRow.domain false) (Rows.queuePlaysSpec.post enc Try.prog Try.f5 false true false false) := by
  refine returnsInHanded_of_change_sized (C := Try.checked) own started (by kernel_rfl) Try.func5
    (ChangeSpec.witness6 (enc := enc) (C := Try.checked) false ⟨#[], #[.slice none 0 0], []⟩ 8 (by kernel_rfl) (by kernel_rfl) (by kernel_rfl) (by kernel_rfl)) ?_
  intro W base args ds gs before hval0 hW hcnd hsz0 _
  have hsz : (DataW.weightsEach Try.prog (Try.f5.params.toList ++ Rows.queuePlaysSpec.plain.varTypes Try.prog) (ds ++ gs)).all (· ≤ reachBytes) = true := hsz0
  have hval : ∀ (j : Nat) t v, Try.f5.params[j]? = some t → args[j]? = some v → Value.okWide Try.prog W .any base t v := hval0
  have hW' := hW
  obtain ⟨p, q, hA0, hV, rfl, hfz, hnd⟩ := hW
  have hA : DataW.TrodAll enc Try.prog W 0 (fun _ => true) true Try.f5.params.toList args.toList ds p := hA0
  rw [Try.params5] at hA hval hsz
  obtain ⟨v0, vs0, d0, ds0, p0, q0, hargs, rfl, rfl, h0, r0⟩ := trodAll_cons hA
  obtain ⟨rfl, rfl, rfl⟩ := trodAll_nil r0
  obtain rfl : args = #[v0] := by cases args; simp_all
  obtain ⟨rfl, rfl⟩ := trodVars_none hV
  have k0 := h0
  have lt0 : ∀ x ∈ p0, x.block < W.heap.size := by obtain ⟨m, hm⟩ := k0; exact DataW.trod_lt m _ _ _ hm
  obtain ⟨a0, len0, cap0, rfl⟩ := okWide_slice Try.underlying49 (hval 0 49 v0 rfl rfl)
  obtain ⟨fuel0, hf0⟩ := id h0
  obtain ⟨y0, hr0⟩ := open_op17s fuel0 _ _ hf0 (fun n hn => of_decide_eq_true (List.all_eq_true.1 hsz n (DataW.weights_mem_each (j := 0) (t := 49) rfl rfl n hn)))
  clear hA0 hval0 hsz0
  obtain ⟨s0, z0, t0⟩ := hr0
  obtain rfl : Value.slice a0 len0 cap0 = s0 := by simpa [Value.cells] using z0
  obtain ⟨A0, m0, x0, l0⟩ := t0.form
  cases x0
  refine (queuePlays_call a0 y0 cap0 (Inn W) W t0 (fun _ h => h)).mono fun e W' ⟨he, kept⟩ => ?_
  subst he
  have bel := kept.below
  exact ⟨_, rfl, _, _, _, [], _, [], hW', trodAll_mk1 (shut_bool Try.underlying4 _), (trodAll_cons_mk (Below.trod laidOut (by kernel_rfl) (of_decide_eq_true (by kernel_rfl)) k0 bel lt0) trodAll_mk0), rfl, bel.frame _, fun h => by cases h⟩
theorem over : Rows.queuePlaysRow.holds Try.pinned (OpenSpec.ofChange Rows.queuePlaysSpec) :=
  OpenClaim.holds_of_wide 5 Try.f5 rfl rfl rfl rfl rfl rfl rfl ⟨rfl, rfl, rfl, rfl, rfl⟩ rfl rfl rfl rfl rfl (by kernel_rfl) Try.func5 (by kernel_rfl)
    (of_decide_eq_true (by kernel_rfl)) (by unfold Func.isWrapper; first | (rw [if_pos (by decide +kernel)]; kernel_rfl) | (rw [if_neg (by decide +kernel)]; exact ⟨rfl, rfl⟩))
    (fun os started H enc _ => lifted os started H enc)
end Go.Proofs.Ytpndbidpennlcaa.queuePlays
namespace Go.Proofs.Ytpndbidpennlcaa
theorem queuePlays_holds : Rows.QueuePlaysSaid := queuePlays.over
#print axioms queuePlays_holds
end Go.Proofs.Ytpndbidpennlcaa
