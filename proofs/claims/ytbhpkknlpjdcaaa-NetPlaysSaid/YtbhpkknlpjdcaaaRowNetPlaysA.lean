/- Whatever is put, injected, taken, and comes twice (at most 100 calls): each answer is the chapter's: the law NetPlays returns true for every list of calls. -/
import Derived.Test.YtbhpkknlpjdcaaaNet8
import Derived.Test.YtbhpkknlpjdcaaaOpenM
import Derived.Test.YtbhpkknlpjdcaaaRep20
import Derived.Test.YtbhpkknlpjdcaaaRows
import Derived.WalkKit
import Derived.ProofKit
import Derived.OpenShut
import Derived.ShutString
import Derived.ChangeOld
import Derived.Below
import Derived.SizedLaws
namespace Go.Proofs.Ytbhpkknlpjdcaaa
open Go.RowKit
set_option linter.unusedVariables false
set_option linter.unusedSimpArgs false
/-! net and its reference side by side -/
theorem do20_call (A : Option Addr) (c : Nat) (l : List ByteArray) (x : Op20) (v1 v2 v3 v4 : Value) (F G : Nat → Prop) (w : World) (hs : SliceOf Rep.str w G (.slice A l.length c) l) (hok : MsOk w F x.m v1 v2 v3 v4) (hk : 0 ≤ x.k ∧ x.k ≤ 255)
    (hb : x.b.size ≤ 4100) (hm : MsSz x.m) (hm2 : (msgF x.m).size ≤ M47) (hl : l.length ≤ 2000) :
    Calls Try.prog 15 #[.slice A l.length c, .agg (opV20 x v1 v2 v3 v4)] w (DoPost w G (doF l x)) := by
  by_cases h1 : kindF x = 0
  · cases h2 : rightMsg x.m with
    | false => exact do20_k0bad A c l x v1 v2 v3 v4 F G w hs hok hk hb hm hm2 hl h1 h2
    | true =>
      by_cases h3 : l.length < 2000
      · exact do20_k0ok A c l x v1 v2 v3 v4 F G w hs hok hk hb hm hm2 hl h1 h2 h3
      · exact do20_k0full A c l x v1 v2 v3 v4 F G w hs hok hk hb hm hm2 hl h1 h2 (by omega)
  · by_cases h1' : kindF x = 3
    · by_cases h2 : 1 ≤ x.b.size
      · by_cases h3 : x.b.size ≤ 4000
        · by_cases h4 : l.length < 2000
          · exact do20_k3ok A c l x v1 v2 v3 v4 F G w hs hok hk hb hm hm2 hl h1' h2 h3 h4
          · exact do20_k3full A c l x v1 v2 v3 v4 F G w hs hok hk hb hm hm2 hl h1' h2 h3 (by omega)
        · exact do20_k3big A c l x v1 v2 v3 v4 F G w hs hok hk hb hm hm2 hl h1' h2 (by omega)
      · exact do20_k3bad A c l x v1 v2 v3 v4 F G w hs hok hk hb hm hm2 hl h1' h2
    · by_cases h0 : l.length = 0
      · exact do20_none A c l x v1 v2 v3 v4 F G w hs hok hk hb hm hm2 hl h1 h1' h0
      · by_cases h2 : kindF x = 2
        · by_cases h3 : l.length < 2000
          · exact do20_k2ok A c l x v1 v2 v3 v4 F G w hs hok hk hb hm hm2 hl h1 h1' h2 (by omega) h3
          · exact do20_k2full A c l x v1 v2 v3 v4 F G w hs hok hk hb hm hm2 hl h1 h1' h2 (by omega) (by omega)
        · exact do20_k1 A c l x v1 v2 v3 v4 F G w hs hok hk hb hm hm2 hl h1 h1' h2 (by omega) (by unfold kindF at *; omega)
/-- The net, and the reference's list, apart. -/
def Mid (w0 w : World) (n : Nat) (xs : List ByteArray) (s : Int) (v : Value) (ys : List ByteArray) : Prop :=
  ∃ S G, NS w S n xs s ∧ (∀ k, k ∈ S → w0.heap.size ≤ k) ∧ Keep [] w0 w ∧ SliceOf Rep.str w G v ys ∧ (∀ i, G i → i < w.heap.size ∧ i ∉ S)
theorem Mid.next {w0 w w' : World} {n : Nat} {xs : List ByteArray} {s : Int} {v : Value} {ys : List ByteArray} (h : Mid w0 w n xs s v ys) (k : Keep [] w w') : Mid w0 w' n xs s v ys := by
  obtain ⟨S, G, h1, h2, h3, h4, h5⟩ := h
  exact ⟨S, G, h1.keep k (by simp), h2, h3.trans k, h4.keep (k.at G (by simp)), fun i hi => ⟨Nat.lt_of_lt_of_le (h5 i hi).1 k.size, (h5 i hi).2⟩⟩
theorem Mid.net {w0 w w' : World} {n : Nat} {xs' : List ByteArray} {s' : Int} {v : Value} {ys : List ByteArray} {S S' : List Nat} {G : Nat → Prop} (h2 : ∀ k, k ∈ S → w0.heap.size ≤ k) (h3 : Keep [] w0 w) (h4 : SliceOf Rep.str w G v ys) (h5 : ∀ i, G i → i < w.heap.size ∧ i ∉ S)
    (q1 : NS w' S' n xs' s') (q2 : ∀ k, k ∈ S' → k ∈ S ∨ w.heap.size ≤ k) (q3 : Keep S w w') : Mid w0 w' n xs' s' v ys := by
  refine ⟨S', G, q1, fun k hk => ?_, h3.new q3 (fun i hi => .inr (h2 i hi)), h4.keep (q3.at G (fun i hi hg => (h5 i hg).2 hi)), fun i hi => ⟨Nat.lt_of_lt_of_le (h5 i hi).1 q3.size, fun hm => ?_⟩⟩
  · rcases q2 k hk with h | h
    · exact h2 k h
    · exact Nat.le_trans h3.size h
  · rcases q2 i hm with h | h
    · exact (h5 i hi).2 h
    · have := (h5 i hi).1; omega
theorem Mid.doo {w0 w : World} {n : Nat} {xs : List ByteArray} {s : Int} {A : Option Addr} {c : Nat} (h : Mid w0 w n xs s (.slice A xs.length c) xs) (x : Op20) (v1 v2 v3 v4 : Value) (F : Nat → Prop) (hok : MsOk w F x.m v1 v2 v3 v4) (hk : 0 ≤ x.k ∧ x.k ≤ 255)
    (hb : x.b.size ≤ 4100) (hm : MsSz x.m) (hm2 : (msgF x.m).size ≤ M47) (hl : xs.length ≤ 2000) :
    Calls Try.prog 15 #[.slice A xs.length c, .agg (opV20 x v1 v2 v3 v4)] w fun e w' => ∃ B d, e = .returned (.tuple #[.slice B (doF xs x).1.length d, .string (doF xs x).2.1, .bool (doF xs x).2.2]) ∧ Mid w0 w' n xs s (.slice B (doF xs x).1.length d) (doF xs x).1 ∧ Keep [] w w' := by
  obtain ⟨S, G, h1, h2, h3, h4, h5⟩ := h
  refine (do20_call A c xs x v1 v2 v3 v4 F G w h4 hok hk hb hm hm2 hl).mono ?_
  rintro e w' ⟨B, d, rfl, q1, k⟩
  refine ⟨B, d, rfl, ⟨S, fun i => (G i ∨ w.heap.size ≤ i) ∧ i < w'.heap.size, h1.keep k (by simp), h2, h3.trans k, q1.mono (fun i hi hl => ⟨hi, hl⟩), fun i hi => ⟨hi.2, fun hm => ?_⟩⟩, k⟩
  rcases hi.1 with h | h
  · exact (h5 i h).2 hm
  · have := h1.lt i hm; omega
theorem Mid.inject {w0 w : World} {n : Nat} {xs : List ByteArray} {s : Int} {v : Value} {ys : List ByteArray} (h : Mid w0 w n xs s v ys) (b : ByteArray) (hb : b.size ≤ M47) :
    Calls Try.prog 17 #[.pointer (some ⟨n, 0, none⟩), .string b] w fun e w' => e = .returned (.bool (injF b xs)) ∧ Mid w0 w' n (if injF b xs = true then xs ++ [b] else xs) s v ys := by
  obtain ⟨S, G, h1, h2, h3, h4, h5⟩ := h
  refine (ninject_NS b h1 hb).mono ?_
  rintro e w' ⟨rfl, S', q1, q2, q3⟩
  exact ⟨rfl, Mid.net h2 h3 h4 h5 q1 q2 q3⟩
theorem Mid.take {w0 w : World} {n : Nat} {xs : List ByteArray} {s : Int} {v : Value} {ys : List ByteArray} (h : Mid w0 w n xs s v ys) (i : Int) (h0 : 0 < xs.length) (hn : xs.length ≤ 2000) :
    Calls Try.prog 12 #[.pointer (some ⟨n, 0, none⟩), .int .i64 i] w fun e w' => e = .returned (.tuple #[.string (xs.getD (atF i xs.length) ⟨#[]⟩), .bool true]) ∧ Mid w0 w' n (xs.eraseIdx (atF i xs.length)) s v ys := by
  obtain ⟨S, G, h1, h2, h3, h4, h5⟩ := h
  have hlt := atF_lt i xs.length h0
  refine (ntake_NS i _ (xs.getD (atF i xs.length) ⟨#[]⟩) h1 rfl (by simp [hlt]) hn).mono ?_
  rintro e w' ⟨rfl, q1, q3⟩
  exact ⟨rfl, Mid.net h2 h3 h4 h5 q1 (fun k hk => .inl hk) q3⟩
theorem Mid.take0 {w0 w : World} {n : Nat} {xs : List ByteArray} {s : Int} {v : Value} {ys : List ByteArray} (h : Mid w0 w n xs s v ys) (i : Int) (h0 : xs.length = 0) :
    Calls Try.prog 12 #[.pointer (some ⟨n, 0, none⟩), .int .i64 i] w fun e w' => e = .returned (.tuple #[.string ⟨#[]⟩, .bool false]) ∧ Mid w0 w' n xs s v ys := by
  have hm := h
  obtain ⟨S, G, h1, h2, h3, h4, h5⟩ := h
  obtain rfl := List.eq_nil_of_length_eq_zero h0
  refine (ntake0_NS i h1).mono ?_
  rintro e w' ⟨rfl, rfl⟩
  exact ⟨rfl, hm⟩
theorem Mid.twice {w0 w : World} {n : Nat} {xs : List ByteArray} {s : Int} {v : Value} {ys : List ByteArray} (h : Mid w0 w n xs s v ys) (i : Int) (h0 : 0 < xs.length) (hn : xs.length < 2000) :
    Calls Try.prog 16 #[.pointer (some ⟨n, 0, none⟩), .int .i64 i] w fun e w' => e = .returned (.bool true) ∧ Mid w0 w' n (xs ++ [xs.getD (atF i xs.length) ⟨#[]⟩]) s v ys := by
  obtain ⟨S, G, h1, h2, h3, h4, h5⟩ := h
  have hlt := atF_lt i xs.length h0
  refine (ntwice_NS i _ (xs.getD (atF i xs.length) ⟨#[]⟩) h1 rfl (by simp [hlt]) (by omega)).mono ?_
  rw [decide_eq_true hn, show addN xs (xs.getD (atF i xs.length) ⟨#[]⟩) = xs ++ [xs.getD (atF i xs.length) ⟨#[]⟩] from if_pos hn]
  rintro e w' ⟨rfl, S', q1, q2, q3⟩
  exact ⟨rfl, Mid.net h2 h3 h4 h5 q1 q2 q3⟩
theorem Mid.twice0 {w0 w : World} {n : Nat} {xs : List ByteArray} {s : Int} {v : Value} {ys : List ByteArray} (h : Mid w0 w n xs s v ys) (i : Int) (h0 : xs.length = 0) :
    Calls Try.prog 16 #[.pointer (some ⟨n, 0, none⟩), .int .i64 i] w fun e w' => e = .returned (.bool false) ∧ Mid w0 w' n xs s v ys := by
  have hm := h
  obtain ⟨S, G, h1, h2, h3, h4, h5⟩ := h
  obtain rfl := List.eq_nil_of_length_eq_zero h0
  refine (ntwice0_NS i h1).mono ?_
  rintro e w' ⟨rfl, k⟩
  exact ⟨rfl, hm.next k⟩
theorem Mid.put {w0 W : World} {n : Nat} {xs : List ByteArray} {s : Int} {v : Value} {ys : List ByteArray} (h : Mid w0 W n xs s v ys) (m : Ms) (v1 v2 v3 v4 : Value) (F : Nat → Prop) (hok : MsOk W F m v1 v2 v3 v4) (hF : ∀ i, F i → i < w0.heap.size) (hb : MsBig m) (hs : 0 ≤ s ∧ s ≤ 1000000) (hn : xs.length < 2000) :
    Calls Try.prog 11 #[.pointer (some ⟨n, 0, none⟩), .slice (some ⟨W.heap.size, 0, none⟩) 1 1] (W.alloc (.cells (msgV m v1 v2 v3 v4) 39)) fun e w' =>
      e = .returned (.int .i64 (if rightMsg m = true then 1 else 0 : Nat)) ∧ Mid w0 w' n (if rightMsg m = true then xs ++ [msgF m] else xs) (s + (if rightMsg m = true then 1 else 0 : Nat)) v ys := by
  have hm := h.next ((Keep.refl [] W).alloc (.cells (msgV m v1 v2 v3 v4) 39))
  have hlt0 := h
  obtain ⟨S0, G0, p1, p2, p3, -, -⟩ := hlt0
  obtain ⟨S, G, h1, h2, h3, h4, h5⟩ := h
  have ka : Keep [] W (W.alloc (.cells (msgV m v1 v2 v3 v4) 39)) := (Keep.refl [] W).alloc _
  have hl : SliceOf Rep.ms (W.alloc (.cells (msgV m v1 v2 v3 v4) 39)) (fun i => F i ∨ i = W.heap.size) (.slice (some ⟨W.heap.size, 0, none⟩) [m].length 1) [m] :=
    SliceOf.one Rep.ms (Blk.new _ _ _) (.inr rfl) ⟨v1, v2, v3, v4, rfl, (hok.keep (ka.at F (by simp))).mono (fun i hi _ => .inl hi)⟩
  refine (nput_call n _ 1 [m] (fun i => F i ∨ i = W.heap.size) S xs s _ (h1.keep ka (by simp)) hl (fun i hi _ hm => ?_) (fun m' hm' => ?_) hs (by simp)).mono ?_
  · have a := h1.lt i hm
    have b := h2 i hm
    rcases hi with hi | hi
    · have := hF i hi; omega
    · omega
  · obtain rfl : m' = m := by simpa using hm'
    exact hb
  · rintro e w' ⟨rfl, S', q1, q2, q3⟩
    have e1 : putL xs [m] = (if rightMsg m = true then xs ++ [msgF m] else xs, if rightMsg m = true then 1 else 0) := by
      unfold putL
      simp only [List.foldl_cons, List.foldl_nil]
      unfold putS
      by_cases hr : rightMsg m = true
      · simp [hr, hn]
      · simp [hr]
    rw [e1] at q1 ⊢
    exact ⟨rfl, Mid.net h2 (h3.trans ka) (h4.keep (ka.at G (by simp))) (fun i hi => ⟨Nat.lt_of_lt_of_le (h5 i hi).1 ka.size, (h5 i hi).2⟩) q1 q2 q3⟩
theorem Mid.len {w0 w : World} {n : Nat} {xs : List ByteArray} {s : Int} {v : Value} {ys : List ByteArray} (h : Mid w0 w n xs s v ys) :
    Calls Try.prog 13 #[.pointer (some ⟨n, 0, none⟩)] w fun e w' => e = .returned (.int .i64 (xs.length : Nat)) ∧ w = w' := by
  obtain ⟨S, G, h1, -⟩ := h
  exact nlen_NS h1
theorem Mid.sent {w0 w : World} {n : Nat} {xs : List ByteArray} {s : Int} {v : Value} {ys : List ByteArray} (h : Mid w0 w n xs s v ys) :
    Calls Try.prog 18 #[.pointer (some ⟨n, 0, none⟩)] w fun e w' => e = .returned (.int .i64 s) ∧ w = w' := by
  obtain ⟨S, G, h1, -⟩ := h
  exact nsent_NS h1
theorem Mid.kept {w0 w : World} {n : Nat} {xs : List ByteArray} {s : Int} {v : Value} {ys : List ByteArray} (h : Mid w0 w n xs s v ys) : Keep [] w0 w := by
  obtain ⟨S, G, -, -, h3, -⟩ := h
  exact h3
end Go.Proofs.Ytbhpkknlpjdcaaa
namespace Go.Proofs.Ytbhpkknlpjdcaaa
open Go.RowKit
set_option linter.unusedVariables false
set_option linter.unusedSimpArgs false
/-! the law NetPlays -/
def zOp20 : Array Value := #[.int .u8 0, .int .i64 0, .int .i64 0, .int .i64 0, .int .i64 0, .string ⟨#[]⟩, .int .i64 0, .int .i64 0, .int .i64 0, .string ⟨#[]⟩, .slice none 0 0, .slice none 0 0, .int .i64 0, .string ⟨#[]⟩, .slice none 0 0, .int .i64 0, .slice none 0 0, .int .i64 0, .int .i64 0, .string ⟨#[]⟩, .int .i64 0, .string ⟨#[]⟩, .int .i64 0, .string ⟨#[]⟩]
theorem zOp20_info : (Try.prog.info? 49).map (fun i => (i.zero, i.size)) = some (some (.agg zOp20), 24) := by kernel_rfl
theorem zOp20_size : (Try.prog.info? 49).map (·.size) = some 24 := by kernel_rfl
theorem doF_put (xs : List ByteArray) (x : Op20) (h : kindF x = 0) (hn : xs.length < 2000) : doF xs x = (if rightMsg x.m = true then xs ++ [msgF x.m] else xs, ⟨#[]⟩, rightMsg x.m) := by
  unfold doF
  rw [if_pos h]
  cases hr : rightMsg x.m <;> simp [hn]
theorem doF_inj (xs : List ByteArray) (x : Op20) (h : kindF x = 3) : doF xs x = (if injF x.b xs = true then xs ++ [x.b] else xs, ⟨#[]⟩, injF x.b xs) := by
  unfold doF injF
  rw [if_neg (by omega), if_pos h]
  by_cases hc : 1 ≤ x.b.size ∧ x.b.size ≤ 4000 ∧ xs.length < 2000
  · rw [if_pos hc]; simp [hc]
  · rw [if_neg hc]; simp [hc]
theorem doF_none (xs : List ByteArray) (x : Op20) (h : kindF x ≠ 0) (h' : kindF x ≠ 3) (h0 : xs.length = 0) : doF xs x = (xs, ⟨#[]⟩, false) := by
  unfold doF
  rw [if_neg h, if_neg h', if_pos h0]
theorem doF_two (xs : List ByteArray) (x : Op20) (h : kindF x = 2) (h0 : 0 < xs.length) (hn : xs.length < 2000) : doF xs x = (xs ++ [xs.getD (atF x.i xs.length) ⟨#[]⟩], ⟨#[]⟩, true) := by
  unfold doF
  rw [if_neg (by omega), if_neg (by omega), if_neg (by omega), if_pos h, if_pos hn]
theorem doF_take (xs : List ByteArray) (x : Op20) (h : kindF x = 1) (h0 : 0 < xs.length) : doF xs x = (xs.eraseIdx (atF x.i xs.length), xs.getD (atF x.i xs.length) ⟨#[]⟩, true) := by
  unfold doF
  rw [if_neg (by omega), if_neg (by omega), if_neg (by omega), if_neg (by omega)]
theorem Mid.begin {w0 w : World} {n : Nat} (h : NS w [n] n [] 0) (hn : w0.heap.size ≤ n) (k : Keep [] w0 w) : Mid w0 w n [] 0 (.slice none 0 0) [] :=
  ⟨[n], fun _ => False, h, fun i hi => by simp at hi; omega, k, SliceOf.nil _ _ _ _ _, fun i hi => hi.elim⟩
set_option maxRecDepth 100000 in
set_option maxHeartbeats 32000000 in
theorem netPlays_call (A : Option Addr) (l : List Op20) (c : Nat) (F : Nat → Prop) (w : World) (hl : SliceOf Rep.op20 w F (.slice A l.length c) l) (hF : ∀ i, F i → i < w.heap.size) :
    Calls Try.prog 4 #[.slice A l.length c] w fun e w' => e = .returned (.bool true) ∧ Keep [] w w' := by
  have HL := Lib.hid hl
  have HF := Lib.hid hF
  clear hl hF
  go_enter Try.func4, Try.ntmps4
  go_wp2_with fail
  refine (nawake_call _).mono ?_
  rintro e w1 ⟨rfl, k1⟩
  go_wp2_with fail
  refine (few20_call A l c F 100 _ (HL.out.keep (k1.at F (by simp))) (by omega)).mono ?_
  rintro e w2 ⟨rfl, k2⟩
  have kk2 := k1.trans k2
  clear k1 k2
  cases hfew : few20 l 100 with
  | false =>
    clear hfew
    go_wp2_with fail
    refine (nawake_call _).mono ?_
    rintro e w3 ⟨rfl, k3⟩
    go_wp2
    go_ret
    exact ⟨rfl, kk2.trans k3⟩
  | true =>
    obtain ⟨hlen, hall⟩ := few20_le hfew (by omega)
    replace hall := Lib.hid hall
    clear hfew
    go_wp2_with fail
    refine (nnew_NS _).mono ?_
    rintro e w3 ⟨n, rfl, h3, hn, k3⟩
    have H0 := Lib.hid (Mid.begin h3 (Nat.le_trans kk2.size hn) (kk2.trans k3))
    clear h3 hn k3
    go_wp2_with fail
    go_loopw [4, 5, 6] (fun v sn i wr => ∃ j : Nat, j ≤ l.length ∧ i = .int .i64 j ∧ ∃ B ys d s, v = .slice B ys.length d ∧ sn = .int .i64 (s : Nat) ∧ ys.length ≤ j ∧ s ≤ j ∧ Hid (Mid w wr n ys (s : Nat) (.slice B ys.length d) ys)) (fun _ _ i _ => l.length - (intOf i).toNat)
    case atStart => exact ⟨0, Nat.zero_le _, rfl, none, [], 0, 0, rfl, rfl, Nat.le_refl _, Nat.le_refl _, H0⟩
    case round =>
      obtain ⟨j, hj, rfl, B, ys, d, s, rfl, rfl, hyl, hsl, hmid⟩ := hrel
      by_cases hlt : j < l.length
      · have hltz : (j : Int) < (l.length : Int) := by omega
        obtain ⟨g, o, v1, v2, v3, v4, rfl, hr, hk, hok, hxi, hxb⟩ := (HL.out.keep (hmid.out.kept.at F (by simp))).op20_at hlt
        have hfx := hall.out l[j] (List.getElem_mem hlt)
        generalize l[j] = x at *
        simp only [okOp20, Bool.and_eq_true, decide_eq_true_eq] at hfx
        obtain ⟨hfm, hfb⟩ := hfx
        have hsz := fewMsg_sz hfm
        have hsm : (msgF x.m).size ≤ M47 := by have := fewMsg_small hfm; unfold M47; omega
        clear hfm
        obtain ⟨A1, c1, rfl, -⟩ := hok.bs.form
        obtain ⟨A2, c2, rfl, -⟩ := hok.bq.form
        obtain ⟨A3, c3, rfl, -⟩ := hok.cs.form
        obtain ⟨A4, c4, rfl, -⟩ := hok.st.form
        replace hr := Lib.hid hr
        replace hok := Lib.hid hok
        replace hsz := Lib.hid hsz
        replace hsm := Lib.hid hsm
        clear H0
        go_upto_region 10 with (first
          | ((with_reducible refine wl_load 49 (.tmp 32) ?_ ?_); (with_reducible rfl); refine sx_loadR rfl 49 (.tmp 32) rfl g (o + j * 24) (opV20 x (.slice A1 x.m.b.j.sg.length c1) (.slice A2 x.m.b.q.length c2) (.slice A3 x.m.c.sg.length c3) (.slice A4 x.m.s.ts.length c4)) _ 24 rfl hr.out Try.underlying49 rfl zOp20_size rfl ?_; (try simp only [Act.put, List.setIfInBounds_toArray, List.set_cons_zero, List.set_cons_succ]))
          | ((with_reducible refine wl_alloc 49 ?_ ?_); (with_reducible rfl); refine sx_alloc rfl 49 rfl _ 24 zOp20 zOp20_info rfl ?_; intro w5 b5 k5 z5; clear z5; (try simp only [Act.put, List.setIfInBounds_toArray, List.set_cons_zero, List.set_cons_succ]))
          | ((with_reducible refine wl_store 49 (.tmp 7) (.tmp 33) ?_ ?_); (with_reducible rfl); refine sx_storeW rfl 49 (.tmp 7) (.tmp 33) rfl wr.heap.size (opV20 x (.slice A1 x.m.b.j.sg.length c1) (.slice A2 x.m.b.q.length c2) (.slice A3 x.m.c.sg.length c3) (.slice A4 x.m.s.ts.length c4)) zOp20 _ 24 rfl rfl b5 zOp20_size rfl rfl rfl ?_; intro w6 b6 k6 z6; clear z6; (try simp only [Act.put, List.setIfInBounds_toArray, List.set_cons_zero, List.set_cons_succ])))
        have kk6 : Keep [] wr w6 := k5.new k6 (fun i hi => .inr (by simp at hi; omega))
        clear b5 k5 k6 hr
        go_wp2_with (first
          | ((with_reducible refine wl_load 49 (.tmp 7) ?_ ?_); (with_reducible rfl); refine sx_loadW rfl 49 (.tmp 7) rfl wr.heap.size (opV20 x (.slice A1 x.m.b.j.sg.length c1) (.slice A2 x.m.b.q.length c2) (.slice A3 x.m.c.sg.length c3) (.slice A4 x.m.s.ts.length c4)) _ _ 24 rfl b6 Try.underlying49 rfl zOp20_size rfl ?_; (try simp only [Act.put, List.setIfInBounds_toArray, List.set_cons_zero, List.set_cons_succ])))
        refine ((hmid.out.next kk6).doo x _ _ _ _ F (hok.out.keep (kk6.at F (by simp))) hk hfb hsz.out hsm.out (by omega)).mono ?_
        rintro e w7 ⟨B2, d2, rfl, hm7, k7⟩
        have kk7 := kk6.trans k7
        have b7 := b6.keep k7 (by simp)
        have q0 : w7.cell? ⟨wr.heap.size, 0, none⟩ = some (.int .u8 x.k) := b7.cell 0
        have q22 : w7.cell? ⟨wr.heap.size, 22, none⟩ = some (.int .i64 x.i) := b7.cell 22
        have q23 : w7.cell? ⟨wr.heap.size, 23, none⟩ = some (.string x.b) := b7.cell 23
        have hkk := hk
        obtain ⟨hk1, hk2⟩ := hk
        have zm : x.k.tmod 4 = x.k % 4 := Int.tmod_eq_emod_of_nonneg hk1
        have hxbl : x.b.size < 9223372036854775808 := by omega
        clear b6 kk6 k7 hmid
        replace hkk := Lib.hid hkk
        by_cases hkd : kindF x = 0
        · rw [doF_put ys x hkd (by omega)] at hm7 ⊢
          unfold kindF at hkd
          have z0 : (x.k % 4 == 0) = true := by simp [hkd]
          have z1 : (x.k % 4 == 1) = false := by rw [beq_eq_false_iff_ne]; omega
          have z2 : (x.k % 4 == 2) = false := by rw [beq_eq_false_iff_ne]; omega
          have z3 : (x.k % 4 == 3) = false := by rw [beq_eq_false_iff_ne]; omega
          clear hkd
          have hok7 := Lib.hid (hok.out.keep (kk7.at F (by simp)))
          have HP := Lib.hid (hm7.put x.m _ _ _ _ F hok7.out HF.out ⟨hsz.out, hsm.out⟩ (by omega) (by omega))
          cases hrm : rightMsg x.m with
          | false =>
            rw [hrm] at HP
            simp only [Bool.false_eq_true, if_false] at HP
            simp only [hrm, Bool.false_eq_true, if_false]
            clear hrm hm7
            go_wp2_with (first | ((with_reducible refine wl_load 39 (.tmp 52) ?_ ?_); (with_reducible rfl); refine sx_load rfl 39 (.tmp 52) rfl wr.heap.size 1 (opV20 x (.slice A1 x.m.b.j.sg.length c1) (.slice A2 x.m.b.q.length c2) (.slice A3 x.m.c.sg.length c3) (.slice A4 x.m.s.ts.length c4)) #[.int .i64 x.m.k, .int .i64 x.m.f, .int .i64 x.m.t, .int .i64 x.m.v, .string x.m.h, .int .i64 x.m.b.v, .int .i64 x.m.b.p, .int .i64 x.m.b.j.v, .string x.m.b.j.h, .slice A1 x.m.b.j.sg.length c1, .slice A2 x.m.b.q.length c2, .int .i64 x.m.c.v, .string x.m.c.h, .slice A3 x.m.c.sg.length c3, .int .i64 x.m.s.f, .slice A4 x.m.s.ts.length c4, .int .i64 x.m.r.c, .int .i64 x.m.r.s, .string x.m.r.b, .int .i64 x.m.i, .string x.m.g] _ _ rfl b7 Try.underlying39 rfl zMs_size rfl ?_; (try simp only [Act.put, List.setIfInBounds_toArray, List.set_cons_zero, List.set_cons_succ])))
            refine HP.out.mono ?_
            rintro e w8 ⟨rfl, hm8⟩
            replace hm8 := Lib.hid hm8
            go_wp2_with fail
            refine hm8.out.len.mono ?_
            rintro e w9 ⟨rfl, rfl⟩
            go_wp2_with fail
            refine hm8.out.sent.mono ?_
            rintro e w9 ⟨rfl, rfl⟩
            go_wp2
            go_roundw
            case rel => exact ⟨j + 1, by omega, by go_num, B2, ys, d2, s, by simp, by go_num, by omega, by omega, by simpa using hm8⟩
            case measure => simp [intOf]; omega
          | true =>
            rw [hrm] at HP
            simp only [if_true] at HP
            simp only [hrm, if_true]
            clear hrm hm7
            generalize msgF x.m = bm at *
            go_wp2_with (first | ((with_reducible refine wl_load 39 (.tmp 52) ?_ ?_); (with_reducible rfl); refine sx_load rfl 39 (.tmp 52) rfl wr.heap.size 1 (opV20 x (.slice A1 x.m.b.j.sg.length c1) (.slice A2 x.m.b.q.length c2) (.slice A3 x.m.c.sg.length c3) (.slice A4 x.m.s.ts.length c4)) #[.int .i64 x.m.k, .int .i64 x.m.f, .int .i64 x.m.t, .int .i64 x.m.v, .string x.m.h, .int .i64 x.m.b.v, .int .i64 x.m.b.p, .int .i64 x.m.b.j.v, .string x.m.b.j.h, .slice A1 x.m.b.j.sg.length c1, .slice A2 x.m.b.q.length c2, .int .i64 x.m.c.v, .string x.m.c.h, .slice A3 x.m.c.sg.length c3, .int .i64 x.m.s.f, .slice A4 x.m.s.ts.length c4, .int .i64 x.m.r.c, .int .i64 x.m.r.s, .string x.m.r.b, .int .i64 x.m.i, .string x.m.g] _ _ rfl b7 Try.underlying39 rfl zMs_size rfl ?_; (try simp only [Act.put, List.setIfInBounds_toArray, List.set_cons_zero, List.set_cons_succ])))
            refine HP.out.mono ?_
            rintro e w8 ⟨rfl, hm8⟩
            replace hm8 := Lib.hid hm8
            go_wp2_with fail
            refine hm8.out.len.mono ?_
            rintro e w9 ⟨rfl, rfl⟩
            go_wp2_with fail
            refine hm8.out.sent.mono ?_
            rintro e w9 ⟨rfl, rfl⟩
            go_wp2
            go_roundw
            case rel => exact ⟨j + 1, by omega, by go_num, B2, ys ++ [bm], d2, s + 1, by simp, by go_num, by simp; omega, by omega, by simpa using hm8⟩
            case measure => simp [intOf]; omega
        · by_cases hkd3 : kindF x = 3
          · rw [doF_inj ys x hkd3] at hm7 ⊢
            have hkd := hkd3
            clear hkd3
            rename_i hkd0
            clear hkd0
            unfold kindF at hkd
            have z0 : (x.k % 4 == 0) = false := by rw [beq_eq_false_iff_ne]; omega
            have z1 : (x.k % 4 == 1) = false := by rw [beq_eq_false_iff_ne]; omega
            have z2 : (x.k % 4 == 2) = false := by rw [beq_eq_false_iff_ne]; omega
            have z3 : (x.k % 4 == 3) = true := by simp [hkd]
            clear hkd
            have HP := Lib.hid (hm7.inject x.b hxb)
            cases hrm : injF x.b ys with
            | false =>
              rw [hrm] at HP
              simp only [hrm, Bool.false_eq_true, if_false] at HP
              simp only [hrm, Bool.false_eq_true, if_false]
              clear hrm hm7
              go_wp2_with fail
              refine HP.out.mono ?_
              rintro e w8 ⟨rfl, hm8⟩
              replace hm8 := Lib.hid hm8
              go_wp2_with fail
              refine hm8.out.len.mono ?_
              rintro e w9 ⟨rfl, rfl⟩
              go_wp2_with fail
              refine hm8.out.sent.mono ?_
              rintro e w9 ⟨rfl, rfl⟩
              go_wp2
              go_roundw
              case rel => exact ⟨j + 1, by omega, by go_num, B2, ys, d2, s, by simp, by go_num, by omega, by omega, by simpa using hm8⟩
              case measure => simp [intOf]; omega
            | true =>
              rw [hrm] at HP
              simp only [hrm, if_true] at HP
              simp only [hrm, if_true]
              clear hrm hm7
              go_wp2_with fail
              refine HP.out.mono ?_
              rintro e w8 ⟨rfl, hm8⟩
              replace hm8 := Lib.hid hm8
              go_wp2_with fail
              refine hm8.out.len.mono ?_
              rintro e w9 ⟨rfl, rfl⟩
              go_wp2_with fail
              refine hm8.out.sent.mono ?_
              rintro e w9 ⟨rfl, rfl⟩
              go_wp2
              go_roundw
              case rel => exact ⟨j + 1, by omega, by go_num, B2, ys ++ [x.b], d2, s, by simp, by go_num, by simp; omega, by omega, by simpa using hm8⟩
              case measure => simp [intOf]; omega
          · by_cases hy0 : ys.length = 0
            · rw [doF_none ys x hkd hkd3 hy0] at hm7 ⊢
              by_cases hkd2 : kindF x = 2
              · skip
                have HP := Lib.hid (hm7.twice0 x.i hy0)
                replace hkd0 := hkd
                clear hkd
                have hkd := hkd2
                clear hkd0 hkd3 hkd2
                unfold kindF at hkd
                have z0 : (x.k % 4 == 0) = false := by rw [beq_eq_false_iff_ne]; omega
                have z1 : (x.k % 4 == 1) = false := by rw [beq_eq_false_iff_ne]; omega
                have z2 : (x.k % 4 == 2) = true := by simp [hkd]
                have z3 : (x.k % 4 == 3) = false := by rw [beq_eq_false_iff_ne]; omega
                clear hkd
                clear hm7
                replace hy0 := Lib.hid hy0
                go_wp2_with fail
                refine HP.out.mono ?_
                rintro e w8 ⟨rfl, hm8⟩
                replace hm8 := Lib.hid hm8
                go_wp2_with fail
                refine hm8.out.len.mono ?_
                rintro e w9 ⟨rfl, rfl⟩
                go_wp2_with fail
                refine hm8.out.sent.mono ?_
                rintro e w9 ⟨rfl, rfl⟩
                go_wp2
                go_roundw
                case rel => exact ⟨j + 1, by omega, by go_num, B2, ys, d2, s, by simp, by go_num, by omega, by omega, by simpa using hm8⟩
                case measure => simp [intOf]; omega
              · skip
                have hkd1 : kindF x = 1 := by unfold kindF at *; omega
                have HP := Lib.hid (hm7.take0 x.i hy0)
                replace hkd0 := hkd
                clear hkd
                have hkd := hkd1
                clear hkd0 hkd3 hkd2 hkd1
                unfold kindF at hkd
                have z0 : (x.k % 4 == 0) = false := by rw [beq_eq_false_iff_ne]; omega
                have z1 : (x.k % 4 == 1) = true := by simp [hkd]
                have z2 : (x.k % 4 == 2) = false := by rw [beq_eq_false_iff_ne]; omega
                have z3 : (x.k % 4 == 3) = false := by rw [beq_eq_false_iff_ne]; omega
                clear hkd
                clear hm7
                replace hy0 := Lib.hid hy0
                go_wp2_with fail
                refine HP.out.mono ?_
                rintro e w8 ⟨rfl, hm8⟩
                replace hm8 := Lib.hid hm8
                go_wp2_with fail
                refine hm8.out.len.mono ?_
                rintro e w9 ⟨rfl, rfl⟩
                go_wp2_with fail
                refine hm8.out.sent.mono ?_
                rintro e w9 ⟨rfl, rfl⟩
                go_wp2
                go_roundw
                case rel => exact ⟨j + 1, by omega, by go_num, B2, ys, d2, s, by simp, by go_num, by omega, by omega, by simpa using hm8⟩
                case measure => simp [intOf]; omega
            · have hy1 : 0 < ys.length := by omega
              by_cases hkd2 : kindF x = 2
              · skip
                rw [doF_two ys x hkd2 hy1 (by omega)] at hm7 ⊢
                have HP := Lib.hid (hm7.twice x.i hy1 (by omega))
                generalize ys.getD (atF x.i ys.length) ⟨#[]⟩ = yy at *
                replace hkd0 := hkd
                clear hkd
                have hkd := hkd2
                clear hkd0 hkd3 hkd2
                unfold kindF at hkd
                have z0 : (x.k % 4 == 0) = false := by rw [beq_eq_false_iff_ne]; omega
                have z1 : (x.k % 4 == 1) = false := by rw [beq_eq_false_iff_ne]; omega
                have z2 : (x.k % 4 == 2) = true := by simp [hkd]
                have z3 : (x.k % 4 == 3) = false := by rw [beq_eq_false_iff_ne]; omega
                clear hkd
                clear hm7
                go_wp2_with fail
                refine HP.out.mono ?_
                rintro e w8 ⟨rfl, hm8⟩
                replace hm8 := Lib.hid hm8
                go_wp2_with fail
                refine hm8.out.len.mono ?_
                rintro e w9 ⟨rfl, rfl⟩
                go_wp2_with fail
                refine hm8.out.sent.mono ?_
                rintro e w9 ⟨rfl, rfl⟩
                go_wp2
                go_roundw
                case rel => exact ⟨j + 1, by omega, by go_num, B2, ys ++ [yy], d2, s, by simp, by go_num, by simp; omega, by omega, by simpa using hm8⟩
                case measure => simp [intOf]; omega
              · skip
                have hkd1 : kindF x = 1 := by unfold kindF at *; omega
                rw [doF_take ys x hkd1 hy1] at hm7 ⊢
                have HP := Lib.hid (hm7.take x.i hy1 (by omega))
                generalize ys.getD (atF x.i ys.length) ⟨#[]⟩ = yy at *
                have hel : (ys.eraseIdx (atF x.i ys.length)).length ≤ ys.length := by rw [List.length_eraseIdx]; split <;> omega
                generalize ys.eraseIdx (atF x.i ys.length) = zz at *
                replace hkd0 := hkd
                clear hkd
                have hkd := hkd1
                clear hkd0 hkd3 hkd2 hkd1
                unfold kindF at hkd
                have z0 : (x.k % 4 == 0) = false := by rw [beq_eq_false_iff_ne]; omega
                have z1 : (x.k % 4 == 1) = true := by simp [hkd]
                have z2 : (x.k % 4 == 2) = false := by rw [beq_eq_false_iff_ne]; omega
                have z3 : (x.k % 4 == 3) = false := by rw [beq_eq_false_iff_ne]; omega
                clear hkd
                clear hm7
                go_wp2_with fail
                refine HP.out.mono ?_
                rintro e w8 ⟨rfl, hm8⟩
                replace hm8 := Lib.hid hm8
                go_wp2_with fail
                refine hm8.out.len.mono ?_
                rintro e w9 ⟨rfl, rfl⟩
                go_wp2_with fail
                refine hm8.out.sent.mono ?_
                rintro e w9 ⟨rfl, rfl⟩
                go_wp2
                go_roundw
                case rel => exact ⟨j + 1, by omega, by go_num, B2, zz, d2, s, by simp, by go_num, by omega, by omega, by simpa using hm8⟩
                case measure => simp [intOf]; omega
      · have hltz : ¬ (j : Int) < (l.length : Int) := by omega
        have kf := hmid.out.kept
        go_wp2
        go_ret
        exact ⟨rfl, kf⟩
end Go.Proofs.Ytbhpkknlpjdcaaa
namespace Go.Proofs.Ytbhpkknlpjdcaaa
open Go.RowKit Go.ChangeShapes Go.WideShapes Go.ChangeAt
set_option linter.unusedVariables false
set_option linter.unusedSimpArgs false
theorem li24 {α : Type} (l : List α) (h : l.length = 24) : ∃ a0 a1 a2 a3 a4 a5 a6 a7 a8 a9 a10 a11 a12 a13 a14 a15 a16 a17 a18 a19 a20 a21 a22 a23, l = [a0, a1, a2, a3, a4, a5, a6, a7, a8, a9, a10, a11, a12, a13, a14, a15, a16, a17, a18, a19, a20, a21, a22, a23] := by
  match l, h with
  | [a0, a1, a2, a3, a4, a5, a6, a7, a8, a9, a10, a11, a12, a13, a14, a15, a16, a17, a18, a19, a20, a21, a22, a23], _ => exact ⟨a0, a1, a2, a3, a4, a5, a6, a7, a8, a9, a10, a11, a12, a13, a14, a15, a16, a17, a18, a19, a20, a21, a22, a23, rfl⟩
theorem liX4 {α : Type} (l : List α) (h : l.length = 4) : ∃ a0 a1 a2 a3, l = [a0, a1, a2, a3] := by
  match l, h with
  | [a0, a1, a2, a3], _ => exact ⟨a0, a1, a2, a3, rfl⟩
section
variable {H : Type} {enc : TypeId × Value → H} {W : World}
def Rep.u8 : Rep Int where
  sz := 1
  R := fun _ _ n cs => cs = [.int .u8 n] ∧ 0 ≤ n ∧ n ≤ 255
  len := by rintro _ _ _ _ ⟨rfl, _⟩; rfl
  keep := fun h _ => h
  mono := fun h _ => h
theorem opens_u8 {t : TypeId} (ht : Try.prog.underlying t = some (.int .u8)) : Opens enc Try.prog W Rep.u8 t := by
  intro fuel cs x h _
  obtain ⟨n, rfl, rfl, hw⟩ := DataW.trod_int ht h
  simp [Lit.wf, IntKind.min, IntKind.max, IntKind.signed, IntKind.bits] at hw
  exact ⟨n, rfl, hw.1, by omega⟩
theorem open_op20 : Opens enc Try.prog W Rep.op20 49 := by
  intro fuel cs x h hw
  obtain ⟨xs, n, rfl, rfl, hl, hxl, hf⟩ := DataW.trod_struct Try.underlying49 h
  rw [show Try.prog.cellsOf 49 = 24 by kernel_rfl] at hl
  obtain ⟨c0, c1, c2, c3, c4, c5, c6, c7, c8, c9, c10, c11, c12, c13, c14, c15, c16, c17, c18, c19, c20, c21, c22, c23, rfl⟩ := li24 cs hl
  obtain ⟨x0, x1, x2, x3, rfl⟩ := liX4 xs hxl
  have f0 : DataW.trod enc Try.prog W 0 (fun _ => true) true n 5 (([c0, c1, c2, c3, c4, c5, c6, c7, c8, c9, c10, c11, c12, c13, c14, c15, c16, c17, c18, c19, c20, c21, c22, c23].drop 0).take (Try.prog.cellsOf 5)) = some x0 := hf 0 _ rfl
  rw [show Try.prog.cellsOf 5 = 1 by kernel_rfl] at f0
  replace f0 : DataW.trod enc Try.prog W 0 (fun _ => true) true n 5 [c0] = some x0 := f0
  have f1 : DataW.trod enc Try.prog W 0 (fun _ => true) true n 39 (([c0, c1, c2, c3, c4, c5, c6, c7, c8, c9, c10, c11, c12, c13, c14, c15, c16, c17, c18, c19, c20, c21, c22, c23].drop 1).take (Try.prog.cellsOf 39)) = some x1 := hf 1 _ rfl
  rw [show Try.prog.cellsOf 39 = 21 by kernel_rfl] at f1
  replace f1 : DataW.trod enc Try.prog W 0 (fun _ => true) true n 39 [c1, c2, c3, c4, c5, c6, c7, c8, c9, c10, c11, c12, c13, c14, c15, c16, c17, c18, c19, c20, c21] = some x1 := f1
  have f2 : DataW.trod enc Try.prog W 0 (fun _ => true) true n 3 (([c0, c1, c2, c3, c4, c5, c6, c7, c8, c9, c10, c11, c12, c13, c14, c15, c16, c17, c18, c19, c20, c21, c22, c23].drop 22).take (Try.prog.cellsOf 3)) = some x2 := hf 2 _ rfl
  rw [show Try.prog.cellsOf 3 = 1 by kernel_rfl] at f2
  replace f2 : DataW.trod enc Try.prog W 0 (fun _ => true) true n 3 [c22] = some x2 := f2
  have f3 : DataW.trod enc Try.prog W 0 (fun _ => true) true n 9 (([c0, c1, c2, c3, c4, c5, c6, c7, c8, c9, c10, c11, c12, c13, c14, c15, c16, c17, c18, c19, c20, c21, c22, c23].drop 23).take (Try.prog.cellsOf 9)) = some x3 := hf 3 _ rfl
  rw [show Try.prog.cellsOf 9 = 1 by kernel_rfl] at f3
  replace f3 : DataW.trod enc Try.prog W 0 (fun _ => true) true n 9 [c23] = some x3 := f3
  have hw' : ∀ k, k ∈ x0.1.weights Try.prog 5 ++ (x1.1.weights Try.prog 39 ++ (x2.1.weights Try.prog 3 ++ (x3.1.weights Try.prog 9 ++ ([])))) → k ≤ reachBytes := by
    intro k hk
    refine hw k ?_
    simp only [DataW.weights, Try.underlying49, List.map_cons, List.map_nil, DataW.weightsEach]
    exact hk
  simp only [List.mem_append] at hw'
  obtain ⟨y0, h0⟩ := opens_u8 Try.underlying5 n _ _ f0 (fun k hk => hw' k (.inl hk))
  obtain ⟨y1, h1⟩ := open_ms n _ _ f1 (fun k hk => hw' k (.inr (.inl hk)))
  obtain ⟨y2, h2⟩ := opens_int Try.underlying3 n _ _ f2 (fun k hk => hw' k (.inr (.inr (.inl hk))))
  obtain ⟨y3, h3⟩ := opens_str Try.underlying9 n _ _ f3 (fun k hk => hw' k (.inr (.inr (.inr (.inl hk)))))
  obtain ⟨e0, b0, c0'⟩ := h0
  obtain ⟨v1, v2, v3, v4, e1, b1⟩ := h1
  obtain ⟨e2, b2⟩ := h2
  obtain ⟨e3, b3⟩ := h3
  simp only [msgV, List.cons.injEq, and_true] at e0 e1 e2 e3
  obtain ⟨d0, d1, d2, d3, d4, d5, d6, d7, d8, d9, d10, d11, d12, d13, d14, d15, d16, d17, d18, d19, d20⟩ := e1
  subst e0 d0 d1 d2 d3 d4 d5 d6 d7 d8 d9 d10 d11 d12 d13 d14 d15 d16 d17 d18 d19 d20 e2 e3
  exact ⟨⟨y0, y1, y2, y3⟩, _, _, _, _, rfl, ⟨b0, c0'⟩, b1, b2, b3⟩
theorem open_op20s : Opens enc Try.prog W (Rep.slice Rep.op20) 46 :=
  opens_slice Try.underlying46 (by kernel_rfl) (by decide) (by rw [show Try.prog.bytesOf 49 = 304 by kernel_rfl]; decide) open_op20
theorem open_msgs : Opens enc Try.prog W (Rep.slice Rep.ms) 22 :=
  opens_slice Try.underlying22 (by kernel_rfl) (by decide) (by rw [show Try.prog.bytesOf 39 = 272 by kernel_rfl]; decide) open_ms
end
end Go.Proofs.Ytbhpkknlpjdcaaa
namespace Go.Proofs.Ytbhpkknlpjdcaaa.netPlays
open Go.ChangeShapes Go.WideShapes Go.ChangeAt Go.RowKit
open Go.ChangeMaps (open_string shut_string)
set_option linter.unusedVariables false
set_option linter.unusedSimpArgs false
theorem own : ownKnob Try.prog.godebug = none := by kernel_rfl
theorem laidOut : laidOutB Try.prog = true := by kernel_rfl
set_option maxRecDepth 100000 in
theorem lifted (os : Os) (started : os.Started) (H : Type) (enc : TypeId × Value → H) :
    ReturnsInHanded {} Try.checked os 4 .any (Rows.netPlaysSpec.pre6 enc Try.prog Try.f4 Rows.netPlaysRow.domain false) (Rows.netPlaysSpec.post enc Try.prog Try.f4 false true false false) := by
  refine returnsInHanded_of_change_sized (C := Try.checked) own started (by kernel_rfl) Try.func4
    (ChangeSpec.witness6 (enc := enc) (C := Try.checked) false ⟨#[], #[.slice none 0 0], []⟩ 8 (by kernel_rfl) (by kernel_rfl) (by kernel_rfl) (by kernel_rfl)) ?_
  intro W base args ds gs before hval0 hW hcnd hsz0 _
  have hsz : (DataW.weightsEach Try.prog (Try.f4.params.toList ++ Rows.netPlaysSpec.plain.varTypes Try.prog) (ds ++ gs)).all (· ≤ reachBytes) = true := hsz0
  have hval : ∀ (j : Nat) t v, Try.f4.params[j]? = some t → args[j]? = some v → Value.okWide Try.prog W .any base t v := hval0
  have hW' := hW
  obtain ⟨p, q, hA0, hV, rfl, hfz, hnd⟩ := hW
  have hA : DataW.TrodAll enc Try.prog W 0 (fun _ => true) true Try.f4.params.toList args.toList ds p := hA0
  rw [Try.params4] at hA hval hsz
  obtain ⟨v0, vs0, d0, ds0, p0, q0, hargs, rfl, rfl, h0, r0⟩ := trodAll_cons hA
  obtain ⟨rfl, rfl, rfl⟩ := trodAll_nil r0
  obtain rfl : args = #[v0] := by cases args; simp_all
  obtain ⟨rfl, rfl⟩ := trodVars_none hV
  have k0 := h0
  have lt0 : ∀ x ∈ p0, x.block < W.heap.size := by obtain ⟨m, hm⟩ := k0; exact DataW.trod_lt m _ _ _ hm
  obtain ⟨a0, len0, cap0, rfl⟩ := okWide_slice Try.underlying46 (hval 0 46 v0 rfl rfl)
  obtain ⟨fuel0, hf0⟩ := id h0
  obtain ⟨y0, hr0⟩ := open_op20s fuel0 _ _ hf0 (fun n hn => of_decide_eq_true (List.all_eq_true.1 hsz n (DataW.weights_mem_each (j := 0) (t := 46) rfl rfl n hn)))
  clear hA0 hval0 hsz0
  obtain ⟨s0, z0, t0⟩ := hr0
  obtain rfl : Value.slice a0 len0 cap0 = s0 := by simpa [Value.cells] using z0
  obtain ⟨A0, m0, x0, l0⟩ := t0.form
  cases x0
  refine (netPlays_call a0 y0 cap0 (Inn W) W t0 (fun _ h => h)).mono fun e W' ⟨he, kept⟩ => ?_
  subst he
  have bel := kept.below
  exact ⟨_, rfl, _, _, _, [], _, [], hW', trodAll_mk1 (shut_bool Try.underlying4 _), (trodAll_cons_mk (Below.trod laidOut (by kernel_rfl) (of_decide_eq_true (by kernel_rfl)) k0 bel lt0) trodAll_mk0), rfl, bel.frame _, fun h => by cases h⟩
theorem over : Rows.netPlaysRow.holds Try.pinned (OpenSpec.ofChange Rows.netPlaysSpec) :=
  OpenClaim.holds_of_wide 4 Try.f4 rfl rfl rfl rfl rfl rfl rfl ⟨rfl, rfl, rfl, rfl, rfl⟩ rfl rfl rfl rfl rfl (by kernel_rfl) Try.func4 (by kernel_rfl)
    (of_decide_eq_true (by kernel_rfl)) (by unfold Func.isWrapper; first | (rw [if_pos (by decide +kernel)]; kernel_rfl) | (rw [if_neg (by decide +kernel)]; exact ⟨rfl, rfl⟩))
    (fun os started H enc _ => lifted os started H enc)
end Go.Proofs.Ytbhpkknlpjdcaaa.netPlays
namespace Go.Proofs.Ytbhpkknlpjdcaaa
theorem netPlays_holds : Rows.NetPlaysSaid := netPlays.over
#print axioms netPlays_holds
end Go.Proofs.Ytbhpkknlpjdcaaa
