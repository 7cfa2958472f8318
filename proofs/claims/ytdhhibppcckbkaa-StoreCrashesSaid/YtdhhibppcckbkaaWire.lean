import Derived.Test.YtdhhibppcckbkaaBase
import Derived.Lib.ConvBytes
namespace Go.Proofs.Ytdhhibppcckbkaa
open Go.RowKit
set_option linter.unusedVariables false
set_option linter.unusedSimpArgs false
/-! wire's texts -/
theorem conv4 (x0 x1 x2 x3 : Int) (w : World) : (convert 87 9 (.slice (some ⟨w.heap.size, 0, none⟩) 4 4)).run Try.prog (w.alloc (.cells #[.int .u8 x0, .int .u8 x1, .int .u8 x2, .int .u8 x3] 5)) =
    .ok (.string (strOfNums [x0, x1, x2, x3])) (w.alloc (.cells #[.int .u8 x0, .int .u8 x1, .int .u8 x2, .int .u8 x3] 5)) := by
  refine run_convert_bytes_arg _ 87 5 Try.underlying87 Try.underlying5 w.heap.size 0 4 4 [x0, x1, x2, x3] rfl (fun i hi => ?_) 9 Try.underlying9
  have hb := Blk.new w #[.int .u8 x0, .int .u8 x1, .int .u8 x2, .int .u8 x3] 5
  have hc := hb.cell (0 + i)
  have : i = 0 ∨ i = 1 ∨ i = 2 ∨ i = 3 := by omega
  rcases this with rfl | rfl | rfl | rfl <;> (simp at hc ⊢; try exact hc)
theorem conv_bytes (w : World) (s : ByteArray) : ∃ w2 c, (convert 9 87 (.string s)).run Try.prog w = .ok (.slice (some ⟨w.heap.size, 0, none⟩) s.size c) w2 ∧ Keep [] w w2 ∧
    ∀ j, j < s.size → w2.cell? ⟨w.heap.size, j, none⟩ = some (.int .u8 (s.data.toList.getD j 0).toNat) :=
  ⟨_, _, Lib.run_convert_string_bytes w 9 87 5 s Try.underlying9 Try.underlying87 Try.underlying5,
    ⟨by simp [Lib.bytesWorld, World.freeze, World.alloc, World.drew, -World.alloc_eq, -World.drew_eq], by simp [Lib.bytesWorld, World.freeze, World.alloc, World.drew, -World.alloc_eq, -World.drew_eq], by simp [Lib.bytesWorld, World.freeze, World.alloc, World.drew, -World.alloc_eq, -World.drew_eq], by rw [Lib.bytesWorld_size]; omega, fun k hk _ => Lib.bytesWorld_at_old w 5 s k hk⟩, fun j hj => Lib.bytesWorld_cell w 5 s j hj⟩
def numF (n : Int) : ByteArray := if 0 ≤ n ∧ n ≤ 2147483647 then strOfNums [n / 16777216, n / 65536 % 256, n / 256 % 256, n % 256] else strOfNums [0, 0, 0, 0]
theorem numF_size (n : Int) : (numF n).size = 4 := by unfold numF; split <;> rfl
def textF (s : ByteArray) : ByteArray := numF s.size ++ s
def reqF (r : Req) : ByteArray := numF r.c ++ numF r.s ++ textF r.b
def cat (l : List ByteArray) : ByteArray := l.foldl (· ++ ·) ByteArray.empty
theorem cat_snoc (l : List ByteArray) (x : ByteArray) : cat (l ++ [x]) = cat l ++ x := by simp [cat]
theorem cat_take (l : List ByteArray) (k : Nat) (h : k < l.length) : cat (l.take (k + 1)) = cat (l.take k) ++ l[k] := by
  rw [List.take_succ_eq_append_getElem h, cat_snoc]
theorem cat_from (l : List ByteArray) : ∀ x : ByteArray, l.foldl (· ++ ·) x = x ++ cat l := by
  induction l with
  | nil => intro x; simp [cat]
  | cons a l ih => intro x; simp only [cat, List.foldl_cons]; rw [ih, ih (ByteArray.empty ++ a)]; simp [ByteArray.append_assoc]
theorem cat_app (l m : List ByteArray) : cat (l ++ m) = cat l ++ cat m := by
  rw [cat, List.foldl_append, cat_from]; rfl
theorem cat_le (l : List ByteArray) (k : Nat) : (cat (l.take k)).size ≤ (cat l).size := by
  conv => rhs; rw [← List.take_append_drop k l, cat_app, ByteArray.size_append]
  omega
def sigF (s : Sg) : ByteArray := numF s.f ++ numF s.ts.length ++ cat s.ts
def certF (c : Ct) : ByteArray := numF c.v ++ c.h ++ numF c.sg.length ++ cat (c.sg.map sigF)
def batchF (l : List Req) : ByteArray := numF l.length ++ cat (l.map reqF)
def blockF (b : Bk) : ByteArray := numF b.v ++ numF b.p ++ certF b.j ++ batchF b.q
def coreF (b : Bk) : ByteArray := numF b.v ++ numF b.p ++ numF b.j.v ++ b.j.h ++ batchF b.q
set_option maxHeartbeats 400000 in
theorem number_call (n : Int) (w : World) :
    Calls Try.prog 50 #[.int .i64 n] w fun e w' => e = .returned (.string (numF n)) ∧ Keep [] w w' := by
  have hc := fun x0 x1 x2 x3 => conv4 x0 x1 x2 x3 w
  by_cases h : 0 ≤ n ∧ n ≤ 2147483647
  · have hf : numF n = strOfNums [n / 16777216, n / 65536 % 256, n / 256 % 256, n % 256] := if_pos h
    obtain ⟨h0, h1⟩ := h
    have HF := Lib.hid hf
    clear hf
    have c1 : decide (n < 0) = false := by simp; omega
    have c2 : decide (2147483647 < n) = false := by simp; omega
    go_enter Try.func50, Try.ntmps50
    go_wp2
    go_ret
    exact ⟨by rw [HF.out]; rfl, (Keep.refl _ _).alloc _⟩
  · have hf : numF n = strOfNums [0, 0, 0, 0] := if_neg h
    have HF := Lib.hid hf
    clear hf
    by_cases h0 : n < 0
    · clear h
      have c1 : decide (n < 0) = true := by simp; omega
      go_enter Try.func50, Try.ntmps50
      go_wp2
      go_ret
      exact ⟨by rw [HF.out]; rfl, (Keep.refl _ _).alloc _⟩
    · have h1 : 2147483647 < n := by omega
      clear h
      have c1 : decide (n < 0) = false := by simp; omega
      have c2 : decide (2147483647 < n) = true := by simp; omega
      go_enter Try.func50, Try.ntmps50
      go_wp2
      go_ret
      exact ⟨by rw [HF.out]; rfl, (Keep.refl _ _).alloc _⟩
theorem text_call (s : ByteArray) (w : World) (hs : s.size ≤ 4611686018427387904) :
    Calls Try.prog 65 #[.string s] w fun e w' => e = .returned (.string (textF s)) ∧ Keep [] w w' := by
  have z1 := numF_size s.size
  have q1 : (9223372036854775807 < (numF s.size).size + s.size) = False := by simp; omega
  clear z1
  go_enter Try.func65, Try.ntmps65
  go_wp2_with fail
  refine (number_call _ _).mono ?_
  rintro e w1 ⟨rfl, k1⟩
  go_wp2
  go_ret
  exact ⟨rfl, k1⟩
set_option maxHeartbeats 400000 in
theorem request_call (r : Req) (w : World) (hs : r.b.size ≤ 4611686018427387904) :
    Calls Try.prog 69 #[.agg #[.int .i64 r.c, .int .i64 r.s, .string r.b]] w fun e w' => e = .returned (.string (reqF r)) ∧ Keep [] w w' := by
  obtain ⟨c, s, b⟩ := r
  have z1 := numF_size c
  have z2 := numF_size s
  have z3 : (textF b).size = 4 + b.size := by unfold textF; rw [ByteArray.size_append, numF_size]
  simp only at hs
  have q1 : (9223372036854775807 < (numF c).size + (numF s).size) = False := by simp; omega
  have q2 : (9223372036854775807 < (numF c).size + (numF s).size + (textF b).size) = False := by simp; omega
  clear z1 z2 z3
  dsimp only [reqF]
  go_enter Try.func69, Try.ntmps69
  go_wp2_with fail
  go_region_held3 (fun w' => Keep [] w w' ∧ w'.cell? ⟨w.heap.size, 0, none⟩ = some (.int .i64 c) ∧ w'.cell? ⟨w.heap.size, 1, none⟩ = some (.int .i64 s) ∧ w'.cell? ⟨w.heap.size, 2, none⟩ = some (.string b))
    (first
      | (refine ⟨((Keep.refl _ _).alloc _).drew, ?_⟩; go_keep)
      | (go_split_ands; (refine ⟨Keep.trans ‹Keep [] w _› ‹Keep [] _ _›, ?_, ?_, ?_⟩ <;> first | assumption | exact Keep.cell ‹Keep [] _ _› (by simp) ‹_›)))
    (first
      | (go_at_call 50; refine (number_call _ _).mono ?_; rintro e w' ⟨rfl, kq⟩)
      | (go_at_call 65; refine (text_call _ _ hs).mono ?_; rintro e w' ⟨rfl, kq⟩))
  go_wp2
  go_ret
  exact ⟨rfl, (‹Keep [] w _ ∧ _›).1⟩
/-- A loop that puts texts behind one another. -/
def accF (p : ByteArray) (l : List ByteArray) (k : Nat) : ByteArray := p ++ cat (l.take k)
theorem accF_zero (p : ByteArray) (l : List ByteArray) : accF p l 0 = p := by simp [accF, cat]
theorem accF_succ (p : ByteArray) (l : List ByteArray) (k : Nat) (h : k < l.length) : accF p l (k + 1) = accF p l k ++ l[k] := by
  unfold accF; rw [cat_take l k h, ByteArray.append_assoc]
theorem accF_all (p : ByteArray) (l : List ByteArray) : accF p l l.length = p ++ cat l := by simp [accF]
theorem accF_le (p : ByteArray) (l : List ByteArray) (k : Nat) : (accF p l k).size ≤ p.size + (cat l).size := by
  unfold accF; rw [ByteArray.size_append]; have := cat_le l k; omega
theorem accF_room (p : ByteArray) (l : List ByteArray) (k : Nat) (h : k < l.length) (hs : p.size + (cat l).size ≤ 9223372036854775807) : (9223372036854775807 < (accF p l k).size + l[k].size) = False := by
  have h1 := accF_le p l (k + 1)
  rw [accF_succ p l k h, ByteArray.size_append] at h1
  simp; omega
set_option maxHeartbeats 400000 in
theorem sig_call (x : Sg) (v : Value) (F : Nat → Prop) (w : World) (h : SliceOf Rep.str w F v x.ts) (hs : (sigF x).size ≤ 4611686018427387904) :
    Calls Try.prog 68 #[.agg #[.int .i64 x.f, v]] w fun e w' => e = .returned (.string (sigF x)) ∧ Keep [] w w' := by
  obtain ⟨f, ts⟩ := x
  simp only at h
  have hz : (numF f ++ numF ts.length).size + (cat ts).size ≤ 9223372036854775807 := by simp [sigF, ByteArray.size_append, numF_size] at hs ⊢; omega
  have HE : Hid (sigF ⟨f, ts⟩ = accF (numF f ++ numF ts.length) ts ts.length) := Lib.hid (by rw [accF_all]; rfl)
  generalize sigF ⟨f, ts⟩ = out at *
  obtain ⟨A, c, rfl, hl⟩ := h.form
  have z1 := numF_size f
  have z2 := numF_size ts.length
  have q1 : (9223372036854775807 < (numF f).size + (numF ts.length).size) = False := by simp; omega
  clear z1 z2
  go_enter Try.func68, Try.ntmps68
  go_wp2_with fail
  go_region_held3 (fun w' => Keep [] w w' ∧ w'.cell? ⟨w.heap.size, 0, none⟩ = some (.int .i64 f) ∧ w'.cell? ⟨w.heap.size, 1, none⟩ = some (.slice A ts.length c))
    (first
      | (refine ⟨((Keep.refl _ _).alloc _).drew, ?_⟩; go_keep)
      | (go_split_ands; (refine ⟨Keep.trans ‹Keep [] w _› ‹Keep [] _ _›, ?_, ?_⟩ <;> first | assumption | exact Keep.cell ‹Keep [] _ _› (by simp) ‹_›)))
    (first
      | (go_at_call 50; refine (number_call _ _).mono ?_; rintro e w' ⟨rfl, kq⟩))
  go_wp2
  have kk := (‹Keep [] w _ ∧ _›).1
  have h' := h.keep (kk.at F (by simp))
  clear h
  generalize numF f ++ numF ts.length = p at *
  go_loop [3, 17] (fun b i => ∃ k : Nat, k ≤ ts.length ∧ i = .int .i64 k ∧ b = .string (accF p ts k)) (fun _ i => ts.length - (intOf i).toNat)
  case atStart => exact ⟨0, Nat.zero_le _, rfl, by rw [accF_zero]⟩
  case round =>
    obtain ⟨k, hk, rfl, rfl⟩ := hrel
    by_cases hlt : k < ts.length
    · obtain ⟨g, o, rfl, hc, hm⟩ := h'.str_at hlt
      have hs := accF_succ p ts k hlt
      have HS := Lib.hid hs
      clear hs
      have hr := accF_room p ts k hlt hz
      go_wp2
      go_round
      case rel => exact ⟨k + 1, by omega, by go_num, by rw [HS.out]⟩
      case measure => simp [intOf]; omega
    · have hk' : k = ts.length := by omega
      subst hk'
      go_wp2
      go_ret
      exact ⟨by rw [HE.out]; rfl, kk⟩
theorem accF_map {α : Type} (f : α → ByteArray) (p : ByteArray) (l : List α) (k : Nat) (h : k < l.length) : accF p (l.map f) (k + 1) = accF p (l.map f) k ++ f l[k] := by
  have := accF_succ p (l.map f) k (by simpa using h)
  simpa using this
theorem accF_roomMap {α : Type} (f : α → ByteArray) (p : ByteArray) (l : List α) (k : Nat) (h : k < l.length) (hs : p.size + (cat (l.map f)).size ≤ 9223372036854775807) : (9223372036854775807 < (accF p (l.map f) k).size + (f l[k]).size) = False := by
  have := accF_room p (l.map f) k (by simpa using h) hs
  simpa using this
theorem cat_mem (l : List ByteArray) (k : Nat) (h : k < l.length) : l[k].size ≤ (cat l).size := by
  have h1 := cat_le l (k + 1)
  rw [cat_take l k h, ByteArray.size_append] at h1
  omega
theorem cat_memMap {α : Type} (f : α → ByteArray) (l : List α) (k : Nat) (h : k < l.length) : (f l[k]).size ≤ (cat (l.map f)).size := by
  have := cat_mem (l.map f) k (by simpa using h)
  simpa using this
set_option maxHeartbeats 400000 in
theorem cert_call (x : Ct) (v : Value) (F : Nat → Prop) (w : World) (h : SliceOf Rep.sg w F v x.sg) (hs : (certF x).size ≤ 4611686018427387904) :
    Calls Try.prog 51 #[.agg #[.int .i64 x.v, .string x.h, v]] w fun e w' => e = .returned (.string (certF x)) ∧ Keep [] w w' := by
  obtain ⟨vw, hh, sg⟩ := x
  simp only at h
  have hz : (numF vw ++ hh ++ numF sg.length).size + (cat (sg.map sigF)).size ≤ 4611686018427387904 := by simp [certF, ByteArray.size_append, numF_size] at hs ⊢; omega
  have HE : Hid (certF ⟨vw, hh, sg⟩ = accF (numF vw ++ hh ++ numF sg.length) (sg.map sigF) (sg.map sigF).length) := Lib.hid (by rw [accF_all]; rfl)
  generalize certF ⟨vw, hh, sg⟩ = out at *
  obtain ⟨A, c, rfl, hl⟩ := h.form
  have z1 := numF_size vw
  have z2 := numF_size sg.length
  have q1 : (9223372036854775807 < (numF vw).size + hh.size) = False := by simp [ByteArray.size_append] at hz ⊢; omega
  have q2 : (9223372036854775807 < (numF vw).size + hh.size + (numF sg.length).size) = False := by simp [ByteArray.size_append] at hz ⊢; omega
  clear z1 z2
  go_enter Try.func51, Try.ntmps51
  go_wp2_with fail
  go_region_held3 (fun w' => Keep [] w w' ∧ w'.cell? ⟨w.heap.size, 0, none⟩ = some (.int .i64 vw) ∧ w'.cell? ⟨w.heap.size, 1, none⟩ = some (.string hh) ∧ w'.cell? ⟨w.heap.size, 2, none⟩ = some (.slice A sg.length c))
    (first
      | (refine ⟨((Keep.refl _ _).alloc _).drew, ?_⟩; go_keep)
      | (go_split_ands; (refine ⟨Keep.trans ‹Keep [] w _› ‹Keep [] _ _›, ?_, ?_, ?_⟩ <;> first | assumption | exact Keep.cell ‹Keep [] _ _› (by simp) ‹_›)))
    (first
      | (go_at_call 50; refine (number_call _ _).mono ?_; rintro e w' ⟨rfl, kq⟩))
  go_wp2
  have kk := (‹Keep [] w _ ∧ _›).1
  generalize numF vw ++ hh ++ numF sg.length = p at *
  go_loopw [3, 20] (fun b i wr => ∃ k : Nat, k ≤ sg.length ∧ i = .int .i64 k ∧ b = .string (accF p (sg.map sigF) k) ∧ Keep [] w wr) (fun _ i _ => sg.length - (intOf i).toNat)
  case atStart => exact ⟨0, Nat.zero_le _, rfl, by rw [accF_zero], kk⟩
  case round =>
    obtain ⟨k, hk, rfl, rfl, kr⟩ := hrel
    by_cases hlt : k < sg.length
    · have h' := h.keep (kr.at F (by simp))
      obtain ⟨g, o, tv, rfl, hc0, hc1, hi, ht⟩ := h'.sg_at hlt
      obtain ⟨B, d, rfl, hd⟩ := ht.form
      have HS := Lib.hid (accF_map sigF p sg k hlt)
      have hr := accF_roomMap sigF p sg k hlt (by omega)
      have hm := cat_memMap sigF sg k hlt
      go_wp2_with fail
      refine (sig_call sg[k] (.slice B sg[k].ts.length d) F _ (ht.keep (((Keep.refl [] _).alloc _).at F (by simp))) (by omega)).mono ?_
      rintro e w1 ⟨rfl, k1⟩
      go_wp2
      go_roundw
      case rel => exact ⟨k + 1, by omega, by go_num, by rw [HS.out], kr.trans (((Keep.refl _ _).alloc _).trans k1)⟩
      case measure => simp [intOf]; omega
    · have hk' : k = sg.length := by omega
      subst hk'
      go_wp2
      go_ret
      exact ⟨by rw [HE.out]; simp, kr⟩
set_option maxHeartbeats 400000 in
theorem batch_call (l : List Req) (v : Value) (F : Nat → Prop) (w : World) (h : SliceOf Rep.req w F v l) (hs : (batchF l).size ≤ 4611686018427387904) :
    Calls Try.prog 52 #[v] w fun e w' => e = .returned (.string (batchF l)) ∧ Keep [] w w' := by
  have hz : (numF l.length).size + (cat (l.map reqF)).size ≤ 4611686018427387904 := by simp [batchF, ByteArray.size_append] at hs ⊢; omega
  have HE : Hid (batchF l = accF (numF l.length) (l.map reqF) (l.map reqF).length) := Lib.hid (by rw [accF_all]; rfl)
  generalize batchF l = out at *
  obtain ⟨A, c, rfl, hl⟩ := h.form
  go_enter Try.func52, Try.ntmps52
  go_wp2_with fail
  refine (number_call _ _).mono ?_
  rintro e w1 ⟨rfl, k1⟩
  go_wp2
  generalize numF l.length = p at *
  go_loopw [3, 11] (fun b i wr => ∃ k : Nat, k ≤ l.length ∧ i = .int .i64 k ∧ b = .string (accF p (l.map reqF) k) ∧ Keep [] w wr) (fun _ i _ => l.length - (intOf i).toNat)
  case atStart => exact ⟨0, Nat.zero_le _, rfl, by rw [accF_zero], k1⟩
  case round =>
    obtain ⟨k, hk, rfl, rfl, kr⟩ := hrel
    by_cases hlt : k < l.length
    · have h' := h.keep (kr.at F (by simp))
      obtain ⟨g, o, rfl, hc0, hc1, hc2, hi1, hi2, hb⟩ := h'.req_at hlt
      have HS := Lib.hid (accF_map reqF p l k hlt)
      have hr := accF_roomMap reqF p l k hlt (by omega)
      go_wp2_with fail
      refine (request_call l[k] _ (by omega)).mono ?_
      rintro e w2 ⟨rfl, k2⟩
      go_wp2
      go_roundw
      case rel => exact ⟨k + 1, by omega, by go_num, by rw [HS.out], kr.trans (((Keep.refl _ _).alloc _).trans k2)⟩
      case measure => simp [intOf]; omega
    · have hk' : k = l.length := by omega
      subst hk'
      go_wp2
      go_ret
      exact ⟨by rw [HE.out]; simp, kr⟩
set_option maxHeartbeats 1000000 in
theorem block_call (x : Bk) (v u : Value) (F : Nat → Prop) (w : World) (h : SliceOf Rep.sg w F v x.j.sg) (h2 : SliceOf Rep.req w F u x.q) (hs : (blockF x).size ≤ 4611686018427387904) :
    Calls Try.prog 32 #[.agg #[.int .i64 x.v, .int .i64 x.p, .int .i64 x.j.v, .string x.j.h, v, u]] w fun e w' => e = .returned (.string (blockF x)) ∧ Keep [] w w' := by
  obtain ⟨vw, pr, j, q⟩ := x
  simp only at h h2
  have z0 := hs
  simp only [blockF, ByteArray.size_append] at z0
  have z1 : (certF j).size ≤ 4611686018427387904 := by omega
  have z2 : (batchF q).size ≤ 4611686018427387904 := by omega
  have q2 : (9223372036854775807 < (numF vw).size + (numF pr).size) = False := by simp; omega
  have q3 : (9223372036854775807 < (numF vw).size + (numF pr).size + (certF j).size) = False := by simp; omega
  have q4 : (9223372036854775807 < (numF vw).size + (numF pr).size + (certF j).size + (batchF q).size) = False := by simp; omega
  dsimp only [blockF]
  clear hs z0
  obtain ⟨A, c, rfl, hl⟩ := h.form
  obtain ⟨B, d, rfl, hd⟩ := h2.form
  go_enter Try.func32, Try.ntmps32
  go_wp2_with fail
  go_region_held3 (fun w' => Keep [] w w' ∧ w'.cell? ⟨w.heap.size, 0, none⟩ = some (.int .i64 vw) ∧ w'.cell? ⟨w.heap.size, 1, none⟩ = some (.int .i64 pr) ∧ w'.cell? ⟨w.heap.size, 2, none⟩ = some (.int .i64 j.v) ∧ w'.cell? ⟨w.heap.size, 3, none⟩ = some (.string j.h) ∧ w'.cell? ⟨w.heap.size, 4, none⟩ = some (.slice A j.sg.length c) ∧ w'.cell? ⟨w.heap.size, 5, none⟩ = some (.slice B q.length d))
    (first
      | (refine ⟨((Keep.refl _ _).alloc _).drew, ?_⟩; go_keep)
      | (go_split_ands; (refine ⟨Keep.trans ‹Keep [] w _› ‹Keep [] _ _›, ?_, ?_, ?_, ?_, ?_, ?_⟩ <;> first | assumption | exact Keep.cell ‹Keep [] _ _› (by simp) ‹_›)))
    (first
      | (go_at_call 50; refine (number_call _ _).mono ?_; rintro e w' ⟨rfl, kq⟩)
      | (go_split_ands; go_at_call 51; refine (cert_call j _ F _ (h.keep (Keep.at (by assumption) F (by simp))) z1).mono ?_; rintro e w' ⟨rfl, kq⟩)
      | (go_split_ands; go_at_call 52; refine (batch_call q _ F _ (h2.keep (Keep.at (by assumption) F (by simp))) z2).mono ?_; rintro e w' ⟨rfl, kq⟩))
  go_wp2
  go_ret
  exact ⟨rfl, (‹Keep [] w _ ∧ _›).1⟩
end Go.Proofs.Ytdhhibppcckbkaa
