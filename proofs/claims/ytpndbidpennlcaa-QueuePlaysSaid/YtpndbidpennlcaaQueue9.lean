import Derived.Test.YtpndbidpennlcaaQueue8
import Derived.Test.YtpndbidpennlcaaStepM
namespace Go.Proofs.Ytpndbidpennlcaa
open Go.RowKit
set_option linter.unusedVariables false
set_option linter.unusedSimpArgs false
/-! the reference's Push -/
abbrev zRq : Array Value := #[.slice none 0 0, .slice none 0 0, .int .i64 0]
theorem zRq_info : (Try.prog.info? 53).map (fun i => (i.zero, i.size)) = some (some (.agg zRq), 3) := by kernel_rfl
theorem zRq_size : (Try.prog.info? 53).map (·.size) = some 3 := by kernel_rfl
def client (m : Ms) : Bool := m.k == 4 || m.k == 5
set_option maxRecDepth 100000 in
set_option maxHeartbeats 16000000 in
theorem rpush_bad (A B : Option Addr) (ca cb : Nat) (a b : List Ms) (d : Int) (m : Ms) (v1 v2 v3 v4 : Value) (G : Nat → Prop) (w : World) (ha : SliceOf Rep.ms w G (.slice A a.length ca) a) (hb : SliceOf Rep.ms w G (.slice B b.length cb) b) (hok : MsOk w G m v1 v2 v3 v4)
    (hG : ∀ i, G i → i < w.heap.size) (ha2 : a.length ≤ 64) (hb2 : b.length ≤ 64) (hd : 0 ≤ d ∧ d ≤ 1000000) (hr : rightMsg m = false) :
    Calls Try.prog 16 #[.agg #[.slice A a.length ca, .slice B b.length cb, .int .i64 d], .agg (msgV m v1 v2 v3 v4)] w fun e w' => e = .returned (.tuple #[.agg #[.slice A a.length ca, .slice B b.length cb, .int .i64 d], .int .i64 2]) ∧ Keep [] w w' := by
  obtain ⟨A1, c1, rfl, -⟩ := hok.bs.form
  obtain ⟨A2, c2, rfl, -⟩ := hok.bq.form
  obtain ⟨A3, c3, rfl, -⟩ := hok.cs.form
  obtain ⟨A4, c4, rfl, -⟩ := hok.st.form
  have HR := Lib.hid hr
  clear hr
  replace ha := Lib.hid ha
  replace hb := Lib.hid hb
  replace hok := Lib.hid hok
  replace hG := Lib.hid hG
  obtain ⟨hd1, hd2⟩ := hd
  go_enter Try.func16, Try.ntmps16
  go_upto_region 1 with (first
    | ((with_reducible refine wl_box 53 (.tmp 0) ?_ ?_); (with_reducible rfl); refine sx_box rfl 53 (.tmp 0) rfl #[.slice A a.length ca, .slice B b.length cb, .int .i64 d] rfl ?_; intro w1 b1 k1 z1; clear z1; (try simp only [Act.put, List.setIfInBounds_toArray, List.set_cons_zero, List.set_cons_succ]))
    | ((with_reducible refine wl_box 38 (.tmp 1) ?_ ?_); (with_reducible rfl); refine sx_box rfl 38 (.tmp 1) rfl (msgV m (.slice A1 m.b.j.sg.length c1) (.slice A2 m.b.q.length c2) (.slice A3 m.c.sg.length c3) (.slice A4 m.s.ts.length c4)) rfl ?_; intro w2 b2 k2 z2; clear z2; (try simp only [Act.put, List.setIfInBounds_toArray, List.set_cons_zero, List.set_cons_succ]))
    | ((with_reducible refine wl_alloc 53 ?_ ?_); (with_reducible rfl); refine sx_alloc rfl 53 rfl _ 3 zRq zRq_info rfl ?_; intro w3 b3 k3 z3; clear z3; (try simp only [Act.put, List.setIfInBounds_toArray, List.set_cons_zero, List.set_cons_succ])))
  have B1 := (b1.keep k2 (by simp)).keep k3 (by simp)
  have B2 := b2.keep k3 (by simp)
  have kk3 := (k1.trans k2).trans k3
  have l0 : w.heap.size ≤ w2.heap.size := (k1.trans k2).size
  have l1 := b1.lt
  have l2 := b2.lt
  clear b1 b2 k1 k2 k3
  go_wp2_with (first
    | ((with_reducible refine wl_load 38 (.tmp 3) ?_ ?_); (with_reducible rfl); refine sx_loadW rfl 38 (.tmp 3) rfl w1.heap.size (msgV m (.slice A1 m.b.j.sg.length c1) (.slice A2 m.b.q.length c2) (.slice A3 m.c.sg.length c3) (.slice A4 m.s.ts.length c4)) _ _ 21 rfl B2 Try.underlying38 rfl zMs_size rfl ?_; (try simp only [Act.put, List.setIfInBounds_toArray, List.set_cons_zero, List.set_cons_succ])))
  refine (rightMsg_call m _ _ _ _ G _ (hok.out.keep (kk3.at G (by simp)))).mono ?_
  rw [HR.out]
  rintro e w4 ⟨rfl, k4⟩
  have C1 := B1.keep k4 (by simp)
  have C2 := B2.keep k4 (by simp)
  have C3 := b3.keep k4 (by simp)
  have kk4 := kk3.trans k4
  clear B1 B2 b3 kk3
  go_wp2_with (first
    | ((with_reducible refine wl_load 53 (.tmp 2) ?_ ?_); (with_reducible rfl); refine sx_loadW rfl 53 (.tmp 2) rfl w.heap.size #[.slice A a.length ca, .slice B b.length cb, .int .i64 d] _ _ 3 rfl C1 Try.underlying53 rfl zRq_size rfl ?_; (try simp only [Act.put, List.setIfInBounds_toArray, List.set_cons_zero, List.set_cons_succ]))
    | ((with_reducible refine wl_store 53 (.tmp 4) (.tmp 10) ?_ ?_); (with_reducible rfl); refine sx_storeW rfl 53 (.tmp 4) (.tmp 10) rfl w2.heap.size #[.slice A a.length ca, .slice B b.length cb, .int .i64 d] zRq _ 3 rfl rfl C3 zRq_size rfl rfl rfl ?_; intro w9 b9 k9 z9; clear z9; (try simp only [Act.put, List.setIfInBounds_toArray, List.set_cons_zero, List.set_cons_succ])))
  refine ret_cell2 rfl rfl rfl b9 Try.underlying53 rfl zRq_size _ rfl ?_
  exact ⟨rfl, kk4.new k9 (fun i hi => .inr (by simp at hi; omega))⟩
set_option maxRecDepth 100000 in
set_option maxHeartbeats 16000000 in
theorem rpush_full4 (A B : Option Addr) (ca cb : Nat) (a b : List Ms) (d : Int) (m : Ms) (v1 v2 v3 v4 : Value) (G : Nat → Prop) (w : World) (ha : SliceOf Rep.ms w G (.slice A a.length ca) a) (hb : SliceOf Rep.ms w G (.slice B b.length cb) b) (hok : MsOk w G m v1 v2 v3 v4)
    (hG : ∀ i, G i → i < w.heap.size) (ha2 : a.length ≤ 64) (hb2 : b.length ≤ 64) (hd : 0 ≤ d ∧ d ≤ 1000000) (hr : rightMsg m = true) (h4 : m.k = 4) (hf : b.length = 64) :
    Calls Try.prog 16 #[.agg #[.slice A a.length ca, .slice B b.length cb, .int .i64 d], .agg (msgV m v1 v2 v3 v4)] w fun e w' => e = .returned (.tuple #[.agg #[.slice A a.length ca, .slice B b.length cb, .int .i64 (d + 1)], .int .i64 7]) ∧ Keep [] w w' := by
  obtain ⟨A1, c1, rfl, -⟩ := hok.bs.form
  obtain ⟨A2, c2, rfl, -⟩ := hok.bq.form
  obtain ⟨A3, c3, rfl, -⟩ := hok.cs.form
  obtain ⟨A4, c4, rfl, -⟩ := hok.st.form
  have HR := Lib.hid hr
  clear hr
  have t4 : (m.k == 4) = true := by simp [h4]
  replace h4 := Lib.hid h4
  have n1 : ((b.length : Int) == 64) = true := by simp [hf]
  have n2 : (b.length : Int) = 64 := by omega
  have HFL := Lib.hid hf
  clear hf
  replace ha := Lib.hid ha
  replace hb := Lib.hid hb
  replace hok := Lib.hid hok
  replace hG := Lib.hid hG
  obtain ⟨hd1, hd2⟩ := hd
  go_enter Try.func16, Try.ntmps16
  go_upto_region 1 with (first
    | ((with_reducible refine wl_box 53 (.tmp 0) ?_ ?_); (with_reducible rfl); refine sx_box rfl 53 (.tmp 0) rfl #[.slice A a.length ca, .slice B b.length cb, .int .i64 d] rfl ?_; intro w1 b1 k1 z1; clear z1; (try simp only [Act.put, List.setIfInBounds_toArray, List.set_cons_zero, List.set_cons_succ]))
    | ((with_reducible refine wl_box 38 (.tmp 1) ?_ ?_); (with_reducible rfl); refine sx_box rfl 38 (.tmp 1) rfl (msgV m (.slice A1 m.b.j.sg.length c1) (.slice A2 m.b.q.length c2) (.slice A3 m.c.sg.length c3) (.slice A4 m.s.ts.length c4)) rfl ?_; intro w2 b2 k2 z2; clear z2; (try simp only [Act.put, List.setIfInBounds_toArray, List.set_cons_zero, List.set_cons_succ]))
    | ((with_reducible refine wl_alloc 53 ?_ ?_); (with_reducible rfl); refine sx_alloc rfl 53 rfl _ 3 zRq zRq_info rfl ?_; intro w3 b3 k3 z3; clear z3; (try simp only [Act.put, List.setIfInBounds_toArray, List.set_cons_zero, List.set_cons_succ])))
  have B1 := (b1.keep k2 (by simp)).keep k3 (by simp)
  have B2 := b2.keep k3 (by simp)
  have kk3 := (k1.trans k2).trans k3
  have l0 : w.heap.size ≤ w2.heap.size := (k1.trans k2).size
  have l1 := b1.lt
  have l2 := b2.lt
  clear b1 b2 k1 k2 k3
  go_wp2_with (first
    | ((with_reducible refine wl_load 38 (.tmp 3) ?_ ?_); (with_reducible rfl); refine sx_loadW rfl 38 (.tmp 3) rfl w1.heap.size (msgV m (.slice A1 m.b.j.sg.length c1) (.slice A2 m.b.q.length c2) (.slice A3 m.c.sg.length c3) (.slice A4 m.s.ts.length c4)) _ _ 21 rfl B2 Try.underlying38 rfl zMs_size rfl ?_; (try simp only [Act.put, List.setIfInBounds_toArray, List.set_cons_zero, List.set_cons_succ])))
  refine (rightMsg_call m _ _ _ _ G _ (hok.out.keep (kk3.at G (by simp)))).mono ?_
  rw [HR.out]
  rintro e w4 ⟨rfl, k4⟩
  have C1 := B1.keep k4 (by simp)
  have C2 := B2.keep k4 (by simp)
  have C3 := b3.keep k4 (by simp)
  have kk4 := kk3.trans k4
  clear B1 B2 b3 kk3
  have x0 : w4.cell? ⟨w1.heap.size, 0, none⟩ = some (.int .i64 m.k) := C2.cell 0
  have y0 : w4.cell? ⟨w.heap.size, 0, none⟩ = some (.slice A a.length ca) := C1.cell 0
  have y1 : w4.cell? ⟨w.heap.size, 1, none⟩ = some (.slice B b.length cb) := C1.cell 1
  have y2 : w4.cell? ⟨w.heap.size, 2, none⟩ = some (.int .i64 d) := C1.cell 2
  have f2 := C1.frozen 2
  go_upto_region 6 with fail
  have D1 : Blk (w4.setCell ⟨w.heap.size, 2, none⟩ (.int .i64 (d + 1))) w.heap.size #[.slice A a.length ca, .slice B b.length cb, .int .i64 (d + 1)] 53 := by simpa using C1.set 2 (.int .i64 (d + 1))
  have sk : Keep [w.heap.size] w4 (w4.setCell ⟨w.heap.size, 2, none⟩ (.int .i64 (d + 1))) := (Keep.refl _ w4).setCell _ _ (.inl (by simp))
  generalize w4.setCell ⟨w.heap.size, 2, none⟩ (.int .i64 (d + 1)) = w5 at *
  have D3 := C3.keep sk (by simp; omega)
  have kk5 : Keep [] w w5 := kk4.new sk (fun i hi => .inr (by simp at hi; omega))
  clear x0 y0 y1 y2 f2
  go_wp2_with (first
    | ((with_reducible refine wl_load 53 (.tmp 2) ?_ ?_); (with_reducible rfl); refine sx_loadW rfl 53 (.tmp 2) rfl w.heap.size #[.slice A a.length ca, .slice B b.length cb, .int .i64 (d + 1)] _ _ 3 rfl D1 Try.underlying53 rfl zRq_size rfl ?_; (try simp only [Act.put, List.setIfInBounds_toArray, List.set_cons_zero, List.set_cons_succ]))
    | ((with_reducible refine wl_store 53 (.tmp 4) (.tmp 40) ?_ ?_); (with_reducible rfl); refine sx_storeW rfl 53 (.tmp 4) (.tmp 40) rfl w2.heap.size #[.slice A a.length ca, .slice B b.length cb, .int .i64 (d + 1)] zRq _ 3 rfl rfl D3 zRq_size rfl rfl rfl ?_; intro w9 b9 k9 z9; clear z9; (try simp only [Act.put, List.setIfInBounds_toArray, List.set_cons_zero, List.set_cons_succ])))
  refine ret_cell2 rfl rfl rfl b9 Try.underlying53 rfl zRq_size _ rfl ?_
  exact ⟨rfl, kk5.new k9 (fun i hi => .inr (by simp at hi; omega))⟩
set_option maxRecDepth 100000 in
set_option maxHeartbeats 16000000 in
theorem rpush_full5 (A B : Option Addr) (ca cb : Nat) (a b : List Ms) (d : Int) (m : Ms) (v1 v2 v3 v4 : Value) (G : Nat → Prop) (w : World) (ha : SliceOf Rep.ms w G (.slice A a.length ca) a) (hb : SliceOf Rep.ms w G (.slice B b.length cb) b) (hok : MsOk w G m v1 v2 v3 v4)
    (hG : ∀ i, G i → i < w.heap.size) (ha2 : a.length ≤ 64) (hb2 : b.length ≤ 64) (hd : 0 ≤ d ∧ d ≤ 1000000) (hr : rightMsg m = true) (h5 : m.k = 5) (hf : b.length = 64) :
    Calls Try.prog 16 #[.agg #[.slice A a.length ca, .slice B b.length cb, .int .i64 d], .agg (msgV m v1 v2 v3 v4)] w fun e w' => e = .returned (.tuple #[.agg #[.slice A a.length ca, .slice B b.length cb, .int .i64 (d + 1)], .int .i64 7]) ∧ Keep [] w w' := by
  obtain ⟨A1, c1, rfl, -⟩ := hok.bs.form
  obtain ⟨A2, c2, rfl, -⟩ := hok.bq.form
  obtain ⟨A3, c3, rfl, -⟩ := hok.cs.form
  obtain ⟨A4, c4, rfl, -⟩ := hok.st.form
  have HR := Lib.hid hr
  clear hr
  have t4 : (m.k == 4) = false := by simp [h5]
  have t5 : (m.k == 5) = true := by simp [h5]
  replace h5 := Lib.hid h5
  have n1 : ((b.length : Int) == 64) = true := by simp [hf]
  have n2 : (b.length : Int) = 64 := by omega
  have HFL := Lib.hid hf
  clear hf
  replace ha := Lib.hid ha
  replace hb := Lib.hid hb
  replace hok := Lib.hid hok
  replace hG := Lib.hid hG
  obtain ⟨hd1, hd2⟩ := hd
  go_enter Try.func16, Try.ntmps16
  go_upto_region 1 with (first
    | ((with_reducible refine wl_box 53 (.tmp 0) ?_ ?_); (with_reducible rfl); refine sx_box rfl 53 (.tmp 0) rfl #[.slice A a.length ca, .slice B b.length cb, .int .i64 d] rfl ?_; intro w1 b1 k1 z1; clear z1; (try simp only [Act.put, List.setIfInBounds_toArray, List.set_cons_zero, List.set_cons_succ]))
    | ((with_reducible refine wl_box 38 (.tmp 1) ?_ ?_); (with_reducible rfl); refine sx_box rfl 38 (.tmp 1) rfl (msgV m (.slice A1 m.b.j.sg.length c1) (.slice A2 m.b.q.length c2) (.slice A3 m.c.sg.length c3) (.slice A4 m.s.ts.length c4)) rfl ?_; intro w2 b2 k2 z2; clear z2; (try simp only [Act.put, List.setIfInBounds_toArray, List.set_cons_zero, List.set_cons_succ]))
    | ((with_reducible refine wl_alloc 53 ?_ ?_); (with_reducible rfl); refine sx_alloc rfl 53 rfl _ 3 zRq zRq_info rfl ?_; intro w3 b3 k3 z3; clear z3; (try simp only [Act.put, List.setIfInBounds_toArray, List.set_cons_zero, List.set_cons_succ])))
  have B1 := (b1.keep k2 (by simp)).keep k3 (by simp)
  have B2 := b2.keep k3 (by simp)
  have kk3 := (k1.trans k2).trans k3
  have l0 : w.heap.size ≤ w2.heap.size := (k1.trans k2).size
  have l1 := b1.lt
  have l2 := b2.lt
  clear b1 b2 k1 k2 k3
  go_wp2_with (first
    | ((with_reducible refine wl_load 38 (.tmp 3) ?_ ?_); (with_reducible rfl); refine sx_loadW rfl 38 (.tmp 3) rfl w1.heap.size (msgV m (.slice A1 m.b.j.sg.length c1) (.slice A2 m.b.q.length c2) (.slice A3 m.c.sg.length c3) (.slice A4 m.s.ts.length c4)) _ _ 21 rfl B2 Try.underlying38 rfl zMs_size rfl ?_; (try simp only [Act.put, List.setIfInBounds_toArray, List.set_cons_zero, List.set_cons_succ])))
  refine (rightMsg_call m _ _ _ _ G _ (hok.out.keep (kk3.at G (by simp)))).mono ?_
  rw [HR.out]
  rintro e w4 ⟨rfl, k4⟩
  have C1 := B1.keep k4 (by simp)
  have C2 := B2.keep k4 (by simp)
  have C3 := b3.keep k4 (by simp)
  have kk4 := kk3.trans k4
  clear B1 B2 b3 kk3
  have x0 : w4.cell? ⟨w1.heap.size, 0, none⟩ = some (.int .i64 m.k) := C2.cell 0
  have y0 : w4.cell? ⟨w.heap.size, 0, none⟩ = some (.slice A a.length ca) := C1.cell 0
  have y1 : w4.cell? ⟨w.heap.size, 1, none⟩ = some (.slice B b.length cb) := C1.cell 1
  have y2 : w4.cell? ⟨w.heap.size, 2, none⟩ = some (.int .i64 d) := C1.cell 2
  have f2 := C1.frozen 2
  go_upto_region 6 with fail
  have D1 : Blk (w4.setCell ⟨w.heap.size, 2, none⟩ (.int .i64 (d + 1))) w.heap.size #[.slice A a.length ca, .slice B b.length cb, .int .i64 (d + 1)] 53 := by simpa using C1.set 2 (.int .i64 (d + 1))
  have sk : Keep [w.heap.size] w4 (w4.setCell ⟨w.heap.size, 2, none⟩ (.int .i64 (d + 1))) := (Keep.refl _ w4).setCell _ _ (.inl (by simp))
  generalize w4.setCell ⟨w.heap.size, 2, none⟩ (.int .i64 (d + 1)) = w5 at *
  have D3 := C3.keep sk (by simp; omega)
  have kk5 : Keep [] w w5 := kk4.new sk (fun i hi => .inr (by simp at hi; omega))
  clear x0 y0 y1 y2 f2
  go_wp2_with (first
    | ((with_reducible refine wl_load 53 (.tmp 2) ?_ ?_); (with_reducible rfl); refine sx_loadW rfl 53 (.tmp 2) rfl w.heap.size #[.slice A a.length ca, .slice B b.length cb, .int .i64 (d + 1)] _ _ 3 rfl D1 Try.underlying53 rfl zRq_size rfl ?_; (try simp only [Act.put, List.setIfInBounds_toArray, List.set_cons_zero, List.set_cons_succ]))
    | ((with_reducible refine wl_store 53 (.tmp 4) (.tmp 40) ?_ ?_); (with_reducible rfl); refine sx_storeW rfl 53 (.tmp 4) (.tmp 40) rfl w2.heap.size #[.slice A a.length ca, .slice B b.length cb, .int .i64 (d + 1)] zRq _ 3 rfl rfl D3 zRq_size rfl rfl rfl ?_; intro w9 b9 k9 z9; clear z9; (try simp only [Act.put, List.setIfInBounds_toArray, List.set_cons_zero, List.set_cons_succ])))
  refine ret_cell2 rfl rfl rfl b9 Try.underlying53 rfl zRq_size _ rfl ?_
  exact ⟨rfl, kk5.new k9 (fun i hi => .inr (by simp at hi; omega))⟩
set_option maxRecDepth 100000 in
set_option maxHeartbeats 16000000 in
theorem rpush_fulln (A B : Option Addr) (ca cb : Nat) (a b : List Ms) (d : Int) (m : Ms) (v1 v2 v3 v4 : Value) (G : Nat → Prop) (w : World) (ha : SliceOf Rep.ms w G (.slice A a.length ca) a) (hb : SliceOf Rep.ms w G (.slice B b.length cb) b) (hok : MsOk w G m v1 v2 v3 v4)
    (hG : ∀ i, G i → i < w.heap.size) (ha2 : a.length ≤ 64) (hb2 : b.length ≤ 64) (hd : 0 ≤ d ∧ d ≤ 1000000) (hr : rightMsg m = true) (h4 : m.k ≠ 4) (h5 : m.k ≠ 5) (hf : a.length = 64) :
    Calls Try.prog 16 #[.agg #[.slice A a.length ca, .slice B b.length cb, .int .i64 d], .agg (msgV m v1 v2 v3 v4)] w fun e w' => e = .returned (.tuple #[.agg #[.slice A a.length ca, .slice B b.length cb, .int .i64 (d + 1)], .int .i64 7]) ∧ Keep [] w w' := by
  obtain ⟨A1, c1, rfl, -⟩ := hok.bs.form
  obtain ⟨A2, c2, rfl, -⟩ := hok.bq.form
  obtain ⟨A3, c3, rfl, -⟩ := hok.cs.form
  obtain ⟨A4, c4, rfl, -⟩ := hok.st.form
  have HR := Lib.hid hr
  clear hr
  have t4 : (m.k == 4) = false := by simp [h4]
  have t5 : (m.k == 5) = false := by simp [h5]
  replace h4 := Lib.hid h4
  replace h5 := Lib.hid h5
  have n1 : ((a.length : Int) == 64) = true := by simp [hf]
  have n2 : (a.length : Int) = 64 := by omega
  have HFL := Lib.hid hf
  clear hf
  replace ha := Lib.hid ha
  replace hb := Lib.hid hb
  replace hok := Lib.hid hok
  replace hG := Lib.hid hG
  obtain ⟨hd1, hd2⟩ := hd
  go_enter Try.func16, Try.ntmps16
  go_upto_region 1 with (first
    | ((with_reducible refine wl_box 53 (.tmp 0) ?_ ?_); (with_reducible rfl); refine sx_box rfl 53 (.tmp 0) rfl #[.slice A a.length ca, .slice B b.length cb, .int .i64 d] rfl ?_; intro w1 b1 k1 z1; clear z1; (try simp only [Act.put, List.setIfInBounds_toArray, List.set_cons_zero, List.set_cons_succ]))
    | ((with_reducible refine wl_box 38 (.tmp 1) ?_ ?_); (with_reducible rfl); refine sx_box rfl 38 (.tmp 1) rfl (msgV m (.slice A1 m.b.j.sg.length c1) (.slice A2 m.b.q.length c2) (.slice A3 m.c.sg.length c3) (.slice A4 m.s.ts.length c4)) rfl ?_; intro w2 b2 k2 z2; clear z2; (try simp only [Act.put, List.setIfInBounds_toArray, List.set_cons_zero, List.set_cons_succ]))
    | ((with_reducible refine wl_alloc 53 ?_ ?_); (with_reducible rfl); refine sx_alloc rfl 53 rfl _ 3 zRq zRq_info rfl ?_; intro w3 b3 k3 z3; clear z3; (try simp only [Act.put, List.setIfInBounds_toArray, List.set_cons_zero, List.set_cons_succ])))
  have B1 := (b1.keep k2 (by simp)).keep k3 (by simp)
  have B2 := b2.keep k3 (by simp)
  have kk3 := (k1.trans k2).trans k3
  have l0 : w.heap.size ≤ w2.heap.size := (k1.trans k2).size
  have l1 := b1.lt
  have l2 := b2.lt
  clear b1 b2 k1 k2 k3
  go_wp2_with (first
    | ((with_reducible refine wl_load 38 (.tmp 3) ?_ ?_); (with_reducible rfl); refine sx_loadW rfl 38 (.tmp 3) rfl w1.heap.size (msgV m (.slice A1 m.b.j.sg.length c1) (.slice A2 m.b.q.length c2) (.slice A3 m.c.sg.length c3) (.slice A4 m.s.ts.length c4)) _ _ 21 rfl B2 Try.underlying38 rfl zMs_size rfl ?_; (try simp only [Act.put, List.setIfInBounds_toArray, List.set_cons_zero, List.set_cons_succ])))
  refine (rightMsg_call m _ _ _ _ G _ (hok.out.keep (kk3.at G (by simp)))).mono ?_
  rw [HR.out]
  rintro e w4 ⟨rfl, k4⟩
  have C1 := B1.keep k4 (by simp)
  have C2 := B2.keep k4 (by simp)
  have C3 := b3.keep k4 (by simp)
  have kk4 := kk3.trans k4
  clear B1 B2 b3 kk3
  have x0 : w4.cell? ⟨w1.heap.size, 0, none⟩ = some (.int .i64 m.k) := C2.cell 0
  have y0 : w4.cell? ⟨w.heap.size, 0, none⟩ = some (.slice A a.length ca) := C1.cell 0
  have y1 : w4.cell? ⟨w.heap.size, 1, none⟩ = some (.slice B b.length cb) := C1.cell 1
  have y2 : w4.cell? ⟨w.heap.size, 2, none⟩ = some (.int .i64 d) := C1.cell 2
  have f2 := C1.frozen 2
  go_upto_region 6 with fail
  have D1 : Blk (w4.setCell ⟨w.heap.size, 2, none⟩ (.int .i64 (d + 1))) w.heap.size #[.slice A a.length ca, .slice B b.length cb, .int .i64 (d + 1)] 53 := by simpa using C1.set 2 (.int .i64 (d + 1))
  have sk : Keep [w.heap.size] w4 (w4.setCell ⟨w.heap.size, 2, none⟩ (.int .i64 (d + 1))) := (Keep.refl _ w4).setCell _ _ (.inl (by simp))
  generalize w4.setCell ⟨w.heap.size, 2, none⟩ (.int .i64 (d + 1)) = w5 at *
  have D3 := C3.keep sk (by simp; omega)
  have kk5 : Keep [] w w5 := kk4.new sk (fun i hi => .inr (by simp at hi; omega))
  clear x0 y0 y1 y2 f2
  go_wp2_with (first
    | ((with_reducible refine wl_load 53 (.tmp 2) ?_ ?_); (with_reducible rfl); refine sx_loadW rfl 53 (.tmp 2) rfl w.heap.size #[.slice A a.length ca, .slice B b.length cb, .int .i64 (d + 1)] _ _ 3 rfl D1 Try.underlying53 rfl zRq_size rfl ?_; (try simp only [Act.put, List.setIfInBounds_toArray, List.set_cons_zero, List.set_cons_succ]))
    | ((with_reducible refine wl_store 53 (.tmp 4) (.tmp 40) ?_ ?_); (with_reducible rfl); refine sx_storeW rfl 53 (.tmp 4) (.tmp 40) rfl w2.heap.size #[.slice A a.length ca, .slice B b.length cb, .int .i64 (d + 1)] zRq _ 3 rfl rfl D3 zRq_size rfl rfl rfl ?_; intro w9 b9 k9 z9; clear z9; (try simp only [Act.put, List.setIfInBounds_toArray, List.set_cons_zero, List.set_cons_succ])))
  refine ret_cell2 rfl rfl rfl b9 Try.underlying53 rfl zRq_size _ rfl ?_
  exact ⟨rfl, kk5.new k9 (fun i hi => .inr (by simp at hi; omega))⟩
end Go.Proofs.Ytpndbidpennlcaa
