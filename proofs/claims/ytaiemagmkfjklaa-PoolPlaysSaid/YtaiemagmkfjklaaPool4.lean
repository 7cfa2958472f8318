import Derived.Test.YtaiemagmkfjklaaPool3
namespace Go.Proofs.Ytaiemagmkfjklaa
open Go.RowKit Go.Shelf Go.Lib
set_option linter.unusedVariables false
set_option linter.unusedSimpArgs false
/-! slices.DeleteFunc over requests -/
theorem any_false_filter {xs : List Req} {pr : Req → Bool} (h : xs.any pr = false) : xs.filter (fun x => !pr x) = xs := by
  rw [List.filter_eq_self]
  intro x hx
  simp only [List.any_eq_false] at h
  simpa using h x hx
set_option maxHeartbeats 2000000 in
theorem deleteFunc_call (A : Option Addr) (n c : Nat) (xs : List Req) (k : FuncId) (cap : Array Value) (pr : Req → Bool) (w : World) (hs : Own Rep.req 24 w 0 (.slice A n c) xs) (hl : xs.length ≤ 140737488355328)
    (hp : ∀ g, A = some ⟨g, 0, none⟩ → PredOn w [g] k cap pr) (hp0 : PredOn w [] k cap pr) (eg : ∀ args w, (callFunc k args).run Try.prog w = .ok (.enter k args) w) :
    Calls Try.prog 22 #[.slice A n c, .func (.func k) #[] cap] w fun e w' =>
      ∃ m, e = .returned (.slice A m c) ∧ Own Rep.req 24 w' 0 (.slice A m c) (xs.filter fun x => !pr x) ∧ Turn (fun i => (Value.slice A n c).ownBlock = some i) w w' := by
  obtain ⟨rfl, hA⟩ := hs.rowAt
  have hI := indexFunc_call A xs c (fun j => 0 ≤ j) k cap pr w (hs.slice hl) hp0 eg
  have HS := Lib.hid hs
  clear hs
  cases ha : xs.any pr with
  | false =>
    rw [idxR_none pr xs 0 ha] at hI
    go_enter Try.func22, Try.ntmps22
    go_wp2_with (go_at_call 31; refine hI.mono ?_; rintro e w' ⟨rfl, kq⟩)
    go_ret
    rw [any_false_filter ha]
    exact ⟨_, rfl, HS.out.keep kq (by simp), kq.turn (by simp)⟩
  | true =>
    obtain ⟨i0, hi0, e, ht, hlow⟩ := idxR_some pr xs 0 ha
    rw [e] at hI
    clear e
    simp only [Nat.zero_add] at hI
    rcases hA with ⟨-, rfl, -⟩ | ⟨g, rfl, hrow⟩
    · simp at hi0
    have hp := hp g rfl
    clear hp0
    obtain ⟨d, hd⟩ : ∃ d, d = xs.toArray := ⟨_, rfl⟩
    rw [← hd] at hrow
    have hds : d.size = xs.length := by rw [hd]; simp
    have hfil : xs.filter (fun x => !pr x) = keptUpTo (fun j => !pr d[j]!) d d.size := by rw [keptUpTo_filter (fun x => !pr x) d, hd]
    have HF := Lib.hid hfil
    clear hfil
    have hst : KeptInv (fun j => !pr d[j]!) d (i0 + 1) i0 d := by
      refine KeptInv.start (fun j hj => ?_) ?_
      · have : d[j]! = xs[j]'(by omega) := by rw [getElem!_pos d j (by omega)]; simp [hd]
        simp only [this]
        rw [hlow j hj _ (List.getElem?_eq_getElem (by omega))]; rfl
      · have : d[i0]! = xs[i0] := by rw [getElem!_pos d i0 (by omega)]; simp [hd]
        simp only [this]
        rw [ht _ (List.getElem?_eq_getElem hi0)]; rfl
    have HST := Lib.hid hst
    clear hst ht hlow
    have HR := Lib.hid hrow
    clear hrow
    have HP := Lib.hid hp
    clear hp
    have hn1 : ((i0 : Int) == -1) = false := beq_eq_false_iff_ne.2 (by omega)
    have HD := Lib.hid hd
    clear hd
    obtain ⟨n, hn⟩ : ∃ n, n = xs.length := ⟨_, rfl⟩
    rw [← hn] at hI hi0 hl hds ⊢
    have HN := Lib.hid hn
    clear hn
    go_enter Try.func22, Try.ntmps22
    go_wp2_with (go_at_call 31; refine hI.mono ?_; rintro e w1 ⟨rfl, k1⟩)
    clear hI
    go_loopw [5, 6] (fun s5 s6 wr => ∃ (i j : Nat) (dk : Array Req), s5 = .int .i64 i ∧ s6 = .int .i64 j ∧ j ≤ n ∧ i < j ∧ Keep [g] w wr ∧ Hid (RowAt wr g c dk ∧ KeptInv (fun j => !pr d[j]!) d j i dk)) (fun _ s6 _ => n - (intOf s6).toNat)
    case atStart => exact ⟨i0, i0 + 1, d, rfl, by go_num, by omega, by omega, k1.mono (by simp), Lib.hid ⟨HR.out.same (k1.block g HR.out.lt (by simp)), HST.out⟩⟩
    case round =>
      obtain ⟨i, j, dk, rfl, rfl, hj, hij, kk, hH⟩ := hrel
      by_cases hlt : j < n
      · have hltz : (j : Int) < (n : Int) := by omega
        have hsz : dk.size = n := by rw [hH.out.2.size, hds]
        obtain ⟨a0, a1, a2, -, -, -, aok⟩ := hH.out.1.cells (i := j) (by omega)
        obtain ⟨b0, b1, b2, f0, f1, f2, -⟩ := hH.out.1.cells (i := i) (by omega)
        have hx : dk[j]'(by omega) = d[j]! := by rw [← hH.out.2.high j (by omega), getElem!_pos dk j (by omega)]
        rw [hx] at a0 a1 a2 aok
        generalize hu : d[j]! = u at *
        have hu := Lib.hid hu
        generalize dk[i]'(by omega) = old at b0 b1 b2
        obtain ⟨xc, xs', xb⟩ := u
        dsimp only at a0 a1 a2
        have kw : Keep [g] w (wr.alloc (.cells #[.int .i64 xc, .int .i64 xs', .string xb] 24)) := kk.alloc _
        have hcall := HP.out _ ⟨xc, xs', xb⟩ kw aok
        dsimp only at hcall
        have bn := Blk.new wr #[.int .i64 xc, .int .i64 xs', .string xb] 24
        have glt := hH.out.1.lt
        have mv : ∀ w', Keep [] (wr.alloc (.cells #[.int .i64 xc, .int .i64 xs', .string xb] 24)) w' → RowAt w' g c dk ∧ w'.cell? ⟨wr.heap.size, 0, none⟩ = some (.int .i64 xc) ∧ w'.cell? ⟨wr.heap.size, 1, none⟩ = some (.int .i64 xs') ∧ w'.cell? ⟨wr.heap.size, 2, none⟩ = some (.string xb) := by
          intro w' k'
          have b' := bn.keep k' (by simp)
          exact ⟨(hH.out.1.same (Below.heap_alloc wr _ g glt)).same (k'.block g (by simp; omega) (by simp)), b'.cell 0, b'.cell 1, b'.cell 2⟩
        cases hq : pr ⟨xc, xs', xb⟩ with
        | false =>
          rw [hq] at hcall
          have mv' := Lib.hid mv
          clear mv
          go_wp2_with (go_at_fn k; refine hcall.mono ?_; rintro e w' ⟨rfl, kq⟩; obtain ⟨r', v0, v1, v2⟩ := mv'.out w' kq; obtain ⟨b0, b1, b2, f0, f1, f2, -⟩ := r'.cells (i := i) (by omega))
          go_roundw
          case rel =>
            refine ⟨i + 1, j + 1, dk.setIfInBounds i ⟨xc, xs', xb⟩, by go_num, by go_num, by omega, by omega, (kw.trans (kq.mono (by simp))).set3r g _ _ _ _ _ _ (.inl (by simp)), Lib.hid ⟨r'.put i ⟨xc, xs', xb⟩ aok, ?_⟩⟩
            have := hH.out.2.keep (by omega) (by simp only [hu.out, hq]; rfl)
            rwa [hu.out] at this
          case measure => simp [intOf]; omega
        | true =>
          rw [hq] at hcall
          go_wp2_with (go_at_fn k; refine hcall.mono ?_; rintro e w' ⟨rfl, kq⟩)
          go_roundw
          case rel =>
            refine ⟨i, j + 1, dk, rfl, by go_num, by omega, by omega, kw.trans (kq.mono (by simp)), Lib.hid ⟨(mv _ kq).1, hH.out.2.skip ?_⟩⟩
            simp only [hu.out, hq]; rfl
          case measure => simp [intOf]; omega
      · obtain rfl : j = n := by omega
        have hltz : ¬ (j : Int) < (j : Int) := by omega
        have hsz : dk.size = j := by rw [hH.out.2.size, hds]
        have hcap : j ≤ c := by obtain ⟨_, _, _, _, h3, _⟩ := hH.out.1; omega
        have hcl : ∀ ty c', (Builtin.clear_ #[31] ty #[.slice (some ⟨g, i * 3, none⟩) (j - i) c']).run Try.prog wr = .ok (.tuple #[]) (wr.setCells g (i * 3) (Builtin.zeroCells #[.int .i64 0, .int .i64 0, .string ⟨#[]⟩] (j - i)).toList) := by
          intro ty c'
          refine run_clearR wr ty g (i * 3) (j - i) c' (by omega) (fun t ht => ?_) (fun t ht => ?_)
          · have h1 := hH.out.1.cells (i := i + t / 3) (by omega)
            have : i * 3 + t = (i + t / 3) * 3 ∨ i * 3 + t = (i + t / 3) * 3 + 1 ∨ i * 3 + t = (i + t / 3) * 3 + 2 := by omega
            rcases this with e | e | e <;> rw [e] <;> simp [h1.1, h1.2.1, h1.2.2.1]
          · have h1 := hH.out.1.cells (i := i + t / 3) (by omega)
            have : i * 3 + t = (i + t / 3) * 3 ∨ i * 3 + t = (i + t / 3) * 3 + 1 ∨ i * 3 + t = (i + t / 3) * 3 + 2 := by omega
            rcases this with e | e | e <;> rw [e] <;> simp [h1.2.2.2.1, h1.2.2.2.2.1, h1.2.2.2.2.2.1]
        go_wp2
        go_ret
        have hc' := hH.out.1.cut i (by omega) (Builtin.zeroCells #[.int .i64 0, .int .i64 0, .string ⟨#[]⟩] (j - i)).toList
        have hes : (dk.extract 0 i).size = i := by simp; omega
        have hle : (dk.extract 0 i).toList = xs.filter (fun x => !pr x) := by
          rw [HF.out, hds]
          have hI := hH.out.2
          apply List.ext_getElem?
          intro t
          by_cases ht : t < i
          · rw [hI.low t ht, getElem!_pos dk t (by omega)]
            simp [ht, hsz, show t < j by omega]
          · rw [List.getElem?_eq_none (by simp; omega), List.getElem?_eq_none (by rw [hI.len]; omega)]
        have ho := hc'.own
        rw [hes, hle] at ho
        exact ⟨i, rfl, ho, (Keep.setCells g (.inl (by simp)) _ _ _ kk).turn (by simp [Value.ownBlock])⟩
end Go.Proofs.Ytaiemagmkfjklaa
