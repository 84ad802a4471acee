/- How plays are opened, and how long their lists are at most. -/
import Derived.Test.YtdmnjoidfjidbaaOpenE
import Derived.SizedLaws
namespace Go.Proofs.Ytdmnjoidfjidbaa
open Go.ChangeShapes Go.WideShapes Go.ChangeAt Go.RowKit Go.Deep
set_option maxRecDepth 100000
theorem map_flat {α : Type} (f : α → Pl) : ∀ l : List α, l.map f = l.flatMap fun x => [f x]
  | [] => rfl
  | x :: l => by rw [List.map_cons, List.flatMap_cons, map_flat f l]; rfl
section
variable {H : Type} {enc : TypeId × Value → H} {w : World} {base : Nat} {spare : Nat → Bool} {held : Bool} {v : Value} {r : Reach} {b0 : Nat}
theorem rd_want {v : Value} (h : Read enc Try.prog w base spare held 22 [v]) : ∃ l : List (List OpT), l.length ≤ maxLen ∧ PRep (envA w) v (.sl false l.length (l.map plOps)) ∧ leafV v = true := by
  obtain ⟨l, h1, h2, h3, h4⟩ := read_sl (e := 38) (sz := 1) (fun x : List OpT => [plOps x]) (fun _ => True) (by decide) (fun _ => rfl) Try.underlying22 (by kernel_rfl) (fun cs hlen hr => by
    match cs, hlen with
    | [c], _ =>
      obtain ⟨x, k1, k2, k3, k4⟩ := rd_ops hr
      exact ⟨x, trivial, PReps.cons k3 k4 (PReps.nil _)⟩) h
  refine ⟨l, h2, ?_, h4⟩
  rw [map_flat]; exact h3
theorem rd_u8s {v : Value} (h : Read enc Try.prog w base spare held 23 [v]) : ∃ l : List Int, (∀ x ∈ l, 0 ≤ x ∧ x ≤ 255) ∧ l.length ≤ maxLen ∧ PRep (envA w) v (.sl false l.length (l.map p8)) ∧ leafV v = true := by
  obtain ⟨l, h1, h2, h3, h4⟩ := read_sl (e := 5) (sz := 1) (fun x : Int => [p8 x]) (fun x => 0 ≤ x ∧ x ≤ 255) (by decide) (fun _ => rfl) Try.underlying23 (by kernel_rfl) (fun cs hlen hr => by
    obtain ⟨n, e, hn⟩ := read_u8 Try.underlying5 hr
    subst e
    exact ⟨n, hn, PReps.int (PReps.nil _)⟩) h
  refine ⟨l, h1, h2, ?_, h4⟩
  rw [map_flat]; exact h3
theorem arg_play (hv : Value.okWide Try.prog w r b0 25 v) (h : Read enc Try.prog w base spare held 25 v.cells.toList) : ∃ (want : List (List OpT)) (turns : List Int), (∀ x ∈ turns, 0 ≤ x ∧ x ≤ 255) ∧ DRep (envA w) v (dPlay want turns) := by
  obtain ⟨⟨want, turns⟩, h1, h2⟩ := arg_agg (fun p : List (List OpT) × List Int => [(.sl false p.1.length (p.1.map plOps) : Pl), .sl false p.2.length (p.2.map p8)]) (fun p => ∀ x ∈ p.2, 0 ≤ x ∧ x ≤ 255) Try.underlying25 hv h fun cs hl hr => by
    match cs, hl.trans (show Try.prog.cellsOf 25 = 2 by kernel_rfl) with
    | [c0, c1], _ =>
      obtain ⟨l1, _, h3, h4⟩ := rd_want (v := c0) (read_field (i := 0) (ft := 22) (off := 0) (sz := 1) (by kernel_rfl) hr)
      obtain ⟨l2, g1, _, g3, g4⟩ := rd_u8s (v := c1) (read_field (i := 1) (ft := 23) (off := 1) (sz := 1) (by kernel_rfl) hr)
      exact ⟨(l1, l2), g1, PReps.cons h3 h4 (PReps.cons g3 g4 (PReps.nil _))⟩
  exact ⟨want, turns, h1, h2⟩
theorem arg_u8 {t : TypeId} (ht : Try.prog.underlying t = some (.int .u8)) (hv : Value.okWide Try.prog w r b0 t v) (h : Read enc Try.prog w base spare held t v.cells.toList) : ∃ n : Int, (0 ≤ n ∧ n ≤ 255) ∧ DRep (envA w) v (dK .u8 n) := by
  obtain ⟨n, rfl⟩ := okWide_int ht hv
  obtain ⟨m, e, hm⟩ := read_u8 ht h
  cases e
  exact ⟨_, hm, .p (.raw _)⟩
theorem weightsAll_mem {P : Program} {e : TypeId} : ∀ {l : List (DataW H)} {d : DataW H} {n : Nat}, d ∈ l → n ∈ d.weights P e → n ∈ DataW.weightsAll P e l
  | x :: l, d, n, h, hn => by
    rw [DataW.weightsAll, List.mem_append]
    rw [List.mem_cons] at h
    rcases h with rfl | h
    · exact .inl hn
    · exact .inr (weightsAll_mem h hn)
/-- Each seat's list is of a size that memory has. -/
theorem want_sized {n : Nat} {y : DataW H × List MemPlace} {want : List (List OpT)} {turns : List Int} (h : DataW.trod enc Try.prog w 0 spare held n 25 v.cells.toList = some y) (hw : ∀ k ∈ y.1.weights Try.prog 25, k ≤ reachBytes) (hr : DRep (envA w) v (dPlay want turns)) : ∀ ws ∈ want, ws.length * 32 ≤ reachBytes := by
  intro ws hws
  obtain ⟨i, hi⟩ := List.getElem?_of_mem hws
  have hil := (List.getElem?_eq_some_iff.1 hi).1
  cases hr with
  | agg hl hd =>
    rename_i vs
    match vs, hl with
    | [v0, v1], _ =>
      obtain ⟨y0, y1, n1, rfl, _, t0, _⟩ := trod_struct2 Try.underlying25 h
      have hw0 : ∀ k ∈ y0.1.weights Try.prog 22, k ≤ reachBytes := fun k hk => hw k (by
        simp only [DataW.weights, Try.underlying25]
        rw [show ∀ fs : List TypeId, fs = [22, 23] → DataW.weightsEach Try.prog fs [y0.1, y1.1] = y0.1.weights Try.prog 22 ++ (y1.1.weights Try.prog 23 ++ []) from fun fs e => by subst e; rfl]
        · rw [List.mem_append]; exact .inl hk
        · rfl)
      have t0' : DataW.trod enc Try.prog w 0 spare held n1 22 [v0] = some y0 := by
        have e22 : Try.prog.cellsOf 22 = 1 := by kernel_rfl
        have := t0
        simp only [e22] at this
        exact this
      have hd0 := hd 0 v0 (dWant want) rfl rfl
      cases hd0 with
      | p h0 =>
        obtain ⟨A, cap, rfl, _, _, _, _, hps⟩ := sl_open h0
        rcases DataW.trod_slice Try.underlying22 t0' with ⟨e, _⟩ | ⟨a, len, cp, elems, rest, n2, _, e, hy, _, _, _, hlen, hel, _, _⟩
        · simp only [List.cons.injEq, Value.slice.injEq, and_true] at e
          omega
        · simp only [List.cons.injEq, Value.slice.injEq, and_true] at e
          obtain ⟨rfl, rfl, rfl⟩ := e
          rcases hps with hps | ⟨b, o, hA, f, hf⟩
          · have := congrArg List.length hps
            rw [List.length_map] at this
            simp only [List.length_nil] at this
            omega
          · cases hA
            obtain ⟨_, hc, _, hp⟩ := hf i (plOps ws) (by rw [List.getElem?_map, hi]; rfl)
            have e38 : Try.prog.cellsOf 38 = 1 := by kernel_rfl
            have h2 := hel i hil
            rw [e38] at h2
            have hc2 : w.cells? 0 ((⟨b, o, none⟩ : Addr).add (i * 1)) 1 = some [f i] := by
              unfold World.cells?
              rw [if_pos (Nat.zero_le _), show List.range 1 = [0] from rfl, List.mapM_cons, List.mapM_nil]
              have h3 : w.cell? (((⟨b, o, none⟩ : Addr).add (i * 1)).add 0) = some (f i) := by
                rw [add_none, add_none, Nat.mul_one, Nat.add_zero]
                exact hc
              rw [h3]
              rfl
            rw [hc2] at h2
            obtain ⟨ei, hei⟩ : ∃ ei, elems[i]? = some ei := ⟨elems[i]'(by omega), List.getElem?_eq_getElem _⟩
            rw [hei] at h2
            have t2 : DataW.trod enc Try.prog w 0 spare held n2 38 [f i] = some ei := h2
            obtain ⟨A2, cap2, hfi, _, _, _, _, _⟩ := sl_open hp
            rw [hfi] at t2
            rcases DataW.trod_slice Try.underlying38 t2 with ⟨e2, _⟩ | ⟨a2, len2, cp2, elems2, rest2, n3, _, e2, hy2, _, _, _, hlen2, _, _, _⟩
            · simp only [List.cons.injEq, Value.slice.injEq, and_true] at e2
              rw [e2.2.1]
              exact Nat.zero_le _
            · simp only [List.cons.injEq, Value.slice.injEq, and_true] at e2
              obtain ⟨_, e3, _⟩ := e2
              have e32 : Try.prog.bytesOf 52 = 32 := by kernel_rfl
              have hwe : (elems2.length + rest2.length) * 32 ∈ ei.1.weights Try.prog 38 := by
                rw [hy2]
                simp only [DataW.weights, Try.underlying38, List.length_map, e32]
                exact List.mem_cons_self
              have hw2 : (elems2.length + rest2.length) * 32 ≤ reachBytes := hw0 _ (by
                rw [hy]
                simp only [DataW.weights, Try.underlying22]
                rw [List.mem_cons, List.mem_append]
                exact .inr (.inl (weightsAll_mem (List.mem_map.2 ⟨ei, List.mem_of_getElem? hei, rfl⟩) hwe)))
              have : ws.length * 32 ≤ (elems2.length + rest2.length) * 32 := Nat.mul_le_mul_right _ (by omega)
              omega
theorem sum_sized {want : List (List OpT)} (h : ∀ ws ∈ want, ws.length * 32 ≤ reachBytes) (h3 : want.length ≤ 3) : (want.map List.length).sum ≤ 9223372036854775807 := by
  have hb : ∀ ws ∈ want, ws.length ≤ 4398046511104 := fun ws hws => by
    have := h ws hws
    unfold reachBytes at this
    omega
  have : (want.map List.length).sum ≤ want.length * 4398046511104 := by
    clear h h3
    induction want with
    | nil => exact Nat.le_refl _
    | cons x l ih =>
      have h1 := hb x (by simp)
      have h2 := ih fun ws hws => hb ws (by simp [hws])
      rw [List.map_cons, List.sum_cons, List.length_cons, Nat.succ_mul]
      omega
  omega
end
end Go.Proofs.Ytdmnjoidfjidbaa
