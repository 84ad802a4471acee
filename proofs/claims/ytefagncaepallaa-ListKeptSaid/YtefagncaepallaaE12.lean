/- No node is lost, and none is twice: the law's walk. -/
import Derived.Test.YtefagncaepallaaE11
import Derived.Test.YtefagncaepallaaPB
namespace Go.Proofs.Ytefagncaepallaa
open Go.RowKit
set_option maxRecDepth 100000

theorem gones_idx {l : List (List (Int × Int))} {i : Int} {g : List (Int × Int)} (h : l[i.toNat]? = some g) : ∀ (m : Nat) q, [plGone g][m]? = some q → (l.map plGone)[i.toNat * 1 + m]? = some q := map_idx h
/-- How often each number was met. -/
def metF (N : Nat) (l : List Int) : List Int := (List.range (N + 1)).map fun (i : Nat) => ((l.count (i : Int) : Nat) : Int)
theorem metF_len (N : Nat) (l : List Int) : (metF N l).length = N + 1 := by simp [metF]
theorem metF_get (N : Nat) (l : List Int) (n : Int) (h0 : 0 ≤ n) (h1 : n ≤ N) : cellAt (metF N l) n = (l.count n : Nat) := by
  have : n.toNat < N + 1 := by omega
  simp [cellAt, metF, this, show ((n.toNat : Nat) : Int) = n by omega]
theorem metF_snoc (N : Nat) (l : List Int) (n : Int) (h0 : 0 ≤ n) : (metF N l).set n.toNat ((l.count n : Nat) + 1) = metF N (l ++ [n]) := by
  apply List.ext_getElem
  · simp [metF]
  · intro j h1 h2
    rw [List.getElem_set]
    split
    · rename_i hj
      subst hj
      simp [metF, List.count_append, show ((n.toNat : Nat) : Int) = n by omega]
    · rename_i hj
      have : ¬ n = (j : Int) := by omega
      simp [metF, List.count_append, List.count_cons, this]
theorem metF_nil (N : Nat) : List.replicate (N + 1) 0 = metF N [] := by
  apply List.ext_getElem
  · simp [metF]
  · intro j h1 h2
    simp [metF]
theorem goneN_take {gone : List (List (Int × Int))} {i : Nat} {g : List (Int × Int)} (h : gone[i]? = some g) : goneN (gone.take (i + 1)) = goneN (gone.take i) ++ g.map (·.1) := by
  unfold goneN
  rw [List.take_add_one, h]
  simp
theorem count_le_len {l : List Int} {N : Nat} (h : ∀ n, l.count n = if 1 ≤ n ∧ n ≤ (N : Int) then 1 else 0) : l.length ≤ N := by
  refine nodup_le N l ?_ (fun x hx => ?_)
  · rw [List.nodup_iff_count]
    intro x
    rw [h x]
    split <;> omega
  · have h1 := List.count_pos_iff.2 hx
    rw [h x] at h1
    split at h1
    · assumption
    · omega
theorem goneN_le (gone : List (List (Int × Int))) (k : Nat) : (goneN (gone.take k)).length ≤ (goneN gone).length := by
  have h : goneN gone = goneN (gone.take k) ++ goneN (gone.drop k) := by
    unfold goneN
    rw [← List.flatMap_append, List.take_append_drop]
  rw [h, List.length_append]
  omega
theorem pInts_app (a b : List Int) : pInts a ++ pInts b = pInts (a ++ b) := by simp [pInts]
theorem ghost_trans {Γ : Ctx} {a b c : St} (h : Ghost Γ a b) (k : Ghost Γ b c) : Ghost Γ a c := fun act e hc => by
  obtain ⟨e1, h1, h2⟩ := h act e hc
  obtain ⟨e2, h3, h4⟩ := k act e1 h2
  exact ⟨e2, h3.trans h1, h4⟩
set_option maxHeartbeats 8000000 in
theorem listKept_c (p : PlayT) (hf : PlayFits p) : PureC Try.prog 5 [dPlay p] (dB true) := by
  have hfew := few_c p
  have hpg := fun h => few_play hf h
  refine pure_fin tabOk Try.func5 rfl Try.ntmps5 rfl rfl rfl fun w cl => ?_
  refine go ?_
  refine a_q (call_step (awake_c) rfl (fun a w => Try.call8 a w) rfl) rfl rfl rfl ?_
  refine go ?_
  refine a_q (call_step (hfew) rfl (fun a w => Try.call9 a w) rfl) rfl rfl rfl ?_
  generalize fewF p = fb at *
  refine go ?_
  cases fb
  · refine go ?_
    first | refine fin_ret rfl ?_ | refine fin_normal rfl ?_
    rfl
  · have hp := hpg rfl
    obtain ⟨b1, b2, b3, b6, b4, b5⟩ := kept_true hp
    have hw1 := hp.ok.w1
    have hw3 := hp.ok.w3
    have hW := where_c p hw1 (by omega) hp.ok.n0
    have hL : LayOk (layP p) := layP_ok hw1 (by omega)
    have hP := played_c p hp
    have hnd : (layP p).nodes = 2 + p.nodes % 8 := rfl
    have hNN : (((layP p).nodes.toNat : Nat) : Int) = (layP p).nodes := by omega
    generalize layP p = l at *
    generalize playedF p = R at *
    obtain ⟨steps, m, gone, ends⟩ := R
    simp only at b1 b2 b3 b4 b5 b6
    subst b1
    dsimp only [dPlayed] at hP
    have hNo := nodes_c l hL m l.map
    have hRow := row_c l hL m l.map
    have hLi := list_c l hL m b4
    generalize nodesF l m l.map = ns at *
    generalize rowF l m l.map = rws at *
    generalize listF l m = fl at *
    generalize hN : l.nodes.toNat = N at *
    have hcnt : ∀ n, (ns ++ fl ++ goneN gone).count n = if 1 ≤ n ∧ n ≤ (N : Int) then 1 else 0 := fun n => by rw [b2 n, hNN]
    have hall := count_le_len hcnt
    simp only [List.length_append] at hall
    refine go ?_
    refine a_q (call_step (hW) rfl (fun a w => Try.call10 a w) rfl) rfl rfl rfl ?_
    refine go ?_
    refine a_q (call_step (hP) rfl (fun a w => Try.call11 a w) rfl) rfl rfl rfl ?_
    refine go ?_
    refine a_b (makeA_step tabOk 300 (c := N + 1) rfl rfl rfl rfl rfl rfl rfl (by omega) (by omega) (by show _ * 8 ≤ _; omega) (by unfold maxLen; omega)) rfl rfl rfl rfl ?_
    rw [show List.replicate (N + 1) (constLeaf (Value.int .i64 0)) = intsC (metF N []) by rw [intsC_zero, metF_nil]]
    refine go ?_
    have hplx : ∀ {xs : List Int} (B : Nat → Bool) (G : Nat → Bool), Dt.ok.oks B G (intsC xs) = true := fun B G => intsC_plain _ B G
    refine awp_region_q [] rfl (by kernel_rfl) (by kernel_rfl) ?_
    refine goQ ?_
    refine r_q (call_step (hNo) rfl (fun a w => Try.call14 a w) rfl) rfl rfl ?_
    refine goQ ?_
    refine r_appendx (n' := 0) (m := ns.length) (ps := []) (qs := pInts ns) tabOk 0 rfl rfl rfl rfl rfl rfl rfl rfl rfl rfl rfl rfl rfl (by rw [pInts_len]; show _ = ns.length * 1; omega) (by unfold maxLen; omega) (by show (_ + _) * 8 ≤ _; omega) ?_
    rw [show 0 + ns.length = ns.length from Nat.zero_add _, List.nil_append]
    refine goQ ?_
    refine r_q (call_step (hLi) rfl (fun a w => Try.call17 a w) rfl) rfl rfl ?_
    refine goQ ?_
    refine r_append (m := fl.length) (qs := pInts fl) tabOk rfl rfl rfl rfl rfl rfl rfl rfl rfl rfl rfl rfl (by rw [pInts_len]; show _ = fl.length * 1; omega) (by unfold maxLen; omega) (by show (_ + _) * 8 ≤ _; omega) ?_
    rw [pInts_app, show ns.length + fl.length = (ns ++ fl).length by simp]
    refine goQ ?_
    generalize hbase : ns ++ fl = base at *
    have hbl : base.length = ns.length + fl.length := by rw [← hbase]; simp
    refine go ?_
    refine awp_loop_ok (fun i : Nat => i ≤ gone.length) (fun i => ⟨[(11, dI i), (10, .tip 0 (base ++ goneN (gone.take i)).length (pInts (base ++ goneN (gone.take i)))), (9, .arr 300 0 (N + 1) (N + 1)), (7, dGones gone), (6, .ptr 3 0), (4, .ptr 1 0), (3, dB true), (1, .ptr 0 0)], [(300, intsC (metF N [])), (3, [dInts m]), (1, layD l), (0, playD p)], [(0, ⟨3, 1, (base ++ goneN (gone.take i)).length⟩)]⟩) (fun i => gone.length - i) 0 (by omega) (by simpa [goneN] using drop_ghost (by (repeat (first | exact trivial | refine ⟨⟨rfl, rfl⟩, ?_⟩))) (by (repeat (first | exact trivial | refine ⟨⟨rfl, rfl⟩, ?_⟩ | refine ⟨⟨rfl, hplx _ _⟩, ?_⟩))) (by (repeat (first | exact trivial | refine ⟨rfl, ?_⟩))) (by (repeat (first | exact trivial | refine ⟨rfl, ?_⟩)))) ?_
    intro i hi
    refine go ?_
    refine ck_b (fun h1 => ?_) (fun h1 => ?_) <;> try rw [h1]
    · have h1' : i < gone.length := by have := of_decide_eq_true h1; omega
      obtain ⟨g, hg⟩ := getI (l := gone) (i := i) (by omega) (by omega)
      have hg' := hg
      simp only [Int.toNat_natCast] at hg'
      have hgt := goneN_take hg'
      have hlen1 : (base ++ goneN (gone.take i) ++ g.map (·.1)).length ≤ 2000 := by
        have h3 := goneN_le gone (i + 1)
        rw [hgt] at h3
        simp only [List.length_append] at h3 ⊢
        omega
      have hgl : g.length ≤ 2000 := by simp only [List.length_append, List.length_map] at hlen1; omega
      generalize hac : base ++ goneN (gone.take i) = acc at *
      refine go ?_
      refine awp_loop_ok (fun j : Nat => j ≤ g.length) (fun j => ⟨[(12, dI j), (11, dI i), (10, .tip 0 (acc ++ (g.take j).map (·.1)).length (pInts (acc ++ (g.take j).map (·.1)))), (9, .arr 300 0 (N + 1) (N + 1)), (7, dGones gone), (6, .ptr 3 0), (4, .ptr 1 0), (3, dB true), (1, .ptr 0 0)], [(300, intsC (metF N [])), (3, [dInts m]), (1, layD l), (0, playD p)], [(0, ⟨3, 1, (acc ++ (g.take j).map (·.1)).length⟩)]⟩) (fun j => g.length - j) 0 (by omega) (by simpa using drop_ghost (by (repeat (first | exact trivial | refine ⟨⟨rfl, rfl⟩, ?_⟩))) (by (repeat (first | exact trivial | refine ⟨⟨rfl, rfl⟩, ?_⟩ | refine ⟨⟨rfl, hplx _ _⟩, ?_⟩))) (by (repeat (first | exact trivial | refine ⟨rfl, ?_⟩))) (by (repeat (first | exact trivial | refine ⟨rfl, ?_⟩)))) ?_
      intro j hj
      refine go ?_
      refine a_q (indexAddr_step tabOk [plGone g] rfl rfl rfl rfl rfl rfl (by first | omega | (simp; done) | (simp; omega)) (by first | omega | (simp; done) | (simp; omega)) (by first | (simp; done) | exact List.cons_ne_nil _ _) (gones_idx hg)) rfl rfl rfl ?_
      refine go ?_
      refine ck_b (fun h2 => ?_) (fun h2 => ?_) <;> try rw [h2]
      · have h2' : j < g.length := by have := of_decide_eq_true h2; omega
        obtain ⟨x, hx⟩ := getI (l := g) (i := j) (by omega) (by omega)
        have hx' := hx
        simp only [Int.toNat_natCast] at hx'
        have hjt : (g.take (j + 1)).map (·.1) = (g.take j).map (·.1) ++ [x.1] := by rw [List.take_add_one, hx']; simp
        have hjl : (acc ++ (g.take j).map (·.1)).length ≤ 2000 := by
          simp only [List.length_append, List.length_map, List.length_take] at hlen1 ⊢
          omega
        generalize hac2 : acc ++ (g.take j).map (·.1) = acc2 at *
        refine go ?_
        refine a_q (indexAddr_step tabOk [plGone g] rfl rfl rfl rfl rfl rfl (by first | omega | (simp; done) | (simp; omega)) (by first | omega | (simp; done) | (simp; omega)) (by first | (simp; done) | exact List.cons_ne_nil _ _) (gones_idx hg)) rfl rfl rfl ?_
        refine go ?_
        refine a_q (indexAddr_step tabOk [pI x.1, pI x.2] rfl rfl rfl rfl rfl rfl (by first | omega | (simp; done) | (simp; omega)) (by first | omega | (simp; done) | (simp; omega)) (by first | (simp; done) | exact List.cons_ne_nil _ _) (gone_idx hx)) rfl rfl rfl ?_
        refine go ?_
        refine a_q (indexAddrE_step tabOk rfl rfl rfl rfl rfl (by omega) (by omega) rfl) rfl rfl rfl ?_
        refine go ?_
        refine a_append tabOk rfl rfl rfl rfl rfl rfl rfl rfl rfl rfl rfl rfl rfl (by unfold maxLen; omega) (by show (_ + _) * 8 ≤ _; omega) ?_
        rw [pInts_snoc, show acc2.length + 1 = (acc2 ++ [x.1]).length by simp]
        refine go ?_
        refine ⟨j + 1, by omega, by omega, ?_⟩
        rw [hjt, ← List.append_assoc, hac2]
        exact drop_ghost (by (repeat (first | exact trivial | refine ⟨⟨rfl, rfl⟩, ?_⟩))) (by (repeat (first | exact trivial | refine ⟨⟨rfl, rfl⟩, ?_⟩ | refine ⟨⟨rfl, hplx _ _⟩, ?_⟩))) (by (repeat (first | exact trivial | refine ⟨rfl, ?_⟩))) (by (repeat (first | exact trivial | refine ⟨rfl, ?_⟩)))
      · have h2' : j = g.length := by have := of_decide_eq_false h2; omega
        refine go ?_
        refine ⟨i + 1, by omega, by omega, ?_⟩
        rw [h2', List.take_length, ← hac, List.append_assoc, ← hgt]
        exact drop_ghost (by (repeat (first | exact trivial | refine ⟨⟨rfl, rfl⟩, ?_⟩))) (by (repeat (first | exact trivial | refine ⟨⟨rfl, rfl⟩, ?_⟩ | refine ⟨⟨rfl, hplx _ _⟩, ?_⟩))) (by (repeat (first | exact trivial | refine ⟨rfl, ?_⟩))) (by (repeat (first | exact trivial | refine ⟨rfl, ?_⟩)))
    · have h1' : i = gone.length := by have := of_decide_eq_false h1; omega
      rw [h1', List.take_length]
      have hcnt2 : ∀ n, (base ++ goneN gone).count n = if 1 ≤ n ∧ n ≤ (N : Int) then 1 else 0 := hcnt
      have hal : (base ++ goneN gone).length ≤ 20 := by simp only [List.length_append]; omega
      generalize base ++ goneN gone = al at *
      have hin : ∀ x ∈ al, 1 ≤ x ∧ x ≤ (N : Int) := fun x hx => by
        have h1 := List.count_pos_iff.2 hx
        rw [hcnt2 x] at h1
        split at h1
        · assumption
        · omega
      refine go ?_
      refine awp_loop_ok (fun j : Nat => j ≤ al.length) (fun j => ⟨[(13, dI j), (10, dInts al), (9, .arr 300 0 (N + 1) (N + 1)), (6, .ptr 3 0), (4, .ptr 1 0), (3, dB true), (1, .ptr 0 0)], [(300, intsC (metF N (al.take j))), (3, [dInts m]), (1, layD l), (0, playD p)], []⟩) (fun j => al.length - j) 0 (by omega) (ghost_trans (lowS_ghost 10 rfl rfl) (drop_ghost (by (repeat (first | exact trivial | refine ⟨⟨rfl, rfl⟩, ?_⟩))) (by (repeat (first | exact trivial | refine ⟨⟨rfl, rfl⟩, ?_⟩ | refine ⟨⟨rfl, hplx _ _⟩, ?_⟩))) (by (repeat (first | exact trivial | refine ⟨rfl, ?_⟩))) (by (repeat (first | exact trivial | refine ⟨rfl, ?_⟩))))) ?_
      intro j hj
      refine go ?_
      refine ck_b (fun h2 => ?_) (fun h2 => ?_) <;> try rw [h2]
      · have h2' : j < al.length := by have := of_decide_eq_true h2; omega
        obtain ⟨x, hx⟩ := getI (l := al) (i := j) (by omega) (by omega)
        have hx' := hx
        simp only [Int.toNat_natCast] at hx'
        have hxb := hin x (List.mem_of_getElem? hx')
        have hjt : al.take (j + 1) = al.take j ++ [x] := by rw [List.take_add_one, hx']; rfl
        have hgt := intsC_get (l := metF N (al.take j)) (i := x) (by omega) (by rw [metF_len]; omega)
        rw [metF_get N (al.take j) x (by omega) (by omega)] at hgt
        have hms := metF_snoc N (al.take j) x (by omega)
        have hcl : (al.take j).count x ≤ 20 := Nat.le_trans List.count_le_length (by rw [List.length_take]; omega)
        have hml := metF_len N (al.take j)
        generalize metF N (al.take j) = mt at *
        generalize (al.take j).count x = cx at *
        refine go ?_
        refine a_q (indexAddr_step tabOk [pI x] rfl rfl rfl rfl rfl rfl (by first | omega | (simp; done) | (simp; omega)) (by first | omega | (simp; done) | (simp; omega)) (by first | (simp; done) | exact List.cons_ne_nil _ _) (ints_idx hx)) rfl rfl rfl ?_
        refine go ?_
        rw [show decide (x < 1) = false by rw [decide_eq_false_iff_not]; omega]
        refine go ?_
        refine a_q (indexAddr_step tabOk [pI x] rfl rfl rfl rfl rfl rfl (by first | omega | (simp; done) | (simp; omega)) (by first | omega | (simp; done) | (simp; omega)) (by first | (simp; done) | exact List.cons_ne_nil _ _) (ints_idx hx)) rfl rfl rfl ?_
        refine go ?_
        rw [show decide (x ≥ ((N + 1 : Nat) : Int)) = false by rw [decide_eq_false_iff_not]; omega]
        refine go ?_
        refine a_q (indexAddr_step tabOk [pI x] rfl rfl rfl rfl rfl rfl (by first | omega | (simp; done) | (simp; omega)) (by first | omega | (simp; done) | (simp; omega)) (by first | (simp; done) | exact List.cons_ne_nil _ _) (ints_idx hx)) rfl rfl rfl ?_
        refine go ?_
        refine a_q (indexAddrA_step (p := x.toNat) tabOk rfl rfl rfl rfl rfl (by omega) (by omega) (by show x.toNat = x.toNat * 1; omega)) rfl rfl rfl ?_
        refine a_q (loadAt_step tabOk rfl rfl rfl rfl rfl hgt) rfl rfl rfl ?_
        refine go ?_
        refine a_q (indexAddrA_step (p := x.toNat) tabOk rfl rfl rfl rfl rfl (by omega) (by omega) (by show x.toNat = x.toNat * 1; omega)) rfl rfl rfl ?_
        refine a_storeAt (of := x.toNat) (cs := intsC mt) tabOk rfl rfl rfl rfl rfl rfl rfl rfl rfl (by rw [List.length_map]; omega) ?_
        rw [show (intsC mt).set x.toNat (dI ((cx : Int) + 1)) = intsC (metF N (al.take j ++ [x])) by rw [intsC_set, hms]]
        refine go ?_
        refine ⟨j + 1, by omega, by omega, ?_⟩
        rw [hjt]
        exact drop_ghost (by (repeat (first | exact trivial | refine ⟨⟨rfl, rfl⟩, ?_⟩))) (by (repeat (first | exact trivial | refine ⟨⟨rfl, rfl⟩, ?_⟩ | refine ⟨⟨rfl, hplx _ _⟩, ?_⟩))) (by (repeat (first | exact trivial | refine ⟨rfl, ?_⟩))) (by (repeat (first | exact trivial | refine ⟨rfl, ?_⟩)))
      · have h2' : j = al.length := by have := of_decide_eq_false h2; omega
        rw [h2', List.take_length]
        have hmet : ∀ n : Nat, 1 ≤ n → n ≤ N → (intsC (metF N al))[n]? = some (dI 1) := fun n n1 n2 => by
          have h3 := intsC_get (l := metF N al) (i := n) (by omega) (by rw [metF_len]; omega)
          rw [metF_get N al n (by omega) (by omega), hcnt2 n, if_pos (by omega)] at h3
          simpa using h3
        refine go ?_
        refine awp_loop_ok (fun n : Nat => 1 ≤ n ∧ n ≤ N + 1) (fun n => ⟨[(14, dI n), (9, .arr 300 0 (N + 1) (N + 1)), (6, .ptr 3 0), (4, .ptr 1 0), (3, dB true), (1, .ptr 0 0)], [(300, intsC (metF N al)), (3, [dInts m]), (1, layD l), (0, playD p)], []⟩) (fun n => N + 1 - n) 1 ⟨by omega, by omega⟩ (drop_ghost (by (repeat (first | exact trivial | refine ⟨⟨rfl, rfl⟩, ?_⟩))) (by (repeat (first | exact trivial | refine ⟨⟨rfl, rfl⟩, ?_⟩ | refine ⟨⟨rfl, hplx _ _⟩, ?_⟩))) (by (repeat (first | exact trivial | refine ⟨rfl, ?_⟩))) (by (repeat (first | exact trivial | refine ⟨rfl, ?_⟩)))) ?_
        rintro n ⟨hn1, hn2⟩
        refine go ?_
        refine ck_b (fun h3 => ?_) (fun h3 => ?_) <;> try rw [h3]
        · have h3' : n ≤ N := by have := of_decide_eq_true h3; omega
          refine go ?_
          refine a_q (indexAddrA_step (p := n) tabOk rfl rfl rfl rfl rfl (by omega) (by omega) (by show n = (n : Int).toNat * 1; omega)) rfl rfl rfl ?_
          refine a_q (loadAt_step tabOk rfl rfl rfl rfl rfl (hmet n hn1 h3')) rfl rfl rfl ?_
          refine go ?_
          rw [show decide ((1 : Int) = 1) = true from rfl]
          refine go ?_
          exact ⟨n + 1, ⟨by omega, by omega⟩, by omega, drop_ghost (by (repeat (first | exact trivial | refine ⟨⟨rfl, rfl⟩, ?_⟩))) (by (repeat (first | exact trivial | refine ⟨⟨rfl, rfl⟩, ?_⟩ | refine ⟨⟨rfl, hplx _ _⟩, ?_⟩))) (by (repeat (first | exact trivial | refine ⟨rfl, ?_⟩))) (by (repeat (first | exact trivial | refine ⟨rfl, ?_⟩)))⟩
        · refine go ?_
          refine awp_loop_ok (fun a : Nat => a ≤ p.want.length) (fun a => ⟨[(15, dI a), (6, .ptr 3 0), (4, .ptr 1 0), (3, dB true), (1, .ptr 0 0)], [(3, [dInts m]), (1, layD l), (0, playD p)], []⟩) (fun a => p.want.length - a) 0 (by omega) (zX) ?_
          intro a ha
          refine go ?_
          refine ck_b (fun h4 => ?_) (fun h4 => ?_) <;> try rw [h4]
          · have h4' : a < p.want.length := by have := of_decide_eq_true h4; omega
            refine go ?_
            refine awp_loop_ok (fun b : Nat => b ≤ 3) (fun b => ⟨[(16, dI b), (15, dI a), (6, .ptr 3 0), (4, .ptr 1 0), (3, dB true), (1, .ptr 0 0)], [(3, [dInts m]), (1, layD l), (0, playD p)], []⟩) (fun b => 3 - b) 0 (by omega) (zX) ?_
            intro b hb
            refine go ?_
            refine ck_b (fun h5 => ?_) (fun h5 => ?_) <;> try rw [h5]
            · have h5' : b < 3 := by have := of_decide_eq_true h5; omega
              have hce := cell_c m (resvF l a b)
              rw [b3 a b (by omega) (by omega) (by omega) (by omega)] at hce
              refine go ?_
              refine awp_region_q [] rfl (by kernel_rfl) (by kernel_rfl) ?_
              refine goQ ?_
              refine r_q (call_step (resv_c l hL a b (by omega)) rfl (fun a w => Try.call18 a w) rfl) rfl rfl ?_
              refine goQ ?_
              refine r_q (call_step (hce) rfl (fun a w => Try.call15 a w) rfl) rfl rfl ?_
              refine goQ ?_
              refine go ?_
              rw [show decide ((0 : Int) = 0) = true from rfl]
              refine go ?_
              exact ⟨b + 1, by omega, by omega, zX⟩
            · refine go ?_
              exact ⟨a + 1, by omega, by omega, zX⟩
          · refine go ?_
            refine awp_region_q [] rfl (by kernel_rfl) (by kernel_rfl) ?_
            refine goQ ?_
            refine r_q (call_step (hRow) rfl (fun a w => Try.call19 a w) rfl) rfl rfl ?_
            refine goQ ?_
            refine r_q (call_step (hNo) rfl (fun a w => Try.call14 a w) rfl) rfl rfl ?_
            refine goQ ?_
            rw [b6, show decide ((ns.length : Int) = (ns.length : Int)) = true by simp]
            refine goQ ?_
            refine go ?_
            first | refine fin_ret rfl ?_ | refine fin_normal rfl ?_
            rfl
end Go.Proofs.Ytefagncaepallaa
