/- A map's programs: what comes behind an operation, by its kind: a map of closures: its walk. -/
import Derived.Test.YtkkldicehapklaaGreatMp
import Derived.Test.YtkkldicehapklaaGreatH6
namespace Go.Proofs.YtkkldicehapklaaGreat
open Go.RowKit
set_option maxRecDepth 100000
def behV (f : FuncId) (kf : Nat → Nat) : Value := .func (.func f) #[] #[.pointer (some ⟨kf 53, 0, none⟩), .pointer (some ⟨kf 54, 0, none⟩)]
def behE (kf : Nat → Nat) : Array MapEntry := ((#[].push ⟨.int .i64 1, .func (.func 68) #[] #[], 0⟩).push ⟨.int .i64 2, behV 69 kf, 1⟩).push ⟨.int .i64 3, behV 70 kf, 2⟩
theorem xK (l : jN) (hL : qJ l) (hM : jG3 l) (me m : Int) (log : List jS) (s : PsT) : MapC Tryz.prog 37 [40] [.ptr 40 0] (jM8 l me m log s) (aftB l me m log s) [53, 54] behE := by
 intro e vs hI hv
 refine calls_of_wp Tryz.func37 rfl ?_
 have hk0 : NamesIn (jM8 l me m log s) [40] := ⟨rfl, trivial⟩
 have hc0 := xV (fn := Tryz.f37) (f := 37) (keep := [40]) [] (by decide) hk0 hI hv rfl
 refine wp_seq (Code.wp_mono (fun ex a1 w1 hh => ?_) (AWP.run (Q := fun ex σ => ex = .normal ∧ σ = ⟨[(2, .p (.raw (.map none))), (1, .ptr 53 0), (0, .ptr 40 0)], (53, [.ptr 40 0]) :: jM8 l me m log s, []⟩) ?_ _ e hc0))
 ·obtain ⟨σ1, e1, rfl, hc1, rfl, rfl⟩ := hh
  refine wp_seq (Code.wp_mono (fun ex a2 w2 hh => ?_) (AWP.run (Q := fun ex σ => ex = .normal ∧ Ghost ⟨Tryz.f37.ntmps, e.w, e.cl, fun k => ∃ b, e.bx b = some k, jN0 (fun b => (e.bx b).getD 0) [40], []⟩ σ ⟨[(3, .ptr 54 0), (1, .ptr 53 0)], aftB l me m log s, []⟩) ?_ _ e1 hc1))
  ·obtain ⟨σ2, e2', rfl, hc2', rfl, hgh⟩ := hh
   obtain ⟨e2, hw2, hc2⟩ := hgh _ _ hc2'
   rw [← hw2]
   obtain ⟨k1, _, _, b1, _, _⟩ := hc2.boxes 40 _ rfl
   obtain ⟨k2, _, _, b2, _, _⟩ := hc2.boxes 53 _ rfl
   obtain ⟨k3, _, _, b3, _, _⟩ := hc2.boxes 54 _ rfl
   obtain ⟨kf, hkf⟩ : ∃ kf : Nat → Nat, kf = fun b => (e2.bx b).getD 0 := ⟨_, rfl⟩
   have q1 : e2.bx 40 = some (kf 40) := by rw [hkf]; simp only [b1, Option.getD_some]
   have q2 : e2.bx 53 = some (kf 53) := by rw [hkf]; simp only [b2, Option.getD_some]
   have q3 : e2.bx 54 = some (kf 54) := by rw [hkf]; simp only [b3, Option.getD_some]
   refine wp_seq (wp_region_lit (n_make (kb := jN0 kf [40, 53, 54]) rfl rfl rfl rfl hc2 (fun b k hk => ?_) (fun b k hk => ?_) (fun r hbase => ?_)))
   ·obtain ⟨h1, rfl⟩ := jM3 hk
    simp only [List.mem_cons, List.mem_nil_iff, or_false] at h1
    rcases h1 with rfl | rfl | rfl
    ·exact q1
    ·exact q2
    ·exact q3
   ·have h2 := hc2.env.kb b k hk
    obtain ⟨h1, rfl⟩ := jM3 hk
    simp only [List.mem_cons, List.mem_nil_iff, or_false] at h1
    subst h1
    rw [q1] at h2
    rw [jG5 (by simp)]
    exact h2
   ·refine n_ins (v := .func (.func 68) #[] #[]) hbase rfl rfl (by rfl) (by rfl) rfl rfl rfl rfl (fun _ _ _ e h u hu => fn_none hu) rfl rfl ?_
    refine n_ax jB rfl rfl rfl rfl ?_
    refine n_ins (v := behV 69 kf) hbase rfl rfl (by rfl) (by rfl) rfl rfl rfl rfl (fun _ _ _ e h u hu => fn_two (h.kb 53 _ rfl) (h.kb 54 _ rfl) hu) rfl rfl ?_
    refine n_ax jB rfl rfl rfl rfl ?_
    refine n_ins (v := behV 70 kf) hbase rfl rfl (by rfl) (by rfl) rfl rfl rfl rfl (fun _ _ _ e h u hu => fn_two (h.kb 53 _ rfl) (h.kb 54 _ rfl) hu) rfl rfl ?_
    refine n_ax jB rfl rfl rfl rfl ?_
    refine n_ax jB rfl rfl rfl rfl ?_
    refine ⟨fun w' cl' own' hi a3 e3 hc3 => ?_⟩
    have hc4 := hi.conc hc3
    obtain ⟨v, hr, hv5⟩ := vP jB (fn := Tryz.f37) (d := .p (.raw (.map (some r)))) hc4 rfl
    have := kF hv5
    subst this
    refine wp_ret ⟨hc4.df, _, hr, r, _, kf, e3.cut (jM (aftB l me m log s)) fun _ => false, rfl, rfl, uC hc4 (by (repeat (first | exact trivial | refine ⟨⟨rfl, rfl⟩, ?_⟩))), jV8 hI hk0 hc4 ⟨rfl, trivial⟩, fun n hn => ?_, hi.now hc3.env⟩
    have hkb := hc3.env.kb n (kf n) (jG5 (by simp at hn ⊢; omega))
    show (if jM (aftB l me m log s) n = true then e3.bx n else none) = _
    rw [if_pos]
    ·exact hkb
    ·simp only [List.mem_cons, List.mem_nil_iff, or_false] at hn
     rcases hn with rfl | rfl <;> rfl
  ·refine jE 10 [] rfl rfl (by kernel_rfl) (by kernel_rfl) (by kernel_rfl) ?_
   refine goQ ?_
   refine r_q (jA (map_c l hL hM m 1 (by omega)) rfl (fun a w => Tryz.call38 a w) rfl) rfl rfl ?_
   refine r_b (jL jB 54 rfl rfl rfl rfl) rfl rfl rfl rfl ?_
   refine goQ ?_
   refine go ?_
   exact ⟨rfl, zX⟩
 ·refine goC ?_
  refine a_b (qP 53 rfl rfl rfl rfl) rfl rfl rfl rfl ?_
  refine go ?_
  exact ⟨rfl, rfl⟩
end Go.Proofs.YtkkldicehapklaaGreat
