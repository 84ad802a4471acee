/- Loads, stores and comparisons of programs under way: their walks. -/
import Derived.Test.YtdmnjoidfjidbaaGreatD3
namespace Go.Proofs.YtdmnjoidfjidbaaGreat
open Go.RowKit
set_option maxRecDepth 100000

theorem doM_gone {a : AccT} {log : List ResT} {s s' : PsT} {r : ResT} (h : doM a log s = .ok (r, s')) : s' = { s with made := s.made + 1 } ∧ log[s.made]? = some r := by
  unfold doM at h
  split at h
  · rename_i r0 h0; cases h; exact ⟨rfl, h0⟩
  · cases h
theorem loadM_gone {c : Int} {log : List ResT} {s s' : PsT} {v : Int} (h : loadM c log s = .ok (v, s')) : s' = { s with made := s.made + 1 } ∧ ∃ r, log[s.made]? = some r ∧ r.val = v := by
  unfold loadM Pm.bind at h
  split at h
  · rename_i r s1 h0; cases h; obtain ⟨h1, h2⟩ := doM_gone h0; exact ⟨h1, r, h2, rfl⟩
  · cases h
theorem storeM_gone {c v : Int} {log : List ResT} {s s' : PsT} {u : Unit} (h : storeM c v log s = .ok (u, s')) : s' = { s with made := s.made + 1 } ∧ ∃ r, log[s.made]? = some r := by
  unfold storeM Pm.bind at h
  split at h
  · rename_i r s1 h0; cases h; obtain ⟨h1, h2⟩ := doM_gone h0; exact ⟨h1, r, h2⟩
  · cases h
theorem casM_gone {c o v : Int} {log : List ResT} {s s' : PsT} {b : Bool} (h : casM c o v log s = .ok (b, s')) : s' = { s with made := s.made + 1 } ∧ ∃ r, log[s.made]? = some r ∧ r.ok = b := by
  unfold casM Pm.bind at h
  split at h
  · rename_i r s1 h0; cases h; obtain ⟨h1, h2⟩ := doM_gone h0; exact ⟨h1, r, h2, rfl⟩
  · cases h

theorem loadM_made {c : Int} {log : List ResT} {s s' : PsT} {v : Int} (h : loadM c log s = .ok (v, s')) : s'.made = s.made + 1 := by rw [(loadM_gone h).1]
theorem storeM_made {c v : Int} {log : List ResT} {s s' : PsT} {u : Unit} (h : storeM c v log s = .ok (u, s')) : s'.made = s.made + 1 := by rw [(storeM_gone h).1]
theorem casM_made {c o v : Int} {log : List ResT} {s s' : PsT} {b : Bool} (h : casM c o v log s = .ok (b, s')) : s'.made = s.made + 1 := by rw [(casM_gone h).1]
theorem load_x (l : LayT) (me : Int) (log : List ResT) (s : PsT) (c : Int) (hm : s.made ≤ log.length) (hl : log.length ≤ 1000000) : PmC 84 l me log s [.ptr 11 0, dI c] (loadM c log s) dI := by
  refine sX Tryz.func84 Tryz.ntmps84 fun w cl own kf => ?_
  refine go ?_
  refine a_callvX (do_x l me log s ⟨1, c, 0, 0⟩ hm hl) rfl (fun a w => Tryz.call77 a w) rfl rfl rfl (by (repeat (first | exact trivial | refine ⟨⟨rfl, rfl⟩, ?_⟩))) (by (repeat (first | exact trivial | refine ⟨.inr rfl, ?_⟩ | refine ⟨.inl rfl, ?_⟩))) rfl rfl rfl rfl ?_ ?_ ?_ ?_
  · rintro d bs ⟨x, s', _, _, _, rfl, rfl⟩; exact ⟨.inl rfl, .inl rfl, .inl rfl, trivial⟩
  · rintro v bs ⟨a, s', _, rfl, rfl⟩; exact ⟨.inl rfl, .inl rfl, .inl rfl, trivial⟩
  · rintro v bs ⟨a, s', h, rfl, rfl⟩
    refine gP ?_
    refine fP (pieceB l me log s') ?_
    exact ⟨a, s', bind_err h, rfl, rfl⟩
  rintro d bs ⟨x, s', h, hle, hlen, rfl, rfl⟩
  refine go ?_
  first | refine fR (pieceB l me log s') ?_ | refine fN (pieceB l me log s') ?_
  exact ⟨x.val, s', bind_ok h, hle, hlen, rfl, rfl⟩
theorem store_x (l : LayT) (me : Int) (log : List ResT) (s : PsT) (c v : Int) (hm : s.made ≤ log.length) (hl : log.length ≤ 1000000) : PmC 80 l me log s [.ptr 11 0, dI c, dI v] (storeM c v log s) (fun _ => .tup []) := by
  refine sX Tryz.func80 Tryz.ntmps80 fun w cl own kf => ?_
  refine go ?_
  refine a_callvX (do_x l me log s ⟨2, c, 0, v⟩ hm hl) rfl (fun a w => Tryz.call77 a w) rfl rfl rfl (by (repeat (first | exact trivial | refine ⟨⟨rfl, rfl⟩, ?_⟩))) (by (repeat (first | exact trivial | refine ⟨.inr rfl, ?_⟩ | refine ⟨.inl rfl, ?_⟩))) rfl rfl rfl rfl ?_ ?_ ?_ ?_
  · rintro d bs ⟨x, s', _, _, _, rfl, rfl⟩; exact ⟨.inl rfl, .inl rfl, .inl rfl, trivial⟩
  · rintro v bs ⟨a, s', _, rfl, rfl⟩; exact ⟨.inl rfl, .inl rfl, .inl rfl, trivial⟩
  · rintro v bs ⟨a, s', h, rfl, rfl⟩
    refine gP ?_
    refine fP (pieceB l me log s') ?_
    exact ⟨a, s', bind_err h, rfl, rfl⟩
  rintro d bs ⟨x, s', h, hle, hlen, rfl, rfl⟩
  refine go ?_
  first | refine fR (pieceB l me log s') ?_ | refine fN (pieceB l me log s') ?_
  exact ⟨(), s', bind_ok h, hle, hlen, rfl, rfl⟩
theorem cas_x (l : LayT) (me : Int) (log : List ResT) (s : PsT) (c o v : Int) (hm : s.made ≤ log.length) (hl : log.length ≤ 1000000) : PmC 87 l me log s [.ptr 11 0, dI c, dI o, dI v] (casM c o v log s) dB := by
  refine sX Tryz.func87 Tryz.ntmps87 fun w cl own kf => ?_
  refine go ?_
  refine a_callvX (do_x l me log s ⟨3, c, o, v⟩ hm hl) rfl (fun a w => Tryz.call77 a w) rfl rfl rfl (by (repeat (first | exact trivial | refine ⟨⟨rfl, rfl⟩, ?_⟩))) (by (repeat (first | exact trivial | refine ⟨.inr rfl, ?_⟩ | refine ⟨.inl rfl, ?_⟩))) rfl rfl rfl rfl ?_ ?_ ?_ ?_
  · rintro d bs ⟨x, s', _, _, _, rfl, rfl⟩; exact ⟨.inl rfl, .inl rfl, .inl rfl, trivial⟩
  · rintro v bs ⟨a, s', _, rfl, rfl⟩; exact ⟨.inl rfl, .inl rfl, .inl rfl, trivial⟩
  · rintro v bs ⟨a, s', h, rfl, rfl⟩
    refine gP ?_
    refine fP (pieceB l me log s') ?_
    exact ⟨a, s', bind_err h, rfl, rfl⟩
  rintro d bs ⟨x, s', h, hle, hlen, rfl, rfl⟩
  refine go ?_
  first | refine fR (pieceB l me log s') ?_ | refine fN (pieceB l me log s') ?_
  exact ⟨x.ok, s', bind_ok h, hle, hlen, rfl, rfl⟩
end Go.Proofs.YtdmnjoidfjidbaaGreat
