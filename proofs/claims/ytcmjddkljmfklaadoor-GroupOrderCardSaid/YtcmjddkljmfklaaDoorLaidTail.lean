/- What a row lays: the list without its first. No condition. -/
import Derived.Test.YtcmjddkljmfklaaDoorLaidErrs
namespace Go.Proofs.YtcmjddkljmfklaaDoor
open Go.RowKit

theorem laid_tail {P : Program} {w : World} {x : String × DataW Unit} {l : List (String × DataW Unit)} (h : laidMet P (x :: l) w) : laidMet P l w := by
  obtain ⟨m, d⟩ := x
  obtain ⟨ps, ⟨g, t, cs, fuel, p, q, hg, ht, hv, hd, hq, rfl⟩, hnd, hr⟩ := h
  exact ⟨q, hq, (List.sublist_append_right _ _).nodup hnd, fun b off hm => hr b off (List.mem_append_right _ hm)⟩
end Go.Proofs.YtcmjddkljmfklaaDoor
