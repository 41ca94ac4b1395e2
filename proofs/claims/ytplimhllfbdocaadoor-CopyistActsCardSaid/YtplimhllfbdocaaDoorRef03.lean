/- The document's bits: Number, Bits, Top. No condition. -/
import Derived.Test.YtplimhllfbdocaaDoorBits
import Derived.Test.YtplimhllfbdocaaDoorSeq
import Derived.Test.YtplimhllfbdocaaDoorMem
import Derived.Test.YtplimhllfbdocaaDoorNum
import Derived.Test.YtplimhllfbdocaaDoorTrapAct
import Derived.LoopTactic
import Derived.IntWalk
namespace Go.Proofs.YtplimhllfbdocaaDoor
set_option linter.unusedVariables false
set_option linter.unusedSimpArgs false
open Go.RowKit Go.Proofs

theorem numB_take (l : List Nat) (k : Nat) (hk : k < l.length) : numB (l.take (k + 1)) = numB (l.take k) * 2 + l[k] := by
  rw [List.take_succ_eq_append_getElem hk, numB_snoc]
set_option maxHeartbeats 800000 in
theorem number_any (v : Value) (l : List Nat) (hl : l.length ≤ 64) (hb : ∀ b ∈ l, b ≤ 1) (w : World) (h : ReadsInts w v (l.map fun n : Nat => (n : Int))) :
    Calls Tryd.prog 103 #[v] w fun e w' => e = .returned (.int .u64 ((numB l : Nat) : Int)) ∧ w = w' := by
  obtain ⟨a, cap, rfl, hx⟩ := h
  have HX := Lib.hid hx
  have HB := Lib.hid hb
  clear hx hb
  rw [List.length_map]
  go_enter Tryd.func103, Tryd.ntmps103
  go_wp2
  go_loop [3, 8] (fun v3 v8 => ∃ k : Nat, k ≤ l.length ∧ v8 = .int .i64 (k : Int) ∧ v3 = .int .u64 ((numB (l.take k) : Nat) : Int)) (fun _ v8 => l.length - (intOf v8).toNat)
  case atStart => exact ⟨0, Nat.zero_le _, rfl, rfl⟩
  case round =>
    obtain ⟨k, hk, rfl, rfl⟩ := hrel
    by_cases hlt : k < l.length
    · obtain ⟨b, off, rfl, hc⟩ := HX.out (by intro e; have := congrArg List.length e; simp at this; subst this; simp at hlt)
      have hck : w.cell? ⟨b, off + k, none⟩ = some (.int .i64 (l[k] : Int)) := (hc k (by simpa using hlt)).trans (congrArg (fun z => some (Value.int .i64 z)) (List.getElem_map ..))
      have h1 := HB.out l[k] (List.getElem_mem hlt)
      have h2 := numB_lt (l.take k) (fun b hb => HB.out b (List.mem_of_mem_take hb))
      have h3 : 2 ^ (l.take k).length ≤ 9223372036854775808 := by
        rw [List.length_take, Nat.min_eq_left (by omega)]
        exact Nat.pow_le_pow_right (n := 2) (by decide) (show k ≤ 63 by omega)
      have hn := Lib.hid (numB_take l k hlt)
      have h4 : numB (l.take k) < 9223372036854775808 := Nat.lt_of_lt_of_le h2 h3
      clear hc h2 h3
      generalize l[k] = c at *
      generalize numB (l.take k) = m at *
      go_wp2
      go_round
      case rel => exact ⟨k + 1, by omega, by go_num, by rw [hn.out]; go_num⟩
      case measure => simp [intOf]; omega
    · obtain rfl : k = l.length := by omega
      rw [List.take_length]
      go_wp2
      go_ret
      exact ⟨rfl, rfl⟩
end Go.Proofs.YtplimhllfbdocaaDoor
