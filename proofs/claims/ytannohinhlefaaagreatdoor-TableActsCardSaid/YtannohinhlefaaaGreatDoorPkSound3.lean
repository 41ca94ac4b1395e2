/- Texts joined: Ref10. No condition but those that stand within. -/
import Derived.Test.YtannohinhlefaaaGreatDoorPkSwar
import Derived.Test.YtannohinhlefaaaGreatDoorPkMeter
import Derived.Test.YtannohinhlefaaaGreatDoorPkErrs
import Derived.Test.YtannohinhlefaaaGreatDoorPkGroup
import Derived.Test.YtannohinhlefaaaGreatDoorPkTab
import Derived.Test.YtannohinhlefaaaGreatDoorPkTab2
import Derived.Test.YtannohinhlefaaaGreatDoorPkTab3
import Derived.Test.YtannohinhlefaaaGreatDoorPkTake
import Derived.Test.YtannohinhlefaaaGreatDoorPkTabM
import Derived.Test.YtannohinhlefaaaGreatDoorPkEvac
import Derived.Test.YtannohinhlefaaaGreatDoorPkSound
import Derived.Test.YtannohinhlefaaaGreatDoorPkRef09
import Derived.Test.YtannohinhlefaaaGreatDoorPkEvac2
import Derived.Test.YtannohinhlefaaaGreatDoorPkEvac3
import Derived.Test.YtannohinhlefaaaGreatDoorPkSound2
set_option linter.unusedVariables false
set_option linter.unusedSimpArgs false
namespace Go.Proofs.YtannohinhlefaaaGreatDoor
open Go.RowKit Go.Proofs
attribute [local go_sem] neq_nilG eql_nilG
theorem row_block {w : World} {base n : Nat} {v : Value} {xs : List Int} (h : w.ownsRow base 3 1 v n (xs.map (Value.int .i64))) (h1 : 1 ≤ n) :
    ∃ g cap c, v = .slice (some ⟨g, 0, none⟩) n cap ∧ base ≤ g ∧ Blk w g 3 c ∧ ∀ i (hi : i < xs.length), c[i]? = some (.int .i64 xs[i]) := by
  have hl : xs.length = n := by have := h.1; simpa using this
  rcases h.2 with ⟨rfl, h0⟩ | ⟨g, cap, cur, rfl, hb, hg, hc, h2, h3, h4⟩
  · omega
  · refine ⟨g, cap, cur, rfl, hb, hg, fun i hi => ?_⟩
    have e : (cur.toList.take (n * 1))[i]? = (xs.map (Value.int .i64))[i]? := by rw [h4]
    rw [List.getElem?_take, if_pos (by omega), Array.getElem?_toList] at e
    rw [e]; simp [hi]
section
variable {w : World} {lo hi D P cap : Nat} {GB : Nat → Nat} {T : TabS} {L : Int}
set_option maxRecDepth 100000 in
set_option maxHeartbeats 4000000 in
theorem dtall_any (hd : DT w lo hi D P cap GB T L) :
    Calls Tryz.prog 50 #[.pointer (some ⟨D, 0, none⟩)] w fun e w' => ∃ v, e = .returned v ∧ w'.ownsRow w.heap.size 47 3 v T.ents.length (entV T.ents) ∧ Below w.heap.size w w' := by
  have hbd := hd.good.bounds
  have HD := Lib.hid hd
  have hn : T.n ≤ 64 := hbd.1
  obtain ⟨c0, -, zD, -⟩ := dcells hd
  have HL := Lib.hid (entsTo_len T)
  have HL8 := Lib.hid (fun k => entsL_len (T.M k) (T.S k))
  rw [show T.ents = entsTo' T T.n from rfl]
  obtain ⟨n, hnn⟩ : ∃ n, n = T.n := ⟨_, rfl⟩
  rw [← hnn] at c0 hn ⊢
  have HN := Lib.hid hnn
  clear hd hbd hnn
  go_enter Tryz.func50, Tryz.ntmps50
  go_wp2
  go_loopw [12, 3] (fun v12 v3 wr => ∃ k : Nat, k ≤ n ∧ v12 = .int .i64 (k : Int) ∧ wr.ownsRow w.heap.size 47 3 v3 (entsTo' T k).length (entV (entsTo' T k)) ∧ Below w.heap.size w wr) (fun v12 _ _ => n - (intOf v12).toNat)
  case atStart => exact ⟨0, Nat.zero_le _, rfl, ⟨rfl, .inr ⟨w.heap.size, 0, #[], rfl, Nat.le_refl _, Blk.new _ _ _, by simp [entsTo'], by decide, rfl, by simp [entsTo', entV]⟩⟩, by go_grown⟩
  case round =>
    clear c0
    obtain ⟨k, hk, rfl, hrow, hB⟩ := hrel
    have KR := Lib.hid hrow
    have KB := Lib.hid hB
    obtain ⟨a3, cap3, rfl⟩ := ownsRow_slice hrow
    have hwz := hB.size
    have KD := Lib.hid (HD.out.later hB)
    clear hrow hB
    by_cases hlt : k < n
    · have hltI : (k : Int) < (n : Int) := by omega
      have hkT : k < T.n := by have := HN.out; omega
      have p0 := KD.out.ptr k hkT
      have zP := KD.out.pz
      have TE := Lib.hid (fun (w' : World) (h' : DW w' (GB k) (T.M k) (T.S k)) => dentries_any (GB k) (T.M k) (T.S k) w' h')
      have hl1 := HL.out k
      have hl2 := HL8.out k
      have HE := Lib.hid (entsTo_snoc T k)
      generalize entsTo' T k = l1 at *
      generalize entsL (T.M k) (T.S k) = l2 at *
      go_wp2_with (first
        | (go_at_call 47; (with_reducible refine (TE.out _ (KD.out.g k hkT)).mono ?_); rintro e w3 ⟨v, rfl, hr3, hb3⟩; have C3 := Lib.hid hb3; have R3 := Lib.hid hr3; clear hr3 hb3)
        | (at_builtin; refine wpList_append_ents rfl _ _ rfl w.heap.size _ l1 rfl (ownsRow_later KR.out C3.out) _ wr.heap.size l2 rfl R3.out (by omega) (by have := C3.out.size; omega) ?_; intro v' w4 hown4 hb4 _; have R4 := Lib.hid hown4; have B4 := Lib.hid hb4; clear hown4 hb4))
      go_roundw
      case rel => exact ⟨k + 1, by omega, by go_num, by rw [HE.out]; exact R4.out, (KB.out.trans (C3.out.mono hwz)).trans B4.out⟩
      case measure => simp [intOf]; omega
    · obtain rfl : k = n := by omega
      go_wp2
      go_ret
      exact ⟨_, rfl, KR.out, KB.out⟩
end
end Go.Proofs.YtannohinhlefaaaGreatDoor
