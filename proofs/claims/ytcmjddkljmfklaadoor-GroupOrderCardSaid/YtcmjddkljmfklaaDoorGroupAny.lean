/- Package group and the document's group: Put, Set, Erase, whatever comes of them. Condition: the errors' cells 1 and 5 for the program's. -/
import Derived.Test.YtcmjddkljmfklaaDoorGroupPlain
import Derived.Test.YtcmjddkljmfklaaDoorRef08b
namespace Go.Proofs.YtcmjddkljmfklaaDoor
set_option linter.unusedVariables false
set_option linter.unusedSimpArgs false
open Go.RowKit Go.Proofs

def putM (m : Nat) (i : Int) (h : Nat) : Nat := if fullE m i false = 0 then setL m i.toNat (h % 128) else m
def putT (m : Nat) (s : Nat → EntS) (i : Int) (e : EntS) : Nat → EntS := if fullE m i false = 0 then putS s i.toNat e else s
def putB (m : Nat) (i : Int) : Bool := fullE m i false == 0 && ln m i.toNat == 254
def setT (m : Nat) (s : Nat → EntS) (i : Int) (v : Int) : Nat → EntS := if fullE m i true = 0 then putS s i.toNat { s i.toNat with val := v } else s
def eraM (m : Nat) (i : Int) : Nat := if fullE m i true = 0 then setL m i.toNat (goneN m) else m
def eraT (m : Nat) (s : Nat → EntS) (i : Int) : Nat → EntS := if fullE m i true = 0 then putS s i.toNat EntS.zero else s
def eraB (m : Nat) (i : Int) : Bool := fullE m i true == 0 && !openB m
theorem gput_any (G o m h : Nat) (i : Int) (s : Nat → EntS) (x0 x1 : Int) (hm : m < 18446744073709551616) (hh : h < 18446744073709551616) (E : Nat → Addr) (w : World) (hg : GW w G o m s) (he : EC w E [1, 5]) :
    Calls Tryd.prog 33 #[.agg #[.pointer (some ⟨G, o, none⟩)], .int .i64 i, .agg #[.int .u64 x0, .int .u64 x1, .int .u64 (h : Int)]] w fun e w' =>
      e = .returned (.tuple #[.bool (putB m i), errN E (fullE m i false)]) ∧ GW w' G o (putM m i h) (putT m s i ⟨x0, x1, h⟩) ∧ ChgG G o w w' := by
  unfold putM putT putB
  by_cases hf : fullE m i false = 0
  · obtain ⟨k, rfl, hk, -⟩ := fullE_zero hf
    rw [if_pos hf, if_pos hf, hf, Int.toNat_natCast, errN_0]
    refine (gput_ok G o m k h s x0 x1 hm hh hk hf E w hg he).mono ?_
    rintro e w' ⟨rfl, h1, h2⟩
    exact ⟨rfl, h1, h2⟩
  · rw [if_neg hf, if_neg hf, show (fullE m i false == 0) = false by simpa using hf]
    refine (gput_bad G o m i s x0 x1 h hm hf E w hg he).mono ?_
    rintro e w' ⟨rfl, hb⟩
    exact ⟨rfl, hg.below hb hg.lt, ChgG.of_below hb⟩
theorem gset_any (G o m : Nat) (i : Int) (s : Nat → EntS) (v : Int) (hm : m < 18446744073709551616) (E : Nat → Addr) (w : World) (hg : GW w G o m s) (he : EC w E [1, 5]) :
    Calls Tryd.prog 42 #[.agg #[.pointer (some ⟨G, o, none⟩)], .int .i64 i, .int .u64 v] w fun e w' =>
      e = .returned (errN E (fullE m i true)) ∧ GW w' G o m (setT m s i v) ∧ ChgG G o w w' := by
  unfold setT
  by_cases hf : fullE m i true = 0
  · obtain ⟨k, rfl, hk, -⟩ := fullE_zero hf
    rw [if_pos hf, hf, Int.toNat_natCast, errN_0]
    exact gset_ok G o m k s v hm hk hf E w hg he
  · rw [if_neg hf]
    refine (gset_bad G o m i s v hm hf E w hg he).mono ?_
    rintro e w' ⟨rfl, hb⟩
    exact ⟨rfl, hg.below hb hg.lt, ChgG.of_below hb⟩
theorem gerase_any (G o m : Nat) (i : Int) (s : Nat → EntS) (hm : m < 18446744073709551616) (E : Nat → Addr) (w : World) (hg : GW w G o m s) (he : EC w E [1, 5]) :
    Calls Tryd.prog 36 #[.agg #[.pointer (some ⟨G, o, none⟩)], .int .i64 i] w fun e w' =>
      e = .returned (.tuple #[.bool (eraB m i), errN E (fullE m i true)]) ∧ GW w' G o (eraM m i) (eraT m s i) ∧ ChgG G o w w' := by
  unfold eraM eraT eraB
  by_cases hf : fullE m i true = 0
  · obtain ⟨k, rfl, hk, -⟩ := fullE_zero hf
    rw [if_pos hf, if_pos hf, hf, Int.toNat_natCast, errN_0]
    refine (gerase_ok G o m k s hm hk hf E w hg he).mono ?_
    rintro e w' ⟨rfl, h1, h2⟩
    exact ⟨rfl, h1, h2⟩
  · rw [if_neg hf, if_neg hf, show (fullE m i true == 0) = false by simpa using hf]
    refine (gerase_bad G o m i s hm hf E w hg he).mono ?_
    rintro e w' ⟨rfl, hb⟩
    exact ⟨rfl, hg.below hb hg.lt, ChgG.of_below hb⟩
theorem dput_any (R m h : Nat) (i : Int) (s : Nat → EntS) (x0 x1 : Int) (hh : h < 18446744073709551616) (w : World) (hd : DW w R m s) :
    Calls Tryd.prog 46 #[.pointer (some ⟨R, 0, none⟩), .int .i64 i, .agg #[.int .u64 x0, .int .u64 x1, .int .u64 (h : Int)]] w fun e w' =>
      e = .returned (.tuple #[.bool (putB m i), .int .i64 ((fullE m i false : Nat) : Int)]) ∧ DW w' R (putM m i h) (putT m s i ⟨x0, x1, h⟩) ∧ Chg (fun b => b = R) w w' := by
  unfold putM putT putB
  by_cases hf : fullE m i false = 0
  · obtain ⟨k, rfl, hk, -⟩ := fullE_zero hf
    rw [if_pos hf, if_pos hf, hf, Int.toNat_natCast]
    refine (dput_ok R m k h s x0 x1 hh hk hf w hd).mono ?_
    rintro e w' ⟨rfl, h1, h2⟩
    exact ⟨rfl, h1, h2⟩
  · rw [if_neg hf, if_neg hf, show (fullE m i false == 0) = false by simpa using hf]
    refine (dput_bad R m i s x0 x1 h hf w hd).mono ?_
    rintro e w' ⟨rfl, hb⟩
    exact ⟨rfl, hd.below hb hd.lt, Chg.of_below hb⟩
theorem dset_any (R m : Nat) (i : Int) (s : Nat → EntS) (v : Int) (w : World) (hd : DW w R m s) :
    Calls Tryd.prog 47 #[.pointer (some ⟨R, 0, none⟩), .int .i64 i, .int .u64 v] w fun e w' =>
      e = .returned (.int .i64 ((fullE m i true : Nat) : Int)) ∧ DW w' R m (setT m s i v) ∧ Chg (fun b => b = R) w w' := by
  unfold setT
  by_cases hf : fullE m i true = 0
  · obtain ⟨k, rfl, hk, -⟩ := fullE_zero hf
    rw [if_pos hf, hf, Int.toNat_natCast]
    exact dset_ok R m k s v hk hf w hd
  · rw [if_neg hf]
    refine (dset_bad R m i s v hf w hd).mono ?_
    rintro e w' ⟨rfl, hb⟩
    exact ⟨rfl, hd.below hb hd.lt, Chg.of_below hb⟩
theorem derase_any (R m : Nat) (i : Int) (s : Nat → EntS) (w : World) (hd : DW w R m s) :
    Calls Tryd.prog 48 #[.pointer (some ⟨R, 0, none⟩), .int .i64 i] w fun e w' =>
      e = .returned (.tuple #[.bool (eraB m i), .int .i64 ((fullE m i true : Nat) : Int)]) ∧ DW w' R (eraM m i) (eraT m s i) ∧ Chg (fun b => b = R) w w' := by
  unfold eraM eraT eraB
  by_cases hf : fullE m i true = 0
  · obtain ⟨k, rfl, hk, -⟩ := fullE_zero hf
    rw [if_pos hf, if_pos hf, hf, Int.toNat_natCast]
    refine (derase_ok R m k s hk hf w hd).mono ?_
    rintro e w' ⟨rfl, h1, h2⟩
    exact ⟨rfl, h1, h2⟩
  · rw [if_neg hf, if_neg hf, show (fullE m i true == 0) = false by simpa using hf]
    refine (derase_bad R m i s hf w hd).mono ?_
    rintro e w' ⟨rfl, hb⟩
    exact ⟨rfl, hd.below hb hd.lt, Chg.of_below hb⟩
theorem GGood.putA {m : Nat} {s : Nat → EntS} (hg : GGood m s) (i : Int) (h : Nat) (x0 x1 : Int) (hh : h < 18446744073709551616) : GGood (putM m i h) (putT m s i ⟨x0, x1, h⟩) := by
  unfold putM putT
  split
  · exact hg.put _ h x0 x1 hh
  · exact hg
theorem GGood.setA {m : Nat} {s : Nat → EntS} (hg : GGood m s) (i : Int) (v : Int) : GGood m (setT m s i v) := by
  unfold setT
  split
  · exact hg.setv _ v
  · exact hg
theorem GGood.eraA {m : Nat} {s : Nat → EntS} (hg : GGood m s) (i : Int) : GGood (eraM m i) (eraT m s i) := by
  unfold eraM eraT
  split
  · exact hg.erase _
  · exact hg
end Go.Proofs.YtcmjddkljmfklaaDoor
