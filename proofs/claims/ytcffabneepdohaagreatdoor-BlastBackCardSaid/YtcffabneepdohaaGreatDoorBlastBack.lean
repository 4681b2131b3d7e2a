/-
  A world of bits is one of words: what holds in the one holds in the other one.
  No condition of ours: every input that the row reads; the listed tables are tied to the program's text by the card.
-/
import Derived.Test.YtcffabneepdohaaGreatDoorRows
import Derived.Test.YtcffabneepdohaaGreatDoorCards
import Derived.Test.YtcffabneepdohaaGreatDoorTie
import Derived.Test.YtcffabneepdohaaGreatDoorBlastBackQ23
import Derived.Lay
import Derived.SevenTiedAt
set_option linter.unusedSimpArgs false
set_option linter.unusedVariables false
namespace Go.Proofs.YtcffabneepdohaaGreatDoor.blastBack
open Go.ChangeShapes Go.WideShapes Go.ChangeAt Go.RowKit

theorem own : ownKnob Tryz.prog.godebug = none := by kernel_rfl
theorem g1 : Tryz.prog.globalNamed "math/bits.deBruijn32tab" = some 1 := by kernel_rfl
theorem g2 : Tryz.prog.globalNamed "math/bits.deBruijn64tab" = some 2 := by kernel_rfl
theorem g0 : Tryz.prog.globalNamed "internal/strconv.uint64pow10" = some 0 := by kernel_rfl
theorem has_block {W : World} {name : String} {g : Nat} {cs : Array Value} (hg : Tryz.prog.globalNamed name = some g) (h : W.var? Tryz.prog name = some cs) : g < W.heap.size := by
  unfold World.var? at h
  rw [hg, Option.bind_some] at h
  rcases Nat.lt_or_ge g W.heap.size with q | q
  · exact q
  · rw [Array.getElem?_eq_none q] at h; cases h
set_option maxRecDepth 100000 in
theorem glob {W : World} (h : laidMetH Tryz.prog Rows.blastBackRow.laid W) : Go.Aev.GlobOk W := by
  rw [MakeChecks.laidMetH_plain _ _ _ (by kernel_rfl)] at h
  obtain ⟨ps, ⟨ga, ta, csa, fa, pa, qa, hga, hta, hva, hda, ⟨gb, tb, csb, fb, pb, qb, hgb, htb, hvb, hdb, hc, rfl⟩, rfl⟩, hnd, hrows⟩ := h
  have hb2 := has_block g2 hvb
  have h3 : laidMet Tryz.prog [("internal/strconv.uint64pow10", Lib.tabData .u64 Lib.pow10Tab)] W :=
    ⟨qb, hc, List.Nodup.sublist ((List.sublist_append_right _ _).trans (List.sublist_append_right _ _)) hnd, fun b off hm => hrows b off (List.mem_append_right _ (List.mem_append_right _ hm))⟩
  refine ⟨Lib.tabIs_of_head (g := 0) (t := 151) (e := 134) (n := 20) g0 (by kernel_rfl) Tryz.underlying151 Tryz.underlying134 (by kernel_rfl) (by kernel_rfl) h3, ?_⟩
  show 3 ≤ W.heap.size
  omega
set_option maxRecDepth 100000 in
theorem lifted (os : Os) (started : os.Started) (H : Type) (enc : TypeId × Value → H) :
    ReturnsInHanded {} Tryz.checked os 4 .any (fun w args => (Rows.blastBackSpec.pre enc Tryz.prog Tryz.f4 [] false w args ∧ laidMetH Tryz.prog Rows.blastBackRow.laid w) ∧ sizedMet enc Tryz.prog Tryz.f4 (OpenSpec.ofChange Rows.blastBackSpec) false w args)
      (Rows.blastBackSpec.post enc Tryz.prog Tryz.f4 false true false false) := by
  refine returnsInHanded_of_change_and (C := Tryz.checked) (X := fun w _ => laidMetH Tryz.prog Rows.blastBackRow.laid w) (fun _ _ _ hh h => h.of_heap hh) own started (by kernel_rfl) Tryz.func4
    (ChangeSpec.witness_shaped (enc := enc) (C := Tryz.checked) (os := os) (X := fun w _ => laidMetH Tryz.prog Rows.blastBackRow.laid w) false (World.laidAll Tryz.prog os Rows.blastBackRow.laid) #[.agg #[.slice none 0 0, .slice none 0 0, .slice none 0 0], .agg #[.slice none 0 0]] 8 (World.laidAll_os _ _ _)
      (World.shaped_of_ZipB (by kernel_rfl) (by kernel_rfl)) (by kernel_rfl) (by kernel_rfl) (by kernel_rfl)
      (by rw [MakeChecks.laidMetH_plain _ _ _ (by kernel_rfl)]; exact laidMet_laidAll _ (by kernel_rfl) (by kernel_rfl))) ?_
  intro W base args ds gs before hval hW _ hsz hL _
  exact Go.Aev.law_contract (n := 19) (An := Go.Aev.Gen.ann) (tb := 4) Go.Aev.Gen.hm (by kernel_rfl) (by kernel_rfl) Tryz.func4 rfl (by kernel_rfl) Tryz.underlying4 (by kernel_rfl) (by kernel_rfl) (by kernel_rfl) rfl
    (fun ds h => by
      rw [Tryz.params4] at h
      rcases ds with _ | ⟨d0, _ | ⟨d1, _ | ⟨d2, r⟩⟩⟩ <;> simp at h
      rfl) Go.Aev.Gen.claim4 W base args ds gs before hval hW hsz Go.Aev.Gen.kX (glob hL)
theorem over : Rows.BlastBackSaid :=
  OpenClaim.holds_of_wide 4 Tryz.f4 rfl rfl rfl rfl rfl rfl rfl ⟨rfl, rfl, rfl, rfl, rfl⟩ rfl rfl rfl rfl rfl (by kernel_rfl) Tryz.func4 (by kernel_rfl)
    (of_decide_eq_true (by kernel_rfl)) (by unfold Func.isWrapper; first | (rw [if_pos (by decide +kernel)]; kernel_rfl) | (rw [if_neg (by decide +kernel)]; exact ⟨rfl, rfl⟩))
    (fun os started H enc _ => lifted os started H enc)
theorem proved : Rows.BlastBackCardSaid :=
  Claim7.holds_tied_plain_at .later [] [.data, .data, .data] true (true, "b3223f989f937b82cdaa13576dfebedd8fbe6ca67ef28a8e777b9863086478f8") false
    over (fun _ h => by cases h) (by kernel_rfl) (fun _ h => by cases h) blastBack_row_tie rfl ⟨rfl, rfl⟩ (by kernel_rfl) rfl
    (fun f fn hf hfn => by
      obtain rfl : f = 4 := Option.some.inj ((show Tryz.prog.funcNamed "umpirage/umpiragelaw6.BlastBack" = some 4 by kernel_rfl).symm.trans hf) |>.symm
      obtain rfl : fn = Tryz.f4 := (Option.some.inj (Tryz.func4.symm.trans hfn)).symm
      exact ⟨by kernel_rfl, fun j t ht => by
        rw [Tryz.params4] at ht
        have hm : t ∈ [26, 29] := by simpa using Array.mem_of_getElem? ht
        have hall : ([26, 29].all fun u => !Tryz.prog.wantsStandIn u) = true := by kernel_rfl
        exact (show Tryz.prog.wantsStandIn t = false by simpa using List.all_eq_true.1 hall t hm)⟩)
    (by kernel_rfl)
#print axioms proved
end Go.Proofs.YtcffabneepdohaaGreatDoor.blastBack
