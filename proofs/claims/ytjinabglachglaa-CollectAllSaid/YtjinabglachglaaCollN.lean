/- collect: a nil heap. -/
import Derived.Test.YtjinabglachglaaColl2
import Derived.Test.YtjinabglachglaaNilM
namespace Go.Proofs.Ytjinabglachglaa
set_option linter.unusedSimpArgs false
open Go.RowKit
set_option linter.unusedVariables false
theorem HAns.nil (w : World) : HAns w none ⟨[], 0⟩ := by
  refine ⟨fun W hb => ?_, fun W hb v => ?_, fun W hb n hn hl => ?_, fun W hb n hn => ?_⟩
  · exact (nil_all W).mono fun e W' ⟨e1, e2⟩ => ⟨_, e1, World.ownsRow_nil _ _ _ _, by simp [Value.ownBlock], e2⟩
  · refine (nil_kind W v).mono fun e W' ⟨e1, e2⟩ => ⟨?_, e2⟩
    rw [e1]
    have : (⟨[], 0⟩ : HeapM).of v = none := by unfold HeapM.of; split <;> rfl
    unfold HeapM.kind; rw [this]; rfl
  · cases hl
  · exact (nil_refs W (V.ref n hn)).mono fun e W' ⟨e1, e2⟩ => ⟨_, e1, World.ownsRow_nil _ _ _ _, by simp [Value.ownBlock], e2⟩
theorem garbage_empty (E : List V) (k : Int) : (⟨[], k⟩ : HeapM).garbageM E = [] := by unfold HeapM.garbageM; rfl
theorem reached_empty (E : List V) (k : Int) : (⟨[], k⟩ : HeapM).reachedM E = [] := by unfold HeapM.reachedM; rfl
theorem collect_empty (E : List V) (k : Int) : (⟨[], k⟩ : HeapM).collect E = ⟨[], k⟩ := by
  have h : (⟨[], k⟩ : HeapM).sweep E = ⟨[], k⟩ := by unfold HeapM.sweep; rfl
  unfold HeapM.collect
  rw [h, garbage_empty]; rfl
set_option maxRecDepth 100000 in
set_option maxHeartbeats 1600000 in
theorem collect_nil (W : World) (a : Option Addr) (c : Nat) (E : List V) (hE : E.length ≤ 4000000) (hs : SeesV W (.slice a E.length c) E) :
    Calls Try.prog 15 #[.pointer none, .slice a E.length c] W fun e W' => e = .returned (.tuple #[.int .i64 0, .int .i64 0]) ∧ Below W.heap.size W W' := by
  have HS := Lib.hid hs
  have HE := Lib.hid hE
  clear hs hE
  go_enter Try.func15, Try.ntmps15
  go_wp2_with fail
  refine (nil_live _ 6).mono ?_
  rintro e w1 ⟨rfl, b1⟩
  have B1 := Lib.hid b1
  clear b1
  go_wp2_with fail
  refine (nil_sweep _ _ _ _).mono ?_
  rintro e w2 ⟨rfl, b2⟩
  have B2 := Lib.hid (Below.next B1.out b2 B1.out.size)
  clear b2 B1
  have GB := Lib.hid (garbage_is w2 none (HAns.nil w2) good_empty (by omega) (by simp [HeapM.Kinds]) _ E (HS.out.keep fun p v hp => cellBelow hp B2.out) HE.out)
  go_wp2_with fail
  refine GB.out.mono ?_
  rintro e w3 ⟨v, rfl, S3⟩
  rw [garbage_empty] at S3
  have FR := Lib.hid (nil_free w3 v [] (SeesN.of_slIs (S3.row 0 rfl)) (by simp))
  have B3 := Lib.hid (Below.next B2.out S3.below B2.out.size)
  clear S3 B2 GB
  go_wp2_with fail
  refine FR.out.mono ?_
  rintro e w4 ⟨rfl, b4⟩
  have B4 := Lib.hid (Below.next B3.out b4 B3.out.size)
  clear b4 B3 FR
  go_wp2_with fail
  refine (nil_live _ 6).mono ?_
  rintro e w5 ⟨rfl, b5⟩
  have B5 := Lib.hid (Below.next B4.out b5 B4.out.size)
  clear b5 B4
  go_wp2
  exact bodyPost_ret (v := .tuple #[.int .i64 0, .int .i64 0]) (by simp [results, Try.results15, go_sem]) rfl ⟨rfl, B5.out⟩
end Go.Proofs.Ytjinabglachglaa
