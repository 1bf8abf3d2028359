/- The heap: counting. -/
import Derived.Test.YtellmfimmghidaaGreatDictA
namespace Go.Proofs.YtellmfimmghidaaGreat
set_option linter.unusedSimpArgs false
open Go.RowKit
set_option linter.unusedVariables false
def exI (n : Int) : Value := .int .i64 n
def cntL (r : List (Int × Int)) (n : Int) : Int := (getL r n).getD 0
def hold1 (d : Int) (r : List (Int × Int)) (v : V) : List (Int × Int) := if v.kind = 4 then putL r v.n (wrap64 (cntL r v.n + d)) else r
def holdL (d : Int) (l : List V) (r : List (Int × Int)) : List (Int × Int) := l.foldl (hold1 d) r
theorem heap_hold (w : World) (h mr : Nat) (d : Int) (sv : Value) (l : List V) (r : List (Int × Int)) (h1 : w.cell? ⟨h, 1, none⟩ = some (.map (some mr))) (hm : mapIs w Tryz.prog 2 ekI exI mr r) (hs : SeesV w sv l) :
    Calls Tryz.prog 68 #[.pointer (some ⟨h, 0, none⟩), .int .i64 d, sv] w fun e w' => (∃ v, e = .returned v) ∧ mapIs w' Tryz.prog 2 ekI exI mr (holdL d l r) ∧ Outside [mr] w w' := by
  obtain ⟨a, cap, rfl, hcap, hmx, hcs⟩ := hs
  have hne := hm.ne_cell h1
  have hml : maxLen ≤ 9223372036854775807 := by decide
  go_enter Tryz.func68, Tryz.ntmps68
  go_wp2
  have HC := Lib.hid hcs
  clear hcs
  go_loopw [10] (fun i wr => ∃ k : Nat, k ≤ l.length ∧ i = .int .i64 k ∧ mapIs wr Tryz.prog 2 ekI exI mr (holdL d (l.take k) r) ∧ Outside [mr] w wr) (fun i _ => l.length - (intOf i).toNat)
  case atStart => exact ⟨0, by omega, rfl, hm, Outside.refl _ _⟩
  case round =>
    obtain ⟨k, hk, rfl, hmr, ho⟩ := hrel
    have h1r := ho.cell h1 (by simpa using hne)
    by_cases hlt : k < l.length
    · obtain ⟨g, o, rfl, hcc⟩ : ∃ g o, a = some ⟨g, o, none⟩ ∧ ∀ i v, l[i]? = some v → w.cell? ⟨g, o + i * 3, none⟩ = some (.int .i64 v.kind) ∧ w.cell? ⟨g, o + i * 3 + 1, none⟩ = some (.int .i64 v.n) ∧ w.cell? ⟨g, o + i * 3 + 2, none⟩ = some (.string v.s) := by
        rcases HC.out with h | h
        · subst h; simp at hlt
        · exact h
      obtain ⟨v, hv⟩ : ∃ v, l[k]? = some v := ⟨l[k], by simp [hlt]⟩
      obtain ⟨d0, d1, d2⟩ := hcc k v hv
      have e0 := ho.cell d0 (by simpa using hm.ne_cell d0)
      have e1 := ho.cell d1 (by simpa using hm.ne_cell d1)
      have e2 := ho.cell d2 (by simpa using hm.ne_cell d2)
      clear hcc d0 d1 d2
      have hsz := ho.size
      have hmlt := hmr.lt
      obtain ⟨kl, hkl⟩ := keyOfI v.hn
      have hz : ∀ W, (zeroValue 3).run Tryz.prog W = .ok (.int .i64 0) W := fun W => Tryz.zeroValue3 W
      have hlk : ∀ o, (Instr.lookup 81 (.map (some mr)) (.int .i64 v.n) false).run Tryz.prog (wr.alloc o).drew = .ok (.int .i64 (cntL (holdL d (l.take k) r) v.n)) (wr.alloc o).drew := fun o => by
        have := ((hmr.alloc o).drewN 1).look ekI_inj keyI Tryz.underlying81 (hz _) hkl false
        simp only [cntL]
        cases hg : getL (holdL d (l.take k) r) v.n with
        | none => rw [hg] at this; exact this
        | some x => rw [hg] at this; exact this
      have hup : ∀ o, ∃ w', (Instr.mapUpdate 81 (.map (some mr)) (.int .i64 v.n) (.int .i64 (wrap64 (cntL (holdL d (l.take k) r) v.n + d)))).run Tryz.prog (wr.alloc o).drew = .ok () w' ∧ mapIs w' Tryz.prog 2 ekI exI mr (putL (holdL d (l.take k) r) v.n (wrap64 (cntL (holdL d (l.take k) r) v.n + d))) ∧ onlyAt (wr.alloc o).drew w' mr := fun o =>
        ((hmr.alloc o).drewN 1).update ekI_inj keyI Tryz.underlying81 hkl _
      have hst : holdL d (l.take (k + 1)) r = hold1 d (holdL d (l.take k) r) v := by
        rw [List.take_add_one, hv, holdL, holdL, List.foldl_append]; rfl
      rw [hold1] at hst
      have HM := Lib.hid hmr
      generalize holdL d (l.take k) r = rk at hlk hup hst HM
      obtain ⟨c, hcd⟩ : ∃ c, cntL rk v.n = c := ⟨_, rfl⟩
      rw [hcd] at hup hlk hst
      have HS := Lib.hid hst
      obtain ⟨f, hf⟩ : ∃ f : Obj → World, ∀ o, (Instr.mapUpdate 81 (.map (some mr)) (.int .i64 v.n) (.int .i64 (wrap64 (c + d)))).run Tryz.prog (wr.alloc o).drew = .ok () (f o) ∧ mapIs (f o) Tryz.prog 2 ekI exI mr (putL rk v.n (wrap64 (c + d))) ∧ onlyAt (wr.alloc o).drew (f o) mr :=
        ⟨fun o => (hup o).choose, fun o => (hup o).choose_spec⟩
      have hrun := fun o => (hf o).1
      have HF := Lib.hid hf
      have hhlt := World.block_lt_of_cell? wr _ h1r
      clear hz hkl hcd hm hmr hst hf hup
      go_wp2
      · go_region
        go_wp2
        have hk4 : v.kind = 4 := by simp_all
        have hf := HF.out (.cells #[.int .i64 v.kind, .int .i64 v.n, .string v.s] 29)
        have hst := HS.out
        rw [if_pos hk4] at hst
        refine ⟨⟨k + 1, by omega, ?_, ?_, ?_⟩, ?_⟩
        · rfl
        · rw [hst]; exact hf.2.1
        · exact ((ho.alloc _).drew).grown hf.2.2.2 (fun b hb => by simp at hb; subst hb; exact .inl (by simp))
        · simp [intOf]; omega
      · have hk4 : ¬ v.kind = 4 := by simp_all
        have hst := HS.out
        rw [if_neg hk4] at hst
        refine ⟨⟨k + 1, by omega, ?_, ?_, ?_⟩, ?_⟩
        · rfl
        · rw [hst]; exact HM.out.alloc _
        · exact ho.alloc _
        · simp [intOf]; omega
    · have : k = l.length := by omega
      subst this
      go_wp2
      go_returns
      rw [List.take_length] at hmr
      exact ⟨⟨_, rfl⟩, hmr, ho⟩
end Go.Proofs.YtellmfimmghidaaGreat
