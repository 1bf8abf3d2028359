/- The heap: drop, Free. -/
import Derived.Test.YtoancpjlkhijiaaHeap18
namespace Go.Proofs.Ytoancpjlkhijiaa
open Go.RowKit
set_option linter.unusedVariables false
def DropPost (h : Nat) (H : HeapM) (ε : Int → Int) (F : List Nat) (w : World) (n : Int) (o : ObjM) (e : Ending) (w' : World) : Prop :=
  ∃ sv, e = .returned sv ∧ slIs w' 26 3 V.cells sv o.vals ∧ (∀ b, sv.ownBlock = some b → w.heap.size ≤ b) ∧ ∃ F', HeapIs w' h (H.drop n) ε F' ∧ (∀ x ∈ F', x ∈ F) ∧ Outside F w w'
set_option maxRecDepth 100000 in
set_option maxHeartbeats 800000 in
theorem heap_drop (w : World) (h : Nat) (n : Int) (hn : okI n) {H : HeapM} {ε : Int → Int} {F : List Nat} {o : ObjM} (hh : HeapIs w h H ε F) (g : getL H.objs n = some o) (nk : (H.objs.map (·.1)).Nodup) (hlen : o.items.length ≤ 4194304) :
    Calls Try.prog 51 #[.pointer (some ⟨h, 0, none⟩), .int .i64 n] w (DropPost h H ε F w n o) := by
  obtain ⟨ma, mr, b, d, rv, G, obs, r, D⟩ := hh.dropAt g
  have DD := Lib.hid D
  obtain ⟨kl, hkl⟩ := keyOfI hn
  have HKL := Lib.hid hkl
  have hz : ∀ W, (zeroValue 77).run Try.prog W = .ok (.pointer none) W := fun W => Try.zeroValue77 W
  have hlk : (Instr.lookup 72 (.map (some ma)) (.int .i64 n) false).run Try.prog w = .ok (.pointer (some ⟨b, 0, none⟩)) w := by
    have := D.hm.look ekI_inj keyI Try.underlying72 (hz _) hkl false
    rw [D.hb] at this; exact this
  have c0 := cellAt D.hd 0 (v := .map (some ma)) rfl
  have c1 := cellAt D.hd 1 (v := .map (some mr)) rfl
  have HV := Lib.hid (heap_values w b d rv G o D.ho D.hi D.hdict hlen)
  have HG := Lib.hid (And.intro g nk)
  clear D hz hkl hlen g nk
  go_enter Try.func51, Try.ntmps51
  go_wp2_with fail
  refine HV.out.mono ?_
  rintro e w2 ⟨sv, rfl, s1, s2, s3⟩
  have C1 := cellBelow c1 s3
  have hm2 := DD.out.hr.of_block (s3.block mr DD.out.hr.lt)
  obtain ⟨sa, scap, rfl⟩ := s1.form
  go_wp2_with fail
  refine (heap_hold w2 h mr (-1) _ o.vals r C1 hm2 s1.sees').mono ?_
  rintro e w3 ⟨⟨_, rfl⟩, hm3, ho3⟩
  have hO3 : Outside [mr] w w3 := (Outside.of_below s3 _).trans ho3 (Grow.refl _ _)
  have hma3 : mapIs w3 Try.prog 2 ekI exP ma obs := DD.out.hm.of_block (hO3.block ma DD.out.hm.lt (by simpa using DD.out.ne.2.2))
  have C0 : w3.cell? ⟨h, 0, none⟩ = some (.map (some ma)) := hO3.cell c0 (by simpa using DD.out.ne.2.1)
  have hs3 : slIs w3 26 3 V.cells (.slice sa o.vals.length scap) o.vals := s1.of_block fun g hg => ho3.block g (s1.lt g hg) (by
    have := s2 g hg
    have := DD.out.hr.lt
    simp only [List.mem_singleton]; omega)
  have HI := Lib.hid (And.intro hm3 (And.intro hO3 (And.intro hs3 s2)))
  have HMA := Lib.hid hma3
  clear c0 c1 C1 hm2 hm3 ho3 hO3 hma3 hs3 s1 s2 s3 hlk
  go_wp2_with (at_delete; refine wpList_delete_is rfl _ _ 72 rfl 77 ekI_inj keyI Try.underlying72 rfl HMA.out (k := n) rfl HKL.out ?_; intro w4 r1 r2)
  go_ret
  obtain ⟨hm3, hO3, hs3, s2⟩ := HI.out
  have hO4 : Outside [ma, mr] w w4 := (hO3.mono (by simp)).grown r2.2 (fun b hb => by cases hb; exact .inl (by simp))
  have h4 : ∀ k, k < w3.heap.size → k ≠ ma → w4.heap[k]? = w3.heap[k]? := fun k hk hne => r2.2.block k hk (by simpa using hne)
  refine ⟨_, rfl, ?_, s2, ?_⟩
  · refine hs3.of_block fun g hg => h4 g (hs3.lt g hg) ?_
    have := s2 g hg
    have := DD.out.hm.lt
    omega
  · refine DD.out.shut w4 _ ε r1 (hm3.of_block (h4 mr hm3.lt (fun e => DD.out.ne.2.2 e.symm))) (fun m => ?_) hO4
    rw [cntL_holdL (-1) o.vals DD.out.hc m]
    congr 1
    have := cnt_delObj HG.out.2 HG.out.1 m
    show _ = cnt (allVals (delL H.objs n)) m + ε m
    omega
end Go.Proofs.Ytoancpjlkhijiaa
