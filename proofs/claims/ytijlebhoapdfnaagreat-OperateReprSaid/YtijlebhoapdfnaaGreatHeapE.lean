import Derived.Test.YtijlebhoapdfnaaGreatHeapD
import Derived.Deep.LoopGhost
/- The heap: drop, Free. -/
namespace Go.Proofs.YtijlebhoapdfnaaGreat
set_option linter.unusedSimpArgs false
open Go.RowKit
set_option linter.unusedVariables false
end Go.Proofs.YtijlebhoapdfnaaGreat
/- The heap: Free. -/
namespace Go.Proofs.YtijlebhoapdfnaaGreat
set_option linter.unusedSimpArgs false
open Go.RowKit
set_option linter.unusedVariables false
/-- A slice lies in none of these blocks. -/
def notIn (F : List Nat) (sv : Value) : Prop := ∀ g o n c, sv = .slice (some ⟨g, o, none⟩) n c → 0 < n → g ∉ F
theorem SeesV.outside {w w' : World} {F : List Nat} {sv : Value} {l : List V} (h : SeesV w sv l) (hn : notIn F sv) (ho : Outside F w w') : SeesV w' sv l := by
 obtain ⟨a, cap, h1, h2, h3, h4⟩ := h
 refine ⟨a, cap, h1, h2, h3, ?_⟩
 rcases h4 with h4 | ⟨g, o, h5, h6⟩
 ·
  exact .inl h4
 ·
  refine .inr ⟨g, o, h5, fun i v hv => ?_⟩
  have hg : g ∉ F := hn g o l.length cap (by rw [h1, h5]) (by have := (List.getElem?_eq_some_iff.1 hv).1; omega)
  obtain ⟨k0, k1, k2⟩ := h6 i v hv
  exact ⟨ho.cell k0 hg, ho.cell k1 hg, ho.cell k2 hg⟩
/-- The slice sv shows just the numbers l. -/
def SeesN (w : World) (sv : Value) (l : List Int) : Prop :=
 ∃ a cap, sv = .slice a l.length cap ∧ l.length ≤ cap ∧ cap ≤ maxLen ∧ (l = [] ∨ ∃ g o, a = some ⟨g, o, none⟩ ∧ ∀ i n, l[i]? = some n → w.cell? ⟨g, o + i, none⟩ = some (.int .i64 n))
theorem SeesN.outside {w w' : World} {F : List Nat} {sv : Value} {l : List Int} (h : SeesN w sv l) (hn : notIn F sv) (ho : Outside F w w') : SeesN w' sv l := by
 obtain ⟨a, cap, h1, h2, h3, h4⟩ := h
 refine ⟨a, cap, h1, h2, h3, ?_⟩
 rcases h4 with h4 | ⟨g, o, h5, h6⟩
 ·
  exact .inl h4
 ·
  exact .inr ⟨g, o, h5, fun i v hv => ho.cell (h6 i v hv) (hn g o l.length cap (by rw [h1, h5]) (by have := (List.getElem?_eq_some_iff.1 hv).1; omega))⟩
def HeapM.freeAll (H : HeapM) (l : List Int) : HeapM := l.foldl HeapM.drop H
def HeapM.freed : HeapM → List Int → Nat
 | _, [] => 0
 | H, n :: l => (getL H.objs n).isSome.toNat + (H.drop n).freed l
def HeapM.Fits (H : HeapM) : Prop := ∀ p ∈ H.objs, p.2.items.length ≤ 4194304
structure HeapM.Fine (H : HeapM) : Prop where
 nk : (H.objs.map (·.1)).Nodup
 fits : H.Fits
theorem HeapM.Fine.drop {H : HeapM} (h : H.Fine) (n : Int) : (H.drop n).Fine := ⟨nodup_delL h.nk n, fun p hp => h.fits p (List.mem_filter.1 hp).1⟩
theorem HeapM.Fine.freeAll {H : HeapM} (h : H.Fine) (l : List Int) : (H.freeAll l).Fine := by
 induction l generalizing H with
 | nil => exact h
 | cons n l ih => exact ih (h.drop n)
end Go.Proofs.YtijlebhoapdfnaaGreat
/- The heap: Live. -/
namespace Go.Proofs.YtijlebhoapdfnaaGreat
set_option linter.unusedSimpArgs false
open Go.RowKit
set_option linter.unusedVariables false
def HeapM.live (H : HeapM) (k : Int) : Nat := (H.objs.filter fun p => decide (k = 0) || decide (p.2.kind = k)).length
end Go.Proofs.YtijlebhoapdfnaaGreat
/- The heap: Sweep's closure. -/
namespace Go.Proofs.YtijlebhoapdfnaaGreat
set_option linter.unusedSimpArgs false
open Go.RowKit
set_option linter.unusedVariables false
/-- In the midst of a sweep: the heap, the box of its pointer, the box of what waits. -/
structure Sw (w : World) (h : Nat) (H : HeapM) (ε : Int → Int) (F : List Nat) (bh bw : Nat) (l : List Int) (W : World) : Prop where
 bh : Boxed W bh 27 (.pointer (some ⟨h, 0, none⟩))
 bw : ∃ v, Boxed W bw 95 v ∧ slIs W 2 1 intCell v l ∧ (∀ b, v.ownBlock = some b → w.heap.size ≤ b)
 hh : ∃ F', HeapIs W h H ε F' ∧ (∀ x ∈ F', x ∈ F)
 out : Outside F w W
def isLoose (H : HeapM) (ε : Int → Int) (n : Int) : Bool := (getL H.objs n).isSome && decide (cnt (allVals H.objs) n + ε n = 0)
end Go.Proofs.YtijlebhoapdfnaaGreat
/- Sweeping, plainly. -/
namespace Go.Proofs.YtijlebhoapdfnaaGreat
set_option linter.unusedSimpArgs false
open Go.RowKit
set_option linter.unusedVariables false
/-- Each of S is an object, and is held, or one of S holds it. -/
def Sup (H : HeapM) (E : List V) (S : Int → Prop) : Prop := ∀ n, S n → (getL H.objs n).isSome ∧ (0 < cnt E n ∨ ∃ m o, S m ∧ getL H.objs m = some o ∧ 0 < cnt o.vals n)
def Kept (H : HeapM) (E : List V) (n : Int) : Prop := ∃ S, Sup H E S ∧ S n
noncomputable def HeapM.sweep (H : HeapM) (E : List V) : HeapM := { H with objs := H.objs.filter fun p => @decide (Kept H E p.1) (Classical.propDecidable _) }
structure SwInv (H : HeapM) (E : List V) (Hk : HeapM) (freed : Nat) : Prop where
 sub : ∃ f, Hk.objs = H.objs.filter f
 last : Hk.last = H.last
 keep : ∀ n, Kept H E n → (getL Hk.objs n).isSome
 freed : freed + Hk.objs.length = H.objs.length
theorem getL_filter {K X : Type} [DecidableEq K] {l : List (K × X)} (hn : (l.map (·.1)).Nodup) (f : K × X → Bool) {k : K} {x : X} (h : getL (l.filter f) k = some x) : getL l k = some x :=
 getL_of_mem hn (List.mem_filter.1 (getL_mem h)).1
theorem SwInv.nk {H Hk : HeapM} {E : List V} {f : Nat} (I : SwInv H E Hk f) (hn : (H.objs.map (·.1)).Nodup) : (Hk.objs.map (·.1)).Nodup := by
 obtain ⟨g, hg⟩ := I.sub; rw [hg]; exact (List.filter_sublist.map _).nodup hn
theorem cnt_mem {l : List (Int × ObjM)} {n : Int} {o : ObjM} {m : Int} (h : (n, o) ∈ l) : cnt o.vals m ≤ cnt (allVals l) m := by
 induction l with
 | nil => simp at h
 | cons p r ih =>
  have hc : allVals (p :: r) = p.2.vals ++ allVals r := by simp [allVals]
  rw [hc, cnt_append]
  have h1 := cnt_nonneg p.2.vals m
  have h2 := cnt_nonneg (allVals r) m
  rcases List.mem_cons.1 h with h | h
  ·
   subst h; simp only; omega
  ·
   have := ih h; omega
theorem isLoose_iff {H : HeapM} {ε : Int → Int} {n : Int} : isLoose H ε n = true ↔ (getL H.objs n).isSome = true ∧ cnt (allVals H.objs) n + ε n = 0 := by simp [isLoose]
theorem SwInv.drop {H Hk : HeapM} {E : List V} {f : Nat} (I : SwInv H E Hk f) (hn : (H.objs.map (·.1)).Nodup) {n : Int} (hl : isLoose Hk (cnt E) n = true) : SwInv H E (Hk.drop n) (f + 1) := by
 obtain ⟨hs, h0⟩ := isLoose_iff.1 hl
 obtain ⟨o, ho⟩ := Option.isSome_iff_exists.1 hs
 have hnk := I.nk hn
 obtain ⟨g, hg⟩ := I.sub
 refine ⟨⟨fun p => g p && !decide (p.1 = n), ?_⟩, I.last, fun m hm => ?_, ?_⟩
 ·
  show delL Hk.objs n = _
  rw [hg]; unfold delL; rw [List.filter_filter]
  exact List.filter_congr fun p _ => by rw [Bool.and_comm]
 ·
  show (getL (delL Hk.objs n) m).isSome = true
  rw [getL_delL]
  by_cases e : m = n
  ·
   subst e
   exfalso
   obtain ⟨S, hS, hSm⟩ := hm
   have e1 := cnt_nonneg E m
   have e2 := cnt_nonneg (allVals Hk.objs) m
   rcases (hS m hSm).2 with h | ⟨q, oq, hq, hoq, hc⟩
   ·
    omega
   ·
    have hqk := I.keep q ⟨S, hS, hq⟩
    obtain ⟨o', ho'⟩ := Option.isSome_iff_exists.1 hqk
    have h3 := getL_filter hn g (by rw [← hg]; exact ho')
    rw [hoq] at h3
    have e3 := Option.some.inj h3
    subst e3
    have := cnt_mem (m := m) (getL_mem ho')
    omega
  ·
   rw [if_neg e]; exact I.keep m hm
 ·
  show f + 1 + (delL Hk.objs n).length = _
  have := delL_length hnk ho
  have := I.freed
  omega
/-- What waits: all that is loose, but what is yet to be looked at; and nothing else that is there. -/
structure WaitInv (H : HeapM) (E : List V) (todo : Int → Prop) (l : List Int) : Prop where
 all : ∀ n, isLoose H (cnt E) n = true → n ∈ l ∨ todo n
 only : ∀ n ∈ l, (getL H.objs n).isSome = true → isLoose H (cnt E) n = true
/-- One that waited is freed: what it held is looked at. -/
theorem WaitInv.drop {H : HeapM} {E : List V} {l : List Int} {n : Int} {o : ObjM} (I : WaitInv H E (fun _ => False) (l ++ [n])) (hn : (H.objs.map (·.1)).Nodup) (h : getL H.objs n = some o) :
  WaitInv (H.drop n) E (fun m => ∃ v ∈ o.vals, v.kind = 4 ∧ v.n = m) l := by
 have hc := fun m => cnt_delObj hn h m
 constructor
 ·
  intro m hm
  obtain ⟨h1, h2⟩ := isLoose_iff.1 hm
  have h1' : (getL (delL H.objs n) m).isSome = true := h1
  rw [getL_delL] at h1'
  have hmn : m ≠ n := by intro e; rw [if_pos e] at h1'; cases h1'
  rw [if_neg hmn] at h1'
  have h2' : cnt (allVals (delL H.objs n)) m + cnt E m = 0 := h2
  rw [hc m] at h2'
  by_cases h3 : 0 < cnt o.vals m
  ·
   exact .inr (cnt_pos.1 h3)
  ·
   have h4 := cnt_nonneg o.vals m
   rcases I.all m (isLoose_iff.2 ⟨h1', by omega⟩) with h5 | h5
   ·
    rcases List.mem_append.1 h5 with h6 | h6
    ·
     exact .inl h6
    ·
     simp at h6; exact absurd h6 hmn
   ·
    exact h5.elim
 ·
  intro m hm hs
  have hs' : (getL (delL H.objs n) m).isSome = true := hs
  rw [getL_delL] at hs'
  have hmn : m ≠ n := by intro e; rw [if_pos e] at hs'; cases hs'
  rw [if_neg hmn] at hs'
  obtain ⟨_, h2⟩ := isLoose_iff.1 (I.only m (List.mem_append_left _ hm) hs')
  refine isLoose_iff.2 ⟨hs, ?_⟩
  show cnt (allVals (delL H.objs n)) m + cnt E m = 0
  have h5 := hc m
  have h3 := cnt_nonneg o.vals m
  have h4 := cnt_nonneg (allVals (delL H.objs n)) m
  have h6 := cnt_nonneg E m
  omega
def HeapM.weight (H : HeapM) : Nat := (allVals H.objs).length + H.objs.length
end Go.Proofs.YtijlebhoapdfnaaGreat
