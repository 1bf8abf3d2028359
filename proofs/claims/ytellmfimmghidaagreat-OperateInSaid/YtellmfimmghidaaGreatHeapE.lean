import Derived.Test.YtellmfimmghidaaGreatHeapD
import Derived.Deep.LoopGhost
/- The heap: drop, Free. -/
namespace Go.Proofs.YtellmfimmghidaaGreat
set_option linter.unusedSimpArgs false
open Go.RowKit
set_option linter.unusedVariables false
def DropPost (h : Nat) (H : HeapM) (ε : Int → Int) (F : List Nat) (w : World) (n : Int) (o : ObjM) (e : Ending) (w' : World) : Prop :=
  ∃ sv, e = .returned sv ∧ slIs w' 29 3 V.cells sv o.vals ∧ (∀ b, sv.ownBlock = some b → w.heap.size ≤ b) ∧ ∃ F', HeapIs w' h (H.drop n) ε F' ∧ (∀ x ∈ F', x ∈ F) ∧ Outside F w w'
end Go.Proofs.YtellmfimmghidaaGreat
/- The heap: Free. -/
namespace Go.Proofs.YtellmfimmghidaaGreat
set_option linter.unusedSimpArgs false
open Go.RowKit
set_option linter.unusedVariables false
/-- A slice lies in none of these blocks. -/
def notIn (F : List Nat) (sv : Value) : Prop := ∀ g o n c, sv = .slice (some ⟨g, o, none⟩) n c → 0 < n → g ∉ F
theorem SeesV.outside {w w' : World} {F : List Nat} {sv : Value} {l : List V} (h : SeesV w sv l) (hn : notIn F sv) (ho : Outside F w w') : SeesV w' sv l := by
  obtain ⟨a, cap, h1, h2, h3, h4⟩ := h
  refine ⟨a, cap, h1, h2, h3, ?_⟩
  rcases h4 with h4 | ⟨g, o, h5, h6⟩
  · exact .inl h4
  · refine .inr ⟨g, o, h5, fun i v hv => ?_⟩
    have hg : g ∉ F := hn g o l.length cap (by rw [h1, h5]) (by have := (List.getElem?_eq_some_iff.1 hv).1; omega)
    obtain ⟨k0, k1, k2⟩ := h6 i v hv
    exact ⟨ho.cell k0 hg, ho.cell k1 hg, ho.cell k2 hg⟩
/-- The slice sv shows just the numbers l. -/
def SeesN (w : World) (sv : Value) (l : List Int) : Prop :=
  ∃ a cap, sv = .slice a l.length cap ∧ l.length ≤ cap ∧ cap ≤ maxLen ∧ (l = [] ∨ ∃ g o, a = some ⟨g, o, none⟩ ∧ ∀ i n, l[i]? = some n → w.cell? ⟨g, o + i, none⟩ = some (.int .i64 n))
theorem SeesN.outside {w w' : World} {F : List Nat} {sv : Value} {l : List Int} (h : SeesN w sv l) (hn : notIn F sv) (ho : Outside F w w') : SeesN w' sv l := by
  obtain ⟨a, cap, h1, h2, h3, h4⟩ := h
  refine ⟨a, cap, h1, h2, h3, ?_⟩
  rcases h4 with h4 | ⟨g, o, h5, h6⟩
  · exact .inl h4
  · exact .inr ⟨g, o, h5, fun i v hv => ho.cell (h6 i v hv) (hn g o l.length cap (by rw [h1, h5]) (by have := (List.getElem?_eq_some_iff.1 hv).1; omega))⟩
def HeapM.freeAll (H : HeapM) (l : List Int) : HeapM := l.foldl HeapM.drop H
def HeapM.freed : HeapM → List Int → Nat
  | _, [] => 0
  | H, n :: l => (getL H.objs n).isSome.toNat + (H.drop n).freed l
theorem HeapM.freed_append (H : HeapM) (l : List Int) (n : Int) : H.freed (l ++ [n]) = H.freed l + (getL (H.freeAll l).objs n).isSome.toNat := by
  induction l generalizing H with
  | nil => simp [HeapM.freed, HeapM.freeAll]
  | cons m l ih => simp only [List.cons_append, HeapM.freed, ih (H.drop m)]; simp only [HeapM.freeAll, List.foldl_cons]; omega
theorem HeapM.freed_le (H : HeapM) (l : List Int) : H.freed l ≤ l.length := by
  induction l generalizing H with
  | nil => simp [HeapM.freed]
  | cons m l ih => have := ih (H.drop m); simp only [HeapM.freed, List.length_cons]; cases (getL H.objs m).isSome <;> simp <;> omega
theorem HeapM.drop_none {H : HeapM} {n : Int} (h : getL H.objs n = none) : H.drop n = H := by unfold HeapM.drop; rw [delL_none h]
def HeapM.Fits (H : HeapM) : Prop := ∀ p ∈ H.objs, p.2.items.length ≤ 4194304
structure HeapM.Fine (H : HeapM) : Prop where
  nk : (H.objs.map (·.1)).Nodup
  fits : H.Fits
theorem HeapM.Fine.drop {H : HeapM} (h : H.Fine) (n : Int) : (H.drop n).Fine := ⟨nodup_delL h.nk n, fun p hp => h.fits p (List.mem_filter.1 hp).1⟩
theorem HeapM.Fine.freeAll {H : HeapM} (h : H.Fine) (l : List Int) : (H.freeAll l).Fine := by
  induction l generalizing H with
  | nil => exact h
  | cons n l ih => exact ih (h.drop n)
def FreePost (h : Nat) (H : HeapM) (ε : Int → Int) (F : List Nat) (w : World) (ns : List Int) (e : Ending) (w' : World) : Prop :=
  e = .returned (.int .i64 (H.freed ns)) ∧ ∃ F', HeapIs w' h (H.freeAll ns) ε F' ∧ (∀ x ∈ F', x ∈ F) ∧ Outside F w w'
def FreeRel (h : Nat) (H : HeapM) (ε : Int → Int) (F : List Nat) (w : World) (ns : List Int) (k : Nat) (wr : World) : Prop :=
  ∃ F', HeapIs wr h (H.freeAll (ns.take k)) ε F' ∧ (∀ x ∈ F', x ∈ F) ∧ Outside F w wr
end Go.Proofs.YtellmfimmghidaaGreat
/- The heap: Live. -/
namespace Go.Proofs.YtellmfimmghidaaGreat
set_option linter.unusedSimpArgs false
open Go.RowKit
set_option linter.unusedVariables false
def HeapM.live (H : HeapM) (k : Int) : Nat := (H.objs.filter fun p => decide (k = 0) || decide (p.2.kind = k)).length
/-- Is the object of this row of the map counted? -/
def kindIs (rows : List HRow) (k : Int) (p : Int × Nat) : Bool := decide (k = 0) || rows.any fun q => decide (q.n = p.1) && decide (q.o.kind = k)
theorem kindIs_mem {rows : List HRow} (hn : (rows.map (·.n)).Nodup) (k : Int) {q : HRow} (hq : q ∈ rows) (b : Nat) : kindIs rows k (q.n, b) = (decide (k = 0) || decide (q.o.kind = k)) := by
  unfold kindIs
  congr 1
  rw [Bool.eq_iff_iff]
  simp only [decide_eq_true_eq, List.any_eq_true, Bool.and_eq_true]
  constructor
  · rintro ⟨q', hq', h1, h2⟩
    have hnn : ((rows.map fun q => (q.n, q)).map (·.1)).Nodup := by simpa [List.map_map, Function.comp_def] using hn
    have e1 := getL_of_mem hnn (k := q.n) (x := q) (List.mem_map.2 ⟨q, hq, rfl⟩)
    have e2 := getL_of_mem hnn (k := q'.n) (x := q') (List.mem_map.2 ⟨q', hq', rfl⟩)
    have : q' = q := by rw [h1, e1] at e2; exact (Option.some.inj e2).symm
    rw [← this]; exact h2
  · intro h; exact ⟨q, hq, rfl, h⟩
theorem live_rows {rows : List HRow} (hn : (rows.map (·.n)).Nodup) (k : Int) : ((rows.map fun q => (q.n, q.o)).filter fun p => decide (k = 0) || decide (p.2.kind = k)).length = ((rows.map fun q => (q.n, q.b)).filter (kindIs rows k)).length := by
  rw [List.filter_map, List.filter_map, List.length_map, List.length_map]
  congr 1
  refine List.filter_congr fun q hq => ?_
  simp only [Function.comp, kindIs_mem hn k hq]
structure LiveAt (w : World) (h : Nat) (H : HeapM) (ma : Nat) (obs : List (Int × Nat)) (rows : List HRow) : Prop where
  c0 : w.cell? ⟨h, 0, none⟩ = some (.map (some ma))
  hm : mapIs w Tryz.prog 2 ekI exP ma obs
  obj : ∀ q ∈ rows, w.cell? ⟨q.b, 0, none⟩ = some (.int .i64 q.o.kind)
  eq : obs = rows.map fun q => (q.n, q.b)
  eo : H.objs = rows.map fun q => (q.n, q.o)
  nd : (rows.map (·.n)).Nodup
theorem HeapIs.liveAt {w : World} {h : Nat} {H : HeapM} {ε : Int → Int} {F : List Nat} (hh : HeapIs w h H ε F) : ∃ ma obs rows, LiveAt w h H ma obs rows := by
  obtain ⟨ma, mr, rows, r, h1, h2, h3, h4, h5, h6, h7, h8⟩ := hh
  refine ⟨ma, _, rows, cellAt h1 0 rfl, h2, fun q hq => ?_, rfl, h5, ?_⟩
  · obtain ⟨rv, d, G, k1, _⟩ := h4 q hq
    exact cellAt k1 0 rfl
  · have := h2.nodup; simpa [List.map_map, Function.comp_def] using this
def LiveRel (w : World) (ma : Nat) (rows : List HRow) (k : Int) (total g : Nat) (n : Value) (wr : World) : Prop :=
  ∃ left, g = left.length ∧ iterIs wr Tryz.prog 2 ekI exP ma w.heap.size (rows.map fun q => (q.n, q.b)) left ∧ (∀ p ∈ left, p ∈ rows.map fun q => (q.n, q.b)) ∧ (∃ m : Nat, n = .int .i64 m ∧ m + (left.filter (kindIs rows k)).length = total) ∧ Below w.heap.size w wr
end Go.Proofs.YtellmfimmghidaaGreat
/- The heap: Sweep's closure. -/
namespace Go.Proofs.YtellmfimmghidaaGreat
set_option linter.unusedSimpArgs false
open Go.RowKit
set_option linter.unusedVariables false
theorem wrap64_id (n : Int) (h : -9223372036854775808 ≤ n ∧ n ≤ 9223372036854775807) : wrap64 n = n := by unfold wrap64; omega
/-- What a call of the closure leaves as it lay. -/
def LookKeeps (w : World) (bw : Nat) (W W' : World) : Prop := W.heap.size ≤ W'.heap.size ∧ (∀ k o, W.heap[k]? = some o → k ≠ bw → (∀ cs fr, o ≠ .cells cs 2 fr) → W'.heap[k]? = some o) ∧ (∀ k, k < w.heap.size → k < W.heap.size → W'.heap[k]? = W.heap[k]?)
def isLoose (H : HeapM) (ε : Int → Int) (n : Int) : Bool := (getL H.objs n).isSome && decide (cnt (allVals H.objs) n + ε n = 0)
end Go.Proofs.YtellmfimmghidaaGreat
/- Sweeping, plainly. -/
namespace Go.Proofs.YtellmfimmghidaaGreat
set_option linter.unusedSimpArgs false
open Go.RowKit
set_option linter.unusedVariables false
/-- Each of S is an object, and is held, or one of S holds it. -/
def Sup (H : HeapM) (E : List V) (S : Int → Prop) : Prop := ∀ n, S n → (getL H.objs n).isSome ∧ (0 < cnt E n ∨ ∃ m o, S m ∧ getL H.objs m = some o ∧ 0 < cnt o.vals n)
def Kept (H : HeapM) (E : List V) (n : Int) : Prop := ∃ S, Sup H E S ∧ S n
noncomputable def HeapM.sweep (H : HeapM) (E : List V) : HeapM := { H with objs := H.objs.filter fun p => @decide (Kept H E p.1) (Classical.propDecidable _) }
structure SwInv (H : HeapM) (E : List V) (Hk : HeapM) (freed : Nat) : Prop where
  sub : ∃ f, Hk.objs = H.objs.filter f
  last : Hk.last = H.last
  keep : ∀ n, Kept H E n → (getL Hk.objs n).isSome
  freed : freed + Hk.objs.length = H.objs.length
theorem getL_filter {K X : Type} [DecidableEq K] {l : List (K × X)} (hn : (l.map (·.1)).Nodup) (f : K × X → Bool) {k : K} {x : X} (h : getL (l.filter f) k = some x) : getL l k = some x :=
  getL_of_mem hn (List.mem_filter.1 (getL_mem h)).1
theorem SwInv.start {H : HeapM} (E : List V) (hn : (H.objs.map (·.1)).Nodup) : SwInv H E H 0 :=
  ⟨⟨fun _ => true, by rw [List.filter_eq_self.2]; simp⟩, rfl, fun n ⟨S, hS, h⟩ => (hS n h).1, by omega⟩
theorem SwInv.nk {H Hk : HeapM} {E : List V} {f : Nat} (I : SwInv H E Hk f) (hn : (H.objs.map (·.1)).Nodup) : (Hk.objs.map (·.1)).Nodup := by
  obtain ⟨g, hg⟩ := I.sub; rw [hg]; exact (List.filter_sublist.map _).nodup hn
theorem cnt_mem {l : List (Int × ObjM)} {n : Int} {o : ObjM} {m : Int} (h : (n, o) ∈ l) : cnt o.vals m ≤ cnt (allVals l) m := by
  induction l with
  | nil => simp at h
  | cons p r ih =>
    have hc : allVals (p :: r) = p.2.vals ++ allVals r := by simp [allVals]
    rw [hc, cnt_append]
    have h1 := cnt_nonneg p.2.vals m
    have h2 := cnt_nonneg (allVals r) m
    rcases List.mem_cons.1 h with h | h
    · subst h; simp only; omega
    · have := ih h; omega
theorem isLoose_iff {H : HeapM} {ε : Int → Int} {n : Int} : isLoose H ε n = true ↔ (getL H.objs n).isSome = true ∧ cnt (allVals H.objs) n + ε n = 0 := by simp [isLoose]
theorem SwInv.drop {H Hk : HeapM} {E : List V} {f : Nat} (I : SwInv H E Hk f) (hn : (H.objs.map (·.1)).Nodup) {n : Int} (hl : isLoose Hk (cnt E) n = true) : SwInv H E (Hk.drop n) (f + 1) := by
  obtain ⟨hs, h0⟩ := isLoose_iff.1 hl
  obtain ⟨o, ho⟩ := Option.isSome_iff_exists.1 hs
  have hnk := I.nk hn
  obtain ⟨g, hg⟩ := I.sub
  refine ⟨⟨fun p => g p && !decide (p.1 = n), ?_⟩, I.last, fun m hm => ?_, ?_⟩
  · show delL Hk.objs n = _
    rw [hg]; unfold delL; rw [List.filter_filter]
    exact List.filter_congr fun p _ => by rw [Bool.and_comm]
  · show (getL (delL Hk.objs n) m).isSome = true
    rw [getL_delL]
    by_cases e : m = n
    · subst e
      exfalso
      obtain ⟨S, hS, hSm⟩ := hm
      have e1 := cnt_nonneg E m
      have e2 := cnt_nonneg (allVals Hk.objs) m
      rcases (hS m hSm).2 with h | ⟨q, oq, hq, hoq, hc⟩
      · omega
      · have hqk := I.keep q ⟨S, hS, hq⟩
        obtain ⟨o', ho'⟩ := Option.isSome_iff_exists.1 hqk
        have h3 := getL_filter hn g (by rw [← hg]; exact ho')
        rw [hoq] at h3
        have e3 := Option.some.inj h3
        subst e3
        have := cnt_mem (m := m) (getL_mem ho')
        omega
    · rw [if_neg e]; exact I.keep m hm
  · show f + 1 + (delL Hk.objs n).length = _
    have := delL_length hnk ho
    have := I.freed
    omega
theorem SwInv.done {H Hk : HeapM} {E : List V} {f : Nat} (I : SwInv H E Hk f) (hn : (H.objs.map (·.1)).Nodup) (hno : ∀ n, isLoose Hk (cnt E) n = false) : Hk = H.sweep E := by
  obtain ⟨g, hg⟩ := I.sub
  have hk : ∀ n, (getL Hk.objs n).isSome = true → Kept H E n := by
    intro n hs
    refine ⟨fun m => (getL Hk.objs m).isSome = true, fun m hm => ?_, hs⟩
    obtain ⟨o, ho⟩ := Option.isSome_iff_exists.1 hm
    refine ⟨by rw [getL_filter hn g (by rw [← hg]; exact ho)]; rfl, ?_⟩
    have h1 : ¬ (cnt (allVals Hk.objs) m + cnt E m = 0) := fun h => by
      have := hno m; rw [isLoose_iff.2 ⟨hm, h⟩] at this; cases this
    have e1 := cnt_nonneg E m
    have e2 := cnt_nonneg (allVals Hk.objs) m
    by_cases h2 : 0 < cnt E m
    · exact .inl h2
    · right
      have h3 : 0 < cnt (allVals Hk.objs) m := by omega
      obtain ⟨v, hv, hv1⟩ := cnt_pos.1 h3
      obtain ⟨p, hp, hvp⟩ := List.mem_flatMap.1 hv
      have hgp := getL_of_mem (I.nk hn) (k := p.1) (x := p.2) hp
      exact ⟨p.1, p.2, by show (getL Hk.objs p.1).isSome = true; rw [hgp]; rfl, getL_filter hn g (by rw [← hg]; exact hgp), cnt_pos.2 ⟨v, hvp, hv1⟩⟩
  cases Hk with
  | mk ob la =>
    unfold HeapM.sweep
    have hla : la = H.last := I.last
    subst hla
    congr 1
    have hg' : ob = H.objs.filter g := hg
    rw [hg']
    refine List.filter_congr fun p hp => ?_
    have hpl := getL_of_mem hn (k := p.1) (x := p.2) hp
    rw [Bool.eq_iff_iff, @decide_eq_true_eq _ (Classical.propDecidable _)]
    constructor
    · intro h
      refine hk p.1 ?_
      show (getL ob p.1).isSome = true
      rw [hg', getL_of_mem ((List.filter_sublist.map _).nodup hn) (k := p.1) (x := p.2) (List.mem_filter.2 ⟨hp, h⟩)]; rfl
    · intro h
      have h1 : (getL ob p.1).isSome = true := I.keep p.1 h
      rw [hg'] at h1
      obtain ⟨x, hx⟩ := Option.isSome_iff_exists.1 h1
      have h2 := List.mem_filter.1 (getL_mem hx)
      have h3 := getL_of_mem hn h2.1
      rw [hpl] at h3
      have e := Option.some.inj h3
      subst e
      exact h2.2
/-- What waits: all that is loose, but what is yet to be looked at; and nothing else that is there. -/
structure WaitInv (H : HeapM) (E : List V) (todo : Int → Prop) (l : List Int) : Prop where
  all : ∀ n, isLoose H (cnt E) n = true → n ∈ l ∨ todo n
  only : ∀ n ∈ l, (getL H.objs n).isSome = true → isLoose H (cnt E) n = true
theorem WaitInv.look {H : HeapM} {E : List V} {todo todo' : Int → Prop} {l : List Int} (I : WaitInv H E todo l) (n : Int) (h : ∀ m, todo m → m = n ∨ todo' m) : WaitInv H E todo' (if isLoose H (cnt E) n then l ++ [n] else l) := by
  constructor
  · intro m hm
    rcases I.all m hm with h1 | h1
    · left; split
      · exact List.mem_append_left _ h1
      · exact h1
    · rcases h m h1 with rfl | h2
      · left; rw [if_pos hm]; simp
      · exact .inr h2
  · intro m hm hs
    split at hm
    · rename_i hl
      rcases List.mem_append.1 hm with h1 | h1
      · exact I.only m h1 hs
      · simp at h1; subst h1; exact hl
    · exact I.only m hm hs
theorem WaitInv.skip {H : HeapM} {E : List V} {todo todo' : Int → Prop} {l : List Int} (I : WaitInv H E todo l) (h : ∀ m, isLoose H (cnt E) m = true → todo m → todo' m) : WaitInv H E todo' l :=
  ⟨fun m hm => (I.all m hm).imp id (h m hm), I.only⟩
/-- One that is there no more is taken. -/
theorem WaitInv.gone {H : HeapM} {E : List V} {l : List Int} {n : Int} (I : WaitInv H E (fun _ => False) (l ++ [n])) (h : getL H.objs n = none) : WaitInv H E (fun _ => False) l := by
  refine ⟨fun m hm => .inl ?_, fun m hm => I.only m (List.mem_append_left _ hm)⟩
  rcases I.all m hm with h1 | h1
  · rcases List.mem_append.1 h1 with h2 | h2
    · exact h2
    · simp at h2; subst h2
      have := (isLoose_iff.1 hm).1
      rw [h] at this; cases this
  · exact h1.elim
/-- One that waited is freed: what it held is looked at. -/
theorem WaitInv.drop {H : HeapM} {E : List V} {l : List Int} {n : Int} {o : ObjM} (I : WaitInv H E (fun _ => False) (l ++ [n])) (hn : (H.objs.map (·.1)).Nodup) (h : getL H.objs n = some o) :
    WaitInv (H.drop n) E (fun m => ∃ v ∈ o.vals, v.kind = 4 ∧ v.n = m) l := by
  have hc := fun m => cnt_delObj hn h m
  constructor
  · intro m hm
    obtain ⟨h1, h2⟩ := isLoose_iff.1 hm
    have h1' : (getL (delL H.objs n) m).isSome = true := h1
    rw [getL_delL] at h1'
    have hmn : m ≠ n := by intro e; rw [if_pos e] at h1'; cases h1'
    rw [if_neg hmn] at h1'
    have h2' : cnt (allVals (delL H.objs n)) m + cnt E m = 0 := h2
    rw [hc m] at h2'
    by_cases h3 : 0 < cnt o.vals m
    · exact .inr (cnt_pos.1 h3)
    · have h4 := cnt_nonneg o.vals m
      rcases I.all m (isLoose_iff.2 ⟨h1', by omega⟩) with h5 | h5
      · rcases List.mem_append.1 h5 with h6 | h6
        · exact .inl h6
        · simp at h6; exact absurd h6 hmn
      · exact h5.elim
  · intro m hm hs
    have hs' : (getL (delL H.objs n) m).isSome = true := hs
    rw [getL_delL] at hs'
    have hmn : m ≠ n := by intro e; rw [if_pos e] at hs'; cases hs'
    rw [if_neg hmn] at hs'
    obtain ⟨_, h2⟩ := isLoose_iff.1 (I.only m (List.mem_append_left _ hm) hs')
    refine isLoose_iff.2 ⟨hs, ?_⟩
    show cnt (allVals (delL H.objs n)) m + cnt E m = 0
    have h5 := hc m
    have h3 := cnt_nonneg o.vals m
    have h4 := cnt_nonneg (allVals (delL H.objs n)) m
    have h6 := cnt_nonneg E m
    omega
def HeapM.weight (H : HeapM) : Nat := (allVals H.objs).length + H.objs.length
theorem weight_drop {H : HeapM} (hn : (H.objs.map (·.1)).Nodup) {n : Int} {o : ObjM} (h : getL H.objs n = some o) : (H.drop n).weight + o.vals.length + 1 = H.weight := by
  have h1 := delL_length hn h
  have h2 : ∀ {l : List (Int × ObjM)}, (l.map (·.1)).Nodup → getL l n = some o → (allVals (delL l n)).length + o.vals.length = (allVals l).length := by
    intro l
    induction l with
    | nil => intro _ h; simp [getL] at h
    | cons p r ih =>
      intro hn h
      simp only [List.map_cons, List.nodup_cons] at hn
      have hc : ∀ q : Int × ObjM, ∀ l, allVals (q :: l) = q.2.vals ++ allVals l := fun q l => by simp [allVals]
      by_cases e : p.1 = n
      · have hd : delL (p :: r) n = r := by
          have h1 : delL (p :: r) n = delL r n := by simp [delL, e]
          rw [h1]
          refine delL_none ?_
          rw [getL_none]
          intro q hq e'
          exact hn.1 (List.mem_map.2 ⟨q, hq, e'.trans e.symm⟩)
        have : p.2 = o := by simpa [getL, e] using h
        rw [hd, hc, List.length_append, this]; omega
      · have g' : getL r n = some o := by simpa [getL, e] using h
        have hd : delL (p :: r) n = p :: delL r n := by simp [delL, e]
        rw [hd, hc, hc, List.length_append, List.length_append]
        have := ih hn.2 g'; omega
  have := h2 hn h
  unfold HeapM.weight HeapM.drop
  simp only
  omega
end Go.Proofs.YtellmfimmghidaaGreat
