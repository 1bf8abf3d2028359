/- linear: Merge. -/
import Derived.Test.YtobcnffjfclolaaDoorLin1
import Derived.RangeFuncLeaves
import Derived.Scope
import Derived.Sort.LoopGhostIn
namespace Go.Proofs.YtobcnffjfclolaaDoor
set_option linter.unusedSimpArgs false
open Go.RowKit
set_option linter.unusedVariables false
attribute [local go_sem] Oper.semAt_some
theorem wpIn_scope_wide {P : Program} {n : Nat} {c : Code} {Q : Exit → Act → World → Prop} {a : Act} {W : World} (h : c.wpIn Fence.wide n P (Exit.noGoto Q) a W) : (Code.scope c).wpIn Fence.wide n P Q a W := wpIn_wide.2 (wp_scope_straight ((wpIn_wide (n := n)).1 h))
/-- The marks that ranges over functions leave among the deferred calls. -/
def marksD (Bs : List Nat) : List Deferred := Bs.map fun B => { target := .collected B, args := #[] }
def marksR (Bs : List Nat) : List Res := Bs.map fun B => boxR B (.deferred (some []))
section
variable {w W : World} {Rs : List Res}
theorem leaves_marks {F : Fence} {m : Nat} {fn : Func} {tmps : Array Value} {R : Ending → World → Prop} (K : ∀ W', Sep w Rs W' → LeavesInM F m Tryd.prog fn tmps R [] .returning W') : ∀ (Bs : List Nat) (W : World), Sep w (marksR Bs ++ Rs) W → LeavesInM F m Tryd.prog fn tmps R (marksD Bs) .returning W
  | [], W, S => K W S
  | B :: Bs, W, S => ⟨by simp, .inl ⟨B, _, rfl, run_takeDeferred (S.box 0 rfl), leaves_marks K Bs _ (S.putObj 0 rfl (.deferred none)).tail⟩⟩
abbrev mergeR (b4 : Nat) (va : Option Addr) (n vc : Nat) (Bs : List Nat) (svs' : List SlV) (outl : List Int) (oa : Option Addr) (oc : Nat) (Rs : List Res) : List Res :=
  boxR (b4 + 1) (.cells #[.slice oa outl.length oc] 89) :: numsR (.slice oa outl.length oc) outl :: boxR b4 (.cells #[.slice va n vc] 87) :: slnR (.slice va n vc) svs' :: (marksR Bs ++ Rs)
structure MergeInv (w : World) (Rs : List Res) (rows : List (List Int)) (b4 : Nat) (va : Option Addr) (n vc : Nat) (Bs : List Nat) (rows' : List (List Int)) (svs' : List SlV) (outl : List Int) (oa : Option Addr) (oc : Nat) (k : Nat) (W : World) : Prop where
  hk : k = sizeM rows'
  hm : mergeM rows = (mergeM rows').map (outl ++ ·)
  hr : RowsIn (Sep w Rs) svs' rows'
  hn : svs'.length = n
  hl : sizeM rows' + outl.length ≤ 1000000
  hS : Sep w (mergeR b4 va n vc Bs svs' outl oa oc Rs) W
def MergeDone (w : World) (Rs : List Res) (rows : List (List Int)) (e : Ending) (W : World) : Prop :=
  (∃ l, mergeM rows = some l ∧ ∃ v, e = .returned (.tuple #[v, .bool true]) ∧ Sep w (numsR v l :: Rs) W) ∨ (mergeM rows = none ∧ e = .returned (.tuple #[.slice none 0 0, .bool false]) ∧ Sep w Rs W)
theorem perm_m (X A B C D Y : Res) (M Rs : List Res) : (X :: A :: B :: C :: D :: Y :: (M ++ Rs)).Perm ((A :: B :: C :: D :: M) ++ (X :: Y :: Rs)) := by
  have h1 : (X :: Y :: (M ++ Rs)).Perm (M ++ (X :: Y :: Rs)) := ((List.perm_middle (l₁ := M) (a := Y) (l₂ := Rs)).symm.cons X).trans (List.perm_middle (l₁ := M) (a := X) (l₂ := Y :: Rs)).symm
  have h2 : (X :: A :: B :: C :: D :: Y :: (M ++ Rs)).Perm (A :: B :: C :: D :: X :: Y :: (M ++ Rs)) := (List.perm_middle (l₁ := [A, B, C, D])).symm
  exact h2.trans ((((h1.cons D).cons C).cons B).cons A)
/-- What the round over the heads holds. -/
def HeadIn (rows' : List (List Int)) (b4 b6 : Nat) (va : Option Addr) (n vc : Nat) (Bs : List Nat) (outl : List Int) (oa : Option Addr) (oc : Nat) (k : Nat) (R : List Res) : Prop :=
  (∀ j x, j < k → (headsM rows')[j]? = some x → behindM rows' x = true) ∧ R = boxR b6 (.cells #[.bool (decide (k = 0))] 4) :: boxR (b4 + 1) (.cells #[.slice oa outl.length oc] 89) :: numsR (.slice oa outl.length oc) outl :: boxR b4 (.cells #[.slice va n vc] 87) :: marksR Bs
/-- What is left behind where a head is taken. -/
def HeadEx (w : World) (Rs : List Res) (rows' : List (List Int)) (b4 : Nat) (va : Option Addr) (n vc : Nat) (Bs : List Nat) (outl : List Int) (c : Code) (R : List Res) : Prop :=
  c = .exit 1 ∧ ∃ (x : Int) (svs2 : List SlV) (oa : Option Addr) (oc : Nat), pickM rows' = some x ∧ RowsIn (Sep w Rs) svs2 (popM rows' x) ∧ svs2.length = n ∧ R = mergeR b4 va n vc Bs svs2 (outl ++ [x]) oa oc Rs
theorem find_at2 {α : Type} {l : List α} {f : α → Bool} {k : Nat} {p : α} (h : l[k]? = some p) (hp : f p = true) (hno : ∀ x ∈ l.take k, f x = false) : l.find? f = some p := by
  obtain ⟨hk, rfl⟩ := List.getElem?_eq_some_iff.1 h
  refine List.find?_eq_some_iff_append.2 ⟨hp, l.take k, l.drop (k + 1), ?_, fun x hx => by simp [hno x hx]⟩
  conv => lhs; rw [← List.take_append_drop k l, List.drop_eq_getElem_cons hk]
theorem pick_of {rows : List (List Int)} {k : Nat} {x : Int} (h1 : ∀ j y, j < k → (headsM rows)[j]? = some y → behindM rows y = true) (hx : (headsM rows)[k]? = some x) (hb : behindM rows x = false) : pickM rows = some x := by
  unfold pickM
  refine find_at2 hx (by simp [hb]) fun y hy => ?_
  obtain ⟨j, hj, rfl⟩ := List.mem_take_iff_getElem.1 hy
  have := h1 j _ (by omega) (List.getElem?_eq_getElem (by omega))
  simp [this]
theorem pick_none {rows : List (List Int)} (h1 : ∀ j y, j < (headsM rows).length → (headsM rows)[j]? = some y → behindM rows y = true) : pickM rows = none := by
  unfold pickM
  rw [List.find?_eq_none]
  intro x hx
  obtain ⟨j, hj, rfl⟩ := List.getElem_of_mem hx
  have := h1 j _ hj (List.getElem?_eq_getElem hj)
  simp [this]
def curM (rows : List (List Int)) (x : Int) (i : Nat) : List (List Int) := (rows.take i).map (popR x) ++ rows.drop i
theorem curM_get {rows : List (List Int)} {x : Int} {i : Nat} {r : List Int} (h : rows[i]? = some r) : (curM rows x i)[i]? = some r := by
  have h1 := (List.getElem?_eq_some_iff.1 h).1
  unfold curM
  rw [List.getElem?_append_right (by rw [List.length_map, List.length_take]; omega), List.length_map, List.length_take, List.getElem?_drop]
  rw [show i + (i - min i rows.length) = i by omega]; exact h
theorem curM_next {rows : List (List Int)} {x : Int} {i : Nat} {r : List Int} (h : rows[i]? = some r) : curM rows x (i + 1) = (curM rows x i).set i (popR x r) := by
  obtain ⟨h1, h2⟩ := List.getElem?_eq_some_iff.1 h
  have hd : rows.drop i = r :: rows.drop (i + 1) := by rw [← h2]; exact List.drop_eq_getElem_cons h1
  unfold curM
  rw [hd, List.take_add_one, h, List.set_append_right _ _ (by rw [List.length_map, List.length_take]; omega), List.map_append, List.length_map, List.length_take]
  simp [show i - min i rows.length = 0 by omega]
theorem curM_end (rows : List (List Int)) (x : Int) : curM rows x rows.length = popM rows x := by unfold curM popM; simp
theorem set_self {α : Type} {l : List α} {i : Nat} {a : α} (h : l[i]? = some a) : l.set i a = l := by
  obtain ⟨h1, rfl⟩ := List.getElem?_eq_some_iff.1 h; exact List.set_getElem_self h1
theorem RowsIn.set {G : World → Prop} {svs : List SlV} {rows : List (List Int)} (h : RowsIn G svs rows) (i : Nat) {sv : SlV} {l : List Int} (hs : ∀ W, G W → SeesN W sv.val l) : RowsIn G (svs.set i sv) (rows.set i l) := by
  refine ⟨by simpa using h.1, fun j sv' l' h1 h2 W hW => ?_⟩
  by_cases e : i = j
  · subst e
    have hj : i < svs.length := by have := (List.getElem?_eq_some_iff.1 h1).1; simpa using this
    have hj2 : i < rows.length := by have := h.1; omega
    rw [List.getElem?_set_self hj] at h1
    rw [List.getElem?_set_self hj2] at h2
    cases h1; cases h2
    exact hs W hW
  · rw [List.getElem?_set_ne e] at h1 h2
    exact h.2 j sv' l' h1 h2 W hW
set_option maxRecDepth 100000 in
set_option maxHeartbeats 3200000 in
theorem merge_ok (S : Sep w Rs W) (a : Option Addr) (n c : Nat) (svs : List SlV) (rows : List (List Int)) (hn : svs.length = n) (hs : ∀ W', Sep w Rs W' → SeesR slCellN 1 W' (.slice a n c) svs) (hr : RowsIn (Sep w Rs) svs rows) (hl : n ≤ 1000000) (hz : sizeM rows ≤ 1000000) :
    Calls Tryd.prog 67 #[.slice a n c] W (MergeDone w Rs rows) := by
  have C1 := nclone_ok S a c svs (by rw [hn]; exact hs) (by omega)
  rw [hn] at C1
  have HC := Lib.hid C1
  have HR := Lib.hid (And.intro hr (And.intro hn (And.intro hl hz)))
  have hli : (n : Int) ≤ 1000000 := by omega
  clear S hs hr hn hl hz C1
  refine (callsIn_wide (n := 9)).1 ?_
  refine callsIn_of_wp_marks Tryd.func67 rfl trivial ?_ rfl
  simp only [Tryd.ntmps67, List.size_toArray, List.length_cons, List.length_nil, Nat.reduceAdd, Nat.reduceSub, Array.replicate_succ, Array.replicate_zero, List.push_toArray, List.append_toArray, List.nil_append, List.cons_append]
  gi_wp2_with fail
  refine wpIn_scope_wide ?_
  gi_wp2_with fail
  refine ⟨trivial, (callsIn_wide.2 HC.out).mono ?_⟩
  rintro e w1 ⟨va, vc, rfl, S1⟩
  obtain ⟨b4, hb4⟩ : ∃ gx_, (w1.heap.size) = gx_ := ⟨_, rfl⟩
  have S2 := (((S1.alloc (.cells #[.slice va n vc] 87)).addRow (Below.refl _ _) (e := 2) (m := 1) (f := intCell) (v := .slice none 0 0) (l := []) (World.ownsRow_nil _ _ _ _) (by simp [Value.ownBlock])).alloc (.cells #[.slice none 0 0] 89))
  rw [World.size_alloc, hb4] at S2
  have START : Hid (MergeInv w Rs rows b4 va n vc [] rows svs [] none 0 (sizeM rows) ((w1.alloc (.cells #[.slice va n vc] 87)).alloc (.cells #[.slice none 0 0] 89))) := Lib.hid ⟨rfl, by cases mergeM rows <;> simp, HR.out.1, HR.out.2.1, by have := HR.out.2.2.2; simpa using this, S2⟩
  clear S1 S2 HC
  gi_wp2_with (refine wpIn_label ?_)
  refine wpIn_loop_ghost_k
    (fun (k : Nat) (a' : Act) (w' : World) => ∃ (Bs : List Nat) (rows' : List (List Int)) (svs' : List SlV) (outl : List Int) (oa : Option Addr) (oc : Nat) (u6 u7 u8 u9 u12 u13 u14 u15 u16 u17 u18 u19 u20 u21 u22 u23 u24 u25 u26 u27 u28 u29 u30 u31 u32 u33 u34 u35 u36 u37 u38 u39 u40 u41 u42 u43 u44 u45 u46 : Value),
    MergeInv w Rs rows b4 va n vc Bs rows' svs' outl oa oc k w' ∧ a' = { tmps := #[.slice a n c, undef, .slice none 0 0, .bool false, .pointer (some ⟨b4, 0, none⟩), .pointer (some ⟨b4 + 1, 0, none⟩), u6, u7, u8, u9, .slice a n c, .slice va n vc, u12, u13, u14, u15, u16, u17, u18, u19, u20, u21, u22, u23, u24, u25, u26, u27, u28, u29, u30, u31, u32, u33, u34, u35, u36, u37, u38, u39, u40, u41, u42, u43, u44, u45, u46], defers := marksD Bs }) (sizeM rows) ?_ ?_
  · refine ⟨[], rows, svs, [], none, 0, _, _, _, _, _, _, _, _, _, _, _, _, _, _, _, _, _, _, _, _, _, _, _, _, _, _, _, _, _, _, _, _, _, _, _, _, _, _, _, ?_, rfl⟩
    exact START.out
  clear START hb4
  rintro k _ wr ⟨Bs, rows', svs', outl, oa, oc, u6, u7, u8, u9, u12, u13, u14, u15, u16, u17, u18, u19, u20, u21, u22, u23, u24, u25, u26, u27, u28, u29, u30, u31, u32, u33, u34, u35, u36, u37, u38, u39, u40, u41, u42, u43, u44, u45, u46, MI, rfl⟩ J K hJ hK
  have HJ := Lib.hid hJ
  have HK := Lib.hid hK
  clear hJ hK
  have c4 := cellAt (MI.hS.box 2 rfl) 0 (v := .slice va n vc) rfl
  have hz4 := blockLt (MI.hS.box 2 rfl)
  have hz5 := blockLt (MI.hS.box 0 rfl)
  have c5 := cellAlloc c4 (.cells #[.bool true] 4)
  obtain ⟨b6, hb6⟩ : ∃ gx_, (wr.heap.size) = gx_ := ⟨_, rfl⟩
  rw [hb6] at hz4 hz5
  have S5 := (MI.hS.alloc (.cells #[.bool true] 4)).alloc (.cells #[.slice va n vc] 87)
  rw [World.size_alloc, hb6] at S5
  have HH := heads_ok (wr.alloc (.cells #[.bool true] 4)) va n vc
  rw [World.size_alloc, hb6] at HH
  replace HH := Lib.hid HH
  have HM := Lib.hid MI
  clear MI
  gi_wp2_with fail
  refine ⟨trivial, (callsIn_wide.2 HH.out).mono ?_⟩
  rintro e w4 ⟨rfl, hw4⟩
  rw [← hw4] at S5
  have hB : w4.heap.size = b6 + 2 := by rw [hw4]; simp [hb6]
  have S6 : Sep w ((boxR b6 (.cells #[.bool (decide (0 = 0))] 4) :: boxR (b4 + 1) (.cells #[.slice oa outl.length oc] 89) :: numsR (.slice oa outl.length oc) outl :: boxR b4 (.cells #[.slice va n vc] 87) :: marksR Bs) ++ headF (b6 + 1) (.slice va n vc) svs' Rs) w4 := S5.perm (perm_m _ _ _ _ _ _ _ _)
  have IT := heads_iter (w := w) (Rs := Rs) (b6 + 1) va vc svs' rows' HM.out.hr (by rw [HM.out.hn]; omega)
  rw [HM.out.hn] at IT
  replace IT := Lib.hid IT
  replace S6 := Lib.hid S6
  clear HH S5 hw4 c4 c5 hb6
  gi_wp2_with fail
  refine range_sep (w := w) (B := b6 + 2) hB (hg := rfl) enters_heads (fun _ => rfl) (n := (headsM rows').length) (encs := headE rows')
    (HeadIn rows' b4 b6 va n vc Bs outl oa oc) (fun c k R => HeadEx w Rs rows' b4 va n vc Bs outl c R) IT.out
    (R0 := _) ⟨fun j x hj => by omega, rfl⟩ S6.out
    (fun k s => { tmps := #[.slice a n c, undef, .slice none 0 0, .bool false, .pointer (some ⟨b4, 0, none⟩), .pointer (some ⟨b4 + 1, 0, none⟩), .pointer (some ⟨b6, 0, none⟩), .int .i64 (headV rows' k), u8, u9, .slice a n c, .slice va n vc, .slice va n vc, .func (.func 89) #[] #[.pointer (some ⟨b6 + 1, 0, none⟩)], .int .i64 (headV rows' k), u15, u16, u17, u18, u19, u20, u21, u22, u23, u24, u25, u26, u27, u28, u29, u30, u31, u32, u33, u34, u35, u36, u37, u38, u39, u40, u41, u42, u43, u44, u45, u46], defers := [] }) (fun k W => W) (fun k s => []) (fun k W Rs _ S => S) ?assign ?body ?done ?stop
  case assign =>
    intro l k W K hk hK
    simp only [headE]
    gi_wp2
    exact hK
  case body =>
    rintro l q s _ Gs W1 hq ⟨hno, rfl⟩ S7
    obtain ⟨x, hx⟩ : ∃ x, (headsM rows')[q]? = some x := ⟨_, List.getElem?_eq_getElem hq⟩
    have hv : headV rows' q = x := by unfold headV; rw [hx]; rfl
    rw [hv]
    have S8 : Sep w (boxR b6 (.cells #[.bool (decide (q = 0))] 4) :: boxR (b4 + 1) (.cells #[.slice oa outl.length oc] 89) :: numsR (.slice oa outl.length oc) outl :: boxR b4 (.cells #[.slice va n vc] 87) :: (marksR Bs ++ (headF (b6 + 1) (.slice va n vc) svs' Rs ++ Gs))) W1 := S7
    have q4 := cellAt (S8.box 3 rfl) 0 (v := .slice va n vc) rfl
    have q6 := cellAt (S8.box 0 rfl) 0 (v := .bool (decide (q = 0))) rfl
    have f6 := frozenAt (S8.box 0 rfl) 0
    have hne : ¬ b4 = b6 := by omega
    have S9 := S8.setBox (cs := #[.bool (decide (q = 0))]) (t := 4) 0 rfl 0 (.bool false)
    have q5 := cellAt (S9.box 3 rfl) 0 (v := .slice va n vc) rfl
    have hix : (boxR b6 (.cells #[.bool false] 4) :: boxR (b4 + 1) (.cells #[.slice oa outl.length oc] 89) :: numsR (.slice oa outl.length oc) outl :: boxR b4 (.cells #[.slice va n vc] 87) :: (marksR Bs ++ (headF (b6 + 1) (.slice va n vc) svs' Rs ++ Gs)))[Bs.length + 1 + 4]? = some (slnR (.slice va n vc) svs') := by
      simp only [List.getElem?_cons_succ]
      rw [List.getElem?_append_right (by simp [marksR])]
      simp [marksR]
    have hsub : Rs.Sublist (boxR b6 (.cells #[.bool false] 4) :: boxR (b4 + 1) (.cells #[.slice oa outl.length oc] 89) :: numsR (.slice oa outl.length oc) outl :: boxR b4 (.cells #[.slice va n vc] 87) :: (marksR Bs ++ (headF (b6 + 1) (.slice va n vc) svs' Rs ++ Gs))) := by
      refine .cons _ (.cons _ (.cons _ (.cons _ ?_)))
      exact ((List.Sublist.cons _ (.cons _ (List.Sublist.refl Rs))).trans (List.sublist_append_left _ Gs)).trans (List.sublist_append_right _ _)
    have hrow := S9.row _ hix
    have C := behind_ok _ va vc svs' rows' x (by have := hrow.seesR (f := slCellN) (m := 1) (fun _ => rfl); rw [HM.out.hn]; exact this) (HM.out.hr.mono fun W' hb => (S9.later hb).sub hsub)
    rw [HM.out.hn] at C
    replace C := Lib.hid C
    replace S9 := Lib.hid S9
    have HX := Lib.hid (And.intro hx (And.intro hno (And.intro hix hsub)))
    clear S7 S8 hx hv hno hrow hix hsub S6 IT hB
    gi_wp2_with fail
    refine ⟨trivial, (callsIn_wide.2 C.out).mono ?_⟩
    rintro e w3 ⟨rfl, hb3⟩
    have S10 := S9.out.later hb3
    clear C q4 q5 q6 f6 hb3
    cases hbh : behindM rows' x with
    | true =>
      have HBH := Lib.hid hbh
      replace S10 := Lib.hid S10
      clear hbh S9
      gi_wp2
      refine ⟨boxR b6 (.cells #[.bool (decide (q + 1 = 0))] 4) :: boxR (b4 + 1) (.cells #[.slice oa outl.length oc] 89) :: numsR (.slice oa outl.length oc) outl :: boxR b4 (.cells #[.slice va n vc] 87) :: marksR Bs, ⟨fun j y hj hy => ?_, rfl⟩, ?_⟩
      · by_cases hjq : j = q
        · subst hjq
          rw [HX.out.1] at hy
          cases hy
          exact HBH.out
        · exact HX.out.2.1 j y (by omega) hy
      · rw [show decide (q + 1 = 0) = false by simp]
        exact S10.out
    | false =>
      have HP := Lib.hid (pick_of HX.out.2.1 HX.out.1 hbh)
      have T0 : Sep w (boxR b6 (.cells #[.bool false] 4) :: boxR (b4 + 1) (.cells #[.slice oa outl.length oc] 89) :: numsR (.slice oa outl.length oc) outl :: boxR b4 (.cells #[.slice va n vc] 87) :: (marksR Bs ++ (headF (b6 + 1) (.slice va n vc) svs' Rs ++ Gs))) w3 := S10
      have q5 := cellAt (T0.box 1 rfl) 0 (v := .slice oa outl.length oc) rfl
      have T1 := Lib.hid (T0.alloc (.cells #[.int .i64 x] 2))
      have hlen := HM.out.hl
      have hsz := sizeM_pop (pickM_some HP.out).1
      have HLN := Lib.hid (And.intro hlen hsz)
      clear S9 S10 T0 hbh hlen hsz
      gi_wp2_with (gi_at_builtin; (refine wpListIn_push_i rfl _ _ rfl T1.out 3 rfl rfl x _ rfl (heapAllocNew _ _) (by have := HLN.out.1; omega) ?_))
      intro oa2 oc2 w5 T2
      have f5 := frozenAt (T2.box 2 rfl) 0
      have q5 := cellAt (T2.box 2 rfl) 0 (v := .slice oa outl.length oc) rfl
      have T3 := T2.setBox (cs := #[.slice oa outl.length oc]) (t := 89) 2 rfl 0 (.slice oa2 (outl.length + 1) oc2)
      have q4 := cellAt (T3.box 4 rfl) 0 (v := .slice va n vc) rfl
      obtain ⟨base, hbase⟩ : ∃ base : List Res, base = boxR (b4 + 1) (.cells #[.slice oa2 (outl.length + 1) oc2] 89) :: numsR (.slice oa2 (outl.length + 1) oc2) (outl ++ [x]) :: boxR b4 (.cells #[.slice va n vc] 87) :: (marksR Bs ++ (Rs ++ Gs)) := ⟨_, rfl⟩
      have T4 : Sep w (slnR (.slice va n vc) svs' :: base) (w5.setCell ⟨b4 + 1, 0, none⟩ (.slice oa2 (outl.length + 1) oc2)) := by
        rw [hbase]
        have h1 : Sep w (boxR (b4 + 1) (.cells #[.slice oa2 (outl.length + 1) oc2] 89) :: numsR (.slice oa2 (outl.length + 1) oc2) (outl ++ [x]) :: boxR b4 (.cells #[.slice va n vc] 87) :: (marksR Bs ++ (slnR (.slice va n vc) svs' :: (Rs ++ Gs)))) (w5.setCell ⟨b4 + 1, 0, none⟩ (.slice oa2 (outl.length + 1) oc2)) := by
          refine T3.sub (.cons _ (.cons _ (.cons_cons _ (.cons_cons _ (.cons_cons _ ?_)))))
          exact List.Sublist.append (List.Sublist.refl _) (.cons _ (List.Sublist.refl _))
        refine h1.perm ?_
        refine ((((List.perm_middle (l₁ := marksR Bs)).cons _).cons _).cons _).trans ?_
        exact List.perm_middle (l₁ := [_, _, _])
      have HB4 : Hid (∀ W (sv : List SlV), Sep w (slnR (.slice va n vc) sv :: base) W → W.cell? ⟨b4, 0, none⟩ = some (.slice va n vc)) := Lib.hid fun W sv S => by
        rw [hbase] at S
        exact cellAt (S.box 3 rfl) 0 rfl
      have HRS : Hid (∀ W (sv : List SlV), Sep w (slnR (.slice va n vc) sv :: base) W → Sep w Rs W) := Lib.hid fun W sv S => by
        rw [hbase] at S
        exact S.sub (.cons _ (.cons _ (.cons _ (.cons _ ((List.sublist_append_left Rs Gs).trans (List.sublist_append_right _ _))))))
      have HBASE := Lib.hid hbase
      have T5 := Lib.hid T4
      clear T1 T2 T3 T4 hbase
      gi_wp2_with fail
      obtain ⟨w6, hw6⟩ : ∃ gx_, (w5.setCell ⟨b4 + 1, 0, none⟩ (.slice oa2 (outl.length + 1) oc2)) = gx_ := ⟨_, rfl⟩
      rw [hw6] at T5 ⊢
      clear hw6 q4 q5 f5
      gi_loopw [24] (fun iv wr => ∃ (i : Nat) (svs2 : List SlV), i ≤ n ∧ iv = .int .i64 i ∧ svs2.length = n ∧ RowsIn (Sep w Rs) svs2 (curM rows' x i) ∧ Sep w (slnR (.slice va n vc) svs2 :: base) wr) (fun iv _ => n - (intOf iv).toNat)
      case atStart => exact ⟨0, svs', by omega, rfl, HM.out.hn, by simpa [curM] using HM.out.hr, T5.out⟩
      case round =>
        clear T5
        obtain ⟨i, svs2, hi, rfl, hl2, hr2, T6⟩ := hrel
        have hrl : rows'.length = n := by rw [← HM.out.hr.1]; exact HM.out.hn
        by_cases hlt : i < n
        · have hlti : (i : Int) < n := by omega
          have hi0 : (0 : Int) ≤ i := by omega
          obtain ⟨⟨xa, xn, xc⟩, hx⟩ : ∃ y, svs2[i]? = some y := ⟨svs2[i]'(by omega), by simp⟩
          obtain ⟨r, hrk⟩ : ∃ r, rows'[i]? = some r := ⟨rows'[i]'(by omega), by simp⟩
          have hcur := curM_get (x := x) hrk
          have hnext := curM_next (x := x) hrk
          have hrow := T6.row 0 rfl
          rw [← hl2] at hrow
          obtain ⟨g, rfl⟩ : ∃ g, va = some ⟨g, 0, none⟩ := by
            rcases hrow.shape with ⟨h1, h2⟩ | ⟨g, cap, h1, _⟩
            · rw [h2] at hl2; simp at hl2; omega
            · exact ⟨g, (Value.slice.inj h1).1⟩
          have z0 := hrow.cell (f := slCellN) (m := 1) (fun _ => rfl) rfl hx (j := 0) (u := .slice xa xn xc) rfl
          rw [Nat.add_zero, Nat.mul_one] at z0
          have hfr : ∀ j, wr.frozen? ⟨g, j, none⟩ = false := fun j => hrow.frozen rfl j
          have hsees := hr2.2 i _ r hx hcur
          have same : popR x r = r → RowsIn (Sep w Rs) svs2 (curM rows' x (i + 1)) := fun e => by
            rw [hnext, e, set_self hcur]; exact hr2
          have HL := Lib.hid hlt
          cases r with
          | nil =>
            have HR2 := Lib.hid (same rfl)
            obtain ⟨_, _, e0, -, -, -⟩ := hsees wr (HRS.out _ _ T6)
            simp only [SlV.val] at e0
            cases e0
            replace T6 := Lib.hid T6
            clear same hnext hcur hrow hfr hsees hr2 hx hrk hlt
            gi_wp2
            exact ⟨⟨i + 1, svs2, by have := HL.out; omega, by go_num, hl2, HR2.out, T6.out⟩, by have := HL.out; simp [intOf]; omega⟩
          | cons y r =>
            have hsr := hsees wr (HRS.out _ _ T6)
            simp only [SlV.val] at hsr
            obtain ⟨_, _, e0, h1, h2, h3⟩ := id hsr
            cases e0
            rw [List.length_cons] at hsr
            obtain ⟨ga, o, rfl, hc⟩ : ∃ g o, xa = some ⟨g, o, none⟩ ∧ ∀ i n, (y :: r)[i]? = some n → wr.cell? ⟨g, o + i, none⟩ = some (.int .i64 n) := by
              rcases h3 with h | h
              · cases h
              · exact h
            have c0 := hc 0 y rfl
            rw [Nat.add_zero] at c0
            have hl0 : (0 : Int) < ((r.length + 1 : Nat) : Int) := by omega
            have hl1 : (1 : Int) ≤ ((r.length + 1 : Nat) : Int) := by omega
            have hl2' : 0 < r.length + 1 := by omega
            have hl3 : 1 ≤ r.length + 1 := by omega
            have hlb : ((r.length + 1 : Nat) : Int) ≤ 9223372036854775807 := by unfold maxLen at h2; simp at h1; omega
            simp only [List.length_cons] at z0
            by_cases hyx : y = x
            · obtain ⟨a2, hrun, hse⟩ := hsr.tail_
              have hb1 : (y == x) = true := by simp [hyx]
              have HR2 : Hid (RowsIn (Sep w Rs) (svs2.set i (a2, r.length, xc - 1)) (curM rows' x (i + 1))) := Lib.hid (by
                rw [hnext, show popR x (y :: r) = r by unfold popR; simp [hyx]]
                exact hr2.set i fun W hW => hse W (by have := hsees W hW; simpa [SlV.val] using this))
              have T7 := T6.drew.putRow (f := slCellN) (m := 1) (l := svs2) (g := g) (c := vc) 0 (by rw [hl2]; rfl) (fun _ => rfl) (k := i) (by rw [hl2]; exact HL.out) (a2, r.length, xc - 1)
              rw [hl2] at T7
              have HT7 : Hid (Sep w (slnR (.slice (some ⟨g, 0, none⟩) n vc) (svs2.set i (a2, r.length, xc - 1)) :: base) (wr.drew.setCell ⟨g, i, none⟩ (.slice a2 r.length (xc - 1)))) := Lib.hid (by
                have := T7
                rw [Nat.mul_one] at this
                exact this)
              have HS0 : wr.drew.cell? ⟨b4, 0, none⟩ = some (.slice (some ⟨g, 0, none⟩) n vc) := HB4.out _ _ T6.drew
              have HS1 := HB4.out _ _ HT7.out
              have hgw := World.block_lt_of_cell? _ _ z0
              have z1 : wr.drew.cell? ⟨g, i, none⟩ = some (.slice (some ⟨ga, o, none⟩) (r.length + 1) xc) := z0
              have f1 : wr.drew.frozen? ⟨g, i, none⟩ = false := hfr i
              obtain ⟨m, hm⟩ : ∃ gx_, (r.length + 1) = gx_ := ⟨_, rfl⟩
              rw [hm] at hl0 hl1 hl2' hl3 hlb z0 z1 hrun
              clear same hnext hcur hrow hfr hsees hsr hr2 hx hrk hlt T6 T7 h1 h2 h3 hc hse hm hyx
              gi_wp2_with fail
              refine wpIn_regionI (fun W => W.cell? ⟨b4, 0, none⟩ = some (.slice (some ⟨g, 0, none⟩) n vc)) (by kernel_rfl) ?_
              refine wpAnyI_take 0 (v := _) (by kernel_rfl) (by simp only [List.getElem?_toArray, List.getElem?_cons_succ, List.getElem?_cons_zero]; rfl) (by kernel_rfl) (by kernel_rfl) (by kernel_rfl) (by exact fun _ _ _ h => h) (.inl ⟨by rfl, by (intro w hSw; (go_simp; try rfl))⟩) (fun _ => rfl) HS0 ?_
              simp only [Act.put, List.setIfInBounds_toArray, List.set_cons_zero, List.set_cons_succ]
              refine wpAnyI_take 1 (v := _) (by kernel_rfl) (by simp only [List.getElem?_toArray, List.getElem?_cons_succ, List.getElem?_cons_zero]; rfl) (by kernel_rfl) (by kernel_rfl) (by kernel_rfl) (by exact fun _ _ _ h => h) (.inl ⟨by rfl, by (intro w hSw; (go_simp; try rfl))⟩) (fun _ => rfl) HS0 ?_
              simp only [Act.put, List.setIfInBounds_toArray, List.set_cons_zero, List.set_cons_succ]
              refine wpAnyI_take 2 (v := _) (by kernel_rfl) (by simp only [List.getElem?_toArray, List.getElem?_cons_succ, List.getElem?_cons_zero]; rfl) (by kernel_rfl) (by kernel_rfl) (by kernel_rfl) (by exact fun _ _ _ h => h) (.inl ⟨by rfl, by (intro w hSw; (go_simp; try rfl))⟩) (fun _ => rfl) HS0 ?_
              simp only [Act.put, List.setIfInBounds_toArray, List.set_cons_zero, List.set_cons_succ]
              refine wpAnyI_take 3 (v := _) (by kernel_rfl) (by simp only [List.getElem?_toArray, List.getElem?_cons_succ, List.getElem?_cons_zero]; rfl) (by kernel_rfl) (by kernel_rfl) (by kernel_rfl) (by exact fun _ _ _ h => h) (.inl ⟨by rfl, by (intro w hSw; (go_simp; try rfl))⟩) (fun _ => rfl) HS0 ?_
              simp only [Act.put, List.setIfInBounds_toArray, List.set_cons_zero, List.set_cons_succ]
              refine wpAnyI_take 4 (v := _) (by kernel_rfl) (by simp only [List.getElem?_toArray, List.getElem?_cons_succ, List.getElem?_cons_zero]; rfl) (by kernel_rfl) (by kernel_rfl) (by kernel_rfl) (by exact fun _ _ _ h => h) (.inl ⟨by rfl, by (intro w hSw; (go_simp; try rfl))⟩) (fun _ => rfl) HS0 ?_
              simp only [Act.put, List.setIfInBounds_toArray, List.set_cons_zero, List.set_cons_succ]
              refine wpAnyI_all (rs := [5]) (by kernel_rfl) (by simp) ?_
              intro j hj
              simp only [List.mem_cons, List.not_mem_nil, or_false] at hj
              rcases hj with rfl
              refine wpI_step (by simp only [List.getElem?_toArray, List.getElem?_cons_succ, List.getElem?_cons_zero]; rfl) (fun K hK => ?_)
              go_simp
              (try gi_wp2_with fail)
              refine hK _ _ HS1 (fun _ => ?_)
              clear hK K
              refine wpAnyI_done (by kernel_rfl) ?_ _
              gi_wp2
              exact ⟨⟨i + 1, _, by have := HL.out; omega, by go_num, by simpa using hl2, HR2.out, HT7.out⟩, by have := HL.out; simp [intOf]; omega⟩
            · have hb1 : (y == x) = false := by simpa using hyx
              have HR2 := Lib.hid (same (by unfold popR; simp [hyx]))
              replace T6 := Lib.hid T6
              obtain ⟨m, hm⟩ : ∃ gx_, (r.length + 1) = gx_ := ⟨_, rfl⟩
              rw [hm] at hl0 hl1 hl2' hl3 hlb z0
              clear same hnext hcur hrow hfr hsees hsr hr2 hx hrk hlt h1 h2 h3 hc hm hyx
              gi_wp2
              exact ⟨⟨i + 1, svs2, by have := HL.out; omega, by go_num, hl2, HR2.out, T6.out⟩, by have := HL.out; simp [intOf]; omega⟩
        · have hlti : ¬ (i : Int) < n := by omega
          obtain rfl : i = n := by omega
          rw [← hrl, curM_end] at hr2
          have HF := Lib.hid (And.intro hl2 hr2)
          replace T6 := Lib.hid T6
          clear hlt hr2 hl2 hi
          gi_wp2
          refine ⟨mergeR b4 va i vc Bs svs2 (outl ++ [x]) oa2 oc2 Rs, ⟨rfl, x, svs2, oa2, oc2, HP.out, HF.out.2, HF.out.1, rfl⟩, ?_⟩
          have h1 := T6.out
          rw [HBASE.out] at h1
          have h2 := h1.perm (List.perm_middle (l₁ := [_, _, _])).symm
          simpa [List.length_append, List.append_assoc] using h2
  case done =>
    rintro _ W1 ⟨hno, rfl⟩ S7
    have HNO := Lib.hid hno
    have S8 : Sep w (boxR (b6 + 2) (.deferred (some [])) :: boxR b6 (.cells #[.bool (decide ((headsM rows').length = 0))] 4) :: boxR (b4 + 1) (.cells #[.slice oa outl.length oc] 89) :: numsR (.slice oa outl.length oc) outl :: boxR b4 (.cells #[.slice va n vc] 87) :: (marksR Bs ++ headF (b6 + 1) (.slice va n vc) svs' Rs)) W1 := S7
    have q6 := cellAt (S8.box 1 rfl) 0 (v := .bool (decide ((headsM rows').length = 0))) rfl
    have q5 := cellAt (S8.box 2 rfl) 0 (v := .slice oa outl.length oc) rfl
    have S9 : Sep w (marksR ((b6 + 2) :: Bs) ++ (boxR b6 (.cells #[.bool (decide ((headsM rows').length = 0))] 4) :: boxR (b4 + 1) (.cells #[.slice oa outl.length oc] 89) :: numsR (.slice oa outl.length oc) outl :: boxR b4 (.cells #[.slice va n vc] 87) :: headF (b6 + 1) (.slice va n vc) svs' Rs)) W1 := by
      refine S8.perm ((?_ : List.Perm _ _).cons _)
      exact List.perm_append_comm_assoc [_, _, _, _] (marksR Bs) (headF (b6 + 1) (.slice va n vc) svs' Rs)
    by_cases he : headsM rows' = []
    · have hd : decide ((headsM rows').length = 0) = true := by rw [he]; rfl
      rw [hd] at q6 S9
      have HE := Lib.hid (show mergeM rows = some outl by rw [HM.out.hm, mergeM_empty he]; simp)
      replace S9 := Lib.hid S9
      clear S7 S8 S6 IT hB hno he hd
      gi_wp2
      refine leaves_marks (Bs := (b6 + 2) :: Bs) (fun W' T => ?_) _ S9.out
      refine ⟨.tuple #[.slice oa outl.length oc, .bool true], by simp [results, Tryd.results67, go_sem], ?_⟩
      exact .inl ⟨outl, HE.out, _, rfl, T.sub (.cons _ (.cons _ (.cons_cons _ (.cons _ (.cons _ (.cons _ (List.Sublist.refl _)))))))⟩
    · have hd : decide ((headsM rows').length = 0) = false := by
        rw [decide_eq_false_iff_not]
        intro h; exact he (List.length_eq_zero_iff.1 h)
      rw [hd] at q6 S9
      have HE := Lib.hid (show mergeM rows = none by rw [HM.out.hm, mergeM_none he (pick_none HNO.out)]; rfl)
      replace S9 := Lib.hid S9
      clear S7 S8 S6 IT hB hno he hd
      gi_wp2
      refine leaves_marks (Bs := (b6 + 2) :: Bs) (fun W' T => ?_) _ S9.out
      refine ⟨.tuple #[.slice none 0 0, .bool false], by simp [results, Tryd.results67, go_sem], ?_⟩
      exact .inr ⟨HE.out, rfl, T.sub (.cons _ (.cons _ (.cons _ (.cons _ (.cons _ (.cons _ (List.Sublist.refl _)))))))⟩
  case stop =>
    rintro _ k2 _ W1 hk2 ⟨rfl, x, svs2, oa2, oc2, hp, hr2, hn2, rfl⟩ S7
    have hsz := sizeM_pop (pickM_some hp).1
    have NEW : Hid (MergeInv w Rs rows b4 va n vc ((b6 + 2) :: Bs) (popM rows' x) svs2 (outl ++ [x]) oa2 oc2 (sizeM (popM rows' x)) W1 ∧ sizeM (popM rows' x) < k) := Lib.hid ⟨⟨rfl, by
        rw [HM.out.hm, mergeM_step hp, Option.map_map]
        congr 1
        funext l
        simp, hr2, hn2, by have := HM.out.hl; simp; omega, by
        refine S7.perm ?_
        exact (List.perm_middle (l₁ := [_, _, _, _])).symm⟩, by rw [HM.out.hk]; exact hsz⟩
    clear S7 S6 IT hB hp hr2 hn2 hsz
    gi_wp2
    exact HK.out _ _ (Handed.intro _ NEW.out.2 (HJ.out _ _ _ ⟨(b6 + 2) :: Bs, popM rows' x, svs2, outl ++ [x], oa2, oc2, _, _, _, _, _, _, _, _, _, _, _, _, _, _, _, _, _, _, _, _, _, _, _, _, _, _, _, _, _, _, _, _, _, _, _, _, _, _, _, NEW.out.1, rfl⟩))
end
end Go.Proofs.YtobcnffjfclolaaDoor
