/- Objects: Class. -/
import Derived.Test.YtobcnffjfclolaaDoorObjD
import Derived.Test.YtobcnffjfclolaaDoorObjM
namespace Go.Proofs.YtobcnffjfclolaaDoor
set_option linter.unusedSimpArgs false
open Go.RowKit
set_option linter.unusedVariables false
/-- What is raised, as it lies. -/
abbrev excZ : Value := .agg #[.string ⟨#[]⟩, .int .i64 0, .int .i64 0, .string ⟨#[]⟩, .bool false]
abbrev excN (s : ByteArray) : Value := .agg #[.string s, .int .i64 0, .int .i64 0, .string ⟨#[]⟩, .bool false]
abbrev typeError : ByteArray := ⟨#[84, 121, 112, 101, 69, 114, 114, 111, 114]⟩
abbrev excB (q : Nat) (s : ByteArray) : Res := boxR q (.cells #[.string s, .int .i64 0, .int .i64 0, .string ⟨#[]⟩, .bool false] 35)
abbrev zeroV : Value := .agg #[.int .i64 0, .int .i64 0, .string ⟨#[]⟩]
section
variable {w W : World} {Rs : List Res} {h : Nat} {H : HeapM}
def ClassDone (w : World) (Rs : List Res) (i h : Nat) (H : HeapM) (r : Option HeapM) (e : Ending) (W : World) : Prop :=
  match r with
  | some H' => e = .returned (.tuple #[.agg #[.int .i64 4, .int .i64 (H.last + 1), .string ⟨#[]⟩], excZ]) ∧ Sep w (Rs.set i (heapR h H')) W
  | none => e = .returned (.tuple #[zeroV, excN typeError]) ∧ Sep w Rs W
/-- Class's own cells. -/
abbrev classR (b : Nat) (space : V) (Rs : List Res) : List Res := excB (b + 1 + 1 + 1) typeError :: excB (b + 1 + 1) ⟨#[]⟩ :: zeroB (b + 1) :: valB b space :: Rs
theorem class_at {b : Nat} {space : V} {i : Nat} {R : Res} (hi : Rs[i]? = some R) (Q : List Res) : (Q ++ classR b space Rs)[Q.length + (i + 4)]? = some R := by
  rw [List.getElem?_append_right (by omega), Nat.add_sub_cancel_left]; simpa using hi
/-- Something lies there. -/
def anyR (q : Nat) : Res := ⟨fun W F => (∃ o, W.heap[q]? = some o) ∧ F = [q], fun {W W' F} h k => ⟨by obtain ⟨⟨o, ho⟩, h2⟩ := h; exact ⟨o, (k q (by rw [h2]; simp)).trans ho⟩, h.2⟩, fun {W F} h b' hb => by
  obtain ⟨⟨o, ho⟩, h2⟩ := h
  rw [h2] at hb; simp at hb; subst hb; exact blockLt ho⟩
theorem Sep.toAny (S : Sep w Rs W) {q : Nat} {o : Obj} (j : Nat) (hj : Rs[j]? = some (boxR q o)) : Sep w (Rs.set j (anyR q)) W :=
  S.turn j hj fun F hF hn _ => ⟨F, ⟨⟨o, hF.1⟩, hF.2⟩, hn, Grow.refl _ _, Outside.refl _ _⟩
theorem Sep.poke {q : Nat} (S : Sep w Rs W) (j : Nat) (hj : Rs[j]? = some (anyR q)) (k : Nat) (u : Value) : Sep w Rs (W.setCell ⟨q, k, none⟩ u) := by
  have h := S.turn (R' := anyR q) (W' := W.setCell ⟨q, k, none⟩ u) j hj fun F hF hn _ => by
    obtain ⟨⟨o, ho⟩, h2⟩ := hF
    refine ⟨F, ⟨?_, h2⟩, hn, Grow.refl _ _, by rw [h2]; exact (Outside.refl _ _).setCell (.inl (by simp)) u⟩
    have hlt := blockLt ho
    exact ⟨(W.setCell ⟨q, k, none⟩ u).heap[q]'(by rw [size_setCell]; exact hlt), by simp [hlt]⟩
  rwa [Sep.setSame hj] at h
theorem class_set {b i : Nat} {space : V} {Rs : List Res} (R : Res) (Q : List Res) : (Q ++ classR b space Rs).set (Q.length + (i + 4)) R = Q ++ classR b space (Rs.set i R) := by
  rw [List.set_append_right _ _ (by omega), Nat.add_sub_cancel_left]; rfl
theorem pairsOk_nil : PairsOk [] := ⟨by simp, by simp, by simp⟩
theorem HeapM.Fit.pairs {N : Nat} (F : H.Fit N) (v : V) : PairsOk (H.pairs v) := by
  unfold HeapM.pairs
  cases g : H.of v with
  | none => exact pairsOk_nil
  | some o => exact F.P (v.n, o) (getL_mem (HeapM.of_some g).2)
set_option maxRecDepth 100000 in
set_option maxHeartbeats 6400000 in
theorem class_ok (S : Sep w Rs W) (i : Nat) (hi : Rs[i]? = some (heapR h H)) {N : Nat} (F : H.Fit N) (name : ByteArray) (hn : name.size ≤ maxLen) (ba : Option Addr) (bc : Nat) (bases : List V)
    (hb : ∀ W', Sep w Rs W' → SeesV W' (.slice ba bases.length bc) bases) (space : V) (hz : bases.length * (N + 2) + bases.length + N ≤ 900000) :
    Calls Tryd.prog 25 #[.pointer (some ⟨h, 0, none⟩), .string name, .slice ba bases.length bc, space.val] W (ClassDone w Rs i h H (H.mkClass name hn bases space)) := by
  have hN : N ≤ 900000 := by omega
  have hN4 : N ≤ 4000000 := by omega
  have hbl : bases.length ≤ 900000 := by omega
  have hbli : (bases.length : Int) ≤ 900000 := by omega
  obtain ⟨_, _, e0, k1, k2, k3⟩ := hb W S
  cases e0
  clear k1 k2 k3
  obtain ⟨b, hbb⟩ : ∃ gx_, (W.heap.size) = gx_ := ⟨_, rfl⟩
  have S0 := (((S.alloc (.cells #[.int .i64 space.kind, .int .i64 space.n, .string space.s] 31)).alloc (.cells #[.int .i64 0, .int .i64 0, .string ⟨#[]⟩] 31)).alloc (.cells #[.string ⟨#[]⟩, .int .i64 0, .int .i64 0, .string ⟨#[]⟩, .bool false] 35)).alloc (.cells #[.string typeError, .int .i64 0, .int .i64 0, .string ⟨#[]⟩, .bool false] 35)
  simp only [World.size_alloc, hbb] at S0
  have S1 : Sep w (slnR (.slice none 0 0) [] :: ([] ++ classR b space Rs)) _ := S0.addRow (Below.refl _ _) (e := 89) (m := 1) (f := slCellN) (v := .slice none 0 0) (l := []) (World.ownsRow_nil _ _ _ _) (by simp [Value.ownBlock])
  have HB := Lib.hid hb
  have HF := Lib.hid F
  have HI := Lib.hid hi
  have HZ := Lib.hid (And.intro hz (And.intro hN4 hbl))
  replace S1 := Lib.hid S1
  clear S hi F hb S0 hz hN hN4 hbl
  simp only [V.val]
  go_enter Tryd.func25, Tryd.ntmps25
  go_wp2
  try rw [hbb]
  clear hbb
  go_loopw [11, 27] (fun ov iv wr => ∃ (k : Nat) (Ns : List Res) (svs : List SlV), k ≤ bases.length ∧ iv = .int .i64 k ∧ svs.length = k ∧ (∀ x ∈ bases.take k, H.isClass x = true) ∧ RowsIn (Sep w (Ns ++ classR b space Rs)) svs ((bases.take k).map H.ordN) ∧ Sep w (slnR ov svs :: (Ns ++ classR b space Rs)) wr) (fun _ iv _ => bases.length - (intOf iv).toNat)
  case atStart => exact ⟨0, [], [], by omega, rfl, rfl, by simp, ⟨rfl, by simp⟩, S1.out⟩
  case round =>
    clear S1
    obtain ⟨k, Ns, svs, hk, rfl, hln, hcl, hri, S2⟩ := hrel
    have FR : Hid (∀ W (X : List Res), Sep w (X ++ classR b space Rs) W → Sep w Rs W) := Lib.hid fun W X S => S.sub ((List.Sublist.cons _ (.cons _ (.cons _ (.cons _ (List.Sublist.refl _))))).trans (List.sublist_append_right _ _))
    obtain ⟨oa, oc, hov⟩ := (S2.row 0 rfl).form
    rw [hov] at S2 ⊢
    by_cases hlt : k < bases.length
    · obtain ⟨x, hx⟩ : ∃ x, bases[k]? = some x := ⟨bases[k], by simp [hlt]⟩
      obtain ⟨_, _, e0, h1, h2, h3⟩ := HB.out wr (FR.out _ (slnR (.slice oa svs.length oc) svs :: Ns) S2)
      cases e0
      obtain ⟨g, o, rfl, hc⟩ : ∃ g o, ba = some ⟨g, o, none⟩ ∧ ∀ i v, bases[i]? = some v → wr.cell? ⟨g, o + i * 3, none⟩ = some (.int .i64 v.kind) ∧ wr.cell? ⟨g, o + i * 3 + 1, none⟩ = some (.int .i64 v.n) ∧ wr.cell? ⟨g, o + i * 3 + 2, none⟩ = some (.string v.s) := by
        rcases h3 with h | h
        · subst h; simp at hlt
        · exact h
      obtain ⟨c0, c1, c2⟩ := hc k x hx
      have hil : (k : Int) < bases.length := by omega
      have hnx : (bases.take (k + 1)).map H.ordN = (bases.take k).map H.ordN ++ [H.ordN x] := by rw [List.take_add_one, hx]; simp
      have hcn : H.isClass x = true → ∀ y ∈ bases.take (k + 1), H.isClass y = true := fun hc y hy => by
        rw [List.take_add_one, hx] at hy
        rcases List.mem_append.1 hy with h | h
        · exact hcl y h
        · simp at h; rw [h]; exact hc
      have hall : H.isClass x = false → H.c3 bases = none := fun hc => by
        unfold HeapM.c3
        rw [if_neg]
        intro h
        have := List.all_eq_true.1 h x (List.mem_of_getElem? hx)
        rw [hc] at this; cases this
      have HX := Lib.hid (And.intro hnx (And.intro hcn (And.intro hall (And.intro hlt (And.intro hln hri)))))
      obtain ⟨vb, hvb⟩ : ∃ gx_, (wr.heap.size) = gx_ := ⟨_, rfl⟩
      have S3 := S2.alloc (.cells #[.int .i64 x.kind, .int .i64 x.n, .string x.s] 31)
      rw [hvb] at S3
      obtain ⟨Q, hQ⟩ : ∃ Q, Q = valB vb x :: slnR (.slice oa svs.length oc) svs :: Ns := ⟨_, rfl⟩
      have S4 : Sep w (Q ++ classR b space Rs) (wr.alloc (.cells #[.int .i64 x.kind, .int .i64 x.n, .string x.s] 31)) := by rw [hQ]; exact S3
      have C1 := Lib.hid (isClass_ok S4 _ (class_at HI.out Q) x)
      have d0 := cellAt (S3.box 0 rfl) 0 (v := .int .i64 x.kind) rfl
      have d1 := cellAt (S3.box 0 rfl) 1 (v := .int .i64 x.n) rfl
      have d2 := cellAt (S3.box 0 rfl) 2 (v := .string x.s) rfl
      simp only [V.val] at C1
      clear S2 S3 S4 hnx hcn hall hlt hln hri hcl hx hc h1 h2 h3 hov
      go_wp2_with fail
      refine C1.out.mono ?_
      rintro e w1 ⟨rfl, S5⟩
      clear C1 c0 c1 c2 d0 d1 d2 hvb
      cases hc : H.isClass x with
      | false =>
        have e1 := S5.box (b := b + 1 + 1 + 1) (o := .cells #[.string typeError, .int .i64 0, .int .i64 0, .string ⟨#[]⟩, .bool false] 35) Q.length (by simp)
        have e2 := S5.box (b := b + 1 + 1) (o := .cells #[.string ⟨#[]⟩, .int .i64 0, .int .i64 0, .string ⟨#[]⟩, .bool false] 35) (Q.length + 1) (by simp)
        have e3 := S5.box (b := b + 1) (o := .cells #[.int .i64 0, .int .i64 0, .string ⟨#[]⟩] 31) (Q.length + 2) (by simp)
        have hnone := HX.out.2.2.1 hc
        have DONE : Hid (H.mkClass name hn bases space = none) := Lib.hid (by unfold HeapM.mkClass; rw [hnone])
        have S6 := ((S5.toAny (Q.length + 1) (q := b + 1 + 1) (by simp; rfl)).toAny (Q.length + 2) (q := b + 1) (by simp; rfl))
        have FRT : Hid (∀ W, Sep w (((Q ++ classR b space Rs).set (Q.length + 1) (anyR (b + 1 + 1))).set (Q.length + 2) (anyR (b + 1))) W → Sep w Rs W) := Lib.hid fun W S => by
          have e : ((Q ++ classR b space Rs).set (Q.length + 1) (anyR (b + 1 + 1))).set (Q.length + 2) (anyR (b + 1)) = Q ++ (excB (b + 1 + 1 + 1) typeError :: anyR (b + 1 + 1) :: anyR (b + 1) :: valB b space :: Rs) := by
            rw [List.set_append_right _ _ (by omega), List.set_append_right _ _ (by omega)]
            simp
          rw [e] at S
          exact S.sub ((List.Sublist.cons _ (.cons _ (.cons _ (.cons _ (List.Sublist.refl _))))).trans (List.sublist_append_right _ _))
        replace S6 := Lib.hid S6
        have z0 := cellAt e1 0 (v := .string typeError) rfl
        have z1 := cellAt e1 1 (v := .int .i64 0) rfl
        have z2 := cellAt e1 2 (v := .int .i64 0) rfl
        have z3 := cellAt e1 3 (v := .string ⟨#[]⟩) rfl
        have z4 := cellAt e1 4 (v := .bool false) rfl
        have y0 := cellAt e2 0 (v := .string ⟨#[]⟩) rfl
        have y1 := cellAt e2 1 (v := .int .i64 0) rfl
        have y2 := cellAt e2 2 (v := .int .i64 0) rfl
        have y3 := cellAt e2 3 (v := .string ⟨#[]⟩) rfl
        have y4 := cellAt e2 4 (v := .bool false) rfl
        have y5 := frozenAt e2 0
        have y6 := frozenAt e2 1
        have y7 := frozenAt e2 2
        have y8 := frozenAt e2 3
        have y9 := frozenAt e2 4
        have x0 := cellAt e3 0 (v := .int .i64 0) rfl
        have x1 := cellAt e3 1 (v := .int .i64 0) rfl
        have x2 := cellAt e3 2 (v := .string ⟨#[]⟩) rfl
        have x3 := frozenAt e3 0
        have x4 := frozenAt e3 1
        have x5 := frozenAt e3 2
        clear S5 hnone hc e1 e2 e3
        go_wp2
        go_region
        go_wp2
        refine bodyPost_ret (v := .tuple #[zeroV, excN typeError]) (by simp [results, Tryd.results25, go_sem, x0, x1, x2, y0, y1, y2, y3, y4]) rfl ?_
        unfold ClassDone
        rw [DONE.out]
        refine ⟨rfl, FRT.out _ (Sep.drew ?_)⟩
        iterate 5 refine Sep.poke (q := b + 1 + 1) ?_ (Q.length + 1) (by simp) _ _
        iterate 3 refine Sep.poke (q := b + 1) ?_ (Q.length + 2) (by simp) _ _
        exact S6.out
      | true =>
        have S6 : Sep w (valB vb x :: slnR (.slice oa svs.length oc) svs :: (Ns ++ classR b space Rs)) w1 := by rw [hQ] at S5; exact S5
        have d0 := cellAt (S6.box 0 rfl) 0 (v := .int .i64 x.kind) rfl
        have d1 := cellAt (S6.box 0 rfl) 1 (v := .int .i64 x.n) rfl
        have d2 := cellAt (S6.box 0 rfl) 2 (v := .string x.s) rfl
        have C2 := order_list S5 _ (class_at HI.out Q) HF.out.G HZ.out.2.1 x
        simp only [V.val] at C2
        replace C2 := Lib.hid C2
        have hol : (H.order x).length ≤ 4000001 := by
          have := HeapM.ordN_len HF.out.G x
          unfold HeapM.ordN at this
          rw [List.length_map] at this
          have := HZ.out.2.1; omega
        have HOL := Lib.hid hol
        clear S5 S6 hol
        go_wp2_with fail
        refine C2.out.mono ?_
        rintro e w2 ⟨sv, rfl, S7⟩
        obtain ⟨sa, sc, rfl⟩ := (S7.row 0 rfl).form
        have C3 := Lib.hid (onumbers_ok S7 sa sc (H.order x) (fun W' T => (T.row 0 rfl).sees') HOL.out)
        clear C2 S7 d0 d1 d2
        go_wp2_with fail
        refine C3.out.mono ?_
        rintro e w3 ⟨nv, rfl, S8⟩
        obtain ⟨na, nc, rfl⟩ := (S8.row 0 rfl).form
        have S9 : Sep w (numsR (.slice na (H.ordN x).length nc) (H.ordN x) :: slnR (.slice oa svs.length oc) svs :: (Ns ++ classR b space Rs)) w3 := by
          rw [hQ] at S8
          exact S8.sub (.cons_cons _ (.cons _ (.cons _ (List.Sublist.refl _))))
        have hf2 : ((H.order x).map (·.n)).length = (H.ordN x).length := rfl
        rw [hf2]
        have S10 := S9.alloc (.cells #[.slice na (H.ordN x).length nc] 89)
        have hone := Lib.hid (sees_one (f := slCellN) (m := 1) (y := ((na, (H.ordN x).length, nc) : SlV)) (heapAllocNew w3 (.cells #[.slice na (H.ordN x).length nc] 89)) rfl)
        have hsl : svs.length ≤ 900000 := by have := HZ.out.2.2; have := HX.out.2.2.2.2.1; have := HX.out.2.2.2.1; omega
        have HSL := Lib.hid hsl
        replace S10 := Lib.hid S10
        clear C3 S8 S9 hf2 hsl
        obtain ⟨ON, hON⟩ : ∃ gx_, (H.ordN x) = gx_ := ⟨_, rfl⟩
        rw [hON] at S10 hone HX ⊢
        go_wp2_with (at_builtin; refine wpList_append_rows rfl _ _ 87 89 rfl Tryd.underlying87 _ 24 info_sln rfl (by decide) (by decide) (fun _ => rfl) slCellN_one S10.out 2 rfl rfl _ [(na, ON.length, nc)] rfl hone.out (by have := HSL.out; simp; omega) ?_)
        intro va vc w5 S11
        have S12 : Sep w (numsR (.slice na ON.length nc) ON :: slnR (.slice va (svs.length + 1) vc) (svs ++ [(na, ON.length, nc)]) :: (Ns ++ classR b space Rs)) w5 := S11.tail
        have S13 := Lib.hid S12.swap
        clear S10 S11 S12 hone
        go_wp2
        refine ⟨⟨k + 1, numsR (.slice na ON.length nc) ON :: Ns, svs ++ [(na, ON.length, nc)], by have := HX.out.2.2.2.1; omega, by go_num, by have := HX.out.2.2.2.2.1; simp; omega, HX.out.2.1 hc, ?_, ?_⟩, by have := HX.out.2.2.2.1; simp [intOf]; omega⟩
        · rw [HX.out.1]
          exact (HX.out.2.2.2.2.2.mono fun W' T => Sep.tail T).snoc fun W' T => SeesN.of_slIs (Sep.row T 0 rfl)
        · simpa using S13.out
    · obtain rfl : k = bases.length := by omega
      rw [List.take_length] at hcl hri
      have hall : bases.all H.isClass = true := List.all_eq_true.2 hcl
      have hc3 : H.c3 bases = mergeM (bases.map H.ordN ++ [bases.map (·.n)]) := by unfold HeapM.c3; rw [if_pos hall]
      have hl1 : svs.length + 1 ≤ 1000000 := by have := HZ.out.2.2; omega
      have hz1 : sizeM (bases.map H.ordN) + (bases.map (·.n)).length ≤ 1000000 := by
        have h1 := sizeM_ord HF.out.G bases
        have h2 := HZ.out.1
        have h3 := Nat.mul_le_mul_left bases.length (show N + 1 ≤ N + 2 by omega)
        rw [List.length_map]; omega
      have HA := Lib.hid hall
      have HC3 := Lib.hid hc3
      have HRI := Lib.hid hri
      have HL1 := Lib.hid (And.intro hl1 hz1)
      have C1 := Lib.hid (onumbers_ok S2 ba bc bases (fun W' T => HB.out W' (FR.out _ (_ :: Ns) T)) (by have := HZ.out.2.2; omega))
      clear S2 hall hc3 hri hl1 hz1 hcl hln hov
      go_wp2_with fail
      refine C1.out.mono ?_
      rintro e w2 ⟨nv, rfl, S3⟩
      obtain ⟨na, nc, rfl⟩ := (S3.row 0 rfl).form
      obtain ⟨BN, hBN⟩ : ∃ gx_, (bases.map (·.n)) = gx_ := ⟨_, rfl⟩
      rw [hBN] at S3 HC3 HL1 ⊢
      have C2 := Lib.hid (lorder_ok S3 0 na nc BN (fun W' T => SeesN.of_slIs (T.row 0 rfl)) oa oc svs (bases.map H.ordN) (fun W' T => (T.row 1 rfl).seesR (f := slCellN) (m := 1) (fun _ => rfl)) (HRI.out.mono fun W' T => Sep.tail (Sep.tail T)) HL1.out.1 HL1.out.2)
      clear C1 S3
      go_wp2_with fail
      refine C2.out.mono ?_
      rintro e w3 hdone
      clear C2
      rcases hdone with ⟨l, hm, hnl, ov, rfl, S4⟩ | ⟨hm, rfl, S4⟩
      · obtain ⟨va, vc, hv⟩ := (S4.row 0 rfl).form
        have hv : ov = .slice va (l.length + 1) vc := hv
        subst hv
        obtain ⟨Q, hQ⟩ : ∃ Q, Q = numsR (.slice va (l.length + 1) vc) (0 :: l) :: numsR (.slice na BN.length nc) BN :: slnR (.slice oa svs.length oc) svs :: Ns := ⟨_, rfl⟩
        have S5 : Sep w (Q ++ classR b space Rs) w3 := by rw [hQ]; exact S4
        have K := Lib.hid (S5.kind _ (class_at HI.out Q) space)
        have d0 := cellAt (S5.box (b := b) (Q.length + 3) (by simp; rfl)) 0 (v := .int .i64 space.kind) rfl
        have d1 := cellAt (S5.box (b := b) (Q.length + 3) (by simp; rfl)) 1 (v := .int .i64 space.n) rfl
        have d2 := cellAt (S5.box (b := b) (Q.length + 3) (by simp; rfl)) 2 (v := .string space.s) rfl
        have HM := Lib.hid (And.intro hm hnl)
        clear hm hnl S4 S5
        go_wp2_with fail
        refine K.out.mono ?_
        rintro e w4 ⟨rfl, S5, -⟩
        clear K d0 d1 d2
        obtain ⟨kd, hkd⟩ : ∃ gx_, (H.kind space) = gx_ := ⟨_, rfl⟩
        rw [hkd]
        by_cases hk3 : kd = 3
        · subst hk3
          have hl9 : l.length ≤ 1000000 := by have := merge_len _ _ HM.out.1; rw [sizeM_snoc] at this; have := HL1.out.2; omega
          have hlb : ((l.length + 1 : Nat) : Int) ≤ 9223372036854775807 := by omega
          have HOK : Hid (∀ x ∈ l, okI x) := Lib.hid fun x hx => by
            have hm := HM.out.1
            rw [← hBN] at hm
            have h1 := HeapM.c3_pos HF.out.G HA.out hm x hx
            have h2 := HF.out.G.wt
            have h3 := HZ.out.2.1
            exact okI_of (by omega)
          have hse0 : SeesN w4 (.slice va (l.length + 1) vc) (0 :: l) := by rw [hQ] at S5; exact SeesN.of_slIs (Sep.row S5 0 rfl)
          obtain ⟨a2, hrun, hse⟩ := hse0.tail_
          have HS : Hid (∀ W', Sep w (Q ++ classR b space Rs) W' → SeesN W' (.slice a2 l.length (vc - 1)) l) := Lib.hid fun W' T => hse _ (by rw [hQ] at T; exact SeesN.of_slIs (Sep.row T 0 rfl))
          have DONE : Hid (H.mkClass name hn bases space = some (H.add (classO name hn l (H.pairs space)))) := Lib.hid (by
            unfold HeapM.mkClass
            rw [HC3.out, HM.out.1]
            exact if_pos hkd)
          have HKD := Lib.hid hkd
          have HL9 := Lib.hid hl9
          have hl0 : (0 : Int) < ((l.length + 1 : Nat) : Int) := by omega
          have hl1 : (1 : Int) ≤ ((l.length + 1 : Nat) : Int) := by omega
          have hl2 : 0 < l.length + 1 := by omega
          have hl3 : 1 ≤ l.length + 1 := by omega
          have hl4 : (l.length : Int) ≤ 1000000 := by omega
          clear hse hse0 hkd hl9
          obtain ⟨m, hm⟩ : ∃ gx_, (l.length + 1) = gx_ := ⟨_, rfl⟩
          rw [hm] at hrun hl0 hl1 hl2 hl3 hlb ⊢
          clear hm hQ
          have S6 := Lib.hid (Sep.addRow S5 (Below.refl _ _) (e := 31) (m := 3) (f := V.cells) (v := .slice none 0 0) (l := []) (World.ownsRow_nil _ _ _ _) (by simp [Value.ownBlock]))
          clear S5
          go_wp2
          go_loopw [16, 65] (fun iv kv wr => ∃ k : Nat, k ≤ l.length ∧ kv = .int .i64 k ∧ Sep w (valsR iv ((l.take k).map refN) :: (Q ++ classR b space Rs)) wr) (fun _ kv _ => l.length - (intOf kv).toNat)
          case atStart => exact ⟨0, by omega, rfl, S6.out⟩
          case round =>
            clear S6
            obtain ⟨k, hk, rfl, S7⟩ := hrel
            obtain ⟨ia, ic, hiv⟩ := (S7.row 0 rfl).form
            rw [hiv] at S7 ⊢
            by_cases hlt : k < l.length
            · obtain ⟨x, hx⟩ : ∃ x, l[k]? = some x := ⟨l[k], by simp [hlt]⟩
              obtain ⟨_, _, e0, h1, h2, h3⟩ := HS.out _ S7.tail
              cases e0
              obtain ⟨g, o, rfl, hc⟩ : ∃ g o, a2 = some ⟨g, o, none⟩ ∧ ∀ i n, l[i]? = some n → wr.cell? ⟨g, o + i, none⟩ = some (.int .i64 n) := by
                rcases h3 with h | h
                · subst h; simp at hlt
                · exact h
              have c0 := hc k x hx
              have hxo := HOK.out x (List.mem_of_getElem? hx)
              have hil : (k : Int) < l.length := by omega
              have hnx : (l.take (k + 1)).map refN = (l.take k).map refN ++ [V.ref x hxo] := by rw [List.take_add_one, hx]; simp [refN_ok hxo]
              have hml : ((l.take k).map refN).length ≤ 1000000 := by have := HL9.out; simp; omega
              obtain ⟨M, hM⟩ : ∃ gx_, ((l.take k).map refN) = gx_ := ⟨_, rfl⟩
              rw [hM] at S7 hnx hml ⊢
              have HX := Lib.hid (And.intro hnx (And.intro hlt hml))
              have S8 := S7.alloc (.cells #[.int .i64 4, .int .i64 x, .string ⟨#[]⟩] 31)
              have hone := Lib.hid (sees_one (f := V.cells) (m := 3) (y := V.ref x hxo) (heapAllocNew wr (.cells #[.int .i64 4, .int .i64 x, .string ⟨#[]⟩] 31)) rfl)
              replace S8 := Lib.hid S8
              clear hM S7 hnx hlt hml hx hc h1 h2 h3 hiv
              go_wp2_with (at_builtin; refine wpList_append_rows rfl _ _ 48 31 rfl Tryd.underlying48 _ 32 info_val rfl (by decide) (by decide) V.cells_len (by intro p u hu; simp [V.cells] at hu; rcases hu with rfl | rfl | rfl <;> rfl) S8.out 1 rfl rfl _ [V.ref x hxo] rfl hone.out (by have := HX.out.2.2; simp; omega) ?_)
              intro va' vc' w5 S9
              have S10 := Lib.hid (Sep.tail S9)
              clear S8 S9 hone c0
              go_wp2
              refine ⟨⟨k + 1, by have := HX.out.2.1; omega, by go_num, ?_⟩, by have := HX.out.2.1; simp [intOf]; omega⟩
              rw [HX.out.1]; exact S10.out
            · obtain rfl : k = l.length := by omega
              rw [List.take_length] at S7 ⊢
              have hN1 : N + 1 ≤ 4000000 := by have := HZ.out.1; omega
              have CM : Hid (Calls Tryd.prog 24 #[.pointer (some ⟨h, 0, none⟩), .int .i64 5, .string name, .int .i64 0, .slice ia (l.map refN).length ic] wr fun e W' => e = .returned (.agg #[.int .i64 4, .int .i64 (H.last + 1), .string ⟨#[]⟩]) ∧ Sep w (valsR (.slice ia (l.map refN).length ic) (l.map refN) :: (Q ++ classR b space (Rs.set i (heapR h (H.add (classO name hn l [])))))) W') := Lib.hid (by
                have := S7.make (Q.length + (i + 4) + 1) (by simpa using class_at HI.out Q) HF.out.G hN1 (classO name hn l []) _ ((S7.row 0 rfl).sees') (by have := HL9.out; show (l.map refN).length ≤ 4194304; rw [List.length_map]; omega) rfl (by show (1 : Int) ≤ 5; decide) (by show (5 : Int) ≤ 12; decide)
                rw [List.set_cons_succ, class_set] at this
                exact this)
              have hok : okI (H.last + 1) := by have h1 := HF.out.G.wt; have h2 := HF.out.G.ok.last; exact okI_of ⟨by omega, by omega⟩
              have HI2 : Hid (∀ R, (Rs.set i R)[i]? = some R) := Lib.hid fun R => by rw [List.getElem?_set_self (List.getElem?_eq_some_iff.1 HI.out).1]
              have HPK := Lib.hid (HF.out.pairs space)
              have hpr : Hid (∀ o, (H.add o).pairs space = H.pairs space) := Lib.hid fun o => add_pairs HF.out.G o (kind_some HKD.out (by decide))
              obtain ⟨M, hM⟩ : ∃ gx_, (l.map refN) = gx_ := ⟨_, rfl⟩
              rw [hM] at CM ⊢
              obtain ⟨P, hP⟩ : ∃ gx_, (H.pairs space) = gx_ := ⟨_, rfl⟩
              rw [hP] at HPK hpr DONE
              have AP : Hid (∀ (j : Nat) (k x : V), P[j]? = some (k, x) → (H.add (classO name hn l (P.take j))).get space k = some x ∧ (H.add (classO name hn l (P.take j))).put (V.ref (H.last + 1) hok) k x = H.add (classO name hn l (P.take (j + 1)))) := Lib.hid fun j k x hj => ⟨by
                unfold HeapM.get
                rw [hpr.out]
                exact getL_of_mem HPK.out.nd (List.mem_of_getElem? hj), add_put HF.out.G (classO name hn l []) HPK.out hj hok⟩
              clear S7 hM hlt hP hk
              go_wp2_with fail
              refine CM.out.mono ?_
              rintro e w5 ⟨rfl, S8⟩
              obtain ⟨nb, hnb⟩ : ∃ gx_, (w5.heap.size) = gx_ := ⟨_, rfl⟩
              have S9 := S8.alloc (.cells #[.int .i64 4, .int .i64 (H.last + 1), .string ⟨#[]⟩] 31)
              rw [hnb] at S9
              have S10 : Sep w (valB nb (V.ref (H.last + 1) hok) :: (Q ++ classR b space (Rs.set i (heapR h (H.add (classO name hn l (P.take 0))))))) _ := S9.sub (.cons_cons _ (.cons _ (List.Sublist.refl _)))
              have K2 := S10.keys (Q.length + (i + 4) + 1) (by simpa using class_at (HI2.out _) Q) space
              rw [hpr.out] at K2
              simp only [V.val] at K2
              have hksl : (P.map (·.1)).length = P.length := by simp
              have hksx : ∀ j k x, P[j]? = some (k, x) → (P.map (·.1))[j]? = some k := fun j k x h => by rw [List.getElem?_map, h]; rfl
              obtain ⟨KS, hKS⟩ : ∃ gx_, (P.map (·.1)) = gx_ := ⟨_, rfl⟩
              rw [hKS] at K2 hksl hksx
              have HKS := Lib.hid (And.intro hksl hksx)
              have d0 := cellAt (S10.box (b := b) (Q.length + 3 + 1) (by simp; rfl)) 0 (v := .int .i64 space.kind) rfl
              have d1 := cellAt (S10.box (b := b) (Q.length + 3 + 1) (by simp; rfl)) 1 (v := .int .i64 space.n) rfl
              have d2 := cellAt (S10.box (b := b) (Q.length + 3 + 1) (by simp; rfl)) 2 (v := .string space.s) rfl
              replace K2 := Lib.hid K2
              clear S8 S9 S10 CM hKS hksl hksx
              go_wp2_with fail
              refine K2.out.mono ?_
              rintro e w6 ⟨kv, rfl, S11, -⟩
              obtain ⟨ka, kc, rfl⟩ := (S11.row 0 rfl).form
              replace S11 := Lib.hid S11
              clear K2 d0 d1 d2 hnb
              have hkb : (KS.length : Int) ≤ 4096 := by have h1 := HKS.out.1; have h2 := HPK.out.len; omega
              go_wp2
              go_loopw [83] (fun kv wr => ∃ k : Nat, k ≤ KS.length ∧ kv = .int .i64 k ∧ Sep w (valsR (.slice ka KS.length kc) KS :: valB nb (V.ref (H.last + 1) hok) :: (Q ++ classR b space (Rs.set i (heapR h (H.add (classO name hn l (P.take k))))))) wr) (fun kv _ => KS.length - (intOf kv).toNat)
              case atStart => exact ⟨0, by omega, rfl, S11.out⟩
              case round =>
                clear S11
                obtain ⟨k, hk, rfl, S12⟩ := hrel
                by_cases hlt : k < KS.length
                · have hlp : k < P.length := by have := HKS.out.1; omega
                  obtain ⟨⟨key, x⟩, hx⟩ : ∃ p, P[k]? = some p := ⟨P[k], by simp [hlp]⟩
                  have hkx := HKS.out.2 k key x hx
                  obtain ⟨hget, hput⟩ := AP.out k key x hx
                  obtain ⟨_, _, e0, h1, h2, h3⟩ := (S12.row 0 rfl).sees'
                  cases e0
                  obtain ⟨g, o, rfl, hc⟩ : ∃ g o, ka = some ⟨g, o, none⟩ ∧ ∀ i v, KS[i]? = some v → wr.cell? ⟨g, o + i * 3, none⟩ = some (.int .i64 v.kind) ∧ wr.cell? ⟨g, o + i * 3 + 1, none⟩ = some (.int .i64 v.n) ∧ wr.cell? ⟨g, o + i * 3 + 2, none⟩ = some (.string v.s) := by
                    rcases h3 with h | h
                    · subst h; simp at hlt
                    · exact h
                  obtain ⟨c0, c1, c2⟩ := hc k key hkx
                  have hil : (k : Int) < KS.length := by omega
                  obtain ⟨b2, hb2⟩ : ∃ gx_, (wr.heap.size) = gx_ := ⟨_, rfl⟩
                  have S13 := S12.alloc (.cells #[.int .i64 key.kind, .int .i64 key.n, .string key.s] 31)
                  rw [hb2] at S13
                  have C1 := S13.get_ (Q.length + (i + 4) + 3) (by simpa using class_at (HI2.out _) Q) space key
                  rw [hget] at C1
                  simp only [V.val, Option.getD_some, Option.isSome_some] at C1
                  have d0 := cellAt (S13.box (b := b) (Q.length + 3 + 3) (by simp; rfl)) 0 (v := .int .i64 space.kind) rfl
                  have d1 := cellAt (S13.box (b := b) (Q.length + 3 + 3) (by simp; rfl)) 1 (v := .int .i64 space.n) rfl
                  have d2 := cellAt (S13.box (b := b) (Q.length + 3 + 3) (by simp; rfl)) 2 (v := .string space.s) rfl
                  have d3 := cellAt (S13.box 0 rfl) 0 (v := .int .i64 key.kind) rfl
                  have d4 := cellAt (S13.box 0 rfl) 1 (v := .int .i64 key.n) rfl
                  have d5 := cellAt (S13.box 0 rfl) 2 (v := .string key.s) rfl
                  have HX := Lib.hid (And.intro hput (And.intro hlt hk))
                  replace C1 := Lib.hid C1
                  clear S12 S13 hget hput hlt hk hc h1 h2 h3 hkx hx hlp
                  go_wp2_with fail
                  refine C1.out.mono ?_
                  rintro e w7 ⟨rfl, S14, -⟩
                  clear C1 d0 d1 d2 d3 d4 d5 c0 c1 c2 hb2
                  obtain ⟨b3, hb3⟩ : ∃ gx_, (w7.heap.size) = gx_ := ⟨_, rfl⟩
                  have S15 := S14.alloc (.cells #[.int .i64 x.kind, .int .i64 x.n, .string x.s] 31)
                  rw [hb3] at S15
                  have C2 := S15.put (Q.length + (i + 4) + 4) (by simpa using class_at (HI2.out _) Q) (V.ref (H.last + 1) hok) key x
                  rw [HX.out.1] at C2
                  have d0 := cellAt (S15.box 1 rfl) 0 (v := .int .i64 key.kind) rfl
                  have d1 := cellAt (S15.box 1 rfl) 1 (v := .int .i64 key.n) rfl
                  have d2 := cellAt (S15.box 1 rfl) 2 (v := .string key.s) rfl
                  have d3 := cellAt (S15.box 0 rfl) 0 (v := .int .i64 x.kind) rfl
                  have d4 := cellAt (S15.box 0 rfl) 1 (v := .int .i64 x.n) rfl
                  have d5 := cellAt (S15.box 0 rfl) 2 (v := .string x.s) rfl
                  have d6 := cellAt (S15.box 3 rfl) 0 (v := .int .i64 4) rfl
                  have d7 := cellAt (S15.box 3 rfl) 1 (v := .int .i64 (H.last + 1)) rfl
                  have d8 := cellAt (S15.box 3 rfl) 2 (v := .string ⟨#[]⟩) rfl
                  simp only [List.set_cons_succ, class_set, List.set_set] at C2
                  have C3 : Hid (Calls Tryd.prog 37 #[.pointer (some ⟨h, 0, none⟩), .agg #[.int .i64 4, .int .i64 (H.last + 1), .string ⟨#[]⟩], .agg #[.int .i64 key.kind, .int .i64 key.n, .string key.s], .agg #[.int .i64 x.kind, .int .i64 x.n, .string x.s]] _ _) := Lib.hid C2
                  clear S14 S15 C2
                  go_wp2_with fail
                  refine C3.out.mono ?_
                  rintro e w8 ⟨rfl, S16⟩
                  have S17 := Lib.hid (Sep.tail (Sep.tail S16))
                  clear C3 S16 d0 d1 d2 d3 d4 d5 d6 d7 d8 hb3
                  go_wp2
                  exact ⟨⟨k + 1, by have := HX.out.2.1; omega, by go_num, S17.out⟩, by have := HX.out.2.1; simp [intOf]; omega⟩
                · obtain rfl : k = KS.length := by omega
                  rw [show P.take KS.length = P from List.take_of_length_le (by have := HKS.out.1; omega)] at S12
                  have S13 := S12.tail
                  have q0 := cellAt (S13.box 0 rfl) 0 (v := .int .i64 4) rfl
                  have q1 := cellAt (S13.box 0 rfl) 1 (v := .int .i64 (H.last + 1)) rfl
                  have q2 := cellAt (S13.box 0 rfl) 2 (v := .string ⟨#[]⟩) rfl
                  have DONE2 : Hid (∀ e W', e = .returned (.tuple #[.agg #[.int .i64 4, .int .i64 (H.last + 1), .string ⟨#[]⟩], excZ]) → Sep w (Rs.set i (heapR h (H.add (classO name hn l P)))) W' → ClassDone w Rs i h H (H.mkClass name hn bases space) e W') := Lib.hid fun e W' h1 h2 => by
                    rw [DONE.out]; exact ⟨h1, h2⟩
                  obtain ⟨RS, hRS⟩ : ∃ gx_, (Rs.set i (heapR h (H.add (classO name hn l P)))) = gx_ := ⟨_, rfl⟩
                  rw [hRS] at S13 DONE2
                  obtain ⟨Q2, hQ2⟩ : ∃ Q2, Q2 = valB nb (V.ref (H.last + 1) hok) :: Q := ⟨_, rfl⟩
                  have S5 : Sep w (Q2 ++ classR b space RS) wr := by rw [hQ2]; exact S13
                  clear S12 hRS hQ2 hlt hk
                  have e2 := S5.box (b := b + 1 + 1) (o := .cells #[.string ⟨#[]⟩, .int .i64 0, .int .i64 0, .string ⟨#[]⟩, .bool false] 35) (Q2.length + 1) (by simp)
                  have e3 := S5.box (b := b + 1) (o := .cells #[.int .i64 0, .int .i64 0, .string ⟨#[]⟩] 31) (Q2.length + 2) (by simp)
                  have S6 := ((S5.toAny (Q2.length + 1) (q := b + 1 + 1) (by simp; rfl)).toAny (Q2.length + 2) (q := b + 1) (by simp; rfl))
                  have FRT : Hid (∀ W, Sep w (((Q2 ++ classR b space RS).set (Q2.length + 1) (anyR (b + 1 + 1))).set (Q2.length + 2) (anyR (b + 1))) W → Sep w RS W) := Lib.hid fun W S => by
                    have e : ((Q2 ++ classR b space RS).set (Q2.length + 1) (anyR (b + 1 + 1))).set (Q2.length + 2) (anyR (b + 1)) = Q2 ++ (excB (b + 1 + 1 + 1) typeError :: anyR (b + 1 + 1) :: anyR (b + 1) :: valB b space :: RS) := by
                      rw [List.set_append_right _ _ (by omega), List.set_append_right _ _ (by omega)]
                      simp
                    rw [e] at S
                    exact S.sub ((List.Sublist.cons _ (.cons _ (.cons _ (.cons _ (List.Sublist.refl _))))).trans (List.sublist_append_right _ _))
                  replace S6 := Lib.hid S6
                  have y0 := cellAt e2 0 (v := .string ⟨#[]⟩) rfl
                  have y1 := cellAt e2 1 (v := .int .i64 0) rfl
                  have y2 := cellAt e2 2 (v := .int .i64 0) rfl
                  have y3 := cellAt e2 3 (v := .string ⟨#[]⟩) rfl
                  have y4 := cellAt e2 4 (v := .bool false) rfl
                  have y5 := frozenAt e2 0
                  have y6 := frozenAt e2 1
                  have y7 := frozenAt e2 2
                  have y8 := frozenAt e2 3
                  have y9 := frozenAt e2 4
                  have x0 := cellAt e3 0 (v := .int .i64 0) rfl
                  have x1 := cellAt e3 1 (v := .int .i64 0) rfl
                  have x2 := cellAt e3 2 (v := .string ⟨#[]⟩) rfl
                  have x3 := frozenAt e3 0
                  have x4 := frozenAt e3 1
                  have x5 := frozenAt e3 2
                  clear S5 S13 e2 e3
                  go_wp2
                  refine bodyPost_ret (v := .tuple #[.agg #[.int .i64 4, .int .i64 (H.last + 1), .string ⟨#[]⟩], excZ]) (by simp [results, Tryd.results25, go_sem, x0, x1, x2, y0, y1, y2, y3, y4, q0, q1, q2]) rfl ?_
                  refine DONE2.out _ _ rfl (FRT.out _ ?_)
                  iterate 5 refine Sep.poke (q := b + 1 + 1) ?_ (Q2.length + 1) (by simp) _ _
                  iterate 3 refine Sep.poke (q := b + 1) ?_ (Q2.length + 2) (by simp) _ _
                  exact S6.out
        · have DONE : Hid (H.mkClass name hn bases space = none) := Lib.hid (by
            unfold HeapM.mkClass
            rw [HC3.out, HM.out.1]
            rw [hkd]
            exact if_neg hk3)
          clear hkd
          have e1 := S5.box (b := b + 1 + 1 + 1) (o := .cells #[.string typeError, .int .i64 0, .int .i64 0, .string ⟨#[]⟩, .bool false] 35) Q.length (by simp)
          have e2 := S5.box (b := b + 1 + 1) (o := .cells #[.string ⟨#[]⟩, .int .i64 0, .int .i64 0, .string ⟨#[]⟩, .bool false] 35) (Q.length + 1) (by simp)
          have e3 := S5.box (b := b + 1) (o := .cells #[.int .i64 0, .int .i64 0, .string ⟨#[]⟩] 31) (Q.length + 2) (by simp)
          have S6 := ((S5.toAny (Q.length + 1) (q := b + 1 + 1) (by simp; rfl)).toAny (Q.length + 2) (q := b + 1) (by simp; rfl))
          have FRT : Hid (∀ W, Sep w (((Q ++ classR b space Rs).set (Q.length + 1) (anyR (b + 1 + 1))).set (Q.length + 2) (anyR (b + 1))) W → Sep w Rs W) := Lib.hid fun W S => by
            have e : ((Q ++ classR b space Rs).set (Q.length + 1) (anyR (b + 1 + 1))).set (Q.length + 2) (anyR (b + 1)) = Q ++ (excB (b + 1 + 1 + 1) typeError :: anyR (b + 1 + 1) :: anyR (b + 1) :: valB b space :: Rs) := by
              rw [List.set_append_right _ _ (by omega), List.set_append_right _ _ (by omega)]
              simp
            rw [e] at S
            exact S.sub ((List.Sublist.cons _ (.cons _ (.cons _ (.cons _ (List.Sublist.refl _))))).trans (List.sublist_append_right _ _))
          replace S6 := Lib.hid S6
          have z0 := cellAt e1 0 (v := .string typeError) rfl
          have z1 := cellAt e1 1 (v := .int .i64 0) rfl
          have z2 := cellAt e1 2 (v := .int .i64 0) rfl
          have z3 := cellAt e1 3 (v := .string ⟨#[]⟩) rfl
          have z4 := cellAt e1 4 (v := .bool false) rfl
          have y0 := cellAt e2 0 (v := .string ⟨#[]⟩) rfl
          have y1 := cellAt e2 1 (v := .int .i64 0) rfl
          have y2 := cellAt e2 2 (v := .int .i64 0) rfl
          have y3 := cellAt e2 3 (v := .string ⟨#[]⟩) rfl
          have y4 := cellAt e2 4 (v := .bool false) rfl
          have y5 := frozenAt e2 0
          have y6 := frozenAt e2 1
          have y7 := frozenAt e2 2
          have y8 := frozenAt e2 3
          have y9 := frozenAt e2 4
          have x0 := cellAt e3 0 (v := .int .i64 0) rfl
          have x1 := cellAt e3 1 (v := .int .i64 0) rfl
          have x2 := cellAt e3 2 (v := .string ⟨#[]⟩) rfl
          have x3 := frozenAt e3 0
          have x4 := frozenAt e3 1
          have x5 := frozenAt e3 2
          clear S5 e1 e2 e3
          go_wp2
          go_region
          go_wp2
          refine bodyPost_ret (v := .tuple #[zeroV, excN typeError]) (by simp [results, Tryd.results25, go_sem, x0, x1, x2, y0, y1, y2, y3, y4]) rfl ?_
          unfold ClassDone
          rw [DONE.out]
          refine ⟨rfl, FRT.out _ (Sep.drew ?_)⟩
          iterate 5 refine Sep.poke (q := b + 1 + 1) ?_ (Q.length + 1) (by simp) _ _
          iterate 3 refine Sep.poke (q := b + 1) ?_ (Q.length + 2) (by simp) _ _
          exact S6.out
      · have DONE : Hid (H.mkClass name hn bases space = none) := Lib.hid (by
          unfold HeapM.mkClass
          cases hq : mergeM (bases.map H.ordN ++ [BN]) with
          | none => rw [HC3.out, hq]
          | some l =>
            exfalso
            have h0 := hm l hq
            rw [← hBN] at hq
            have := (HeapM.c3_pos HF.out.G HA.out hq 0 h0).1
            omega)
        obtain ⟨Q, hQ⟩ : ∃ Q, Q = numsR (.slice na BN.length nc) BN :: slnR (.slice oa svs.length oc) svs :: Ns := ⟨_, rfl⟩
        have S5 : Sep w (Q ++ classR b space Rs) w3 := by rw [hQ]; exact S4
        clear hm S4
        have e1 := S5.box (b := b + 1 + 1 + 1) (o := .cells #[.string typeError, .int .i64 0, .int .i64 0, .string ⟨#[]⟩, .bool false] 35) Q.length (by simp)
        have e2 := S5.box (b := b + 1 + 1) (o := .cells #[.string ⟨#[]⟩, .int .i64 0, .int .i64 0, .string ⟨#[]⟩, .bool false] 35) (Q.length + 1) (by simp)
        have e3 := S5.box (b := b + 1) (o := .cells #[.int .i64 0, .int .i64 0, .string ⟨#[]⟩] 31) (Q.length + 2) (by simp)
        have S6 := ((S5.toAny (Q.length + 1) (q := b + 1 + 1) (by simp; rfl)).toAny (Q.length + 2) (q := b + 1) (by simp; rfl))
        have FRT : Hid (∀ W, Sep w (((Q ++ classR b space Rs).set (Q.length + 1) (anyR (b + 1 + 1))).set (Q.length + 2) (anyR (b + 1))) W → Sep w Rs W) := Lib.hid fun W S => by
          have e : ((Q ++ classR b space Rs).set (Q.length + 1) (anyR (b + 1 + 1))).set (Q.length + 2) (anyR (b + 1)) = Q ++ (excB (b + 1 + 1 + 1) typeError :: anyR (b + 1 + 1) :: anyR (b + 1) :: valB b space :: Rs) := by
            rw [List.set_append_right _ _ (by omega), List.set_append_right _ _ (by omega)]
            simp
          rw [e] at S
          exact S.sub ((List.Sublist.cons _ (.cons _ (.cons _ (.cons _ (List.Sublist.refl _))))).trans (List.sublist_append_right _ _))
        replace S6 := Lib.hid S6
        have z0 := cellAt e1 0 (v := .string typeError) rfl
        have z1 := cellAt e1 1 (v := .int .i64 0) rfl
        have z2 := cellAt e1 2 (v := .int .i64 0) rfl
        have z3 := cellAt e1 3 (v := .string ⟨#[]⟩) rfl
        have z4 := cellAt e1 4 (v := .bool false) rfl
        have y0 := cellAt e2 0 (v := .string ⟨#[]⟩) rfl
        have y1 := cellAt e2 1 (v := .int .i64 0) rfl
        have y2 := cellAt e2 2 (v := .int .i64 0) rfl
        have y3 := cellAt e2 3 (v := .string ⟨#[]⟩) rfl
        have y4 := cellAt e2 4 (v := .bool false) rfl
        have y5 := frozenAt e2 0
        have y6 := frozenAt e2 1
        have y7 := frozenAt e2 2
        have y8 := frozenAt e2 3
        have y9 := frozenAt e2 4
        have x0 := cellAt e3 0 (v := .int .i64 0) rfl
        have x1 := cellAt e3 1 (v := .int .i64 0) rfl
        have x2 := cellAt e3 2 (v := .string ⟨#[]⟩) rfl
        have x3 := frozenAt e3 0
        have x4 := frozenAt e3 1
        have x5 := frozenAt e3 2
        clear S5 e1 e2 e3
        go_wp2
        go_region
        go_wp2
        refine bodyPost_ret (v := .tuple #[zeroV, excN typeError]) (by simp [results, Tryd.results25, go_sem, x0, x1, x2, y0, y1, y2, y3, y4]) rfl ?_
        unfold ClassDone
        rw [DONE.out]
        refine ⟨rfl, FRT.out _ (Sep.drew ?_)⟩
        iterate 5 refine Sep.poke (q := b + 1 + 1) ?_ (Q.length + 1) (by simp) _ _
        iterate 3 refine Sep.poke (q := b + 1) ?_ (Q.length + 2) (by simp) _ _
        exact S6.out
end
end Go.Proofs.YtobcnffjfclolaaDoor
