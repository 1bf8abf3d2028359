/- An instance holds its class, a class all that it comes of: plainly. -/
import Derived.Test.YtkocenlglodklaaClsM
import Derived.Test.YtkocenlglodklaaKeptM
namespace Go.Proofs.Ytkocenlglodklaa
set_option linter.unusedSimpArgs false
open Go.RowKit
set_option linter.unusedVariables false
/-- Who holds an object was made later. -/
def HeapM.Rising (H : HeapM) : Prop := ∀ m o n, getL H.objs m = some o → 0 < cnt o.vals n → n < m
theorem Rising.none {H : HeapM} (R : H.Rising) {L : Int} (hL : ∀ p ∈ H.objs, p.1 ≤ L) {n : Int} (h : Kept H [] n) : False := by
  obtain ⟨k, hk⟩ : ∃ k : Nat, (L - n).toNat = k := ⟨_, rfl⟩
  induction k using Nat.strongRecOn generalizing n with
  | ind k ih =>
    obtain ⟨h1, h2⟩ := kept_sup H [] n h
    rcases h2 with h2 | ⟨m, o, hm, ho, hc⟩
    · simp [cnt_nil] at h2
    · have h3 := R m o n ho hc
      have h4 := hL _ (getL_mem ho)
      simp only at h4
      exact ih (L - m).toNat (by omega) hm rfl
theorem cnt_vals {o : ObjM} {n : Int} (hp : ∀ q ∈ o.pairs, q.2.kind = 2) (h : 0 < cnt o.vals n) : ∃ x ∈ o.items, x.kind = 4 ∧ x.n = n := by
  obtain ⟨v, hv, h1, h2⟩ := cnt_pos.1 h
  rcases List.mem_append.1 hv with hv | hv
  · exact ⟨v, hv, h1, h2⟩
  · obtain ⟨q, hq, rfl⟩ := List.mem_map.1 hv
    have := hp q hq
    omega
section
variable {H : HeapM} {out : List V} {c : V}
def instH (H : HeapM) (c : V) : HeapM := H.add (instO (H.name c) (HeapM.name_le H c) c)
theorem obj_old (M : MInv H out 12) (hc : H.isClass c = true) (hr : c = c.asRef) {m : Int} {o : ObjM} (h : getL H.objs m = some o) (hm : okI m) : H.of (V.ref m hm) = some o := by
  unfold HeapM.of; rw [if_pos (show (V.ref m hm).kind = 4 from rfl)]; exact h
theorem inst_rising (M : MInv H out 12) (hc : H.isClass c = true) (hr : c = c.asRef) : (instH H c).Rising := by
  intro m o n hm hn
  rcases List.mem_append.1 (getL_mem hm) with h | h
  · have hg : getL H.objs m = some o := getL_of_mem M.fit.G.ok.nk h
    have hmp := M.fit.G.ok.pos _ h
    simp only at hmp
    obtain ⟨x, hx, h1, h2⟩ := cnt_vals (M.pl.prs _ h).2 hn
    have hk : o.kind = 5 := by
      apply Classical.byContradiction
      intro hk
      have := M.pl.its _ h hk
      rw [show (m, o).2.items = o.items from rfl] at this
      rw [this] at hx; cases hx
    have hmo : okI m := okI_of (by have := M.last; omega)
    have hof := obj_old M hc hr hg hmo
    have hcl : H.isClass (V.ref m hmo) = true := by unfold HeapM.isClass HeapM.kind; rw [hof]; simpa using hk
    have hit : x ∈ H.items (V.ref m hmo) := by unfold HeapM.items; rw [hof]; exact hx
    have := (M.cls.items _ hcl x hit).2.2
    rw [← h2]; exact this
  · simp only [List.mem_singleton, Prod.mk.injEq] at h
    obtain ⟨rfl, rfl⟩ := h
    obtain ⟨x, hx, h1, h2⟩ := cnt_vals (by simp [instO]) hn
    simp [instO] at hx
    subst hx
    have := class_le M.fit.G hc
    rw [← h2]
    show c.n < _
    omega
theorem inst_last (M : MInv H out 12) (hc : H.isClass c = true) (hr : c = c.asRef) : ∀ p ∈ (instH H c).objs, p.1 ≤ H.last + 1 := fun p hp => by
  have := (M.fit.G.add (instO (H.name c) (HeapM.name_le H c) c)).ok.pos p hp
  exact this.2
/-- Just these are kept. -/
theorem inst_kept (M : MInv H out 12) (hc : H.isClass c = true) (hr : c = c.asRef) (hn : okI (H.last + 1)) (n : Int) : Kept (instH H c) [V.ref (H.last + 1) hn] n ↔ n = H.last + 1 ∨ ∃ x ∈ H.order c, x.n = n := by
  have hof0 : (instH H c).of (V.ref (H.last + 1) hn) = some (instO (H.name c) (HeapM.name_le H c) c) := by
    unfold instH; rw [of_add M.fit.G, if_pos ⟨rfl, rfl⟩]
  have old : ∀ v : V, v.n ≤ H.last → (instH H c).of v = H.of v := fun v hv => by
    unfold instH; rw [of_add M.fit.G, if_neg (by omega)]
  have get0 : getL (instH H c).objs (H.last + 1) = some (instO (H.name c) (HeapM.name_le H c) c) := by
    have := hof0
    unfold HeapM.of at this
    rwa [if_pos (show (V.ref (H.last + 1) hn).kind = 4 from rfl)] at this
  constructor
  · intro h
    obtain ⟨k, hk⟩ : ∃ k : Nat, (H.last + 1 - n).toNat = k := ⟨_, rfl⟩
    induction k using Nat.strongRecOn generalizing n with
    | ind k ih =>
      obtain ⟨h1, h2⟩ := kept_sup _ _ n h
      rcases h2 with h2 | ⟨m, o, hm, ho, hcn⟩
      · obtain ⟨v, hv, h3, h4⟩ := cnt_pos.1 h2
        simp at hv; subst hv
        exact .inl h4.symm
      · have h3 := inst_rising M hc hr m o n ho hcn
        have h4 := inst_last M hc hr _ (getL_mem ho)
        simp only at h4
        rcases ih (H.last + 1 - m).toNat (by omega) m hm rfl with h5 | ⟨x, hx, h5⟩
        · subst h5
          rw [get0] at ho
          cases ho
          obtain ⟨x, hx, h6, h7⟩ := cnt_vals (by simp [instO]) hcn
          simp [instO] at hx
          subst hx
          exact .inr ⟨c.asRef, by rw [M.cls.order hc]; simp, h7⟩
        · have hxo := M.cls.order_mem hx
          have hxl := class_le M.fit.G hxo.2.1
          have h8 : (instH H c).of x = some o := by
            unfold HeapM.of; rw [if_pos hxl.1, h5]; exact ho
          rw [old x hxl.2.2] at h8
          have hmem : (x.n, o) ∈ H.objs := getL_mem (HeapM.of_some h8).2
          obtain ⟨y, hy, h6, h7⟩ := cnt_vals (M.pl.prs _ hmem).2 hcn
          have hyi : y ∈ H.items x := by unfold HeapM.items; rw [h8]; exact hy
          refine .inr ⟨y, M.cls.sub hx y ?_, h7⟩
          rw [M.cls.order hxo.2.1]
          exact List.mem_cons_of_mem _ hyi
  · intro h
    have k0 : Kept (instH H c) [V.ref (H.last + 1) hn] (H.last + 1) := kept_held (v := V.ref (H.last + 1) hn) (by simp) (by rw [hof0]; rfl)
    have live : ∀ x : V, H.isClass x = true → (getL (instH H c).objs x.n).isSome = true := fun x hx => by
      have hl := class_le M.fit.G hx
      obtain ⟨o, ho, _⟩ := HeapM.isClass_of hx
      have := old x hl.2.2
      rw [ho] at this
      rw [(HeapM.of_some this).2]; rfl
    have kc : Kept (instH H c) [V.ref (H.last + 1) hn] c.n := kept_more (live c hc) (.inr ⟨H.last + 1, _, k0, get0, cnt_pos.2 ⟨c.asRef, by simp [ObjM.vals, instO], rfl, rfl⟩⟩)
    rcases h with h | ⟨x, hx, h⟩
    · subst h; exact k0
    · subst h
      rw [M.cls.order hc] at hx
      rcases List.mem_cons.1 hx with e | e
      · subst e; exact kc
      · have hxi := M.cls.items c hc x e
        obtain ⟨o, ho, _⟩ := HeapM.isClass_of hc
        have h2 := old c (class_le M.fit.G hc).2.2
        rw [ho] at h2
        refine kept_more (live x hxi.1) (.inr ⟨c.n, o, kc, (HeapM.of_some h2).2, cnt_pos.2 ⟨x, ?_, asRef_kind hxi.2.1, rfl⟩⟩)
        refine List.mem_append_left _ ?_
        unfold HeapM.items at e
        rw [ho] at e; exact e
theorem inst_live (M : MInv H out 12) (hc : H.isClass c = true) (hr : c = c.asRef) (hn : okI (H.last + 1)) : ((instH H c).sweep [V.ref (H.last + 1) hn]).live 5 = (H.order c).length ∧ ((instH H c).sweep [V.ref (H.last + 1) hn]).live 0 = (H.order c).length + 1 := by
  have G1 : (instH H c).Good _ := M.fit.G.add (instO (H.name c) (HeapM.name_le H c) c)
  have nd : ((H.order c).map (·.n)).Nodup := by
    rw [List.nodup_iff_pairwise_ne, List.pairwise_map]
    have := M.cls.order_nd c
    rw [List.nodup_iff_pairwise_ne] at this
    exact this.imp_of_mem fun {a b} ha hb hab e => hab (asRef_eq (M.cls.order_mem ha).2.2.1 (M.cls.order_mem hb).2.2.1 e)
  have hle : ∀ x ∈ H.order c, x.n ≤ H.last := fun x hx => (class_le M.fit.G (M.cls.order_mem hx).2.1).2.2
  have old : ∀ v : V, v.n ≤ H.last → (instH H c).of v = H.of v := fun v hv => by
    unfold instH; rw [of_add M.fit.G, if_neg (by omega)]
  have hof0 : (instH H c).of (V.ref (H.last + 1) hn) = some (instO (H.name c) (HeapM.name_le H c) c) := by
    unfold instH; rw [of_add M.fit.G, if_pos ⟨rfl, rfl⟩]
  have get0 : getL (instH H c).objs (H.last + 1) = some (instO (H.name c) (HeapM.name_le H c) c) := by
    have := hof0
    unfold HeapM.of at this
    rwa [if_pos (show (V.ref (H.last + 1) hn).kind = 4 from rfl)] at this
  have sub1 : ∀ f : Int × ObjM → Bool, (((instH H c).objs.filter f).map (·.1)).Nodup := fun f => (List.filter_sublist.map _).nodup G1.ok.nk
  have cls : ∀ x ∈ H.order c, ∃ o, (x.n, o) ∈ (instH H c).objs ∧ o.kind = 5 := fun x hx => by
    obtain ⟨o, ho, hk⟩ := HeapM.isClass_of (M.cls.order_mem hx).2.1
    have := old x (hle x hx)
    rw [ho] at this
    exact ⟨o, getL_mem (HeapM.of_some this).2, hk⟩
  constructor
  · unfold HeapM.live HeapM.sweep
    simp only
    rw [List.filter_filter, ← List.length_map (f := (·.1)), show (H.order c).length = ((H.order c).map (·.n)).length by simp]
    refine List.Perm.length_eq ((List.perm_ext_iff_of_nodup (sub1 _) nd).2 fun n => ?_)
    simp only [List.mem_map, List.mem_filter, Bool.and_eq_true, Bool.or_eq_true, decide_eq_true_eq]
    constructor
    · rintro ⟨p, ⟨hp, h1, h2⟩, rfl⟩
      rcases (inst_kept M hc hr hn p.1).1 h2 with h | h
      · have : getL (instH H c).objs p.1 = some p.2 := getL_of_mem G1.ok.nk hp
        rw [h, get0] at this
        have e6 : p.2.kind = 6 := by rw [← Option.some.inj this]; rfl
        rcases h1 with h1 | h1
        · cases h1
        · omega
      · exact h
    · rintro ⟨x, hx, rfl⟩
      obtain ⟨o, ho, hk⟩ := cls x hx
      exact ⟨(x.n, o), ⟨ho, .inr hk, (inst_kept M hc hr hn _).2 (.inr ⟨x, hx, rfl⟩)⟩, rfl⟩
  · unfold HeapM.live HeapM.sweep
    simp only
    rw [List.filter_filter, ← List.length_map (f := (·.1))]
    have : (H.order c).length + 1 = ((H.last + 1) :: (H.order c).map (·.n)).length := by simp
    rw [this]
    refine List.Perm.length_eq ((List.perm_ext_iff_of_nodup (sub1 _) ?_).2 fun n => ?_)
    · rw [List.nodup_cons]
      refine ⟨fun hm => ?_, nd⟩
      obtain ⟨x, hx, e⟩ := List.mem_map.1 hm
      have := hle x hx
      omega
    · simp only [List.mem_map, List.mem_filter, List.mem_cons, Bool.and_eq_true, decide_true, Bool.true_or, true_and, decide_eq_true_eq]
      constructor
      · rintro ⟨p, ⟨hp, h2⟩, rfl⟩
        exact (inst_kept M hc hr hn p.1).1 h2
      · rintro (rfl | ⟨x, hx, rfl⟩)
        · exact ⟨(H.last + 1, _), ⟨getL_mem get0, (inst_kept M hc hr hn _).2 (.inl rfl)⟩, rfl⟩
        · obtain ⟨o, ho, hk⟩ := cls x hx
          exact ⟨(x.n, o), ⟨ho, (inst_kept M hc hr hn _).2 (.inr ⟨x, hx, rfl⟩)⟩, rfl⟩
theorem inst_of (M : MInv H out 12) (hc : H.isClass c = true) (hr : c = c.asRef) (hn : okI (H.last + 1)) (x : V) (hx : x ∈ H.order c) : ((instH H c).sweep [V.ref (H.last + 1) hn]).of x = H.of x := by
  have hm := M.cls.order_mem hx
  have hl := class_le M.fit.G hm.2.1
  have k := (inst_kept M hc hr hn x.n).2 (.inr ⟨x, hx, rfl⟩)
  have h1 : (instH H c).of x = H.of x := by unfold instH; rw [of_add M.fit.G, if_neg (by omega)]
  rw [← h1]
  unfold HeapM.of
  rw [if_pos hl.1, if_pos hl.1, sweep_kept k]
theorem inst_order (M : MInv H out 12) (hc : H.isClass c = true) (hr : c = c.asRef) (hn : okI (H.last + 1)) : ((instH H c).sweep [V.ref (H.last + 1) hn]).order c = H.order c := by
  have hcm : c ∈ H.order c := by rw [M.cls.order hc, ← hr]; simp
  have h1 := inst_of M hc hr hn c hcm
  have hk : ∀ x ∈ H.order c, ((instH H c).sweep [V.ref (H.last + 1) hn]).isClass x = true := fun x hx => by
    unfold HeapM.isClass HeapM.kind
    rw [inst_of M hc hr hn x hx]
    exact (M.cls.order_mem hx).2.1
  rw [M.cls.order hc]
  unfold HeapM.order
  rw [if_pos (hk c hcm)]
  congr 1
  have hi : ((instH H c).sweep [V.ref (H.last + 1) hn]).items c = H.items c := by unfold HeapM.items; rw [h1]
  rw [hi, List.filter_eq_self.2 fun x hx => hk x (by rw [M.cls.order hc]; exact List.mem_cons_of_mem _ hx)]
  conv => rhs; rw [← List.map_id (H.items c)]
  exact List.map_congr_left fun x hx => (M.cls.items c hc x hx).2.1.symm
theorem inst_refs (M : MInv H out 12) (hc : H.isClass c = true) (hr : c = c.asRef) (hn : okI (H.last + 1)) : ((instH H c).sweep [V.ref (H.last + 1) hn]).refNs (V.ref (H.last + 1) hn) = [c.n] := by
  have hof0 : (instH H c).of (V.ref (H.last + 1) hn) = some (instO (H.name c) (HeapM.name_le H c) c) := by
    unfold instH; rw [of_add M.fit.G, if_pos ⟨rfl, rfl⟩]
  have k0 := (inst_kept M hc hr hn (H.last + 1)).2 (.inl rfl)
  have h1 : ((instH H c).sweep [V.ref (H.last + 1) hn]).of (V.ref (H.last + 1) hn) = some (instO (H.name c) (HeapM.name_le H c) c) := by
    rw [← hof0]
    unfold HeapM.of
    rw [if_pos (show (V.ref (H.last + 1) hn).kind = 4 from rfl), if_pos (show (V.ref (H.last + 1) hn).kind = 4 from rfl), show (V.ref (H.last + 1) hn).n = H.last + 1 from rfl, sweep_kept k0]
  have hcm : c ∈ H.order c := by rw [M.cls.order hc, ← hr]; simp
  have h2 : (((instH H c).sweep [V.ref (H.last + 1) hn]).of c.asRef).isSome = true := by
    rw [← hr, inst_of M hc hr hn c hcm]
    obtain ⟨o, ho, _⟩ := HeapM.isClass_of hc
    rw [ho]; rfl
  unfold HeapM.refNs
  rw [h1]
  simp only [HeapM.refs, ObjM.vals, instO, List.map_nil, List.append_nil, List.filter_cons, h2, if_true, List.filter_nil, List.map_cons]
  rfl
theorem inst_end (M : MInv H out 12) (hc : H.isClass c = true) (hr : c = c.asRef) (hn : okI (H.last + 1)) : (((instH H c).sweep [V.ref (H.last + 1) hn]).sweep []).objs = [] := by
  have R : ((instH H c).sweep [V.ref (H.last + 1) hn]).Rising := fun m o n hm hcn => by
    refine inst_rising M hc hr m o n ?_ hcn
    have h1 := getL_mem hm
    unfold HeapM.sweep at h1
    exact getL_of_mem (M.fit.G.add (instO (H.name c) (HeapM.name_le H c) c)).ok.nk (List.mem_filter.1 h1).1
  have hL : ∀ p ∈ ((instH H c).sweep [V.ref (H.last + 1) hn]).objs, p.1 ≤ H.last + 1 := fun p hp => by
    unfold HeapM.sweep at hp
    exact inst_last M hc hr p (List.mem_filter.1 hp).1
  show List.filter _ _ = []
  rw [List.filter_eq_nil_iff]
  intro p hp hk
  simp only [decide_eq_true_eq] at hk
  exact Rising.none R hL hk
end
end Go.Proofs.Ytkocenlglodklaa
