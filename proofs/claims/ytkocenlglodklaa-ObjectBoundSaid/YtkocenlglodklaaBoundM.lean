/- A function that a class has, plainly. -/
import Derived.Test.YtkocenlglodklaaFindsM
import Derived.Test.YtkocenlglodklaaKeys
namespace Go.Proofs.Ytkocenlglodklaa
set_option linter.unusedSimpArgs false
open Go.RowKit
set_option linter.unusedVariables false
def goS : ByteArray := ⟨#[103, 111]⟩
theorem goS_le : goS.size ≤ maxLen := by decide
def goK : V := keyS goS goS_le
def funO : ObjM := ⟨4, goS, 5, [], [], by decide, by decide, by decide⟩
section
variable {H : HeapM} {out : List V} {c : V}
/-- A function is made, and put into the dict of one of the classes of the order. -/
def fun1 (H : HeapM) : HeapM := H.add funO
theorem fun1_of (M : MInv H out 12) (x : V) (hx : H.isClass x = true) : (fun1 H).of x = H.of x := by
  have := class_le M.fit.G hx
  unfold fun1; rw [of_add M.fit.G, if_neg (by omega)]
theorem fun1_self (M : MInv H out 12) (hn : okI (H.last + 1)) : (fun1 H).of (V.ref (H.last + 1) hn) = some funO := by
  unfold fun1; rw [of_add M.fit.G, if_pos ⟨rfl, rfl⟩]
theorem fun1_put (M : MInv H out 12) {a : V} (ha : H.isClass a = true) : (fun1 H).opens a = true ∧ (fun1 H).canPut a goK = true := by
  have h1 := fun1_of M a ha
  have hk : (fun1 H).isClass a = true := by unfold HeapM.isClass HeapM.kind; rw [h1]; exact ha
  refine ⟨by unfold HeapM.opens; rw [hk]; simp, ?_⟩
  obtain ⟨o, ho, _⟩ := HeapM.isClass_of ha
  have hp := (M.pl.prs _ (getL_mem (HeapM.of_some ho).2)).1
  unfold HeapM.canPut
  rw [h1, ho]
  simp only [putOk, Bool.or_eq_true, Bool.and_eq_true, decide_eq_true_eq]
  exact .inr ⟨rfl, by have : (a.n, o).2.pairs = o.pairs := rfl; rw [this] at hp; omega⟩
/-- No class has that name yet. -/
def HeapM.NoGo (H : HeapM) : Prop := ∀ x, H.isClass x = true → H.get x goK = none
theorem find_go (C : H.Cls) (hc : H.isClass c = true) (K : H.NoGo) {H' : HeapM} {a f : V} (ha : a ∈ H.order c) (ho : H'.order c = H.order c) (hg : ∀ x, H.isClass x = true → x = x.asRef → H'.get x goK = if x = a then some f else H.get x goK) : H'.find c goK = some f := by
  unfold HeapM.find
  rw [ho]
  have : ∀ L : List V, a ∈ L → (∀ x ∈ L, H.isClass x = true ∧ x = x.asRef) → L.findSome? (fun c => H'.get c goK) = some f := fun L => by
    induction L with
    | nil => intro h; cases h
    | cons x r ih =>
      intro hm hL
      rw [List.findSome?_cons, hg x (hL x (by simp)).1 (hL x (by simp)).2]
      by_cases e : x = a
      · rw [if_pos e]
      · rw [if_neg e, K x (hL x (by simp)).1]
        refine ih ?_ fun y hy => hL y (List.mem_cons_of_mem _ hy)
        rcases List.mem_cons.1 hm with h | h
        · exact absurd h.symm e
        · exact h
  exact this _ ha fun x hx => ⟨(C.order_mem hx).2.1, (C.order_mem hx).2.2.1⟩
/-- A heap with the function in the dict of a, an instance, and what was made since. -/
structure GoAt (H X : HeapM) (a f o c : V) (ps : List (V × V)) (N : Nat) : Prop where
  fit : X.Fit N
  cls : ∀ x, H.isClass x = true → x = x.asRef → X.kind x = 5 ∧ X.items x = H.items x ∧ X.get x goK = if x = a then some f else none
  fn : X.of f = some funO
  ob : ∃ nm hs, X.of o = some { instO nm hs c with pairs := ps }
theorem of_le {X : HeapM} {N : Nat} (G : X.Good N) {v : V} {o : ObjM} (h : X.of v = some o) : v.n ≤ X.last := (G.ok.pos _ (getL_mem (HeapM.of_some h).2)).2
theorem GoAt.add {X : HeapM} {a f o : V} {ps : List (V × V)} {N : Nat} (G : GoAt H X a f o c ps N) (ob : ObjM) (hk : 1 ≤ ob.kind ∧ ob.kind ≤ 12) (hp : ob.pairs = []) (hl : ob.items.length ≤ 2) : GoAt H (X.add ob) a f o c ps (N + 4) := by
  have keep : ∀ v, v.n ≤ X.last → (X.add ob).of v = X.of v := fun v hv => by rw [of_add G.fit.G, if_neg (by omega)]
  refine ⟨G.fit.addP ob hk hp (by omega), fun x hx hxr => ?_, ?_, ?_⟩
  · have h1 := G.cls x hx hxr
    have h2 := (kind_le G.fit.G (v := x) (by omega)).2.2
    have e := keep x h2
    unfold HeapM.kind HeapM.items HeapM.get HeapM.pairs at h1 ⊢
    rw [e]; exact h1
  · rw [keep f (of_le G.fit.G G.fn)]; exact G.fn
  · obtain ⟨nm, hs, h⟩ := G.ob
    exact ⟨nm, hs, by rw [keep o (of_le G.fit.G h)]; exact h⟩
theorem GoAt.classC {X : HeapM} {a f o : V} {ps : List (V × V)} {N : Nat} (G : GoAt H X a f o c ps N) {x : V} (hx : H.isClass x = true) (hxr : x = x.asRef) : X.isClass x = true := by unfold HeapM.isClass; rw [(G.cls x hx hxr).1]; rfl
theorem GoAt.order {X : HeapM} {a f o : V} {ps : List (V × V)} {N : Nat} (G : GoAt H X a f o c ps N) (C : H.Cls) (hc : H.isClass c = true) (hr : c = c.asRef) : X.order c = H.order c := by
  rw [C.order hc]
  unfold HeapM.order
  rw [if_pos (G.classC hc hr)]
  congr 1
  rw [(G.cls c hc hr).2.1, List.filter_eq_self.2 fun x hx => G.classC (C.items c hc x hx).1 (C.items c hc x hx).2.1]
  conv => rhs; rw [← List.map_id (H.items c)]
  exact List.map_congr_left fun x hx => (C.items c hc x hx).2.1.symm
theorem GoAt.find {X : HeapM} {a f o : V} {ps : List (V × V)} {N : Nat} (G : GoAt H X a f o c ps N) (C : H.Cls) (hc : H.isClass c = true) (hr : c = c.asRef) (K : H.NoGo) (ha : a ∈ H.order c) : X.find c goK = some f :=
  find_go C hc K ha (G.order C hc hr) fun x hx hxr => by rw [(G.cls x hx hxr).2.2, K x hx]
theorem GoAt.bound {X : HeapM} {a f o : V} {ps : List (V × V)} {N : Nat} (G : GoAt H X a f o c ps N) : X.boundM o f = (.agg #[.int .i64 4, .int .i64 (X.last + 1), .string ⟨#[]⟩], X.add (boundO goS goS_le o f)) := by
  have h1 : X.kind f = 4 := by unfold HeapM.kind; rw [G.fn]; rfl
  have h2 : X.name f = goS := by unfold HeapM.name; rw [G.fn]; rfl
  unfold HeapM.boundM
  rw [if_pos h1]
  have : boundO (X.name f) (X.name_le f) o f = boundO goS goS_le o f := by unfold boundO; simp only [h2]
  rw [this]
/-- What is asked of the instance, as long as it has nothing of its own; and of the class. -/
theorem GoAt.asks {X : HeapM} {a f o : V} {N : Nat} (G : GoAt H X a f o c [] N) (C : H.Cls) (hc : H.isClass c = true) (hr : c = c.asRef) (K : H.NoGo) (ha : a ∈ H.order c) :
    X.getA o goK = some (.agg #[.int .i64 4, .int .i64 (X.last + 1), .string ⟨#[]⟩], X.add (boundO goS goS_le o f)) ∧ X.specM o goK = (.agg #[.int .i64 4, .int .i64 (X.last + 1), .string ⟨#[]⟩], true, X.add (boundO goS goS_le o f)) ∧
    X.getA c goK = some (f.val, X) ∧ X.opens o = true ∧ X.canPut o goK = true := by
  obtain ⟨nm, hs, h⟩ := G.ob
  have g1 := getA_inst h rfl (by show [c.asRef] = [c]; rw [← hr]) (G.classC hc hr) hr goK
  have hf := G.find C hc hr K ha
  refine ⟨?_, ?_, ?_, g1.1, ?_⟩
  · rw [g1.2.2]
    simp only [getL, List.find?_nil, Option.map_none, hf, Option.map_some, G.bound]
  · unfold HeapM.specM
    rw [g1.2.1]
    simp only [Option.bind_some, hf, G.bound]
  · unfold HeapM.getA
    rw [if_pos (G.classC hc hr), hf]; rfl
  · unfold HeapM.canPut
    rw [h]
    simp [putOk, goK, keyS, V.isKey]
/-- .. and once it has the function itself. -/
theorem GoAt.own {X : HeapM} {a f o : V} {N : Nat} (G : GoAt H X a f o c [(goK, f)] N) (C : H.Cls) (hc : H.isClass c = true) (hr : c = c.asRef) (K : H.NoGo) (ha : a ∈ H.order c) :
    X.getA o goK = some (f.val, X) ∧ X.specM o goK = (.agg #[.int .i64 4, .int .i64 (X.last + 1), .string ⟨#[]⟩], true, X.add (boundO goS goS_le o f)) := by
  obtain ⟨nm, hs, h⟩ := G.ob
  have g1 := getA_inst h rfl (by show [c.asRef] = [c]; rw [← hr]) (G.classC hc hr) hr goK
  have hf := G.find C hc hr K ha
  refine ⟨?_, ?_⟩
  · rw [g1.2.2]
    simp [getL]
  · unfold HeapM.specM
    rw [g1.2.1]
    simp only [Option.bind_some, hf, G.bound]
theorem GoAt.put {X : HeapM} {a f o : V} {N : Nat} (G : GoAt H X a f o c [] N) : GoAt H (X.put o goK f) a f o c [(goK, f)] (N + 1) := by
  obtain ⟨nm, hs, h⟩ := G.ob
  have cp : X.canPut o goK = true := by
    unfold HeapM.canPut
    rw [h]
    simp [putOk, goK, keyS, V.isKey]
  have ne : ∀ x ob, X.of x = some ob → ob.kind ≠ 6 → x.n ≠ o.n := fun x ob hx hk e => by
    have h1 := HeapM.of_some hx
    have h2 := HeapM.of_some h
    rw [e, h2.2] at h1
    have := Option.some.inj h1.2
    exact hk (by rw [← this]; rfl)
  refine ⟨G.fit.put o goK f, fun x hx hxr => ?_, ?_, nm, hs, ?_⟩
  · have h1 := G.cls x hx hxr
    have e : (X.put o goK f).of x = X.of x := by
      rw [of_put]
      cases hx2 : X.of x with
      | none => rfl
      | some ob =>
        have hk5 : ob.kind = 5 := by have := h1.1; unfold HeapM.kind at this; rw [hx2] at this; exact this
        simp only
        rw [if_neg (fun hh => ne x ob hx2 (by omega) hh.1)]
    unfold HeapM.kind HeapM.items HeapM.get HeapM.pairs at h1 ⊢
    rw [e]; exact h1
  · rw [of_put, G.fn]
    simp only
    rw [if_neg (fun hh => ne f funO G.fn (by decide) hh.1)]
  · rw [of_put, h]
    simp [cp, putL, getL]
theorem GoAt.start (M : MInv H out 12) (K : H.NoGo) {a : V} (ha : H.isClass a = true) (har : a = a.asRef) (hn1 : okI (H.last + 1)) (hn2 : okI (H.last + 1 + 1)) :
    GoAt H (((fun1 H).put a goK (V.ref (H.last + 1) hn1)).add (instO (((fun1 H).put a goK (V.ref (H.last + 1) hn1)).name c) (HeapM.name_le _ c) c)) a (V.ref (H.last + 1) hn1) (V.ref (H.last + 1 + 1) hn2) c [] 800 := by
  obtain ⟨f, hf⟩ : ∃ f, f = V.ref (H.last + 1) hn1 := ⟨_, rfl⟩
  rw [← hf]
  have hfn : f.n = H.last + 1 := by rw [hf]; rfl
  have cp := (fun1_put M ha).2
  have F1 : (fun1 H).Fit 730 := M.fit.addP funO (by decide) rfl (by simp [funO])
  have F2 := F1.put a goK f
  have l2 : ((fun1 H).put a goK f).last = H.last + 1 := by rw [last_put]; rfl
  have hal := class_le M.fit.G ha
  have fo : (fun1 H).of f = some funO := by rw [hf]; exact fun1_self M hn1
  have fo2 : ((fun1 H).put a goK f).of f = some funO := by
    rw [of_put, fo]
    simp only
    rw [if_neg (by omega)]
  have keep : ∀ (o : ObjM) (v : V), v.n ≤ H.last + 1 → (((fun1 H).put a goK f).add o).of v = ((fun1 H).put a goK f).of v := fun o v hv => by rw [of_add F2.G, if_neg (by omega)]
  refine ⟨(F2.addP _ (by show (1 : Int) ≤ 6 ∧ (6 : Int) ≤ 12; decide) rfl (M := 800) (by simp [instO])), fun x hx hxr => ?_, ?_, ((fun1 H).put a goK f).name c, HeapM.name_le _ c, ?_⟩
  · have hxl := class_le M.fit.G hx
    obtain ⟨ob, ho, hk⟩ := HeapM.isClass_of hx
    have e1 := fun1_of M x hx
    have e2 := keep (instO (((fun1 H).put a goK f).name c) (HeapM.name_le _ c) c) x (by omega)
    have kx := K x hx
    by_cases hxa : x = a
    · subst hxa
      have e3 : ((fun1 H).put x goK f).of x = some { ob with pairs := putL ob.pairs goK f } := by
        rw [of_put, e1, ho]
        simp [cp]
      rw [e3] at e2
      refine ⟨?_, ?_, ?_⟩
      · unfold HeapM.kind; rw [e2]; exact hk
      · unfold HeapM.items; rw [e2, ho]; rfl
      · unfold HeapM.get HeapM.pairs
        rw [e2, if_pos rfl]
        show getL (putL ob.pairs goK f) goK = some f
        rw [getL_putL, if_pos rfl]
    · have hne : x.n ≠ a.n := fun e => hxa (asRef_eq hxr har e)
      have e3 : ((fun1 H).put a goK f).of x = some ob := by
        rw [of_put, e1, ho]
        simp only
        rw [if_neg (fun hh => hne hh.1)]
      rw [e3] at e2
      refine ⟨?_, ?_, ?_⟩
      · unfold HeapM.kind; rw [e2]; exact hk
      · unfold HeapM.items; rw [e2, ho]
      · unfold HeapM.get HeapM.pairs at kx ⊢
        rw [e2, if_neg hxa]
        rw [ho] at kx
        exact kx
  · rw [keep _ f (by omega)]; exact fo2
  · rw [of_add F2.G, if_pos ⟨rfl, by rw [l2]; rfl⟩]; rfl
/-- The heaps, one behind the other: X2: the function stands in the dict of a; X3: the instance is made; X4, X5: it is bound twice; X6: the instance has it itself; X7: it is bound once more. -/
structure BoundAll (H X2 X3 X4 X5 X6 X7 : HeapM) (a f o m n s c : V) : Prop where
  e2 : X2 = (fun1 H).put a goK f
  p1 : (fun1 H).opens a = true ∧ (fun1 H).canPut a goK = true
  e3 : X3 = X2.add (instO (X2.name c) (HeapM.name_le X2 c) c)
  c2 : X2.isClass c = true
  f2 : X2.Fit 800
  f3 : X3.Fit 800
  g3 : X3.getA o goK = some (m.val, X4)
  f4 : X4.Fit 804
  g4 : X4.specM o goK = (n.val, true, X5)
  f5 : X5.Fit 808
  g5 : X5.getA c goK = some (f.val, X5)
  p5 : X5.opens o = true ∧ X5.canPut o goK = true
  km : X5.kind m = 7 ∧ X5.kind n = 7 ∧ X5.name m = goS
  im : X5.items m = [o, f] ∧ X5.items n = [o, f]
  e6 : X6 = X5.put o goK f
  f6 : X6.Fit 809
  g6 : X6.getA o goK = some (f.val, X6)
  h6 : X6.specM o goK = (s.val, true, X7)
  ks : X7.kind s = 7
  nf : f.val = .agg #[.int .i64 4, .int .i64 (H.last + 1), .string ⟨#[]⟩]
  no : o.val = .agg #[.int .i64 4, .int .i64 (X2.last + 1), .string ⟨#[]⟩]
  mn : m ≠ n
theorem bound_of {X : HeapM} {N : Nat} (F : X.Fit N) (o f : V) (hn : okI (X.last + 1)) : (X.add (boundO goS goS_le o f)).of (V.ref (X.last + 1) hn) = some (boundO goS goS_le o f) := by rw [of_add F.G, if_pos ⟨rfl, rfl⟩]
theorem bound_facts (M : MInv H out 12) (K : H.NoGo) (hc : H.isClass c = true) (hr : c = c.asRef) {a : V} (ha : a ∈ H.order c) : ∃ X2 X3 X4 X5 X6 X7 f o m n s, BoundAll H X2 X3 X4 X5 X6 X7 a f o m n s c := by
  have hl := M.last
  have hao := M.cls.order_mem ha
  have hn1 : okI (H.last + 1) := okI_of ⟨by omega, by omega⟩
  have hn2 : okI (H.last + 1 + 1) := okI_of ⟨by omega, by omega⟩
  have G3 := GoAt.start (c := c) M K hao.2.1 hao.2.2.1 hn1 hn2
  have P1 := fun1_put M hao.2.1
  obtain ⟨f, hf⟩ : ∃ f, f = V.ref (H.last + 1) hn1 := ⟨_, rfl⟩
  obtain ⟨o, ho⟩ : ∃ o, o = V.ref (H.last + 1 + 1) hn2 := ⟨_, rfl⟩
  rw [← hf, ← ho] at G3
  have F1 : (fun1 H).Fit 730 := M.fit.addP funO (by decide) rfl (by simp [funO])
  have F2 := F1.put a goK f
  have hc2 : ((fun1 H).put a goK f).isClass c = true := by
    rw [isClass_put]
    unfold HeapM.isClass HeapM.kind
    rw [fun1_of M c hc]; exact hc
  have l2 : ((fun1 H).put a goK f).last = H.last + 1 := by rw [last_put]; rfl
  obtain ⟨X2, e2⟩ : ∃ X2, X2 = (fun1 H).put a goK f := ⟨_, rfl⟩
  rw [← e2] at G3 F2 hc2 l2
  obtain ⟨X3, e3⟩ : ∃ X3, X3 = X2.add (instO (X2.name c) (HeapM.name_le X2 c) c) := ⟨_, rfl⟩
  have l3 : X3.last = H.last + 2 := by rw [e3]; show X2.last + 1 = _; omega
  rw [← e3] at G3
  have A3 := G3.asks M.cls hc hr K ha
  have G4 := G3.add (boundO goS goS_le o f) (by show (1 : Int) ≤ 7 ∧ (7 : Int) ≤ 12; decide) rfl (by simp [boundO])
  obtain ⟨X4, e4⟩ : ∃ X4, X4 = X3.add (boundO goS goS_le o f) := ⟨_, rfl⟩
  rw [← e4] at G4 A3
  have l4 : X4.last = H.last + 3 := by rw [e4]; show X3.last + 1 = _; omega
  have A4 := G4.asks M.cls hc hr K ha
  have G5 := G4.add (boundO goS goS_le o f) (by show (1 : Int) ≤ 7 ∧ (7 : Int) ≤ 12; decide) rfl (by simp [boundO])
  obtain ⟨X5, e5⟩ : ∃ X5, X5 = X4.add (boundO goS goS_le o f) := ⟨_, rfl⟩
  rw [← e5] at G5 A4
  have l5 : X5.last = H.last + 4 := by rw [e5]; show X4.last + 1 = _; omega
  have A5 := G5.asks M.cls hc hr K ha
  have G6 := G5.put
  obtain ⟨X6, e6⟩ : ∃ X6, X6 = X5.put o goK f := ⟨_, rfl⟩
  rw [← e6] at G6
  have l6 : X6.last = H.last + 4 := by rw [e6, last_put]; exact l5
  have A6 := G6.own M.cls hc hr K ha
  obtain ⟨X7, e7⟩ : ∃ X7, X7 = X6.add (boundO goS goS_le o f) := ⟨_, rfl⟩
  rw [← e7] at A6
  have hm : okI (X3.last + 1) := okI_of ⟨by omega, by omega⟩
  have hn : okI (X4.last + 1) := okI_of ⟨by omega, by omega⟩
  have hs : okI (X6.last + 1) := okI_of ⟨by omega, by omega⟩
  have om4 : X4.of (V.ref (X3.last + 1) hm) = some (boundO goS goS_le o f) := by rw [e4]; exact bound_of G3.fit o f hm
  have om : X5.of (V.ref (X3.last + 1) hm) = some (boundO goS goS_le o f) := by
    rw [e5, of_add G4.fit.G, if_neg (by rintro ⟨_, h⟩; rw [show (V.ref (X3.last + 1) hm).n = X3.last + 1 from rfl] at h; omega)]
    exact om4
  have on : X5.of (V.ref (X4.last + 1) hn) = some (boundO goS goS_le o f) := by rw [e5]; exact bound_of G4.fit o f hn
  have os : X7.of (V.ref (X6.last + 1) hs) = some (boundO goS goS_le o f) := by rw [e7]; exact bound_of G6.fit o f hs
  have hfr : f.asRef = f := by rw [hf]; rfl
  have hor : o.asRef = o := by rw [ho]; rfl
  refine ⟨X2, X3, X4, X5, X6, X7, f, o, V.ref (X3.last + 1) hm, V.ref (X4.last + 1) hn, V.ref (X6.last + 1) hs, e2, P1, e3, hc2, F2.more (by omega), G3.fit, A3.1, G4.fit, A4.2.1, G5.fit, A5.2.2.1, A5.2.2.2, ⟨?_, ?_, ?_⟩, ⟨?_, ?_⟩, e6, G6.fit, A6.1, A6.2, ?_, by rw [hf]; rfl, ?_, ?_⟩
  · unfold HeapM.kind; rw [om]; rfl
  · unfold HeapM.kind; rw [on]; rfl
  · unfold HeapM.name; rw [om]; rfl
  · unfold HeapM.items; rw [om]; show [o.asRef, f.asRef] = _; rw [hor, hfr]
  · unfold HeapM.items; rw [on]; show [o.asRef, f.asRef] = _; rw [hor, hfr]
  · unfold HeapM.kind; rw [os]; rfl
  · rw [ho, l2]; rfl
  · intro e
    have : (V.ref (X3.last + 1) hm).n = (V.ref (X4.last + 1) hn).n := by rw [e]
    have h2 : X3.last + 1 = X4.last + 1 := this
    omega
end
end Go.Proofs.Ytkocenlglodklaa
