/- Part of a proof: the texts A1, A2, A3, A4, A5 of a library of data trees, abstract stores and contracts, joined. -/
import Derived.WalkKit
import Derived.Orders
import Derived.Laws.CopyRow
import Derived.Below
/- APL, part 1: data trees that stand for Go values, types' layout, and the relation between trees and cells. Over any program. Part of a library of this session's own: a program logic over abstract states. -/
namespace Go.Apl
open Go

/-- A tree that stands for a Go value. -/
inductive D where
  | v (x : Value)
  | st (T : TypeId) (ds : List D)
  | tup (ds : List D)
  | ptr (id : Nat) (path : List Nat)
  | fptr (T : TypeId) (d : D)
  | lst (k x : Bool) (E : TypeId) (ds : List D)
  | own (id off len : Nat)
  | fn (f : FuncId) (caps : List D)
  | undef
  deriving Inhabited

/-- A value of one cell that leads nowhere. -/
def flatV : Value → Bool
  | .bool _ | .int .. | .float .. | .string _ | .pointer none | .map none | .nilFunc | .nilIface => true
  | _ => false

abbrev Hp := Nat → Option Obj
def Hp.le (H H' : Hp) : Prop := ∀ b o, H b = some o → H' b = some o
def Hp.none : Hp := fun _ => Option.none
def Hp.or (H H' : Hp) : Hp := fun b => (H b).or (H' b)
def hpOf (w : World) : Hp := fun b => w.heap[b]?

theorem Hp.le_refl (H : Hp) : Hp.le H H := fun _ _ h => h
theorem Hp.le_trans {H H' H'' : Hp} (h : Hp.le H H') (h' : Hp.le H' H'') : Hp.le H H'' := fun b o x => h' b o (h b o x)
theorem Hp.none_le (H : Hp) : Hp.le Hp.none H := fun _ _ h => by cases h

/-- The types of a type's parts: a struct's fields, an array's elements. -/
def parts (P : Program) (T : TypeId) : Option (List TypeId) :=
  if T < P.types.size then
    match P.underlying T with
    | some (.struct fs) => some (fs.toList.map (·.type))
    | some (.array n e) => some (List.replicate n e)
    | _ => Option.none
  else Option.none

def sizes (P : Program) (ts : List TypeId) : Nat := (ts.map P.cellsOf).sum

/-- Cells lie one behind the other, and each type is known. -/
def layoutAt (P : Program) (T : TypeId) : Bool :=
  match P.underlying T with
  | some (.struct fs) => P.cellsOf T == sizes P (fs.toList.map (·.type)) &&
      fs.toList.zipIdx.all (fun (f, i) => f.offset == sizes P ((fs.toList.take i).map (·.type))) && fs.toList.all (fun f => (P.underlying f.type).isSome)
  | some (.array n e) => P.cellsOf T == n * P.cellsOf e && (P.underlying e).isSome
  | some .invalid => true
  | some (.tuple _) => true
  | some _ => P.cellsOf T == 1
  | Option.none => true
def layoutAll (P : Program) : Bool := (List.range P.types.size).all (layoutAt P)

/-- The place of a part of a part, and its type. -/
def offAt (P : Program) : TypeId → List Nat → Option (Nat × TypeId)
  | T, [] => some (0, T)
  | T, i :: p =>
    match parts P T with
    | some ts => match ts[i]? with
      | some t => (offAt P t p).map fun x => (sizes P (ts.take i) + x.1, x.2)
      | Option.none => Option.none
    | Option.none => Option.none

/-- Where an abstract object lies. An array without a block has no elements. -/
structure Loc where
  b : Option Nat
  base : Nat
  cap : Nat
  T : TypeId
  arr : Bool

def Loc.at (P : Program) (l : Loc) : List Nat → Option (Nat × TypeId)
  | [] => if l.arr then Option.none else some (l.base, l.T)
  | i :: p => if l.arr then (offAt P l.T p).map fun x => (l.base + i * P.cellsOf l.T + x.1, x.2)
    else (offAt P l.T (i :: p)).map fun x => (l.base + x.1, x.2)

structure Cx where
  P : Program
  I : Hp
  N : Hp
  ι : Nat → Option Loc

/-- Without the abstract store. -/
@[reducible] def Cx.shut (C : Cx) : Cx := ⟨C.P, C.I, C.N, fun _ => Option.none⟩

def Cx.hp (C : Cx) (k : Bool) : Hp := fun b => if k then (C.N b).or (C.I b) else C.N b

/-- A tree's label fits a type. -/
def lab (P : Program) (d : D) (t : TypeId) : Prop :=
  match d with
  | .st T _ => T = t
  | _ => parts P t = Option.none

/-- Cells that lie in a row from a place on. -/
def Sub (cs : List Value) (ccs : Array Value) (o : Nat) : Prop := ∀ (j : Nat) (v : Value), cs[j]? = some v → ccs[o + j]? = some v

mutual
/-- Cells that a tree stands for. -/
inductive FR : Cx → D → List Value → Prop
  | v {C : Cx} {x : Value} (h : flatV x = true) : FR C (.v x) [x]
  | st {C : Cx} {T : TypeId} {ds : List D} {cs : List Value} (ts : List TypeId) (h : parts C.P T = some ts) (hs : FRs C ds ts cs) : FR C (.st T ds) cs
  | ptr {C : Cx} {id : Nat} {path : List Nat} (l : Loc) (b o : Nat) (T : TypeId) (h : C.ι id = some l) (hb : l.b = some b) (ho : l.at C.P path = some (o, T)) :
      FR C (.ptr id path) [.pointer (some ⟨b, o, Option.none⟩)]
  | fptr {C : Cx} {T : TypeId} {d : D} (b o : Nat) (ccs : Array Value) (E : TypeId) (fr : Nat × Nat) (cs : List Value) (hb : C.hp true b = some (.cells ccs E fr)) (hd : FR C.shut d cs)
      (hl : lab C.P d T) (hz : cs.length = C.P.cellsOf T) (hc : Sub cs ccs o) : FR C (.fptr T d) [.pointer (some ⟨b, o, Option.none⟩)]
  | lst0 {C : Cx} {k x : Bool} {E : TypeId} (A : Option Addr) (cap : Nat) (hx : x = true → cap = 0) : FR C (.lst k x E []) [.slice A 0 cap]
  | lst {C : Cx} {k x : Bool} {E : TypeId} {ds : List D} (b o cap : Nat) (ccs : Array Value) (E' : TypeId) (fr : Nat × Nat) (cs : List Value) (hne : ds ≠ [])
      (hb : C.hp k b = some (.cells ccs E' fr)) (hs : FRs C.shut ds (List.replicate ds.length E) cs) (hc : Sub cs ccs o)
      (hcap : ds.length ≤ cap) (hx : x = true → cap = ds.length) : FR C (.lst k x E ds) [.slice (some ⟨b, o, Option.none⟩) ds.length cap]
  | own {C : Cx} {id off len : Nat} (l : Loc) (A : Option Addr) (cap : Nat) (h : C.ι id = some l) (ha : l.arr = true) (hl : len ≤ cap) (hcap : off + cap = l.cap)
      (hA : 0 < cap → ∃ b, l.b = some b ∧ A = some ⟨b, l.base + off * C.P.cellsOf l.T, Option.none⟩) : FR C (.own id off len) [.slice A len cap]
  | fn {C : Cx} {f : FuncId} {caps : List D} (vs : List Value) (h : FR1 C caps vs) : FR C (.fn f caps) [.func (.func f) #[] vs.toArray]
  | undef {C : Cx} (x : Value) (h : x.oneCell' = true) : FR C .undef [x]
inductive FRs : Cx → List D → List TypeId → List Value → Prop
  | nil {C : Cx} : FRs C [] [] []
  | cons {C : Cx} {d : D} {ds : List D} {t : TypeId} {ts : List TypeId} {cs rest : List Value} (hd : FR C d cs) (hz : cs.length = C.P.cellsOf t) (hl : lab C.P d t)
      (hs : FRs C ds ts rest) : FRs C (d :: ds) (t :: ts) (cs ++ rest)
/-- Trees of one cell each. -/
inductive FR1 : Cx → List D → List Value → Prop
  | nil {C : Cx} : FR1 C [] []
  | cons {C : Cx} {d : D} {ds : List D} {v : Value} {vs : List Value} (hd : FR C d [v]) (hs : FR1 C ds vs) : FR1 C (d :: ds) (v :: vs)
end

structure Cx.le (C C' : Cx) : Prop where
  P : C.P = C'.P
  hp : ∀ k, Hp.le (C.hp k) (C'.hp k)
  ι : ∀ id l, C.ι id = some l → C'.ι id = some l

theorem Cx.le.refl (C : Cx) : Cx.le C C := ⟨rfl, fun _ => Hp.le_refl _, fun _ _ h => h⟩
theorem Cx.le.trans {A B C : Cx} (h : Cx.le A B) (h' : Cx.le B C) : Cx.le A C :=
  ⟨h.P.trans h'.P, fun k => Hp.le_trans (h.hp k) (h'.hp k), fun id l x => h'.ι id l (h.ι id l x)⟩

theorem Cx.le.shut {C C' : Cx} (h : Cx.le C C') : Cx.le C.shut C'.shut := ⟨h.P, h.hp, fun _ _ x => by cases x⟩
theorem Cx.shut_le (C : Cx) : Cx.le C.shut C := ⟨rfl, fun _ => Hp.le_refl _, fun _ _ x => by cases x⟩

mutual
theorem FR.mono : ∀ {C C' : Cx} {d : D} {cs : List Value}, FR C d cs → Cx.le C C' → FR C' d cs
  | _, _, _, _, .v hx, _ => .v hx
  | _, _, _, _, .st ts hp hs, h => .st ts (h.P ▸ hp) (FRs.mono hs h)
  | _, _, _, _, .ptr l b o T hi hb ho, h => .ptr l b o T (h.ι _ _ hi) hb (h.P ▸ ho)
  | _, _, _, _, .fptr b o ccs E fr cs hb hd hl hz hc, h => .fptr b o ccs E fr cs (h.hp _ _ _ hb) (FR.mono hd h.shut) (h.P ▸ hl) (h.P ▸ hz) hc
  | _, _, _, _, .lst0 A cap hx, _ => .lst0 A cap hx
  | _, _, _, _, .lst b o cap ccs E' fr cs hne hb hs hc hcap hx, h => .lst b o cap ccs E' fr cs hne (h.hp _ _ _ hb) (FRs.mono hs h.shut) hc hcap hx
  | _, _, _, _, .own l A cap hi ha hl hcap hA, h => .own l A cap (h.ι _ _ hi) ha hl hcap (by rw [← h.P]; exact hA)
  | _, _, _, _, .fn vs hs, h => .fn vs (FR1.mono hs h)
  | _, _, _, _, .undef x hx, _ => .undef x hx
theorem FRs.mono : ∀ {C C' : Cx} {ds : List D} {ts : List TypeId} {cs : List Value}, FRs C ds ts cs → Cx.le C C' → FRs C' ds ts cs
  | _, _, _, _, _, .nil, _ => .nil
  | _, _, _, _, _, .cons hd hz hl hs, h => .cons (FR.mono hd h) (h.P ▸ hz) (h.P ▸ hl) (FRs.mono hs h)
theorem FR1.mono : ∀ {C C' : Cx} {ds : List D} {vs : List Value}, FR1 C ds vs → Cx.le C C' → FR1 C' ds vs
  | _, _, _, _, .nil, _ => .nil
  | _, _, _, _, .cons hd hs, h => .cons (FR.mono hd h) (FR1.mono hs h)
end

end Go.Apl

/- APL, part 2: parts of trees and of cells; abstract stores; the relation between an abstract state and a world. Over any program. -/
namespace Go.Apl
open Go

/-! ### Values by their trees -/
def VR1 (C : Cx) (d : D) (v : Value) : Prop :=
  match d with
  | .st T ds => ∃ cs, v = .agg cs ∧ FR C (.st T ds) cs.toList
  | .undef => True
  | .tup _ => False
  | d => FR C d [v]

inductive VRs (C : Cx) : List D → List Value → Prop
  | nil : VRs C [] []
  | cons {d : D} {ds : List D} {v : Value} {vs : List Value} (hd : VR1 C d v) (hs : VRs C ds vs) : VRs C (d :: ds) (v :: vs)

def VR (C : Cx) (d : D) (v : Value) : Prop :=
  match d with
  | .tup ds => ∃ vs, v = .tuple vs ∧ VRs C ds vs.toList
  | d => VR1 C d v

theorem VR1.mono {C C' : Cx} (h : Cx.le C C') {d : D} {v : Value} (hv : VR1 C d v) : VR1 C' d v := by
  cases d <;> simp only [VR1] at hv ⊢ <;> first | exact hv | exact FR.mono hv h | (obtain ⟨cs, e, hf⟩ := hv; exact ⟨cs, e, FR.mono hf h⟩)
theorem VRs.mono {C C' : Cx} (h : Cx.le C C') {ds : List D} {vs : List Value} (hv : VRs C ds vs) : VRs C' ds vs := by
  induction hv with
  | nil => exact .nil
  | cons hd _ ih => exact .cons (hd.mono h) ih
theorem VR.mono {C C' : Cx} (h : Cx.le C C') {d : D} {v : Value} (hv : VR C d v) : VR C' d v := by
  cases d <;> simp only [VR] at hv ⊢ <;> first | exact VR1.mono h hv | (obtain ⟨vs, e, hf⟩ := hv; exact ⟨vs, e, VRs.mono h hf⟩)

theorem VRs.length {C : Cx} {ds : List D} {vs : List Value} (h : VRs C ds vs) : ds.length = vs.length := by
  induction h <;> simp_all
theorem VRs.get {C : Cx} {ds : List D} {vs : List Value} (h : VRs C ds vs) : ∀ (i : Nat) (d : D), ds[i]? = some d → ∃ v, vs[i]? = some v ∧ VR1 C d v := by
  induction h with
  | nil => intro i d h; simp at h
  | cons hd _ ih =>
    intro i d h
    cases i with
    | zero => simp at h; subst h; exact ⟨_, by simp, hd⟩
    | succ i => simp at h; simpa using ih i d h

/-- A tree of cells: neither a tuple nor nothing known. -/
def D.solid : D → Bool
  | .tup _ | .undef => false
  | _ => true

theorem flat_one {x : Value} (h : flatV x = true) : x.oneCell' = true := by
  cases x <;> simp_all [flatV, Value.oneCell']

theorem flat_cells {x : Value} (h : flatV x = true) : x.cells = #[x] := by
  cases x <;> simp_all [flatV, Value.cells]

/-- The cells of a value that a solid tree stands for. -/
theorem VR1.cells {C : Cx} {d : D} {v : Value} (h : VR1 C d v) (hs : d.solid = true) : FR C d v.cells.toList := by
  cases d with
  | st T ds => obtain ⟨cs, rfl, hf⟩ := h; exact hf
  | undef => simp [D.solid] at hs
  | tup _ => simp [D.solid] at hs
  | v x => simp only [VR1] at h; cases h with | v hx => rw [flat_cells hx]; exact .v hx
  | ptr id path => simp only [VR1] at h; cases h with | ptr l b o T hi hb ho => exact .ptr l b o T hi hb ho
  | fptr d => simp only [VR1] at h; cases h with | fptr b o ccs E fr cs hb hd hl hz hc => exact .fptr b o ccs E fr cs hb hd hl hz hc
  | lst k x E ds =>
    simp only [VR1] at h
    cases h with
    | lst0 A cap hx => exact .lst0 A cap hx
    | lst b o cap ccs E' fr cs hne hb hs hc hcap hx => exact .lst b o cap ccs E' fr cs hne hb hs hc hcap hx
  | own id off len => simp only [VR1] at h; cases h with | own l A cap hi ha hl hcap hA => exact .own l A cap hi ha hl hcap hA
  | fn f caps => simp only [VR1] at h; cases h with | fn vs hs => exact .fn vs hs

mutual
/-- All cells of a tree are values of one cell. -/
theorem FR.one {C : Cx} : ∀ {d : D} {cs : List Value}, FR C d cs → ∀ v ∈ cs, v.oneCell' = true
  | _, _, .v hx => by simpa using flat_one hx
  | _, _, .st ts hp hs => FRs.one hs
  | _, _, .ptr .. => by simp [Value.oneCell']
  | _, _, .fptr .. => by simp [Value.oneCell']
  | _, _, .lst0 .. => by simp [Value.oneCell']
  | _, _, .lst .. => by simp [Value.oneCell']
  | _, _, .own .. => by simp [Value.oneCell']
  | _, _, .fn .. => by simp [Value.oneCell']
  | _, _, .undef x hx => by simpa using hx
theorem FRs.one {C : Cx} : ∀ {ds : List D} {ts : List TypeId} {cs : List Value}, FRs C ds ts cs → ∀ v ∈ cs, v.oneCell' = true
  | _, _, _, .nil => by simp
  | _, _, _, .cons hd _ _ hs => by
    intro v hv
    rcases List.mem_append.1 hv with hv | hv
    · exact FR.one hd v hv
    · exact FRs.one hs v hv
end

theorem FRs.length {C : Cx} : ∀ {ds : List D} {ts : List TypeId} {cs : List Value}, FRs C ds ts cs → ds.length = ts.length ∧ cs.length = sizes C.P ts
  | _, _, _, .nil => ⟨rfl, rfl⟩
  | _, _, _, .cons hd hz hl hs => by
    obtain ⟨h1, h2⟩ := FRs.length hs
    refine ⟨by simp [h1], ?_⟩
    simp [sizes] at h2 ⊢
    omega

/-- The i-th part's cells. -/
theorem FRs.get {C : Cx} : ∀ {ds : List D} {ts : List TypeId} {cs : List Value}, FRs C ds ts cs → ∀ (i : Nat) (t : TypeId), ts[i]? = some t →
    ∃ d, ds[i]? = some d ∧ lab C.P d t ∧ FR C d ((cs.drop (sizes C.P (ts.take i))).take (C.P.cellsOf t)) ∧ sizes C.P (ts.take i) + C.P.cellsOf t ≤ cs.length
  | _, _, _, .nil, i, t, h => by simp at h
  | _, _, _, .cons (d := d) (ds := ds) (t := t0) (ts := ts) (cs := cs) (rest := rest) hd hz hl hs, i, t, h => by
    cases i with
    | zero =>
      simp at h; subst h
      exact ⟨d, by simp, hl, by simpa [sizes, ← hz] using hd, by simp [sizes]; omega⟩
    | succ i =>
      simp at h
      obtain ⟨d', h1, h2, h3, h4⟩ := FRs.get hs i t h
      refine ⟨d', by simpa using h1, h2, ?_, ?_⟩
      · have : sizes C.P ((t0 :: ts).take (i + 1)) = cs.length + sizes C.P (ts.take i) := by simp [sizes, hz]
        rw [this, ← List.drop_drop, List.drop_left]
        exact h3
      · simp [sizes] at h4 ⊢; omega

theorem FRs.set {C : Cx} : ∀ {ds : List D} {ts : List TypeId} {cs : List Value}, FRs C ds ts cs → ∀ (i : Nat) (t : TypeId), ts[i]? = some t →
    ∀ (x : D) (xs : List Value), FR C x xs → xs.length = C.P.cellsOf t → lab C.P x t →
    FRs C (ds.set i x) ts (cs.take (sizes C.P (ts.take i)) ++ xs ++ cs.drop (sizes C.P (ts.take i) + xs.length))
  | _, _, _, .nil, i, t, h, _, _, _, _, _ => by simp at h
  | _, _, _, .cons (d := d) (ds := ds) (t := t0) (ts := ts) (cs := cs) (rest := rest) hd hz hl hs, i, t, h, x, xs, hx, hxz, hxl => by
    cases i with
    | zero =>
      simp at h; subst h
      have : (cs ++ rest).drop xs.length = rest := by rw [hxz, ← hz, List.drop_left]
      simp only [List.set_cons_zero, List.take_zero, sizes, List.map_nil, List.sum_nil, List.nil_append, Nat.zero_add]
      rw [this]
      exact .cons hx hxz hxl hs
    | succ i =>
      simp at h
      have ih := FRs.set hs i t h x xs hx hxz hxl
      have e1 : sizes C.P ((t0 :: ts).take (i + 1)) = cs.length + sizes C.P (ts.take i) := by simp [sizes, hz]
      simp only [List.set_cons_succ, e1]
      have e2 : (cs ++ rest).take (cs.length + sizes C.P (ts.take i)) = cs ++ rest.take (sizes C.P (ts.take i)) := by
        rw [List.take_append, List.take_of_length_le (by omega)]; simp
      have e3 : (cs ++ rest).drop (cs.length + sizes C.P (ts.take i) + xs.length) = rest.drop (sizes C.P (ts.take i) + xs.length) := by
        rw [Nat.add_assoc, ← List.drop_drop, List.drop_left]
      rw [e2, e3, List.append_assoc, List.append_assoc, ← List.append_assoc (rest.take _)]
      exact .cons hd hz hl ih

/-! ### Parts of parts -/
def D.get : List Nat → D → Option D
  | [], d => some d
  | i :: p, .st _ ds => match ds[i]? with
    | some d => D.get p d
    | none => none
  | _ :: _, _ => none

def D.set : List Nat → D → D → Option D
  | [], _, x => some x
  | i :: p, .st T ds, x => match ds[i]? with
    | some d => match D.set p d x with
      | some d' => some (.st T (ds.set i d'))
      | none => none
    | none => none
  | _ :: _, _, _ => none

theorem FR.get {C : Cx} : ∀ (p : List Nat) {d d' : D} {cs : List Value} {T : TypeId}, FR C d cs → lab C.P d T → cs.length = C.P.cellsOf T → D.get p d = some d' →
    ∃ o T', offAt C.P T p = some (o, T') ∧ lab C.P d' T' ∧ FR C d' ((cs.drop o).take (C.P.cellsOf T')) ∧ o + C.P.cellsOf T' ≤ cs.length
  | [], d, d', cs, T, hf, hl, hz, h => by
    simp [D.get] at h; subst h
    exact ⟨0, T, rfl, hl, by simpa [← hz] using hf, by omega⟩
  | i :: p, d, d', cs, T, hf, hl, hz, h => by
    cases d <;> simp [D.get] at h
    rename_i T0 ds
    simp [lab] at hl; subst hl
    cases hf with
    | st ts hp hs =>
      cases hd : ds[i]? with
      | none => simp [hd] at h
      | some d1 =>
        simp [hd] at h
        have hlen := (FRs.length hs).1
        have hi : i < ts.length := by
          have := (List.getElem?_eq_some_iff.1 hd).1
          omega
        obtain ⟨d2, h1, h2, h3, h4⟩ := FRs.get hs i ts[i] (List.getElem?_eq_getElem hi)
        rw [hd] at h1; cases h1
        have hz3 : ((cs.drop (sizes C.P (ts.take i))).take (C.P.cellsOf ts[i])).length = C.P.cellsOf ts[i] := by simp; omega
        obtain ⟨o, T', g1, g2, g3, g4⟩ := FR.get p h3 h2 hz3 h
        refine ⟨sizes C.P (ts.take i) + o, T', ?_, g2, ?_, ?_⟩
        · simp [offAt, hp, List.getElem?_eq_getElem hi, g1]
        · rw [hz3] at g4
          have : (((cs.drop (sizes C.P (ts.take i))).take (C.P.cellsOf ts[i])).drop o).take (C.P.cellsOf T') = (cs.drop (sizes C.P (ts.take i) + o)).take (C.P.cellsOf T') := by
            rw [List.drop_take, List.drop_drop, List.take_take, Nat.min_eq_left (by omega)]
          rwa [this] at g3
        · rw [hz3] at g4; omega

theorem splice_in (cs xs : List Value) (A B o : Nat) (h1 : o + xs.length ≤ B) (h2 : A + B ≤ cs.length) :
    cs.take A ++ (((cs.drop A).take B).take o ++ xs ++ ((cs.drop A).take B).drop (o + xs.length)) ++ cs.drop (A + B) = cs.take (A + o) ++ xs ++ cs.drop (A + o + xs.length) := by
  have e1 : cs.take (A + o) = cs.take A ++ (cs.drop A).take o := List.take_add
  have e2 : ((cs.drop A).take B).take o = (cs.drop A).take o := by rw [List.take_take, Nat.min_eq_left (by omega)]
  have e3 : ((cs.drop A).take B).drop (o + xs.length) ++ cs.drop (A + B) = cs.drop (A + o + xs.length) := by
    have h := List.drop_append_of_le_length (l₁ := (cs.drop A).take B) (l₂ := (cs.drop A).drop B) (i := o + xs.length) (by simp; omega)
    rw [List.take_append_drop, List.drop_drop, List.drop_drop] at h
    rw [← h, Nat.add_assoc]
  rw [e1, e2, ← e3]
  simp [List.append_assoc]

theorem FR.set {C : Cx} : ∀ (p : List Nat) {d d2 x : D} {cs xs : List Value} {T : TypeId} {o : Nat} {T' : TypeId}, FR C d cs → lab C.P d T → cs.length = C.P.cellsOf T →
    offAt C.P T p = some (o, T') → FR C x xs → xs.length = C.P.cellsOf T' → lab C.P x T' → D.set p d x = some d2 →
    FR C d2 (cs.take o ++ xs ++ cs.drop (o + xs.length)) ∧ lab C.P d2 T
  | [], d, d2, x, cs, xs, T, o, T', hf, hl, hz, ho, hx, hxz, hxl, h => by
    simp [D.set] at h; subst h
    simp [offAt] at ho
    obtain ⟨rfl, rfl⟩ := ho
    have : cs.drop xs.length = [] := by rw [hxz, ← hz]; simp
    simp [this]
    exact ⟨hx, hxl⟩
  | i :: p, d, d2, x, cs, xs, T, o, T', hf, hl, hz, ho, hx, hxz, hxl, h => by
    cases d <;> simp [D.set] at h
    rename_i T0 ds
    simp [lab] at hl; subst hl
    cases hf with
    | st ts hp hs =>
      cases hd : ds[i]? with
      | none => simp [hd] at h
      | some d1 =>
        simp only [hd] at h
        cases hset : D.set p d1 x with
        | none => simp [hset] at h
        | some d1' =>
          simp [hset] at h; subst h
          have hlen := (FRs.length hs).1
          have hi : i < ts.length := by
            have := (List.getElem?_eq_some_iff.1 hd).1
            omega
          obtain ⟨d3, h1, h2, h3, h4⟩ := FRs.get hs i ts[i] (List.getElem?_eq_getElem hi)
          rw [hd] at h1; cases h1
          have hz3 : ((cs.drop (sizes C.P (ts.take i))).take (C.P.cellsOf ts[i])).length = C.P.cellsOf ts[i] := by simp; omega
          simp only [offAt, hp, List.getElem?_eq_getElem hi] at ho
          cases ho1 : offAt C.P ts[i] p with
          | none => simp [ho1] at ho
          | some y =>
            obtain ⟨o1, T1⟩ := y
            simp [ho1] at ho
            obtain ⟨rfl, rfl⟩ := ho
            obtain ⟨o2, T2, q1, q2, q3, q4⟩ := FR.get p h3 h2 hz3 (d' := (D.get p d1).getD .undef) (by
              have : ∀ (p : List Nat) (d x d' : D), D.set p d x = some d' → ∃ y, D.get p d = some y := by
                intro p
                induction p with
                | nil => intro d x d' _; exact ⟨d, rfl⟩
                | cons j q ih =>
                  intro d x d' hh
                  cases d <;> simp [D.set] at hh
                  rename_i U es
                  simp only [D.get]
                  cases he : es[j]? with
                  | none => simp [he] at hh
                  | some e =>
                    simp only [he] at hh ⊢
                    cases hq : D.set q e x with
                    | none => simp [hq] at hh
                    | some e' => exact ih e x e' hq
              obtain ⟨y, hy⟩ := this p d1 x d1' hset
              simp [hy])
            rw [ho1] at q1; cases q1
            obtain ⟨g1, g2⟩ := FR.set p h3 h2 hz3 ho1 hx hxz hxl hset
            have hbnd : o1 + xs.length ≤ C.P.cellsOf ts[i] := by rw [hz3] at q4; omega
            have hlen1 : (((cs.drop (sizes C.P (ts.take i))).take (C.P.cellsOf ts[i])).take o1 ++ xs ++ ((cs.drop (sizes C.P (ts.take i))).take (C.P.cellsOf ts[i])).drop (o1 + xs.length)).length = C.P.cellsOf ts[i] := by
              simp only [List.length_append, List.length_take, List.length_drop]
              omega
            have hs2 := FRs.set hs i ts[i] (List.getElem?_eq_getElem hi) d1' _ g1 hlen1 g2
            refine ⟨?_, rfl⟩
            have e : cs.take (sizes C.P (ts.take i)) ++ (((cs.drop (sizes C.P (ts.take i))).take (C.P.cellsOf ts[i])).take o1 ++ xs ++ ((cs.drop (sizes C.P (ts.take i))).take (C.P.cellsOf ts[i])).drop (o1 + xs.length)) ++ cs.drop (sizes C.P (ts.take i) + C.P.cellsOf ts[i])
                = cs.take (sizes C.P (ts.take i) + o1) ++ xs ++ cs.drop (sizes C.P (ts.take i) + o1 + xs.length) := by
              exact splice_in cs xs _ _ _ hbnd h4
            rw [hlen1, e] at hs2
            exact .st ts hp hs2

end Go.Apl

/- APL, part 3: abstract stores and their worlds: a load, a store, a new block. Over any program. -/
namespace Go.Apl
open Go
open Go.RowKit (Below)

/-! ### Lists by a key -/
def getT {α : Type} (k : Nat) : List (Nat × α) → Option α
  | [] => none
  | (j, x) :: l => if j = k then some x else getT k l
def setT {α : Type} (k : Nat) (x : α) : List (Nat × α) → List (Nat × α)
  | [] => []
  | (j, y) :: l => if j = k then (j, x) :: l else (j, y) :: setT k x l
def delT {α : Type} (k : Nat) : List (Nat × α) → List (Nat × α)
  | [] => []
  | (j, y) :: l => if j = k then delT k l else (j, y) :: delT k l

theorem getT_setT {α : Type} (k : Nat) (x : α) (l : List (Nat × α)) (j : Nat) :
    getT j (setT k x l) = if j = k then (getT k l).map (fun _ => x) else getT j l := by
  induction l with
  | nil => simp [getT, setT]
  | cons p l ih =>
    obtain ⟨i, y⟩ := p
    simp only [setT]
    by_cases h : i = k
    · subst h
      by_cases hj : i = j
      · simp [getT, hj]
      · have : ¬ j = i := fun e => hj e.symm
        simp [getT, hj, this]
    · simp only [if_neg h, getT]
      by_cases hj : i = j
      · subst hj; simp [h]
      · simp only [if_neg hj, ih]
theorem getT_delT {α : Type} (k : Nat) (l : List (Nat × α)) (j : Nat) : getT j (delT k l) = if j = k then none else getT j l := by
  induction l with
  | nil => simp [getT, delT]
  | cons p l ih =>
    obtain ⟨i, y⟩ := p
    simp only [delT]
    by_cases h : i = k
    · subst h
      simp only [if_true, ih, getT]
      by_cases hj : j = i
      · simp [hj]
      · have : ¬ i = j := fun e => hj e.symm
        simp [hj, this]
    · simp only [if_neg h, getT, ih]
      by_cases hj : i = j
      · subst hj; simp [h]
      · simp [hj]

/-! ### The store -/
inductive AO where
  | box (T : TypeId) (d : D)
  | arr (E : TypeId) (ds : List D)
  | full (E : TypeId) (ds : List D) (c : Nat)

abbrev Sg := List (Nat × AO)

def AO.get (o : AO) (p : List Nat) : Option D :=
  match o, p with
  | .box _ d, p => D.get p d
  | .arr _ ds, i :: p => match ds[i]? with
    | some d => D.get p d
    | none => none
  | .arr _ _, [] => none
  | .full .., _ => none
def AO.set (o : AO) (p : List Nat) (x : D) : Option AO :=
  match o, p with
  | .box T d, p => match D.set p d x with
    | some d' => some (.box T d')
    | none => none
  | .arr E ds, i :: p => match ds[i]? with
    | some d => match D.set p d x with
      | some d' => some (.arr E (ds.set i d'))
      | none => none
    | none => none
  | .arr _ _, [] => none
  | .full .., _ => none

/-- What stays the same through a call: the program, the world at its begin, what may be read, the blocks that may be written. -/
structure Gh where
  P : Program
  w0 : World
  I : Hp
  F : Nat → Prop
  pin : Nat → Option Loc

@[reducible] def Gh.cx (G : Gh) (N : Hp) (ι : Nat → Option Loc) : Cx := ⟨G.P, G.I, N, ι⟩

def ArrR (C : Cx) (w : World) (E : TypeId) (ds : List D) (l : Loc) : Prop :=
  l.arr = true ∧ l.T = E ∧ 0 < C.P.cellsOf E ∧ match l.b with
    | none => ds = [] ∧ l.cap = 0
    | some b => ∃ cs E', w.heap[b]? = some (.cells cs E' (0, 0)) ∧ l.base + l.cap * C.P.cellsOf E ≤ cs.size ∧ ds.length ≤ l.cap ∧
        FRs C ds (List.replicate ds.length E) ((cs.toList.drop l.base).take (ds.length * C.P.cellsOf E))
def ObjR (C : Cx) (w : World) (o : AO) (l : Loc) : Prop :=
  match o with
  | .box T d => l.arr = false ∧ l.T = T ∧ l.base = 0 ∧ lab C.P d T ∧ ∃ b cs E, l.b = some b ∧ w.heap[b]? = some (.cells cs E (0, 0)) ∧ FR C d cs.toList ∧ cs.size = C.P.cellsOf T
  | .arr E ds => ArrR C w E ds l
  | .full E ds c => ArrR C w E ds l ∧ l.cap = c

structure HR (G : Gh) (w : World) (N : Hp) (ι : Nat → Option Loc) (σ : Sg) (nx : Nat) : Prop where
  I_le : Hp.le G.I (hpOf w)
  N_le : Hp.le N (hpOf w)
  N_new : ∀ b o, N b = some o → G.w0.heap.size ≤ b
  os : w.os = G.w0.os
  tape : w.tape = G.w0.tape
  output : w.output = G.w0.output
  size : G.w0.heap.size ≤ w.heap.size
  keep : ∀ b, b < G.w0.heap.size → ¬ G.F b → w.heap[b]? = G.w0.heap[b]?
  obj : ∀ id o, getT id σ = some o → ∃ l, ι id = some l ∧ ObjR (G.cx N ι) w o l
  sep : ∀ id id' o o' l l' b, getT id σ = some o → getT id' σ = some o' → ι id = some l → ι id' = some l' → l.b = some b → l'.b = some b → id = id'
  excl : ∀ id o l b, getT id σ = some o → ι id = some l → l.b = some b → G.I b = none ∧ N b = none ∧ (b < G.w0.heap.size → G.F b)
  names : ∀ id l, ι id = some l → id < nx
  pin : ∀ id l, G.pin id = some l → id < 8 ∧ ι id = some l

theorem HR.below {G : Gh} {w : World} {N : Hp} {ι : Nat → Option Loc} {σ : Sg} {nx : Nat} (h : HR G w N ι σ nx) (hF : ∀ b, ¬ G.F b) : Below G.w0.heap.size G.w0 w :=
  ⟨h.os, h.tape, h.output, h.size, fun k hk => h.keep k hk (hF k)⟩

/-- A draw turns nothing. -/
theorem HR.drew {G : Gh} {w : World} {N : Hp} {ι : Nat → Option Loc} {σ : Sg} {nx : Nat} (h : HR G w N ι σ nx) : HR G w.drew N ι σ nx :=
  ⟨h.I_le, h.N_le, h.N_new, h.os, h.tape, h.output, h.size, h.keep, h.obj, h.sep, h.excl, h.names, h.pin⟩

/-- Less of the store. -/
theorem HR.less {G : Gh} {w : World} {N : Hp} {ι : Nat → Option Loc} {σ σ' : Sg} {nx nx' : Nat} (h : HR G w N ι σ nx) (hs : ∀ id o, getT id σ' = some o → getT id σ = some o) (hn : nx ≤ nx') : HR G w N ι σ' nx' :=
  ⟨h.I_le, h.N_le, h.N_new, h.os, h.tape, h.output, h.size, h.keep, fun id o ho => h.obj id o (hs _ _ ho),
    fun id id' o o' l l' b h1 h2 => h.sep id id' o o' l l' b (hs _ _ h1) (hs _ _ h2), fun id o l b h1 => h.excl id o l b (hs _ _ h1), fun id l hl => Nat.lt_of_lt_of_le (h.names id l hl) hn, h.pin⟩

theorem hpOf_lt {w : World} {b : Nat} {o : Obj} (h : hpOf w b = some o) : b < w.heap.size := (Array.getElem?_eq_some_iff.1 h).1

theorem heap_alloc_old (w : World) (o : Obj) {b : Nat} {x : Obj} (h : w.heap[b]? = some x) : (w.alloc o).heap[b]? = some x := by
  have hlt := (Array.getElem?_eq_some_iff.1 h).1
  rw [Below.heap_alloc w o b hlt]; exact h
theorem heap_alloc_self (w : World) (o : Obj) : (w.alloc o).heap[w.heap.size]? = some o := by
  show (w.heap.push o)[w.heap.size]? = _
  simp

theorem heap_setRow_other (w : World) (g : Nat) (cs : Array Value) (b : Nat) (h : b ≠ g) : (w.setRow g cs).heap[b]? = w.heap[b]? := by
  simp only [World.setRow, Array.getElem?_modify]
  rw [if_neg (fun e => h e.symm)]

/-! ### A new block -/
theorem ArrR.grow {C C' : Cx} {w w' : World} {E : TypeId} {ds : List D} {l : Loc} (hC : Cx.le C C') (hw : ∀ b x, l.b = some b → w.heap[b]? = some x → w'.heap[b]? = some x) (h : ArrR C w E ds l) : ArrR C' w' E ds l := by
  obtain ⟨h1, h2, h3, h4⟩ := h
  refine ⟨h1, h2, hC.P ▸ h3, ?_⟩
  cases hb : l.b with
  | none => rw [hb] at h4; exact h4
  | some b =>
    rw [hb] at h4
    obtain ⟨cs, E', g1, g2, g3, g4⟩ := h4
    exact ⟨cs, E', hw b _ hb g1, hC.P ▸ g2, g3, by rw [← hC.P]; exact g4.mono hC⟩
theorem ObjR.grow {C C' : Cx} {w w' : World} {o : AO} {l : Loc} (hC : Cx.le C C') (hw : ∀ b x, l.b = some b → w.heap[b]? = some x → w'.heap[b]? = some x) (h : ObjR C w o l) : ObjR C' w' o l := by
  cases o with
  | box T d =>
    obtain ⟨h1, h2, h3, h4, b, cs, E, h5, h6, h7, h8⟩ := h
    exact ⟨h1, h2, h3, hC.P ▸ h4, b, cs, E, h5, hw b _ h5 h6, h7.mono hC, hC.P ▸ h8⟩
  | arr E ds => exact ArrR.grow hC hw h
  | full E ds c => exact ⟨ArrR.grow hC hw h.1, h.2⟩

def withLoc (ι : Nat → Option Loc) (id : Nat) (l : Loc) : Nat → Option Loc := fun j => if j = id then some l else ι j

theorem withLoc_le {P : Program} {I N : Hp} {ι : Nat → Option Loc} {id nx : Nat} {l : Loc} (hn : ∀ j m, ι j = some m → j < nx) (hid : nx ≤ id) : Cx.le ⟨P, I, N, ι⟩ ⟨P, I, N, withLoc ι id l⟩ :=
  ⟨rfl, fun _ => Hp.le_refl _, fun j m h => by
    have := hn j m h
    simp only [withLoc]
    rw [if_neg (by omega)]
    exact h⟩

/-- A new object in a new block, or in none. -/
theorem HR.new {G : Gh} {w : World} {N : Hp} {ι : Nat → Option Loc} {σ : Sg} {nx : Nat} (h : HR G w N ι σ nx) (w' : World) (o : AO) (l : Loc)
    (hw : w' = w ∧ l.b = none ∨ ∃ x, w' = w.alloc x ∧ l.b = some w.heap.size)
    (ho : ObjR (G.cx N ι) w' o l) : HR G w' N (withLoc ι nx l) ((nx, o) :: σ) (nx + 1) ∧ Cx.le (G.cx N ι) (G.cx N (withLoc ι nx l)) := by
  have hC : Cx.le (G.cx N ι) (G.cx N (withLoc ι nx l)) := withLoc_le h.names (Nat.le_refl _)
  have hold : ∀ (b : Nat) (x : Obj), w.heap[b]? = some x → w'.heap[b]? = some x := by
    intro b x hb
    rcases hw with ⟨rfl, _⟩ | ⟨y, rfl, _⟩
    · exact hb
    · exact heap_alloc_old w y hb
  have hsz : w.heap.size ≤ w'.heap.size := by
    rcases hw with ⟨rfl, _⟩ | ⟨y, rfl, _⟩
    · exact Nat.le_refl _
    · simp
  have hnew : ∀ b, l.b = some b → b = w.heap.size := by
    intro b hb
    rcases hw with ⟨_, hl⟩ | ⟨y, _, hl⟩
    · rw [hl] at hb; cases hb
    · rw [hl] at hb; cases hb; rfl
  have oldb : ∀ id o' l' b, getT id σ = some o' → ι id = some l' → l'.b = some b → b < w.heap.size := by
    intro id o' l' b h1 h2 h3
    obtain ⟨m, hm, hr⟩ := h.obj id o' h1
    rw [h2] at hm; cases hm
    cases o' with
    | box T d =>
      obtain ⟨_, _, _, _, b', cs, E, g1, g2, _⟩ := hr
      rw [h3] at g1; cases g1
      exact (Array.getElem?_eq_some_iff.1 g2).1
    | arr E ds =>
      obtain ⟨_, _, _, g⟩ := hr
      rw [h3] at g
      obtain ⟨cs, E', g1, _⟩ := g
      exact (Array.getElem?_eq_some_iff.1 g1).1
    | full E ds c =>
      obtain ⟨⟨_, _, _, g⟩, _⟩ := hr
      rw [h3] at g
      obtain ⟨cs, E', g1, _⟩ := g
      exact (Array.getElem?_eq_some_iff.1 g1).1
  have lk : ∀ id, id ≠ nx → withLoc ι nx l id = ι id := fun id hne => by simp [withLoc, hne]
  have ls : withLoc ι nx l nx = some l := by simp [withLoc]
  refine ⟨⟨fun b x hb => hold b x (h.I_le b x hb), fun b x hb => hold b x (h.N_le b x hb), h.N_new, ?_, ?_, ?_, Nat.le_trans h.size hsz, ?_, ?_, ?_, ?_, ?_, ?_⟩, hC⟩
  · rcases hw with ⟨rfl, _⟩ | ⟨y, rfl, _⟩ <;> exact h.os
  · rcases hw with ⟨rfl, _⟩ | ⟨y, rfl, _⟩ <;> exact h.tape
  · rcases hw with ⟨rfl, _⟩ | ⟨y, rfl, _⟩ <;> exact h.output
  · intro b hb hF
    rcases hw with ⟨rfl, _⟩ | ⟨y, rfl, _⟩
    · exact h.keep b hb hF
    · rw [Below.heap_alloc w y b (Nat.lt_of_lt_of_le hb h.size)]; exact h.keep b hb hF
  · intro id o' hg
    simp only [getT] at hg
    by_cases hid : nx = id
    · subst hid
      simp at hg; subst hg
      exact ⟨l, ls, ObjR.grow hC (fun b x _ hb => hb) ho⟩
    · rw [if_neg hid] at hg
      obtain ⟨m, hm, hr⟩ := h.obj id o' hg
      exact ⟨m, by rw [lk id (fun e => hid e.symm)]; exact hm, ObjR.grow hC (fun b x _ hb => hold b x hb) hr⟩
  · intro id id' o1 o2 l1 l2 b g1 g2 k1 k2 b1 b2
    simp only [getT] at g1 g2
    by_cases hid : nx = id <;> by_cases hid' : nx = id'
    · rw [← hid, ← hid']
    · subst hid
      rw [if_neg hid'] at g2
      rw [ls] at k1; cases k1
      rw [lk id' (fun e => hid' e.symm)] at k2
      have := oldb id' o2 l2 b g2 k2 b2
      have := hnew b b1
      omega
    · subst hid'
      rw [if_neg hid] at g1
      rw [ls] at k2; cases k2
      rw [lk id (fun e => hid e.symm)] at k1
      have := oldb id o1 l1 b g1 k1 b1
      have := hnew b b2
      omega
    · rw [if_neg hid] at g1
      rw [if_neg hid'] at g2
      rw [lk id (fun e => hid e.symm)] at k1
      rw [lk id' (fun e => hid' e.symm)] at k2
      exact h.sep id id' o1 o2 l1 l2 b g1 g2 k1 k2 b1 b2
  · intro id o1 l1 b g1 k1 b1
    simp only [getT] at g1
    by_cases hid : nx = id
    · subst hid
      rw [ls] at k1; cases k1
      have hb := hnew b b1
      subst hb
      refine ⟨?_, ?_, fun hlt => absurd h.size (by omega)⟩
      · cases hI : G.I w.heap.size with
        | none => rfl
        | some x => exact absurd (hpOf_lt (h.I_le _ _ hI)) (by omega)
      · cases hN : N w.heap.size with
        | none => rfl
        | some x => exact absurd (hpOf_lt (h.N_le _ _ hN)) (by omega)
    · rw [if_neg hid] at g1
      rw [lk id (fun e => hid e.symm)] at k1
      exact h.excl id o1 l1 b g1 k1 b1
  · intro id m hm
    simp only [withLoc] at hm
    by_cases hid : id = nx
    · omega
    · rw [if_neg hid] at hm
      have := h.names id m hm
      omega
  · intro id m hm
    obtain ⟨p1, p2⟩ := h.pin id m hm
    have p3 := h.names id m p2
    refine ⟨p1, ?_⟩
    simp only [withLoc]
    rw [if_neg (by omega)]
    exact p2

/-- The cells of one object are written. -/
theorem HR.put {G : Gh} {w : World} {N : Hp} {ι : Nat → Option Loc} {σ : Sg} {nx : Nat} (h : HR G w N ι σ nx) (id : Nat) (o o' : AO) (l : Loc) (b : Nat) (cs : Array Value)
    (hg : getT id σ = some o) (hl : ι id = some l) (hb : l.b = some b) (ho : ObjR (G.cx N ι) (w.setRow b cs) o' l) : HR G (w.setRow b cs) N ι (setT id o' σ) nx := by
  have hex := h.excl id o l b hg hl hb
  have other : ∀ b', b' ≠ b → (w.setRow b cs).heap[b']? = w.heap[b']? := fun b' hne => heap_setRow_other w b cs b' hne
  have inT : ∀ j x, getT j (setT id o' σ) = some x → j = id ∧ x = o' ∨ j ≠ id ∧ getT j σ = some x := by
    intro j x hj
    rw [getT_setT] at hj
    by_cases hji : j = id
    · rw [if_pos hji, hg] at hj; simp at hj; exact .inl ⟨hji, hj.symm⟩
    · rw [if_neg hji] at hj; exact .inr ⟨hji, hj⟩
  have inG : ∀ j x, getT j (setT id o' σ) = some x → ∃ y, getT j σ = some y := by
    intro j x hj
    rcases inT j x hj with ⟨rfl, _⟩ | ⟨_, hj⟩
    · exact ⟨o, hg⟩
    · exact ⟨x, hj⟩
  refine ⟨?_, ?_, h.N_new, h.os, h.tape, h.output, by simpa using h.size, ?_, ?_, ?_, ?_, h.names, h.pin⟩
  · intro b' x hx
    have : b' ≠ b := fun e => by rw [e, hex.1] at hx; cases hx
    show (w.setRow b cs).heap[b']? = some x
    rw [other b' this]; exact h.I_le b' x hx
  · intro b' x hx
    have : b' ≠ b := fun e => by rw [e, hex.2.1] at hx; cases hx
    show (w.setRow b cs).heap[b']? = some x
    rw [other b' this]; exact h.N_le b' x hx
  · intro b' hb' hF
    have : b' ≠ b := fun e => hF (by rw [e]; exact hex.2.2 (e ▸ hb'))
    rw [other b' this]; exact h.keep b' hb' hF
  · intro j x hj
    rcases inT j x hj with ⟨rfl, rfl⟩ | ⟨hne, hj⟩
    · exact ⟨l, hl, ho⟩
    · obtain ⟨m, hm, hr⟩ := h.obj j x hj
      refine ⟨m, hm, hr.grow (Cx.le.refl _) (fun b' y hb' hy => ?_)⟩
      have : b' ≠ b := fun e => hne (h.sep j id x o m l b hj hg hm hl (e ▸ hb') hb)
      rw [other b' this]; exact hy
  · intro j j' x x' m m' b' g1 g2 k1 k2 b1 b2
    obtain ⟨y, hy⟩ := inG j x g1
    obtain ⟨y', hy'⟩ := inG j' x' g2
    exact h.sep j j' y y' m m' b' hy hy' k1 k2 b1 b2
  · intro j x m b' g1 k1 b1
    obtain ⟨y, hy⟩ := inG j x g1
    exact h.excl j y m b' hy k1 b1

end Go.Apl

/- APL, part 4: reading, writing and making variables. Over any program. -/
namespace Go.Apl
open Go
open Go.RowKit (Below)

/-- A type of one cell. -/
def scal (P : Program) (T : TypeId) : Bool :=
  decide (T < P.types.size) && match P.underlying T with
  | some (.struct _) | some (.array _ _) | some .invalid | some (.tuple _) | none => false
  | some _ => true

def fits (P : Program) (T : TypeId) (d : D) : Bool :=
  match d with
  | .st T' _ => T' == T
  | .tup _ | .undef => false
  | _ => scal P T

structure LayOK (P : Program) : Prop where
  all : layoutAll P = true

theorem LayOK.at {P : Program} (h : LayOK P) {T : TypeId} (hT : T < P.types.size) : layoutAt P T = true := by
  have := h.all
  unfold layoutAll at this
  rw [List.all_eq_true] at this
  exact this T (by simpa using hT)

theorem scal_parts {P : Program} {T : TypeId} (h : scal P T = true) : parts P T = none := by
  unfold scal at h; unfold parts
  simp at h
  obtain ⟨h1, h2⟩ := h
  rw [if_pos h1]
  split at h2 <;> simp_all
  
theorem scal_cells {P : Program} (hl : LayOK P) {T : TypeId} (h : scal P T = true) : P.cellsOf T = 1 := by
  unfold scal at h
  simp at h
  obtain ⟨h1, h2⟩ := h
  have := hl.at h1
  unfold layoutAt at this
  split at h2 <;> simp_all

theorem parts_cells {P : Program} (hl : LayOK P) {T : TypeId} {ts : List TypeId} (h : parts P T = some ts) : P.cellsOf T = sizes P ts := by
  unfold parts at h
  split at h
  · rename_i hT
    have := hl.at hT
    unfold layoutAt at this
    split at h
    · rename_i fs hu; simp [hu] at this; cases h; exact this.1.1
    · rename_i n e hu; simp [hu] at this; cases h; simp [sizes, this.1]
    · cases h
  · cases h

theorem underlying_info {P : Program} {T : TypeId} {d : TypeDesc} (h : P.underlying T = some d) : ∃ i, P.info? T = some i := by
  unfold Program.underlying at h
  split at h
  · rename_i i hi; exact ⟨_, hi⟩
  · rename_i i _ hi; exact ⟨_, hi⟩
  · cases h

theorem cellsOf_info {P : Program} {T : TypeId} {i : TypeInfo} (h : P.info? T = some i) : P.cellsOf T = i.size := by
  simp [Program.cellsOf, h]

theorem run_sizeOf' {P : Program} {T : TypeId} {d : TypeDesc} (h : P.underlying T = some d) (w : World) : (sizeOf T).run P w = .ok (P.cellsOf T) w := by
  obtain ⟨i, hi⟩ := underlying_info h
  simp [sizeOf, typeInfo, hi, cellsOf_info hi]

theorem run_isAgg_parts {P : Program} {T : TypeId} {ts : List TypeId} (h : parts P T = some ts) (w : World) : (isAgg T).run P w = .ok true w := by
  unfold parts at h
  split at h
  · split at h
    · rename_i fs hu; simp [isAgg, run_underlying hu]
    · rename_i n e hu; simp [isAgg, run_underlying hu]
    · cases h
  · cases h

theorem run_isAgg_scal {P : Program} {T : TypeId} (h : scal P T = true) (w : World) : (isAgg T).run P w = .ok false w := by
  unfold scal at h
  simp at h
  obtain ⟨_, h⟩ := h
  split at h <;> first | (cases h; done) | skip
  rename_i d hu h1 h2 h3 h4
  simp only [isAgg, Sem.run_bind, run_underlying h4, Result.andThen_ok]
  cases d <;> simp_all

theorem scal_known {P : Program} {T : TypeId} (h : scal P T = true) : ∃ d, P.underlying T = some d := by
  unfold scal at h
  simp at h
  obtain ⟨_, h⟩ := h
  split at h <;> first | (cases h; done) | exact ⟨_, by assumption⟩
theorem parts_known {P : Program} {T : TypeId} {ts : List TypeId} (h : parts P T = some ts) : ∃ d, P.underlying T = some d := by
  unfold parts at h
  split at h
  · split at h <;> first | (cases h; done) | exact ⟨_, by assumption⟩
  · cases h

theorem FR.single {C : Cx} {d : D} {cs : List Value} (h : FR C d cs) (hs : ∀ T ds, d ≠ .st T ds) : ∃ v, cs = [v] := by
  cases h <;> first | exact ⟨_, rfl⟩ | exact absurd rfl (hs _ _)

theorem VR1.of_single {C : Cx} {d : D} {v : Value} (h : FR C d [v]) (hs : ∀ T ds, d ≠ .st T ds) : VR1 C d v := by
  cases d <;> first | exact h | exact absurd rfl (hs _ _) | trivial | cases h

/-- The length of a tree's cells, by its type. -/
theorem FR.len {C : Cx} (hl : LayOK C.P) {d : D} {cs : List Value} (h : FR C d cs) {T : TypeId} (hf : fits C.P T d = true) : cs.length = C.P.cellsOf T := by
  cases d <;> simp [fits] at hf
  case st T' ds => subst hf; cases h with | st ts hp hs => rw [(FRs.length hs).2, parts_cells hl hp]
  all_goals (obtain ⟨v, rfl⟩ := FR.single h (by simp); simp [scal_cells hl hf])

theorem fits_lab {P : Program} {T : TypeId} {d : D} (h : fits P T d = true) : lab P d T := by
  cases d <;> simp [fits] at h <;> first | exact h | exact scal_parts h
theorem fits_solid {P : Program} {T : TypeId} {d : D} (h : fits P T d = true) : d.solid = true := by
  cases d <;> simp_all [fits, D.solid]

/-! ### Where an object's part lies -/
theorem Loc.at_box {P : Program} {l : Loc} (h : l.arr = false) (p : List Nat) : l.at P p = (offAt P l.T p).map fun x => (l.base + x.1, x.2) := by
  cases p <;> simp [Loc.at, h, offAt]
theorem Loc.at_arr {P : Program} {l : Loc} (h : l.arr = true) (i : Nat) (p : List Nat) : l.at P (i :: p) = (offAt P l.T p).map fun x => (l.base + i * P.cellsOf l.T + x.1, x.2) := by
  simp [Loc.at, h]

theorem sizes_rep (P : Program) (n i : Nat) (E : TypeId) (h : i ≤ n) : sizes P ((List.replicate n E).take i) = i * P.cellsOf E := by
  rw [List.take_replicate, Nat.min_eq_left h]; simp [sizes]

theorem ObjR.part {C : Cx} {w : World} {o : AO} {l : Loc} (h : ObjR C w o l) {p : List Nat} {d : D} (hg : o.get p = some d) :
    ∃ b cs E off T', l.b = some b ∧ w.heap[b]? = some (.cells cs E (0, 0)) ∧ l.at C.P p = some (off, T') ∧ lab C.P d T' ∧ FR C d ((cs.toList.drop off).take (C.P.cellsOf T')) ∧ off + C.P.cellsOf T' ≤ cs.size := by
  cases o with
  | full => simp [AO.get] at hg
  | box T d0 =>
    obtain ⟨h1, h2, h3, h4, b, cs, E, h5, h6, h7, h8⟩ := h
    obtain ⟨o, T', g1, g2, g3, g4⟩ := FR.get p h7 h4 (by simpa using h8) hg
    refine ⟨b, cs, E, o, T', h5, h6, ?_, g2, g3, by simpa using g4⟩
    rw [Loc.at_box h1, h2, g1, h3]; simp
  | arr E ds =>
    obtain ⟨h1, h2, h3, h4⟩ := h
    cases p with
    | nil => simp [AO.get] at hg
    | cons i p =>
      simp only [AO.get] at hg
      cases hd : ds[i]? with
      | none => simp [hd] at hg
      | some d1 =>
        simp only [hd] at hg
        have hi : i < ds.length := (List.getElem?_eq_some_iff.1 hd).1
        cases hb : l.b with
        | none => rw [hb] at h4; rw [h4.1] at hi; simp at hi
        | some b =>
          rw [hb] at h4
          obtain ⟨cs, E', g1, g2, g3, g4⟩ := h4
          obtain ⟨d2, q1, q2, q3, q4⟩ := FRs.get g4 i E (by simp [hi])
          rw [hd] at q1; cases q1
          rw [sizes_rep _ _ _ _ (Nat.le_of_lt hi)] at q3 q4
          have hm : i * C.P.cellsOf E + C.P.cellsOf E ≤ ds.length * C.P.cellsOf E := by
            rw [← Nat.succ_mul]; exact Nat.mul_le_mul_right _ hi
          have hcap : ds.length * C.P.cellsOf E ≤ l.cap * C.P.cellsOf E := Nat.mul_le_mul_right _ g3
          have e1 : (((cs.toList.drop l.base).take (ds.length * C.P.cellsOf E)).drop (i * C.P.cellsOf E)).take (C.P.cellsOf E) = (cs.toList.drop (l.base + i * C.P.cellsOf E)).take (C.P.cellsOf E) := by
            rw [List.drop_take, List.drop_drop, List.take_take, Nat.min_eq_left (by omega)]
          rw [e1] at q3
          have hz : ((cs.toList.drop (l.base + i * C.P.cellsOf E)).take (C.P.cellsOf E)).length = C.P.cellsOf E := by simp; omega
          obtain ⟨o, T', r1, r2, r3, r4⟩ := FR.get p q3 q2 hz hg
          rw [hz] at r4
          refine ⟨b, cs, E', l.base + i * C.P.cellsOf E + o, T', rfl, g1, ?_, r2, ?_, by omega⟩
          · rw [Loc.at_arr h1, h2, r1]; simp
          · have e2 : (((cs.toList.drop (l.base + i * C.P.cellsOf E)).take (C.P.cellsOf E)).drop o).take (C.P.cellsOf T') = (cs.toList.drop (l.base + i * C.P.cellsOf E + o)).take (C.P.cellsOf T') := by
              rw [List.drop_take, List.drop_drop, List.take_take, Nat.min_eq_left (by omega)]
            rwa [e2] at r3

theorem splice_out (cs xs : List Value) (A B o : Nat) (h1 : o + xs.length ≤ B) (h2 : A + B ≤ cs.length) :
    ((cs.take (A + o) ++ xs ++ cs.drop (A + o + xs.length)).drop A).take B = ((cs.drop A).take B).take o ++ xs ++ ((cs.drop A).take B).drop (o + xs.length) := by
  have := splice_in cs xs A B o h1 h2
  have hlen : (((cs.drop A).take B).take o ++ xs ++ ((cs.drop A).take B).drop (o + xs.length)).length = B := by simp; omega
  rw [← this, List.append_assoc, List.drop_append_of_le_length (by simp; omega), List.drop_of_length_le (by simp; omega), List.nil_append, List.take_append_of_le_length (by omega), List.take_of_length_le (by omega)]

theorem D.get_of_set : ∀ (p : List Nat) (d x d' : D), D.set p d x = some d' → ∃ y, D.get p d = some y := by
  intro p
  induction p with
  | nil => intro d x d' _; exact ⟨d, rfl⟩
  | cons j q ih =>
    intro d x d' hh
    cases d <;> simp [D.set] at hh
    rename_i U es
    simp only [D.get]
    cases he : es[j]? with
    | none => simp [he] at hh
    | some e =>
      simp only [he] at hh ⊢
      cases hq : D.set q e x with
      | none => simp [hq] at hh
      | some e' => exact ih e x e' hq

theorem ObjR.write {C : Cx} {w : World} {o o' : AO} {l : Loc} (h : ObjR C w o l) {p : List Nat} {x : D} (hs : o.set p x = some o') {b off : Nat} {T' : TypeId} {cs : Array Value} {E : TypeId}
    (hb : l.b = some b) (hw : w.heap[b]? = some (.cells cs E (0, 0))) (ha : l.at C.P p = some (off, T')) {xs : List Value} (hx : FR C x xs) (hz : xs.length = C.P.cellsOf T') (hl : lab C.P x T') :
    ObjR C (w.setRow b (cs.toList.take off ++ xs ++ cs.toList.drop (off + xs.length)).toArray) o' l := by
  cases o with
  | full => simp [AO.set] at hs
  | box T d =>
    obtain ⟨h1, h2, h3, h4, b', cs', E', h5, h6, h7, h8⟩ := h
    rw [hb] at h5; cases h5
    rw [hw] at h6; cases h6
    rw [Loc.at_box h1, h2, h3] at ha
    simp only [AO.set] at hs
    cases hd : D.set p d x with
    | none => simp [hd] at hs
    | some d' =>
      simp [hd] at hs; subst hs
      cases ho : offAt C.P T p with
      | none => simp [ho] at ha
      | some y =>
        obtain ⟨o1, T1⟩ := y
        simp [ho] at ha
        obtain ⟨rfl, rfl⟩ := ha
        obtain ⟨q, hq⟩ := D.get_of_set p d x d' hd
        obtain ⟨o2, T2, r1, r2, r3, r4⟩ := FR.get p h7 h4 (by simpa using h8) hq
        rw [ho] at r1; cases r1
        have hlen : cs.toList.length = C.P.cellsOf T := by simpa using h8
        obtain ⟨g1, g2⟩ := FR.set p h7 h4 hlen ho hx hz hl hd
        refine ⟨h1, h2, h3, g2, b, _, E, hb, setRow_heap w b cs _ E _ hw, by simpa using g1, ?_⟩
        simp at r4 ⊢; omega
  | arr E0 ds =>
    obtain ⟨h1, h2, h3, h4⟩ := h
    cases p with
    | nil => simp [AO.set] at hs
    | cons i p =>
      simp only [AO.set] at hs
      cases hd : ds[i]? with
      | none => simp [hd] at hs
      | some d1 =>
        simp only [hd] at hs
        cases hd' : D.set p d1 x with
        | none => simp [hd'] at hs
        | some d1' =>
          simp [hd'] at hs; subst hs
          rw [hb] at h4
          obtain ⟨cs', E', g1, g2, g3, g4⟩ := h4
          rw [hw] at g1; cases g1
          have hi : i < ds.length := (List.getElem?_eq_some_iff.1 hd).1
          obtain ⟨d2, q1, q2, q3, q4⟩ := FRs.get g4 i E0 (by simp [hi])
          rw [hd] at q1; cases q1
          rw [sizes_rep _ _ _ _ (Nat.le_of_lt hi)] at q3 q4
          have hm : i * C.P.cellsOf E0 + C.P.cellsOf E0 ≤ ds.length * C.P.cellsOf E0 := by
            rw [← Nat.succ_mul]; exact Nat.mul_le_mul_right _ hi
          have hcap : ds.length * C.P.cellsOf E0 ≤ l.cap * C.P.cellsOf E0 := Nat.mul_le_mul_right _ g3
          rw [Loc.at_arr h1, h2] at ha
          cases ho : offAt C.P E0 p with
          | none => simp [ho] at ha
          | some y =>
            obtain ⟨o1, T1⟩ := y
            simp [ho] at ha
            obtain ⟨rfl, rfl⟩ := ha
            generalize hseg : (cs.toList.drop l.base).take (ds.length * C.P.cellsOf E0) = seg at *
            have hsl : seg.length = ds.length * C.P.cellsOf E0 := by rw [← hseg]; simp; omega
            have hz3 : ((seg.drop (i * C.P.cellsOf E0)).take (C.P.cellsOf E0)).length = C.P.cellsOf E0 := by simp; omega
            obtain ⟨y1, hy1⟩ := D.get_of_set p d1 x d1' hd'
            obtain ⟨o2, T2, r1, r2, r3, r4⟩ := FR.get p q3 q2 hz3 hy1
            rw [ho] at r1; cases r1
            rw [hz3] at r4
            obtain ⟨s1, s2⟩ := FR.set p q3 q2 hz3 ho hx hz hl hd'
            have hin : ((seg.drop (i * C.P.cellsOf E0)).take (C.P.cellsOf E0)).take o1 ++ xs ++ ((seg.drop (i * C.P.cellsOf E0)).take (C.P.cellsOf E0)).drop (o1 + xs.length) =
                (((seg.take (i * C.P.cellsOf E0 + o1) ++ xs ++ seg.drop (i * C.P.cellsOf E0 + o1 + xs.length)).drop (i * C.P.cellsOf E0)).take (C.P.cellsOf E0)) :=
              (splice_out seg xs _ _ o1 (by omega) (by omega)).symm
            have hlen1 : (((seg.drop (i * C.P.cellsOf E0)).take (C.P.cellsOf E0)).take o1 ++ xs ++ ((seg.drop (i * C.P.cellsOf E0)).take (C.P.cellsOf E0)).drop (o1 + xs.length)).length = C.P.cellsOf E0 := by
              simp; omega
            have t1 := FRs.set g4 i E0 (by simp [hi]) d1' _ s1 hlen1 s2
            rw [sizes_rep _ _ _ _ (Nat.le_of_lt hi), hlen1, splice_in seg xs _ _ o1 (by omega) (by omega)] at t1
            refine ⟨h1, h2, h3, ?_⟩
            rw [hb]
            refine ⟨_, E, setRow_heap w b cs _ E _ hw, ?_, by simpa using g3, ?_⟩
            · simp; omega
            · have e3 := splice_out cs.toList xs l.base (ds.length * C.P.cellsOf E0) (i * C.P.cellsOf E0 + o1) (by omega) (by simp; omega)
              rw [hseg] at e3
              simp only [List.length_set]
              rw [show l.base + i * C.P.cellsOf E0 + o1 = l.base + (i * C.P.cellsOf E0 + o1) by omega]
              rw [e3]
              exact t1

end Go.Apl

/- APL, part 5: what single operations make of trees: variables and addresses. Over any program. -/
namespace Go.Apl
open Go
open Go.RowKit (Below)

theorem HR.hp_le {G : Gh} {w : World} {N : Hp} {ι : Nat → Option Loc} {σ : Sg} {nx : Nat} (h : HR G w N ι σ nx) (k : Bool) : Hp.le ((G.cx N ι).hp k) (hpOf w) := by
  intro b o hb
  simp only [Cx.hp] at hb
  cases k
  · exact h.N_le b o hb
  · simp only [if_true] at hb
    cases hN : N b with
    | none => rw [hN] at hb; exact h.I_le b o (by simpa using hb)
    | some x => rw [hN] at hb; simp at hb; subst hb; exact h.N_le b x hN

theorem Sub.seg (ccs : Array Value) (o n : Nat) : Sub ((ccs.toList.drop o).take n) ccs o := by
  intro j v hj
  rw [List.getElem?_take] at hj
  split at hj
  · rw [List.getElem?_drop] at hj; simpa using hj
  · cases hj

theorem addr_add (b o j : Nat) : (⟨b, o, none⟩ : Addr).add j = ⟨b, o + j, none⟩ := by
  unfold Addr.add; split <;> simp_all

theorem run_loadCells_seg {P : Program} (w : World) (b o : Nat) (ccs : Array Value) (E : TypeId) (fr : Nat × Nat) (hb : w.heap[b]? = some (.cells ccs E fr)) (cs : List Value)
    (h : Sub cs ccs o) : (loadCells ⟨b, o, none⟩ cs.length).run P w = .ok cs.toArray w := by
  refine run_loadCells_list w _ cs fun j v hj => ?_
  rw [addr_add]
  simp [World.cell?, hb, h j v hj]

/-- A variable is read, its cells being known. -/
theorem run_loadVar_seg {C : Cx} (hlay : LayOK C.P) (w : World) (b o : Nat) (ccs : Array Value) (E : TypeId) (fr : Nat × Nat) (hb : w.heap[b]? = some (.cells ccs E fr)) (cs : List Value)
    (h : Sub cs ccs o) {T : TypeId} {d : D} (hd : FR C d cs) (hf : fits C.P T d = true) : ∃ v, (loadVar T ⟨b, o, none⟩).run C.P w = .ok v w ∧ VR1 C d v := by
  have hlen := FR.len hlay hd hf
  cases hp : parts C.P T with
  | some ts =>
    obtain ⟨u, hu⟩ := parts_known hp
    have hl := run_loadCells_seg (P := C.P) w b o ccs E fr hb cs h
    refine ⟨.agg cs.toArray, ?_, ?_⟩
    · simp only [loadVar, Sem.run_bind, run_isAgg_parts hp, Result.andThen_ok, if_true, run_sizeOf' hu, ← hlen, hl]
      rfl
    · cases d <;> simp [fits] at hf <;> first | (simp [scal_parts hf] at hp; done) | skip
      exact ⟨cs.toArray, rfl, by simpa using hd⟩
  | none =>
    have hsc : scal C.P T = true ∧ ∀ U ds, d ≠ .st U ds := by
      cases d <;> simp [fits] at hf <;> first | exact ⟨hf, by simp⟩ | skip
      subst hf
      cases hd with | st ts hp' _ => rw [hp'] at hp; cases hp
    obtain ⟨v, rfl⟩ := FR.single hd hsc.2
    refine ⟨v, ?_, VR1.of_single hd hsc.2⟩
    have hc : w.cell? ⟨b, o, none⟩ = some v := by
      have := h 0 v rfl
      simpa [World.cell?, hb] using this
    simp only [loadVar, Sem.run_bind, run_isAgg_scal hsc.1, Result.andThen_ok]
    simp [hc]

def aload (P : Program) (σ : Sg) (T : TypeId) : D → Option D
  | .ptr id p => match getT id σ with
    | some o => match o.get p with
      | some d => if fits P T d then some d else none
      | none => none
    | none => none
  | .fptr T' d => if T' = T then (if fits P T d then some d else none) else none
  | _ => none

section
variable {G : Gh} {w : World} {N : Hp} {ι : Nat → Option Loc} {σ : Sg} {nx : Nat}

theorem ptr_addr {C : Cx} {id : Nat} {p : List Nat} {v : Value} (h : VR1 C (.ptr id p) v) : ∃ l b o T, v = .pointer (some ⟨b, o, none⟩) ∧ C.ι id = some l ∧ l.b = some b ∧ l.at C.P p = some (o, T) := by
  cases h with | ptr l b o T h1 h2 h3 => exact ⟨l, b, o, T, rfl, h1, h2, h3⟩

theorem load_ok (hlay : LayOK G.P) (h : HR G w N ι σ nx) {T : TypeId} {da r : D} {va : Value} (hv : VR1 (G.cx N ι) da va) (hr : aload G.P σ T da = some r) :
    ∃ v, (Instr.loadAt T va).run G.P w = .ok v w ∧ VR1 (G.cx N ι) r v := by
  cases da <;> simp [aload] at hr
  case ptr id p =>
    obtain ⟨l, b, o, T1, rfl, h1, h2, h3⟩ := ptr_addr hv
    cases ho : getT id σ with
    | none => simp [ho] at hr
    | some ob =>
      simp only [ho] at hr
      cases hg : ob.get p with
      | none => simp [hg] at hr
      | some d =>
        simp [hg] at hr
        obtain ⟨hf, rfl⟩ := hr
        obtain ⟨l', hl', hob⟩ := h.obj id ob ho
        have : l' = l := by have := hl'.symm.trans h1; exact Option.some.inj this
        subst this
        obtain ⟨b', cs, E, off, T', q1, q2, q3, q4, q5, q6⟩ := ObjR.part hob hg
        rw [h2] at q1; cases q1
        rw [h3] at q3; cases q3
        obtain ⟨v, hv1, hv2⟩ := run_loadVar_seg (C := G.cx N ι) hlay w b o cs E (0, 0) q2 _ (Sub.seg _ _ _) q5 hf
        exact ⟨v, by simp only [Instr.loadAt, Instr.sureAddr, Sem.run_bind, Sem.run_pure, Result.andThen_ok]; exact hv1, hv2⟩
  case fptr T' d =>
    obtain ⟨rfl, hf, rfl⟩ := hr
    cases hv with
    | fptr b o ccs E fr cs hb hd hl hz hc =>
      have hb' := h.hp_le true b _ hb
      obtain ⟨v, hv1, hv2⟩ := run_loadVar_seg (C := G.cx N ι) hlay w b o ccs E fr hb' cs hc (hd.mono (Cx.shut_le _)) hf
      exact ⟨v, by simp only [Instr.loadAt, Instr.sureAddr, Sem.run_bind, Sem.run_pure, Result.andThen_ok]; exact hv1, hv2⟩

/-! ### Writing -/
def astore (P : Program) (σ : Sg) (T : TypeId) (a x : D) : Option Sg :=
  match a with
  | .ptr id p => match getT id σ with
    | some o => match o.get p with
      | some old => if fits P T old && fits P T x then (match o.set p x with
          | some o' => some (setT id o' σ)
          | none => none) else none
      | none => none
    | none => none
  | _ => none

theorem store_ok (hlay : LayOK G.P) (h : HR G w N ι σ nx) {T : TypeId} {da dx : D} {va vx : Value} {σ' : Sg} (hv : VR1 (G.cx N ι) da va) (hx : VR1 (G.cx N ι) dx vx) (hr : astore G.P σ T da dx = some σ') :
    ∃ w', (Instr.storeAt T va vx).run G.P w = .ok () w' ∧ HR G w' N ι σ' nx := by
  cases da <;> simp [astore] at hr
  rename_i id p
  obtain ⟨l, b, o, T1, rfl, h1, h2, h3⟩ := ptr_addr hv
  cases ho : getT id σ with
  | none => simp [ho] at hr
  | some ob =>
    simp only [ho] at hr
    cases hg : ob.get p with
    | none => simp [hg] at hr
    | some old =>
      simp only [hg] at hr
      cases hs : ob.set p dx with
      | none => simp [hs] at hr
      | some ob' =>
        simp [hs] at hr
        obtain ⟨⟨hf1, hf2⟩, rfl⟩ := hr
        obtain ⟨l', hl', hob⟩ := h.obj id ob ho
        have : l' = l := by have := hl'.symm.trans h1; exact Option.some.inj this
        subst this
        obtain ⟨b', cs, E, off, T', q1, q2, q3, q4, q5, q6⟩ := ObjR.part hob hg
        rw [h2] at q1; cases q1
        rw [h3] at q3; cases q3
        have hxs := VR1.cells hx (fits_solid hf2)
        have hxl : vx.cells.toList.length = G.P.cellsOf T := FR.len (C := G.cx N ι) hlay hxs hf2
        have hold := FR.len (C := G.cx N ι) hlay q5 hf1
        have hT' : G.P.cellsOf T = G.P.cellsOf T1 := by
          have q6' : o + G.P.cellsOf T1 ≤ cs.size := q6
          have hold' : (List.take (G.P.cellsOf T1) (List.drop o cs.toList)).length = G.P.cellsOf T := hold
          rw [← hold']
          simp only [List.length_take, List.length_drop, Array.length_toList]
          omega
        have hlabx : lab G.P dx T1 := by
          cases dx with
          | st U ds =>
            simp [fits] at hf2; subst hf2
            cases old with
            | st U' ds' => simp [fits] at hf1; subst hf1; exact q4
            | _ =>
              simp [fits] at hf1
              all_goals (cases hxs with | st ts hp _ => have := scal_parts hf1; rw [show (G.cx N ι).P = G.P from rfl] at hp; rw [hp] at this; cases this)
          | _ =>
            simp [fits] at hf2
            all_goals (cases old with
              | st U' ds' => simp [fits] at hf1; subst hf1; cases q5 with | st ts hp _ => have := scal_parts hf2; rw [show (G.cx N ι).P = G.P from rfl] at hp; rw [hp] at this; cases this
              | _ => exact q4)
        obtain ⟨u, hu⟩ : ∃ u, G.P.underlying T = some u := by
          cases dx with
          | st U ds => simp [fits] at hf2; subst hf2; cases hxs with | st ts hp _ => exact parts_known hp
          | _ => simp [fits] at hf2; all_goals exact scal_known hf2
        have hrun := run_storeCells_at G.P b o E vx.cells.toList 0 cs w q2 (by
            have q6' : o + G.P.cellsOf T1 ≤ cs.size := q6
            omega) (FR.one hxs)
        refine ⟨_, ?_, HR.put h id ob ob' l' b _ ho hl' h2 (ObjR.write hob hs h2 q2 h3 hxs (hxl.trans hT') hlabx)⟩
        simp only [Instr.storeAt, Instr.sureAddr, storeVar, Sem.run_bind, Sem.run_pure, Result.andThen_ok, run_sizeOf' hu]
        rw [if_neg (by simpa using hxl)]
        simpa using hrun

end
end Go.Apl
