/- Part of a proof: the texts A24, A25, A26, A27, A28, A29, A30 of a library of data trees, abstract stores and contracts, joined. -/
import Derived.Test.YtpdenmclcnkaaaaGreatDoorL5
import Derived.Lib.Overlaps
import Derived.Lib.Bytealg
/- APL, part 24: calls of functions that write. Over any program. -/
namespace Go.Apl
open Go
open Go.RowKit (Below)
set_option linter.unusedSimpArgs false
set_option linter.unusedVariables false

mutual
/-- A tree in a place where nothing is old: all lists are young. -/
def D.young : D → D
  | .st T ds => .st T (youngs ds)
  | .lst _ x E ds => .lst false x E (youngs ds)
  | .fptr T d => .fptr T d.young
  | .fn f c => .fn f (youngs c)
  | .tup ds => .tup (youngs ds)
  | .v x => .v x
  | .ptr i p => .ptr i p
  | .own i a b => .own i a b
  | .undef => .undef
def youngs : List D → List D
  | [] => []
  | d :: ds => d.young :: youngs ds
end
def D.yg (y : Bool) (d : D) : D := if y then d.young else d
@[simp] theorem D.yg_true (d : D) : d.yg true = d.young := rfl
@[simp] theorem D.yg_false (d : D) : d.yg false = d := rfl
theorem youngs_length : ∀ {ds : List D}, (youngs ds).length = ds.length
  | [] => rfl
  | d :: ds => by simp [youngs, youngs_length (ds := ds)]
theorem youngs_map {α : Type} (f : α → D) : ∀ (l : List α), youngs (l.map f) = l.map (fun x => (f x).young)
  | [] => rfl
  | x :: l => by simp [youngs, youngs_map f l]
theorem D.young_lab {P : Program} {d : D} {t : TypeId} (h : lab P d t) : lab P d.young t := by cases d <;> exact h

mutual
theorem FR.young {P : Program} {I N : Hp} : ∀ {ι : Nat → Option Loc} {d : D} {cs : List Value}, FR ⟨P, Hp.none, N, ι⟩ d cs → FR ⟨P, I, N, ι⟩ d.young cs
  | _, _, _, .v hx => .v hx
  | _, _, _, .st ts hp hs => .st ts hp (FRs.young hs)
  | _, _, _, .ptr l b o T hi hb ho => .ptr l b o T hi hb ho
  | ι, _, _, .fptr b o ccs E fr cs hb hd hl hz hc => .fptr b o ccs E fr cs (by
      simp only [Cx.hp, Hp.or, Hp.none] at hb ⊢; cases hN : N b <;> simp [hN] at hb ⊢; exact hb) (FR.young (ι := fun _ => none) hd) (D.young_lab hl) hz hc
  | _, _, _, .lst0 A cap hx => .lst0 A cap hx
  | ι, _, _, .lst (k := k) (ds := ds) b o cap ccs E' fr cs hne hb hs hc hcap hx => by
    have hl := youngs_length (ds := ds)
    have := FRs.young (P := P) (I := I) (N := N) (ι := fun _ => none) hs
    have hb' : N b = some (.cells ccs E' fr) := by
      cases k <;> simp only [Cx.hp, Hp.or, Hp.none] at hb
      · simpa using hb
      · cases hN : N b <;> simp [hN] at hb; rw [hb]
    simp only [D.young]
    rw [← hl]
    refine .lst b o cap ccs E' fr cs (fun e => hne (List.eq_nil_of_length_eq_zero (by rw [← hl, e]; rfl))) (by simpa [Cx.hp] using hb') (by rw [hl]; exact this) hc (by rw [hl]; exact hcap) (fun h => by rw [hl]; exact hx h)
  | _, _, _, .own l A cap hi ha hl hcap hA => .own l A cap hi ha hl hcap hA
  | _, _, _, .fn vs hs => .fn vs (FR1.young hs)
  | _, _, _, .undef x hx => .undef x hx
theorem FRs.young {P : Program} {I N : Hp} : ∀ {ι : Nat → Option Loc} {ds : List D} {ts : List TypeId} {cs : List Value}, FRs ⟨P, Hp.none, N, ι⟩ ds ts cs → FRs ⟨P, I, N, ι⟩ (youngs ds) ts cs
  | _, _, _, _, .nil => .nil
  | _, _, _, _, .cons hd hz hl hs => .cons (FR.young hd) hz (D.young_lab hl) (FRs.young hs)
theorem FR1.young {P : Program} {I N : Hp} : ∀ {ι : Nat → Option Loc} {ds : List D} {vs : List Value}, FR1 ⟨P, Hp.none, N, ι⟩ ds vs → FR1 ⟨P, I, N, ι⟩ (youngs ds) vs
  | _, _, _, .nil => .nil
  | _, _, _, .cons hd hs => .cons (FR.young hd) (FR1.young hs)
end
theorem VR1.young {P : Program} {I N : Hp} {ι : Nat → Option Loc} {d : D} {v : Value} (h : VR1 ⟨P, Hp.none, N, ι⟩ d v) : VR1 ⟨P, I, N, ι⟩ d.young v := by
  cases d <;> simp only [VR1, D.young] at h ⊢ <;> first | exact h | exact FR.young h | (obtain ⟨cs, e, hh⟩ := h; exact ⟨cs, e, FR.young hh⟩)
theorem VRs.young {P : Program} {I N : Hp} {ι : Nat → Option Loc} {ds : List D} {vs : List Value} (h : VRs ⟨P, Hp.none, N, ι⟩ ds vs) : VRs ⟨P, I, N, ι⟩ (youngs ds) vs := by
  induction h with
  | nil => exact .nil
  | cons hd _ ih => exact .cons hd.young ih
theorem VR.young {P : Program} {I N : Hp} {ι : Nat → Option Loc} {d : D} {v : Value} (h : VR ⟨P, Hp.none, N, ι⟩ d v) : VR ⟨P, I, N, ι⟩ d.young v := by
  cases d <;> simp only [VR, D.young] at h ⊢ <;> first | exact VR1.young h | (obtain ⟨vs, e, hf⟩ := h; exact ⟨vs, e, hf.young⟩)
def AO.young : AO → AO
  | .box T d => .box T d.young
  | .arr E ds => .arr E (youngs ds)
  | .full E ds c => .full E (youngs ds) c
def AO.yg (y : Bool) (o : AO) : AO := if y then o.young else o
@[simp] theorem AO.yg_true (o : AO) : o.yg true = o.young := rfl
@[simp] theorem AO.yg_false (o : AO) : o.yg false = o := rfl
theorem ArrR.young {P : Program} {I N : Hp} {ι : Nat → Option Loc} {w : World} {E : TypeId} {ds : List D} {l : Loc} (h : ArrR ⟨P, Hp.none, N, ι⟩ w E ds l) : ArrR ⟨P, I, N, ι⟩ w E (youngs ds) l := by
  obtain ⟨h1, h2, h3, h4⟩ := h
  refine ⟨h1, h2, h3, ?_⟩
  cases hlb : l.b with
  | none => rw [hlb] at h4; obtain ⟨h5, h6⟩ := h4; subst h5; exact ⟨rfl, h6⟩
  | some b =>
    rw [hlb] at h4
    obtain ⟨cs, E', g1, g2, g3, g4⟩ := h4
    refine ⟨cs, E', g1, g2, by rw [youngs_length]; exact g3, ?_⟩
    rw [youngs_length]
    exact FRs.young g4
theorem ObjR.young {P : Program} {I N : Hp} {ι : Nat → Option Loc} {w : World} {o : AO} {l : Loc} (h : ObjR ⟨P, Hp.none, N, ι⟩ w o l) : ObjR ⟨P, I, N, ι⟩ w o.young l := by
  cases o with
  | box T d =>
    obtain ⟨h1, h2, h3, h4, b, cs, E, h5, h6, h7, h8⟩ := h
    exact ⟨h1, h2, h3, D.young_lab h4, b, cs, E, h5, h6, FR.young h7, h8⟩
  | arr E ds => exact ArrR.young h
  | full E ds c => exact ⟨ArrR.young h.1, h.2⟩

mutual
/-- What is handed to a callee, in its names; y: nothing old is among it. -/
def cn (y : Bool) (fi : List (Nat × Nat)) : D → Option D
  | .v x => some (.v x)
  | .st T ds => match cns y fi ds with
    | some ds' => some (.st T ds')
    | none => none
  | .ptr id p => match getT id fi with
    | some c => some (.ptr c p)
    | none => none
  | .own id a b => match getT id fi with
    | some c => some (.own c a b)
    | none => none
  | .lst k x E ds => if y && (k || !freshs ds) then none else some (.lst true false E (olds ds))
  | .fptr T d => if y then none else some (.fptr T d.old)
  | .fn f c => match cns y fi c with
    | some c' => some (.fn f c')
    | none => none
  | .undef => some .undef
  | .tup _ => none
def cns (y : Bool) (fi : List (Nat × Nat)) : List D → Option (List D)
  | [] => some []
  | d :: ds => match cn y fi d, cns y fi ds with
    | some d', some ds' => some (d' :: ds')
    | _, _ => none
end

section
variable {C : Cx} {y : Bool} {fi : List (Nat × Nat)} {ι1 : Nat → Option Loc}

theorem cn_lab {P : Program} {d d' : D} {t : TypeId} (h : cn y fi d = some d') (hl : lab P d t) : lab P d' t := by
  cases d <;> simp only [cn] at h
  case v => cases h; exact hl
  case st => split at h <;> cases h; exact hl
  case tup => cases h
  case ptr => split at h <;> cases h; exact hl
  case fptr => split at h <;> cases h; exact hl
  case lst => split at h <;> cases h; exact hl
  case own => split at h <;> cases h; exact hl
  case fn => split at h <;> cases h; exact hl
  case undef => cases h; exact hl

theorem shut_le' (P : Program) (H : Hp) (ι : Nat → Option Loc) : Cx.le ⟨P, H, Hp.none, fun _ => none⟩ ⟨P, H, Hp.none, ι⟩ := ⟨rfl, fun _ => Hp.le_refl _, fun _ _ h => by cases h⟩

mutual
theorem FR.cn (hι : ∀ a c, getT a fi = some c → ∀ l, C.ι a = some l → ι1 c = some l) : ∀ {d d' : D} {cs : List Value}, FR C d cs → Apl.cn y fi d = some d' → FR ⟨C.P, C.hp (!y), Hp.none, ι1⟩ d' cs
  | .v x, _, _, .v hx, h => by simp only [Apl.cn] at h; cases h; exact .v hx
  | .st T ds, _, _, .st ts hp hs, h => by
    simp only [Apl.cn] at h
    split at h
    · rename_i ds' h1; cases h; exact .st ts hp (FRs.cn hι hs h1)
    · cases h
  | .ptr id p, _, _, .ptr l b o T h1 h2 h3, h => by
    simp only [Apl.cn] at h
    split at h
    · rename_i c hc; cases h; exact .ptr l b o T (hι _ _ hc _ h1) h2 h3
    · cases h
  | .fptr T d, _, _, .fptr b o ccs E fr cs hb hd hl hz hc, h => by
    simp only [Apl.cn] at h
    split at h
    · cases h
    · rename_i hy
      cases h
      have hy' : y = false := by simpa using hy
      subst hy'
      exact FR.mono (FR.olden (C := C.shut) (d := .fptr T d) (.fptr (C := C.shut) b o ccs E fr cs hb hd hl hz hc) (H := C.hp true) rfl (Hp.le_refl _)) (shut_le' _ _ _)
  | .lst k x E ds, _, cs, hf, h => by
    simp only [Apl.cn] at h
    split at h
    · cases h
    · rename_i hy
      cases h
      have hf' : FR C.shut (.lst k x E ds) cs := by
        cases hf with
        | lst0 A cap hx => exact .lst0 (C := C.shut) A cap hx
        | lst b o cap ccs E' fr cs hne hb hs hc hcap hx => exact .lst (C := C.shut) b o cap ccs E' fr cs hne hb hs hc hcap hx
      cases y with
      | false => exact FR.mono (FR.olden hf' (H := C.hp true) rfl (Hp.le_refl _)) (shut_le' _ _ _)
      | true =>
        simp at hy
        obtain ⟨hk, hds⟩ := hy
        subst hk
        have hb := FR.bring (C' := ⟨C.P, Hp.none, C.N, fun _ => none⟩) hf' (by simp [D.fresh, hds]) rfl (Hp.le_refl _)
        exact FR.mono (FR.olden hb (H := C.hp false) rfl (fun b o ho => by simp only [Cx.hp, Hp.or, Hp.none] at ho ⊢; cases hN : C.N b <;> simp [hN] at ho ⊢; exact ho)) (shut_le' _ _ _)
  | .own id a b, _, _, .own l A cap h1 ha hl hcap hA, h => by
    simp only [Apl.cn] at h
    split at h
    · rename_i c hc; cases h; exact .own l A cap (hι _ _ hc _ h1) ha hl hcap hA
    · cases h
  | .fn g c, _, _, .fn vs hs, h => by
    simp only [Apl.cn] at h
    split at h
    · rename_i c' h1; cases h; exact .fn vs (FR1.cn hι hs h1)
    · cases h
  | .undef, _, _, .undef x hx, h => by simp only [Apl.cn] at h; cases h; exact .undef x hx
theorem FRs.cn (hι : ∀ a c, getT a fi = some c → ∀ l, C.ι a = some l → ι1 c = some l) : ∀ {ds ds' : List D} {ts : List TypeId} {cs : List Value}, FRs C ds ts cs → cns y fi ds = some ds' → FRs ⟨C.P, C.hp (!y), Hp.none, ι1⟩ ds' ts cs
  | [], _, _, _, .nil, h => by simp only [cns] at h; cases h; exact .nil
  | d :: ds, _, _, _, .cons hd hz hl hs, h => by
    simp only [cns] at h
    split at h
    · rename_i d1 ds1 h1 h2
      cases h
      exact .cons (FR.cn hι hd h1) hz (cn_lab h1 hl) (FRs.cn hι hs h2)
    · cases h
theorem FR1.cn (hι : ∀ a c, getT a fi = some c → ∀ l, C.ι a = some l → ι1 c = some l) : ∀ {ds ds' : List D} {vs : List Value}, FR1 C ds vs → cns y fi ds = some ds' → FR1 ⟨C.P, C.hp (!y), Hp.none, ι1⟩ ds' vs
  | [], _, _, .nil, h => by simp only [cns] at h; cases h; exact .nil
  | d :: ds, _, _, .cons hd hs, h => by
    simp only [cns] at h
    split at h
    · rename_i d1 ds1 h1 h2
      cases h
      exact .cons (FR.cn hι hd h1) (FR1.cn hι hs h2)
    · cases h
end

theorem VR1.cn (hι : ∀ a c, getT a fi = some c → ∀ l, C.ι a = some l → ι1 c = some l) {d d' : D} {v : Value} (h : VR1 C d v) (hc : Apl.cn y fi d = some d') : VR1 ⟨C.P, C.hp (!y), Hp.none, ι1⟩ d' v := by
  refine h.via (fun cs hf => FR.cn hι hf hc) ?_
  cases d <;> simp only [Apl.cn] at hc
  case v => cases hc; exact .inr (.inr ⟨rfl, by simp, by simp, rfl⟩)
  case st => split at hc <;> cases hc; exact .inl ⟨_, _, _, rfl, rfl⟩
  case tup => cases hc
  case ptr => split at hc <;> cases hc; exact .inr (.inr ⟨rfl, by simp, by simp, rfl⟩)
  case fptr => split at hc <;> cases hc; exact .inr (.inr ⟨rfl, by simp, by simp, rfl⟩)
  case lst => split at hc <;> cases hc; exact .inr (.inr ⟨rfl, by simp, by simp, rfl⟩)
  case own => split at hc <;> cases hc; exact .inr (.inr ⟨rfl, by simp, by simp, rfl⟩)
  case fn => split at hc <;> cases hc; exact .inr (.inr ⟨rfl, by simp, by simp, rfl⟩)
  case undef => cases hc; exact .inr (.inl rfl)

theorem VRs.cn (hι : ∀ a c, getT a fi = some c → ∀ l, C.ι a = some l → ι1 c = some l) : ∀ {ds ds' : List D} {vs : List Value}, VRs C ds vs → cns y fi ds = some ds' → VRs ⟨C.P, C.hp (!y), Hp.none, ι1⟩ ds' vs
  | [], _, _, .nil, h => by simp only [cns] at h; cases h; exact .nil
  | d :: ds, _, _, .cons hd hs, h => by
    simp only [cns] at h
    split at h
    · rename_i d1 ds1 h1 h2
      cases h
      exact .cons (hd.cn hι h1) (VRs.cn hι hs h2)
    · cases h

def cnO (y : Bool) (fi : List (Nat × Nat)) : AO → Option AO
  | .box T d => match cn y fi d with
    | some d' => some (.box T d')
    | none => none
  | .arr E ds => match cns y fi ds with
    | some ds' => some (.arr E ds')
    | none => none
  | .full .. => none

theorem cns_length : ∀ {ds ds' : List D}, cns y fi ds = some ds' → ds'.length = ds.length
  | [], _, h => by simp only [cns] at h; cases h; rfl
  | d :: ds, _, h => by
    simp only [cns] at h
    split at h
    · rename_i h1 h2; cases h; simp [cns_length h2]
    · cases h

theorem ObjR.cn (hι : ∀ a c, getT a fi = some c → ∀ l, C.ι a = some l → ι1 c = some l) {w : World} {o o' : AO} {l : Loc} (h : ObjR C w o l) (hc : cnO y fi o = some o') : ObjR ⟨C.P, C.hp (!y), Hp.none, ι1⟩ w o' l := by
  cases o with
  | box T d =>
    simp only [cnO] at hc
    split at hc
    · rename_i d' h0
      cases hc
      obtain ⟨h1, h2, h3, h4, b, cs, E, h5, h6, h7, h8⟩ := h
      exact ⟨h1, h2, h3, cn_lab h0 h4, b, cs, E, h5, h6, h7.cn hι h0, h8⟩
    · cases hc
  | arr E ds =>
    simp only [cnO] at hc
    split at hc
    · rename_i ds' h0
      cases hc
      obtain ⟨h1, h2, h3, h4⟩ := h
      refine ⟨h1, h2, h3, ?_⟩
      cases hlb : l.b with
      | none =>
        rw [hlb] at h4
        obtain ⟨h5, h6⟩ := h4
        refine ⟨List.eq_nil_of_length_eq_zero ?_, h6⟩
        rw [cns_length h0, h5]; rfl
      | some b =>
        rw [hlb] at h4
        obtain ⟨cs, E', g1, g2, g3, g4⟩ := h4
        have hlen := cns_length h0
        refine ⟨cs, E', g1, g2, by rw [hlen]; exact g3, ?_⟩
        rw [hlen]
        exact g4.cn hι h0
    · cases hc
  | full E ds c => simp [cnO] at hc

/-! ### And back -/
mutual
theorem FR.fwd {C' : Cx} {f : Nat → Nat} (hP : C'.P = C.P) (hh : ∀ k, Hp.le (C.hp k) (C'.hp k)) (hι : ∀ id l, C.ι id = some l → C'.ι (f id) = some l) : ∀ {d : D} {cs : List Value}, FR C d cs → FR C' (d.ren f) cs
  | _, _, .v hx => .v hx
  | _, _, .st ts hp hs => by simp only [D.ren]; exact .st ts (hP ▸ hp) (FRs.fwd hP hh hι hs)
  | _, _, .ptr l b o T h1 h2 h3 => by simp only [D.ren]; exact .ptr l b o T (hι _ _ h1) h2 (by rw [hP]; exact h3)
  | _, _, .fptr b o ccs E fr cs hb hd hl hz hc => .fptr b o ccs E fr cs (hh _ _ _ hb) (hd.mono ⟨hP.symm, hh, fun _ _ h => by cases h⟩) (by rw [hP]; exact hl) (by rw [hP]; exact hz) hc
  | _, _, .lst0 A cap hx => .lst0 A cap hx
  | _, _, .lst b o cap ccs E' fr cs hne hb hs hc hcap hx => .lst b o cap ccs E' fr cs hne (hh _ _ _ hb) (hs.mono ⟨hP.symm, hh, fun _ _ h => by cases h⟩) hc hcap hx
  | _, _, .own l A cap h1 ha hl hcap hA => by simp only [D.ren]; exact .own l A cap (hι _ _ h1) ha hl hcap (by rw [hP]; exact hA)
  | _, _, .fn vs hs => by simp only [D.ren]; exact .fn vs (FR1.fwd hP hh hι hs)
  | _, _, .undef x hx => .undef x hx
theorem FRs.fwd {C' : Cx} {f : Nat → Nat} (hP : C'.P = C.P) (hh : ∀ k, Hp.le (C.hp k) (C'.hp k)) (hι : ∀ id l, C.ι id = some l → C'.ι (f id) = some l) : ∀ {ds : List D} {ts : List TypeId} {cs : List Value}, FRs C ds ts cs → FRs C' (rens f ds) ts cs
  | _, _, _, .nil => .nil
  | _, _, _, .cons hd hz hl hs => by simp only [rens]; exact .cons (FR.fwd hP hh hι hd) (by rw [hP]; exact hz) (by rw [hP]; exact lab_ren.2 hl) (FRs.fwd hP hh hι hs)
theorem FR1.fwd {C' : Cx} {f : Nat → Nat} (hP : C'.P = C.P) (hh : ∀ k, Hp.le (C.hp k) (C'.hp k)) (hι : ∀ id l, C.ι id = some l → C'.ι (f id) = some l) : ∀ {ds : List D} {vs : List Value}, FR1 C ds vs → FR1 C' (rens f ds) vs
  | _, _, .nil => .nil
  | _, _, .cons hd hs => by simp only [rens]; exact .cons (FR.fwd hP hh hι hd) (FR1.fwd hP hh hι hs)
end

theorem VR1.fwd {C' : Cx} {f : Nat → Nat} (hP : C'.P = C.P) (hh : ∀ k, Hp.le (C.hp k) (C'.hp k)) (hι : ∀ id l, C.ι id = some l → C'.ι (f id) = some l) {d : D} {v : Value} (h : VR1 C d v) : VR1 C' (d.ren f) v := by
  cases d with
  | st T ds =>
    obtain ⟨cs, e, hf⟩ := h
    exact ⟨cs, e, by have := FR.fwd hP hh hι hf; simpa only [D.ren] using this⟩
  | undef => trivial
  | tup ds => cases h
  | v x => exact FR.fwd (d := .v x) hP hh hι h
  | ptr id p => exact FR.fwd (d := .ptr id p) hP hh hι h
  | fptr T d => exact FR.fwd (d := .fptr T d) hP hh hι h
  | lst k x E ds => exact FR.fwd (d := .lst k x E ds) hP hh hι h
  | own a b c => exact FR.fwd (d := .own a b c) hP hh hι h
  | fn g c => exact FR.fwd (d := .fn g c) hP hh hι h

theorem VRs.fwd {C' : Cx} {f : Nat → Nat} (hP : C'.P = C.P) (hh : ∀ k, Hp.le (C.hp k) (C'.hp k)) (hι : ∀ id l, C.ι id = some l → C'.ι (f id) = some l) : ∀ {ds : List D} {vs : List Value}, VRs C ds vs → VRs C' (rens f ds) vs
  | _, _, .nil => .nil
  | _, _, .cons hd hs => by simp only [rens]; exact .cons (hd.fwd hP hh hι) (VRs.fwd hP hh hι hs)
theorem VR.fwd {C' : Cx} {f : Nat → Nat} (hP : C'.P = C.P) (hh : ∀ k, Hp.le (C.hp k) (C'.hp k)) (hι : ∀ id l, C.ι id = some l → C'.ι (f id) = some l) {d : D} {v : Value} (h : VR C d v) : VR C' (d.ren f) v := by
  cases d with
  | tup ds =>
    obtain ⟨vs, e, hv⟩ := h
    exact ⟨vs, e, VRs.fwd hP hh hι hv⟩
  | undef => trivial
  | v x => exact VR1.fwd (d := .v x) hP hh hι h
  | st T ds => exact VR1.fwd (d := .st T ds) hP hh hι h
  | ptr id p => exact VR1.fwd (d := .ptr id p) hP hh hι h
  | fptr T d => exact VR1.fwd (d := .fptr T d) hP hh hι h
  | lst k x E ds => exact VR1.fwd (d := .lst k x E ds) hP hh hι h
  | own a b c => exact VR1.fwd (d := .own a b c) hP hh hι h
  | fn g c => exact VR1.fwd (d := .fn g c) hP hh hι h

theorem ArrR.fwd {C' : Cx} {f : Nat → Nat} (hP : C'.P = C.P) (hh : ∀ k, Hp.le (C.hp k) (C'.hp k)) (hι : ∀ id l, C.ι id = some l → C'.ι (f id) = some l) {w : World} {E : TypeId} {ds : List D} {l : Loc} (h : ArrR C w E ds l) : ArrR C' w E (rens f ds) l := by
  obtain ⟨h1, h2, h3, h4⟩ := h
  refine ⟨h1, h2, by rw [hP]; exact h3, ?_⟩
  cases hlb : l.b with
  | none =>
    rw [hlb] at h4
    obtain ⟨h5, h6⟩ := h4
    subst h5
    exact ⟨rfl, h6⟩
  | some b =>
    rw [hlb] at h4
    obtain ⟨cs, E', g1, g2, g3, g4⟩ := h4
    refine ⟨cs, E', g1, by rw [hP]; exact g2, by rw [rens_length]; exact g3, ?_⟩
    rw [rens_length, hP]
    exact g4.fwd hP hh hι
theorem ObjR.fwd {C' : Cx} {f : Nat → Nat} (hP : C'.P = C.P) (hh : ∀ k, Hp.le (C.hp k) (C'.hp k)) (hι : ∀ id l, C.ι id = some l → C'.ι (f id) = some l) {w : World} {o : AO} {l : Loc} (h : ObjR C w o l) : ObjR C' w (o.ren f) l := by
  cases o with
  | box T d =>
    obtain ⟨h1, h2, h3, h4, b, cs, E, h5, h6, h7, h8⟩ := h
    exact ⟨h1, h2, h3, by rw [hP]; exact lab_ren.2 h4, b, cs, E, h5, h6, h7.fwd hP hh hι, by rw [hP]; exact h8⟩
  | arr E ds => exact ArrR.fwd hP hh hι h
  | full E ds c => exact ⟨ArrR.fwd hP hh hι h.1, h.2⟩
end
end Go.Apl

/- APL, part 25: the call of a function that writes. Over any program. -/
namespace Go.Apl
open Go
open Go.RowKit (Below)
set_option linter.unusedSimpArgs false
set_option linter.unusedVariables false

/-- The caller's name of a canonical name. -/
def invF (c : Nat) : List (Nat × Nat) → Option Nat
  | [] => none
  | (a, c') :: fi => if c' = c then some a else invF c fi
/-- The names after the call: kept ones stay, all others are new. -/
def f2 (fi : List (Nat × Nat)) (nx : Nat) (kp : List Nat) (c : Nat) : Nat :=
  if c ∈ kp then (match invF c fi with | some a => a | none => nx + c) else nx + c
/-- What is handed over, in canonical names. -/
def handS (y : Bool) (fi : List (Nat × Nat)) (σ : Sg) : List (Nat × Nat) → Option Sg
  | [] => some []
  | (a, c) :: l => match getT a σ with
    | some o => match cnO y fi o, handS y fi σ l with
      | some o', some s => some ((c, o') :: s)
      | _, _ => none
    | none => none
def delTs {α : Type} : List (Nat × Nat) → List (Nat × α) → List (Nat × α)
  | [], l => l
  | (a, _) :: fi, l => delT a (delTs fi l)
def renSg (y : Bool) (f : Nat → Nat) : Sg → Sg
  | [] => []
  | (c, o) :: l => (f c, (o.ren f).yg y) :: renSg y f l
/-- The list of names is fit: no name twice on either side, canonical ones below n, kept ones among them. -/
def fiOK (fi : List (Nat × Nat)) (n : Nat) (kp : List Nat) : Bool :=
  decide (fi.map (·.1)).Nodup && decide (fi.map (·.2)).Nodup && fi.all (fun x => decide (x.2 < n)) && kp.all (fun c => (invF c fi).isSome)

section
variable {y : Bool} {fi : List (Nat × Nat)} {kp : List Nat} {σ σ1 : Sg} {nx : Nat}

theorem invF_mem {c a : Nat} : ∀ {fi : List (Nat × Nat)}, invF c fi = some a → (a, c) ∈ fi
  | (a', c') :: fi, h => by
    simp only [invF] at h
    split at h
    · rename_i e; cases h; subst e; simp
    · exact List.mem_cons_of_mem _ (invF_mem h)
theorem invF_of_mem {c a : Nat} : ∀ {fi : List (Nat × Nat)}, (fi.map (·.2)).Nodup → (a, c) ∈ fi → invF c fi = some a
  | (a', c') :: fi, hn, hm => by
    simp only [List.map_cons, List.nodup_cons, List.mem_map, not_exists, not_and] at hn
    simp only [invF]
    rcases List.mem_cons.1 hm with e | hm
    · cases e; simp
    · rw [if_neg (fun e => hn.1 (a, c) hm e.symm)]
      exact invF_of_mem hn.2 hm
theorem getT_of_mem {α : Type} {a : Nat} {c : α} : ∀ {fi : List (Nat × α)}, (fi.map (·.1)).Nodup → (a, c) ∈ fi → getT a fi = some c
  | (a', c') :: fi, hn, hm => by
    simp only [List.map_cons, List.nodup_cons, List.mem_map, not_exists, not_and] at hn
    simp only [getT]
    rcases List.mem_cons.1 hm with e | hm
    · cases e; simp
    · rw [if_neg (fun e => hn.1 (a, c) hm e.symm)]
      exact getT_of_mem hn.2 hm

theorem handS_get {c : Nat} {o1 : AO} : ∀ {l : List (Nat × Nat)} {s : Sg}, handS y fi σ l = some s → getT c s = some o1 → ∃ a o, (a, c) ∈ l ∧ getT a σ = some o ∧ cnO y fi o = some o1
  | [], _, h, hg => by simp only [handS] at h; cases h; cases hg
  | (a, c') :: l, s, h, hg => by
    simp only [handS] at h
    split at h
    · rename_i o ho
      split at h
      · rename_i o' s' h1 h2
        cases h
        simp only [getT] at hg
        by_cases he : c' = c
        · subst he; rw [if_pos rfl] at hg; cases hg; exact ⟨a, o, by simp, ho, h1⟩
        · rw [if_neg he] at hg
          obtain ⟨a2, o2, q1, q2, q3⟩ := handS_get h2 hg
          exact ⟨a2, o2, List.mem_cons_of_mem _ q1, q2, q3⟩
      · cases h
    · cases h
theorem handS_all {a c : Nat} : ∀ {l : List (Nat × Nat)} {s : Sg}, handS y fi σ l = some s → (a, c) ∈ l → ∃ o, getT a σ = some o
  | (a', c') :: l, s, h, hm => by
    simp only [handS] at h
    split at h
    · rename_i o ho
      split at h
      · rename_i o' s' h1 h2
        rcases List.mem_cons.1 hm with e | hm
        · cases e; exact ⟨o, ho⟩
        · exact handS_all h2 hm
      · cases h
    · cases h

theorem delTs_get {α : Type} {id : Nat} {o : α} : ∀ {fi : List (Nat × Nat)} {l : List (Nat × α)}, getT id (delTs fi l) = some o → getT id l = some o ∧ ∀ c, (id, c) ∉ fi
  | [], l, h => ⟨h, fun c hc => by cases hc⟩
  | (a, c0) :: fi, l, h => by
    simp only [delTs] at h
    rw [getT_delT] at h
    by_cases he : id = a
    · rw [if_pos he] at h; cases h
    · rw [if_neg he] at h
      obtain ⟨h1, h2⟩ := delTs_get h
      refine ⟨h1, fun c hc => ?_⟩
      rcases List.mem_cons.1 hc with e | hc
      · cases e; exact he rfl
      · exact h2 c hc
theorem renSg_get {f : Nat → Nat} {id : Nat} {o : AO} : ∀ {l : Sg}, getT id (renSg y f l) = some o → ∃ c o2, getT c l = some o2 ∧ f c = id ∧ o = (o2.ren f).yg y
  | (c, o1) :: l, h => by
    simp only [renSg, getT] at h
    by_cases he : f c = id
    · rw [if_pos he] at h; cases h; exact ⟨c, o1, by simp [getT], he, rfl⟩
    · rw [if_neg he] at h
      obtain ⟨c', o2, q1, q2, q3⟩ := renSg_get h
      refine ⟨c', o2, ?_, q2, q3⟩
      simp only [getT]
      rw [if_neg (fun e => he (by rw [e]; exact q2))]
      exact q1

/-- **The call.** -/
theorem run_goCallM {w : World} {G : Gh} {s : St} {a : Act} {o : Oper} {f : FuncId} {args : List Operand} {ats : Array TypeId} {σ1 σ2 : Sg} {nx1 nx2 : Nat} {dargs : List D} {r : D} (hc : MutF G.P f σ1 nx1 dargs σ2 nx2 kp r) (lay : LayOK G.P) (hm : G.P.follows .mixedOrders = true)
    (hop : o.op = .call ⟨.value (.func f), args.toArray, ats⟩) {N : Hp} {ι : Nat → Option Loc} (h1 : HR G w N ι s.σ s.nx) (h2 : FrR (G.cx N ι) s a) (hok : fiOK fi nx1 kp = true) (hs : handS y fi s.σ fi = some σ1) (hargs : cns y fi (args.map s.ev1) = some dargs)
    {K : Act → World → Prop} (hK : ∀ v w' N' ι', HR G w' N' ι' (renSg y (f2 fi s.nx kp) σ2 ++ delTs fi s.σ) (s.nx + nx2) → Cx.le (G.cx N ι) (G.cx N' ι') → VR (G.cx N' ι') ((r.ren (f2 fi s.nx kp)).yg y) v → K (a.put o.dst v) w') {Q0 : Exit → Act → World → Prop} : o.wp G.P a w K Q0 := by
  simp only [fiOK, Bool.and_eq_true, decide_eq_true_eq, List.all_eq_true] at hok
  obtain ⟨⟨⟨hn1, hn2⟩, hlt⟩, hkp⟩ := hok
  let I' : Hp := (G.cx N ι).hp (!y)
  let F' : Nat → Prop := fun b => ∃ x c ob l, (x, c) ∈ fi ∧ getT x s.σ = some ob ∧ ι x = some l ∧ l.b = some b
  let ι1 : Nat → Option Loc := fun c => match invF c fi with | some x => ι x | none => none
  have hι1 : ∀ x c, (x, c) ∈ fi → ι1 c = ι x := fun x c hm => by simp only [ι1, invF_of_mem hn2 hm]
  have hιc : ∀ x c, getT x fi = some c → ∀ l, ι x = some l → ι1 c = some l := fun x c hg l hl => by rw [hι1 x c (getT_mem hg)]; exact hl
  have hI'none : ∀ x ob l b, getT x s.σ = some ob → ι x = some l → l.b = some b → I' b = none := fun x ob l b q1 q2 q3 => by
    obtain ⟨e1, e2, _⟩ := h1.excl x ob l b q1 q2 q3
    cases y <;> simp [I', Cx.hp, e1, e2]
  have hH : HR ⟨G.P, w, I', F', fun _ => none⟩ w Hp.none ι1 σ1 nx1 := by
    refine ⟨h1.hp_le (!y), Hp.none_le _, fun b x h => (by cases h), rfl, rfl, rfl, Nat.le_refl _, fun _ _ _ => rfl, ?_, ?_, ?_, ?_, fun _ _ h => (by cases h)⟩
    · intro c o1 hg
      obtain ⟨x, ob, q1, q2, q3⟩ := handS_get hs hg
      obtain ⟨l, hl, hob⟩ := h1.obj x ob q2
      exact ⟨l, by rw [hι1 x c q1]; exact hl, hob.cn hιc q3⟩
    · intro c c' o1 o1' l l' b hg hg' hl hl' hb hb'
      obtain ⟨x, ob, q1, q2, q3⟩ := handS_get hs hg
      obtain ⟨x', ob', q1', q2', q3'⟩ := handS_get hs hg'
      rw [hι1 x c q1] at hl
      rw [hι1 x' c' q1'] at hl'
      have := h1.sep x x' ob ob' l l' b q2 q2' hl hl' hb hb'
      subst this
      have e1 := getT_of_mem hn1 q1
      have e2 := getT_of_mem hn1 q1'
      rw [e1] at e2; exact Option.some.inj e2
    · intro c o1 l b hg hl hb
      obtain ⟨x, ob, q1, q2, q3⟩ := handS_get hs hg
      rw [hι1 x c q1] at hl
      exact ⟨hI'none x ob l b q2 hl hb, rfl, fun _ => ⟨x, c, ob, l, q1, q2, hl, hb⟩⟩
    · intro c l hl
      simp only [ι1] at hl
      split at hl
      · rename_i x hx
        have := hlt _ (invF_mem hx)
        simpa using this
      · cases hl
  have hv : VRs ⟨G.P, I', Hp.none, ι1⟩ dargs (args.map a.eval) := by
    have : VRs (G.cx N ι) (args.map s.ev1) (args.map a.eval) := evs_ok h2 args
    exact this.cn hιc hargs
  have hcall := hc.run lay hm w I' F' ι1 (args.map a.eval) hH hv
  obtain ⟨dst', op', type, pos, after, guard'⟩ := o
  simp only at hop
  subst hop
  unfold Oper.wp
  rw [execOp_call_go, run_callFunc hc.go]
  simp only [Oper.upon]
  have e : #[] ++ Array.map a.eval args.toArray ++ #[] = (args.map a.eval).toArray := by simp
  rw [e]
  refine hcall.mono fun e w' ⟨v, N', ι', he, h', hvr, hkeep⟩ => ?_
  subst he
  -- the world behind the call
  have hF : ∀ b, F' b → G.I b = none ∧ N b = none ∧ (b < G.w0.heap.size → G.F b) := fun b ⟨x, c, ob, l, q1, q2, q3, q4⟩ => h1.excl x ob l b q2 q3 q4
  have hblk : ∀ b x, w.heap[b]? = some x → ¬ F' b → w'.heap[b]? = some x := fun b x hx hb => by
    have := h'.keep b (Array.getElem?_eq_some_iff.1 hx).1 hb
    rw [this]; exact hx
  let ι2 : Nat → Option Loc := fun id => if id < s.nx then ι id else if id - s.nx < nx2 then ι' (id - s.nx) else none
  have hι2 : ∀ id l, ι id = some l → ι2 id = some l := fun id l hl => by
    have := h1.names id l hl
    simp only [ι2]; rw [if_pos this]; exact hl
  have hf2 : ∀ c l, ι' c = some l → ι2 (f2 fi s.nx kp c) = some l := fun c l hl => by
    have hcn := h'.names c l hl
    have new : ι2 (s.nx + c) = some l := by
      simp only [ι2]
      rw [if_neg (by omega), Nat.add_sub_cancel_left, if_pos hcn]; exact hl
    simp only [f2]
    split
    · rename_i hck
      split
      · rename_i x hx
        have hxc := invF_mem hx
        obtain ⟨ob, hob⟩ := handS_all hs hxc
        obtain ⟨l0, hl0, _⟩ := h1.obj x ob hob
        have := hkeep c hck l0 (by rw [hι1 x c hxc]; exact hl0)
        rw [hl] at this
        cases this
        exact hι2 x l hl0
      · exact new
    · exact new
  have hNN : ∀ b x, N b = some x → N' b = none := fun b x hx => by
    cases hn : N' b with
    | none => rfl
    | some y =>
      have h3 := hpOf_lt (h1.N_le _ _ hx)
      have h4 : w.heap.size ≤ b := h'.N_new b y hn
      omega
  have hIN : ∀ b x, G.I b = some x → N' b = none := fun b x hx => by
    cases hn : N' b with
    | none => rfl
    | some y =>
      have h3 := hpOf_lt (h1.I_le _ _ hx)
      have h4 : w.heap.size ≤ b := h'.N_new b y hn
      omega
  have hNf : ∀ b x, N b = some x ∨ N' b = some x → (N.or N') b = some x := by
    intro b x hx
    simp only [Hp.or]
    rcases hx with hx | hx
    · rw [hx]; simp
    · cases hN : N b with
      | none => simpa using hx
      | some z => rw [hNN b z hN] at hx; cases hx
  have hback : ∀ {d : D} {v : Value}, VR ⟨G.P, I', N', ι'⟩ d v → VR (G.cx (N.or N') ι2) ((d.ren (f2 fi s.nx kp)).yg y) v := by
    cases y with
    | false =>
      intro d v hd
      refine VR.fwd (C := ⟨G.P, I', N', ι'⟩) (C' := G.cx (N.or N') ι2) rfl (fun k b x hx => ?_) hf2 hd
      cases k
      · simp [Cx.hp] at hx ⊢; exact hNf b x (.inr hx)
      · simp only [Cx.hp, Hp.or, I'] at hx ⊢
        simp at hx ⊢
        cases hN' : N' b with
        | some y =>
          rw [hN'] at hx; simp at hx; subst hx
          cases hN : N b with
          | none => simp
          | some z => rw [hNN b z hN] at hN'; cases hN'
        | none =>
          rw [hN'] at hx; simp at hx
          cases hN : N b with
          | none => rw [hN] at hx; simpa using hx
          | some z => rw [hN] at hx; simpa using hx
    | true =>
      intro d v hd
      refine VR.young (VR.fwd (C := ⟨G.P, I', N', ι'⟩) (C' := ⟨G.P, Hp.none, N.or N', ι2⟩) rfl (fun k b x hx => ?_) hf2 hd)
      have key : (N.or N') b = some x := by
        cases k
        · simp [Cx.hp] at hx; exact hNf b x (.inr hx)
        · simp only [Cx.hp, Hp.or, I', Bool.not_true] at hx
          simp at hx
          rcases hx with hx | ⟨_, hx⟩
          · exact hNf b x (.inr hx)
          · exact hNf b x (.inl hx)
      cases k
      · simpa [Cx.hp] using key
      · simp only [Cx.hp, if_true]; show ((N.or N') b).or _ = _; rw [key]; rfl
  have hbackO : ∀ {o : AO} {l : Loc}, ObjR ⟨G.P, I', N', ι'⟩ w' o l → ObjR (G.cx (N.or N') ι2) w' ((o.ren (f2 fi s.nx kp)).yg y) l := by
    cases y with
    | false =>
      intro d v hd
      refine ObjR.fwd (C := ⟨G.P, I', N', ι'⟩) (C' := G.cx (N.or N') ι2) rfl (fun k b x hx => ?_) hf2 hd
      cases k
      · simp [Cx.hp] at hx ⊢; exact hNf b x (.inr hx)
      · simp only [Cx.hp, Hp.or, I'] at hx ⊢
        simp at hx ⊢
        cases hN' : N' b with
        | some y =>
          rw [hN'] at hx; simp at hx; subst hx
          cases hN : N b with
          | none => simp
          | some z => rw [hNN b z hN] at hN'; cases hN'
        | none =>
          rw [hN'] at hx; simp at hx
          cases hN : N b with
          | none => rw [hN] at hx; simpa using hx
          | some z => rw [hN] at hx; simpa using hx
    | true =>
      intro d v hd
      refine ObjR.young (ObjR.fwd (C := ⟨G.P, I', N', ι'⟩) (C' := ⟨G.P, Hp.none, N.or N', ι2⟩) rfl (fun k b x hx => ?_) hf2 hd)
      have key : (N.or N') b = some x := by
        cases k
        · simp [Cx.hp] at hx; exact hNf b x (.inr hx)
        · simp only [Cx.hp, Hp.or, I', Bool.not_true] at hx
          simp at hx
          rcases hx with hx | ⟨_, hx⟩
          · exact hNf b x (.inr hx)
          · exact hNf b x (.inl hx)
      cases k
      · simpa [Cx.hp] using key
      · simp only [Cx.hp, if_true]; show ((N.or N') b).or _ = _; rw [key]; rfl
  have hle : Cx.le (G.cx N ι) (G.cx (N.or N') ι2) := by
    refine ⟨rfl, fun k b x hx => ?_, hι2⟩
    simp only [Cx.hp, Hp.or] at hx ⊢
    cases k
    · simp at hx ⊢; rw [hx]; simp
    · simp at hx ⊢
      cases hN : N b with
      | some y => rw [hN] at hx; simpa using hx
      | none =>
        rw [hN] at hx
        simp at hx
        rw [hIN b x hx]; simp [hx]
  have oldb : ∀ id ob l b, getT id s.σ = some ob → ι id = some l → l.b = some b → b < w.heap.size := by
    intro id o' l' b h1' h2' h3'
    obtain ⟨m, hm, hr⟩ := h1.obj id o' h1'
    rw [h2'] at hm; cases hm
    cases o' with
    | box T d =>
      obtain ⟨_, _, _, _, b', cs, E, g1, g2, _⟩ := hr
      rw [h3'] at g1; cases g1
      exact (Array.getElem?_eq_some_iff.1 g2).1
    | arr E ds =>
      obtain ⟨_, _, _, g⟩ := hr
      rw [h3'] at g
      obtain ⟨cs, E', g1, _⟩ := g
      exact (Array.getElem?_eq_some_iff.1 g1).1
    | full E ds c =>
      obtain ⟨⟨_, _, _, g⟩, _⟩ := hr
      rw [h3'] at g
      obtain ⟨cs, E', g1, _⟩ := g
      exact (Array.getElem?_eq_some_iff.1 g1).1
  have split2 : ∀ id ob, getT id (renSg y (f2 fi s.nx kp) σ2 ++ delTs fi s.σ) = some ob → (∃ c o2 l, getT c σ2 = some o2 ∧ f2 fi s.nx kp c = id ∧ ob = (o2.ren (f2 fi s.nx kp)).yg y ∧ ι' c = some l ∧ ι2 id = some l) ∨ (getT id s.σ = some ob ∧ (∀ c, (id, c) ∉ fi) ∧ ∃ l, ι id = some l ∧ ι2 id = some l) := by
    intro id ob hg
    rw [getT_append] at hg
    split at hg
    · rename_i x hx
      cases hg
      obtain ⟨c, o2, q1, q2, q3⟩ := renSg_get hx
      obtain ⟨l, hl, _⟩ := h'.obj c o2 q1
      exact .inl ⟨c, o2, l, q1, q2, q3, hl, by rw [← q2]; exact hf2 c l hl⟩
    · obtain ⟨q1, q2⟩ := delTs_get hg
      obtain ⟨l, hl, _⟩ := h1.obj id ob q1
      exact .inr ⟨q1, q2, l, hl, hι2 id l hl⟩
  have restF : ∀ id ob l b, getT id s.σ = some ob → (∀ c, (id, c) ∉ fi) → ι id = some l → l.b = some b → ¬ F' b := by
    intro id ob l b q1 q2 q3 q4 ⟨x, c, ob', l', p1, p2, p3, p4⟩
    have := h1.sep id x ob ob' l l' b q1 p2 q3 p3 q4 p4
    subst this
    exact q2 c p1
  refine hK v w' (N.or N') ι2 ?_ hle (hback hvr)
  refine ⟨fun b x hx => ?_, fun b x hx => ?_, fun b x hx => ?_, ?_, ?_, ?_, Nat.le_trans h1.size h'.size, fun b hb hnF => ?_, ?_, ?_, ?_, ?_, ?_⟩
  · exact hblk b x (h1.I_le b x hx) fun hf => by rw [(hF b hf).1] at hx; cases hx
  · simp only [Hp.or] at hx
    cases hN : N b with
    | none => rw [hN] at hx; exact h'.N_le b x (by simpa using hx)
    | some y =>
      rw [hN] at hx
      simp at hx; subst hx
      exact hblk b y (h1.N_le b y hN) fun hf => by rw [(hF b hf).2.1] at hN; cases hN
  · simp only [Hp.or] at hx
    cases hN : N b with
    | none =>
      rw [hN] at hx
      have : w.heap.size ≤ b := h'.N_new b x (by simpa using hx)
      exact Nat.le_trans h1.size this
    | some y => exact h1.N_new b y hN
  · exact h'.os.trans h1.os
  · exact h'.tape.trans h1.tape
  · exact h'.output.trans h1.output
  · have hbw : b < w.heap.size := Nat.lt_of_lt_of_le hb h1.size
    have : ¬ F' b := fun hf => hnF ((hF b hf).2.2 hb)
    rw [h'.keep b hbw this]
    exact h1.keep b hb hnF
  · intro id ob hg
    rcases split2 id ob hg with ⟨c, o2, l, q1, q2, q3, q4, q5⟩ | ⟨q1, q2, l, q3, q4⟩
    · obtain ⟨l', hl', hob⟩ := h'.obj c o2 q1
      rw [q4] at hl'; cases hl'
      refine ⟨l, q5, ?_⟩
      rw [q3]
      exact hbackO hob
    · obtain ⟨l', hl', hob⟩ := h1.obj id ob q1
      rw [q3] at hl'; cases hl'
      exact ⟨l, q4, hob.grow hle fun b x hb hx => hblk b x hx (restF id ob l b q1 q2 q3 hb)⟩
  · intro id id' ob ob' l l' b hg hg' hl hl' hb hb'
    rcases split2 id ob hg with ⟨c, o2, m, q1, q2, q3, q4, q5⟩ | ⟨q1, q2, m, q3, q4⟩ <;> rcases split2 id' ob' hg' with ⟨c', o2', m', q1', q2', q3', q4', q5'⟩ | ⟨q1', q2', m', q3', q4'⟩
    · rw [q5] at hl; cases hl
      rw [q5'] at hl'; cases hl'
      have := h'.sep c c' o2 o2' _ _ b q1 q1' q4 q4' hb hb'
      rw [← q2, ← q2', this]
    · exfalso
      rw [q5] at hl; cases hl
      rw [q4'] at hl'; cases hl'
      have hbw := oldb id' ob' _ b q1' q3' hb'
      exact restF id' ob' _ b q1' q2' q3' hb' ((h'.excl c o2 _ b q1 q4 hb).2.2 hbw)
    · exfalso
      rw [q4] at hl; cases hl
      rw [q5'] at hl'; cases hl'
      have hbw := oldb id ob _ b q1 q3 hb
      exact restF id ob _ b q1 q2 q3 hb ((h'.excl c' o2' _ b q1' q4' hb').2.2 hbw)
    · rw [q4] at hl; cases hl
      rw [q4'] at hl'; cases hl'
      exact h1.sep id id' ob ob' _ _ b q1 q1' q3 q3' hb hb'
  · intro id ob l b hg hl hb
    rcases split2 id ob hg with ⟨c, o2, m, q1, q2, q3, q4, q5⟩ | ⟨q1, q2, m, q3, q4⟩
    · rw [q5] at hl; cases hl
      obtain ⟨e1, e2, e3⟩ := h'.excl c o2 _ b q1 q4 hb
      have e2 : N' b = none := e2
      by_cases hbw : b < w.heap.size
      · obtain ⟨p1, p2, p3⟩ := hF b (e3 hbw)
        exact ⟨p1, by simp [Hp.or, p2, e2], p3⟩
      · have eI : G.I b = none := by
          cases hI : G.I b with
          | none => rfl
          | some x => exact absurd (hpOf_lt (h1.I_le _ _ hI)) hbw
        have eN : N b = none := by
          cases hN : N b with
          | none => rfl
          | some x => exact absurd (hpOf_lt (h1.N_le _ _ hN)) hbw
        exact ⟨eI, by simp [Hp.or, eN, e2], fun hb0 => absurd (Nat.lt_of_lt_of_le hb0 h1.size) hbw⟩
    · rw [q4] at hl; cases hl
      obtain ⟨e1, e2, e3⟩ := h1.excl id ob _ b q1 q3 hb
      refine ⟨e1, ?_, e3⟩
      have hbw := oldb id ob _ b q1 q3 hb
      have : N' b = none := by
        cases hn : N' b with
        | none => rfl
        | some y =>
          have h4 : w.heap.size ≤ b := h'.N_new b y hn
          omega
      simp [Hp.or, e2, this]
  · intro id l hl
    simp only [ι2] at hl
    split at hl
    · omega
    · split at hl
      · omega
      · cases hl
  · intro id l hl
    obtain ⟨p1, p2⟩ := h1.pin id l hl
    exact ⟨p1, hι2 id l p2⟩
end
end Go.Apl

/- APL, part 26: calls of functions that write, as the walk asks for them. Over any program. -/
namespace Go.Apl
open Go
open Go.RowKit (Below)
set_option linter.unusedSimpArgs false
set_option linter.unusedVariables false

section
variable {P : Program} {s : St} {gs : List (Option Tmp)} {A : List (List Nat)} {K : St → Prop} {i : Nat} {fr : Fr} {rd cg : Rd} {rest : List Sop} {f : FuncId} {args : Array Operand} {ats : Array TypeId}

theorem RL.cM {dst : Option Tmp} (y : Bool) (fi : List (Nat × Nat)) (h : ∃ σ1, handS y fi s.σ fi = some σ1 ∧ ∃ dargs, cns y fi (args.toList.map s.ev1) = some dargs ∧ (freeF gs dst fr = true ∧ dstOk s dst) ∧
    ∃ nx1 σ2 nx2 kp r, MutF P f σ1 nx1 dargs σ2 nx2 kp r ∧ fiOK fi nx1 kp = true ∧ runL P gs K rest (s.put dst ((r.ren (f2 fi s.nx kp)).yg y) (renSg y (f2 fi s.nx kp) σ2 ++ delTs fi s.σ) (s.nx + nx2)) fr) :
    RL P gs (⟨dst, .call ⟨.value (.func f), args, ats⟩, none⟩ :: rest) s fr K := by
  obtain ⟨σ1, hs, dargs, hargs, hd, nx1, σ2, nx2, kp, r, hc, hok, hK⟩ := h
  intro ops l Q hgs hl hKQ lay hm G hG a w N ι h1 h2 h3
  cases l with
  | nil => simp at hl
  | cons o l =>
    simp only [List.map_cons, List.cons.injEq] at hl
    obtain ⟨ho, rfl⟩ := hl
    obtain ⟨e1, e2, e3⟩ := slim_op ho
    simp only at e1 e2 e3
    simp only [wpList]
    rw [if_pos (by simp [Region.wanted, e3])]
    refine .inl ?_
    subst hG
    subst e1
    have e2' : o.op = .call ⟨.value (.func f), args.toList.toArray, ats⟩ := by simpa using e2
    exact run_goCallM hc lay hm e2' h1 h2 hok hs hargs fun v w' N' ι' q1 q2 q3 =>
      RL.run hK ops l Q hgs rfl hKQ lay hm G rfl _ _ N' ι' (by rw [St.over_put_σ (ov := []).1, (St.over_put_σ (ov := [])).2]; exact q1) (h2.put q2 o.dst q3 hd.2 _ _) ((h3.mono q2).put hgs hd.1)

theorem getT_fst {α : Type} {id : Nat} : ∀ {l : List (Nat × α)}, id ∉ l.map (·.1) → getT id l = none
  | [], _ => rfl
  | (j, x) :: l, h => by
    simp at h
    simp only [getT]
    rw [if_neg (fun e => h.1 e.symm)]
    exact getT_fst (by simpa using h.2)
theorem delTs_ne {α : Type} {id : Nat} : ∀ {fi : List (Nat × Nat)} {l : List (Nat × α)}, id ∉ fi.map (·.1) → getT id (delTs fi l) = getT id l
  | [], _, _ => rfl
  | (a, c) :: fi, l, h => by
    simp at h
    simp only [delTs]
    rw [getT_delT, if_neg h.1]
    exact delTs_ne (by simpa using h.2)

theorem DL.cM {dst : Option Tmp} (y : Bool) (fi : List (Nat × Nat)) (h : ∃ σ1, handS y fi s.σ fi = some σ1 ∧ ∃ dargs, cns y fi (args.toList.map (s.keep (opsT args.toList)).ev1) = some dargs ∧ dstOk s dst ∧ quiet A gs.length i = false ∧
    ∃ nx1 σ2 nx2 kp r, MutF P f σ1 nx1 dargs σ2 nx2 kp r ∧ fiOK fi nx1 kp = true ∧ farE A i (fi.map (·.1) ++ (renSg y (f2 fi s.nx kp) σ2).map (·.1)) rd = true ∧
      runD P gs A K rest (i + 1) (s.put dst ((r.ren (f2 fi s.nx kp)).yg y) (renSg y (f2 fi s.nx kp) σ2 ++ delTs fi s.σ) (s.nx + nx2)) fr rd ((i, fi.map (·.1) ++ (renSg y (f2 fi s.nx kp) σ2).map (·.1)) :: cg)) :
    DL P gs A K (⟨dst, .call ⟨.value (.func f), args, ats⟩, none⟩ :: rest) i s fr rd cg := by
  obtain ⟨σ1, hs, dargs, hargs, hd, hq, nx1, σ2, nx2, kp, r, hc, hok, hfar, hK⟩ := h
  intro ops l tm0 sz T hgs ok hl hn hsl link
  cases l with
  | nil => simp at hsl
  | cons o l =>
    simp only [List.map_cons, List.cons.injEq] at hsl
    obtain ⟨hso, rfl⟩ := hsl
    obtain ⟨e1, e2, e3⟩ := slim_op hso
    simp only at e1 e2 e3
    have ho : ops[i]? = some o := by simpa using (hl 0).symm
    have hl' : ∀ k, l[k]? = ops[i + 1 + k]? := fun k => by have := hl (k + 1); simpa [Nat.add_assoc, Nat.add_comm 1 k] using this
    have hn' : i + 1 + l.length = ops.size := by simp at hn; omega
    have hgl : gs.length = ops.size := by rw [← hgs]; simp
    rw [hgl] at hq
    have hne : isEffQ A ops.size i o.op = true := by rw [e2]; simp only [isEffQ, hq]; rfl
    have htm : tms o.op = opsT args.toList := by rw [e2]; simp [tms, opT]
    have e2' : o.op = .call ⟨.value (.func f), args.toList.toArray, ats⟩ := by simpa using e2
    have hsem : SemStep P o (s.keep (opsT args.toList)).tm (fun _ => True) s.σ s.nx ((r.ren (f2 fi s.nx kp)).yg y) (renSg y (f2 fi s.nx kp) σ2 ++ delTs fi s.σ) (s.nx + nx2) := by
      intro lay hm G hG a w N ι hr hdef hv K0 Q0 hK0
      subst hG
      have hf : FrR (G.cx N ι) ⟨a.tmps.size, (s.keep (opsT args.toList)).tm, s.σ, s.nx⟩ a := ⟨rfl, hdef, fun t d hd => hv t d hd trivial⟩
      exact run_goCallM (s := ⟨a.tmps.size, (s.keep (opsT args.toList)).tm, s.σ, s.nx⟩) hc lay hm e2' hr hf hok hs hargs hK0
    have hlk := DLink.step (cd := fun _ => True) (c := True) (b := (r.ren (f2 fi s.nx kp)).yg y) (r := (r.ren (f2 fi s.nx kp)).yg y) (gb := true) (R := []) (σ := renSg y (f2 fi s.nx kp) σ2 ++ delTs fi s.σ) (nx := s.nx + nx2) (fr' := fr) (rd' := rd) (cg' := (i, fi.map (·.1) ++ (renSg y (f2 fi s.nx kp) σ2).map (·.1)) :: cg) hgs ok link ho (nd := (s.keep (opsT args.toList)).tm)
      (fun _ => trivial) (fun j w hgd => by rw [e3] at hgd; cases hgd)
      (fun t d hd => ⟨by rw [htm]; exact (getT_keepT hd).1, (link.tm t d (getT_keepT hd).2).mono (fun _ _ => ⟨rfl, rfl⟩) fun _ => trivial⟩)
      (fun _ _ => hsem) (fun _ hc => absurd trivial hc)
      (fun he => by rw [hne] at he; cases he) (fun he => by rw [hne] at he; cases he) (by rw [e1]; exact hd) (.inr ⟨rfl, trivial⟩) (fun j w ov hm => .inl hm)
      (fun he => by rw [hne] at he; cases he) (fun x hx => hx) (fun _ => .inr ⟨_, hfar, by simp, fun id hid => by
        simp only [List.mem_append, not_or] at hid
        rw [getT_append, getT_fst hid.2]
        exact delTs_ne hid.1⟩) (fun x hx => List.mem_cons_of_mem _ hx)
    rw [← e1] at hK
    have := DL.of_run hK ops l tm0 sz _ hgs ok hl' hn' rfl hlk
    simpa [Tr.ext] using this

/-- What a return asks, by equations: other names g. -/
def retME (P : Program) (rs : List ResultVar) (σ2 : Sg) (nx2 : Nat) (kp : List Nat) (r : D) (g : Nat → Nat) (s : St) : Prop :=
  match rets s P rs with
  | some ds => ds = rens g (retL r) ∧ ltNs nx2 (retL r) = true ∧ renL g nx2 s.σ σ2 ∧ (σ2.map fun x => g x.1).Nodup ∧ ∀ c ∈ kp, c < nx2 ∧ g c = c
  | none => False
theorem retM.of {rs : List ResultVar} {σ2 : Sg} {nx2 : Nat} {kp : List Nat} {r : D} {e : Exit} {s : St} (g : Nat → Nat) (he : e = .normal ∨ e = .ret) (h : retME P rs σ2 nx2 kp r g s) : retM P rs σ2 nx2 kp r e s := by
  unfold retME at h
  split at h
  · rename_i ds h1
    exact ⟨he, g, ds, h1, h.1, h.2.1, h.2.2.1, h.2.2.2.1, h.2.2.2.2⟩
  · exact h.elim
end
end Go.Apl

/- APL, part 27: small rules. Over any program. -/
namespace Go.Apl
open Go
open Go.RowKit (Below)
set_option linter.unusedSimpArgs false
set_option linter.unusedVariables false

mutual
/-- A tree without names. -/
def D.bare : D → Bool
  | .ptr .. => false
  | .own .. => false
  | .st _ ds => bares ds
  | .tup ds => bares ds
  | .fn _ c => bares c
  | _ => true
def bares : List D → Bool
  | [] => true
  | d :: ds => d.bare && bares ds
end
mutual
theorem D.bare_ren {f : Nat → Nat} : ∀ {d : D}, d.bare = true → d.ren f = d
  | .v _, _ => rfl
  | .st T ds, h => by simp only [D.ren, bares_ren (ds := ds) (by simpa [D.bare] using h)]
  | .tup ds, h => by simp only [D.ren, bares_ren (ds := ds) (by simpa [D.bare] using h)]
  | .ptr .., h => by simp [D.bare] at h
  | .fptr .., _ => rfl
  | .lst .., _ => rfl
  | .own .., h => by simp [D.bare] at h
  | .fn g c, h => by simp only [D.ren, bares_ren (ds := c) (by simpa [D.bare] using h)]
  | .undef, _ => rfl
theorem bares_ren {f : Nat → Nat} : ∀ {ds : List D}, bares ds = true → rens f ds = ds
  | [], _ => rfl
  | d :: ds, h => by
    simp [bares] at h
    simp only [rens, D.bare_ren h.1, bares_ren h.2]
end
mutual
theorem D.bare_lt {n : Nat} : ∀ {d : D}, d.bare = true → d.ltN n = true
  | .v _, _ => rfl
  | .st T ds, h => by simp only [D.ltN]; exact bares_lt (by simpa [D.bare] using h)
  | .tup ds, h => by simp only [D.ltN]; exact bares_lt (by simpa [D.bare] using h)
  | .ptr .., h => by simp [D.bare] at h
  | .fptr .., _ => rfl
  | .lst .., _ => rfl
  | .own .., h => by simp [D.bare] at h
  | .fn g c, h => by simp only [D.ltN]; exact bares_lt (by simpa [D.bare] using h)
  | .undef, _ => rfl
theorem bares_lt {n : Nat} : ∀ {ds : List D}, bares ds = true → ltNs n ds = true
  | [], _ => rfl
  | d :: ds, h => by
    simp [bares] at h
    simp [ltNs, D.bare_lt h.1, bares_lt h.2]
end
theorem bares_map {α : Type} {f : α → D} (h : ∀ x, (f x).bare = true) : ∀ (l : List α), bares (l.map f) = true
  | [] => rfl
  | x :: l => by simp [bares, h x, bares_map h l]

section
variable {P : Program} {Q : Exit → St → Prop} {s : St}

/-- An empty slice without room, held as an array of one's own that has no elements. -/
theorem SR.adopt {G : Gh} {a : Act} {w : World} {t : Nat} {k : Bool} {E E' : TypeId} (h : SR G s a w) (ht : getT t s.tm = some (.lst k true E' [])) (hE : 0 < G.P.cellsOf E) :
    SR G ⟨s.n, (t, .own s.nx 0 0) :: s.tm, (s.nx, .arr E []) :: s.σ, s.nx + 1⟩ a w := by
  obtain ⟨N, ι, h1, h2⟩ := h
  have hv := h2.get t _ ht
  have hob : ObjR (G.cx N ι) w (.arr E []) ⟨none, 0, 0, E, true⟩ := ⟨rfl, rfl, hE, rfl, rfl⟩
  obtain ⟨q1, q2⟩ := h1.new w (.arr E []) ⟨none, 0, 0, E, true⟩ (.inl ⟨rfl, rfl⟩) hob
  refine ⟨N, _, q1, h2.size, h2.defers, fun u d hd => ?_⟩
  simp only [getT] at hd
  by_cases hu : t = u
  · subst hu
    rw [if_pos rfl] at hd
    cases hd
    have hv : FR (G.cx N ι) (.lst k true E' []) [a.tmps.getD t undef] := hv
    generalize a.tmps.getD t undef = v at hv
    cases hv with
    | lst0 A cap hx =>
      have := hx rfl
      subst this
      exact FR.own ⟨none, 0, 0, E, true⟩ A 0 (by simp [withLoc]) rfl (Nat.le_refl _) rfl (fun h => absurd h (Nat.lt_irrefl _))
    | lst b o cap ccs E' fr cs hne => exact absurd rfl hne
  · rw [if_neg hu] at hd
    exact (h2.get u d hd).mono q2

theorem Awp.adopt {c : Code} {t : Nat} {k : Bool} {E E' : TypeId} (ht : getT t s.tm = some (.lst k true E' [])) (hE : 0 < P.cellsOf E)
    (h : Awp P c Q ⟨s.n, (t, .own s.nx 0 0) :: s.tm, (s.nx, .arr E []) :: s.σ, s.nx + 1⟩) : Awp P c Q s :=
  fun lay hm G hG a w hs => h lay hm G hG a w (hs.adopt ht (by rw [hG]; exact hE))
end
end Go.Apl

/- APL, part 28: room asked for, functions of the run-time's, calls of function values, calls that are passed over. Over any program. -/
namespace Go.Apl
open Go
open Go.RowKit (Below)
set_option linter.unusedSimpArgs false
set_option linter.unusedVariables false

section
variable {P : Program} {Q : Exit → St → Prop} {s : St} {gs : List (Option Tmp)} {K : St → Prop} {fr : Fr} {rest : List Sop} {f : FuncId} {args : Array Operand} {ats : Array TypeId}

/-- 'cap' of an array of one's own: some room, which is known from now on. -/
theorem RL.capC {dst : Option Tmp} {x : Operand} {T : TypeId} (h : ∃ id off len E ds, s.ev1 x = .own id off len ∧ getT id s.σ = some (.arr E ds) ∧ off + len = ds.length ∧ (∃ E', P.underlying T = some (.slice E')) ∧ (freeF gs dst fr = true ∧ dstOk s dst) ∧
    ∀ c : Nat, ds.length ≤ c → runL P gs K rest (s.put dst (.v (.int .i64 ((c : Int) - off))) (setT id (.full E ds c) s.σ) s.nx) fr) :
    RL P gs (⟨dst, .call ⟨.builtin .cap, #[x], #[T]⟩, none⟩ :: rest) s fr K := by
  obtain ⟨id, off, len, E, ds, hx, hg, hlen, ⟨E', hu⟩, hd, hK⟩ := h
  intro ops l Q hgs hll hKQ lay hm G hG a w N ι h1 h2 h3
  cases l with
  | nil => simp at hll
  | cons o l =>
    simp only [List.map_cons, List.cons.injEq] at hll
    obtain ⟨ho, rfl⟩ := hll
    obtain ⟨e1, e2, e3⟩ := slim_op ho
    simp only at e1 e2 e3
    simp only [wpList]
    rw [if_pos (by simp [Region.wanted, e3])]
    refine .inl ?_
    subst hG
    have hv := ev1_ok h2 x
    rw [hx] at hv
    obtain ⟨lc, hl, hob⟩ := h1.obj id _ hg
    have hob' : ArrR (G.cx N ι) w E ds lc := hob
    generalize hvx : a.eval x = vx at hv
    cases hv with
    | own l' A cap hi ha hle hcap hA =>
      have : l' = lc := Option.some.inj (hi.symm.trans hl)
      subst this
      have hrun : (execOp a.eval o).run G.P w = .ok (.value (.int .i64 cap)) w := by
        have := run_cap_slice (P := G.P) w T o.type A len cap (by rw [hu]; simp [Program.elem, hu])
        simp only [execOp, e2, resolve, invoke, builtin, List.map_toArray, List.map_cons, List.map_nil, hvx, Sem.run_bind, Sem.run_pure, Result.andThen_ok, this]
        rfl
      have hcc : ((l'.cap : Nat) : Int) - (off : Int) = (cap : Int) := by omega
      have hagain := h1.again hg hi (o' := .full E ds l'.cap) ⟨hob', rfl⟩
      have hgo := hK l'.cap hob'.room
      rw [hcc] at hgo
      unfold Oper.wp
      rw [hrun]
      refine RL.run hgo ops l Q hgs rfl hKQ lay hm G rfl _ _ N ι (by rw [St.over_put_σ (ov := []).1, (St.over_put_σ (ov := [])).2]; exact hagain) (e1 ▸ h2.put (Cx.le.refl _) dst (VR.of1 (C := G.cx N ι) (d := .v (.int .i64 cap)) (FR.v rfl)) hd.2 _ _) (h3.put hgs (by rw [e1]; exact hd.1))

/-- What a function of the run-time's answers; nothing is changed. -/
def ExtH (P : Program) (f : FuncId) (σ : Sg) (nx : Nat) (args : List D) (r : D) : Prop :=
  LayOK P → ∀ (G : Gh) (w : World) (N : Hp) (ι : Nat → Option Loc) (vals : List Value), G.P = P → HR G w N ι σ nx → VRs (G.cx N ι) args vals → ∃ v, (callFunc f vals.toArray).run P w = .ok (.value v) w ∧ VR (G.cx N ι) r v

theorem run_fnOp {P : Program} {f : FuncId} {args : List Operand} {ats : Array TypeId} {o : Oper} (hop : o.op = .call ⟨.value (.func f), args.toArray, ats⟩) (a : Act) (w : World) : (execOp a.eval o).run P w = (callFunc f (args.map a.eval).toArray).run P w := by
  obtain ⟨dst', op', type, pos, after, guard'⟩ := o
  simp only at hop
  subst hop
  rw [execOp_call_go]
  congr 2
  simp

theorem RL.ext {dst : Option Tmp} (h : ∃ r, ExtH P f s.σ s.nx (args.toList.map s.ev1) r ∧ (freeF gs dst fr = true ∧ dstOk s dst) ∧ runL P gs K rest (s.put dst r s.σ s.nx) fr) :
    RL P gs (⟨dst, .call ⟨.value (.func f), args, ats⟩, none⟩ :: rest) s fr K := by
  obtain ⟨r, hx, hd, hK⟩ := h
  intro ops l Q hgs hll hKQ lay hm G hG a w N ι h1 h2 h3
  cases l with
  | nil => simp at hll
  | cons o l =>
    simp only [List.map_cons, List.cons.injEq] at hll
    obtain ⟨ho, rfl⟩ := hll
    obtain ⟨e1, e2, e3⟩ := slim_op ho
    simp only at e1 e2 e3
    simp only [wpList]
    rw [if_pos (by simp [Region.wanted, e3])]
    refine .inl ?_
    subst hG
    obtain ⟨v, q1, q2⟩ := hx lay G w N ι _ rfl h1 (evs_ok h2 args.toList)
    have hrun : (execOp a.eval o).run G.P w = .ok (.value v) w := by
      rw [run_fnOp (args := args.toList) (by simpa using e2), q1]
    unfold Oper.wp
    rw [hrun]
    exact RL.run hK ops l Q hgs rfl hKQ lay hm G rfl _ _ N ι (by rw [St.over_put_σ (ov := []).1, (St.over_put_σ (ov := [])).2]; exact h1) (e1 ▸ h2.put (Cx.le.refl _) dst q2 hd.2 _ _) (h3.put hgs (by rw [e1]; exact hd.1))

/-- slices.overlaps at two arrays of one's own. -/
theorem ExtH.overlaps {fn : Func} {e : Array Value → Sem Value} {σ : Sg} {nx : Nat} {T tR E : TypeId} (hf : P.funcs[f]? = some fn) (hname : (fn.name == "runtime.NumGoroutine") = false) (hb : fn.body.isNone = true) (hn : Extern.findNext fn = none)
    (he : Extern.find fn = some e) (hee : e = Extern.SlicesOverlaps.overlaps #[T, T] #[tR]) (hT : P.underlying T = some (.slice E)) (hE : (P.underlying E).isSome = true) {i j o1 o2 n1 n2 : Nat} (hij : i ≠ j) (hi : (rowOf σ i).isSome = true) (hj : (rowOf σ j).isSome = true) (hn1 : 0 < n1) (hn2 : 0 < n2) :
    ExtH P f σ nx [.own i o1 n1, .own j o2 n2] (.v (.bool false)) := by
  subst hee
  intro lay G w N ι vals hG h hv
  subst hG
  refine ⟨.bool false, ?_, VR.of1 (d := .v (.bool false)) (FR.v rfl)⟩
  rw [run_callFunc_extern hf hname hb hn he]
  obtain ⟨u, hu⟩ := Option.isSome_iff_exists.1 hE
  cases hv with
  | cons hd1 hs =>
    cases hs with
    | cons hd2 hs =>
      cases hs
      cases hd1 with
      | own l1 A1 c1 hi1 ha1 hl1 hc1 hA1 =>
        cases hd2 with
        | own l2 A2 c2 hi2 ha2 hl2 hc2 hA2 =>
          have key : (Extern.SlicesOverlaps.overlaps #[T, T] #[tR] #[.slice A1 n1 c1, .slice A2 n2 c2]).run G.P w = .ok (.bool false) w := by
            obtain ⟨b1, hb1, e1⟩ := hA1 (by omega)
            obtain ⟨b2, hb2, e2⟩ := hA2 (by omega)
            cases e1; cases e2
            obtain ⟨⟨E1, ds1, r1, k1⟩, hr1⟩ := Option.isSome_iff_exists.1 hi
            obtain ⟨⟨E2, ds2, r2, k2⟩, hr2⟩ := Option.isSome_iff_exists.1 hj
            obtain ⟨g1, l1', hl1', har1, _, _, _⟩ := rowOf_ok h hr1
            obtain ⟨g2, l2', hl2', har2, _, _, _⟩ := rowOf_ok h hr2
            have : l1' = l1 := Option.some.inj (hl1'.symm.trans hi1)
            subst this
            have : l2' = l2 := Option.some.inj (hl2'.symm.trans hi2)
            subst this
            have hne : b1 ≠ b2 := fun e => hij (h.sep i j _ _ l1' l2' b1 g1 g2 hi1 hi2 hb1 (e ▸ hb2))
            obtain ⟨_, _, p1, q1⟩ := har1
            obtain ⟨_, _, p2, q2⟩ := har2
            rw [hb1] at q1
            rw [hb2] at q2
            obtain ⟨cs1, X1, w1, z1, m1, _⟩ := q1
            obtain ⟨cs2, X2, w2, z2, m2, _⟩ := q2
            have hcap2 : 0 < l2'.cap * (G.cx N ι).P.cellsOf E2 := Nat.mul_pos (by omega) p2
            refine Lib.run_overlaps_apart w T tR E hT (G.P.cellsOf E) (run_sizeOf' hu) _ _ n1 c1 n2 c2 hne X1 X2 cs1.size cs2.size (by simp [World.shape?, w1]) (by simp [World.shape?, w2]) (by omega) (by simp [World.frozen?, w1]) (by simp [World.frozen?, w1])
          simp only [key, Result.andThen_ok]

/-- internal/bytealg.abigen_runtime_cmpstring. -/
theorem ExtH.compare {fn : Func} {e : Array Value → Sem Value} {σ : Sg} {nx : Nat} (hf : P.funcs[f]? = some fn) (hname : (fn.name == "runtime.NumGoroutine") = false) (hb : fn.body.isNone = true) (hn : Extern.findNext fn = none)
    (he : Extern.find fn = some e) (hee : e = Extern.BytealgCompare.compare) (a b : ByteArray) : ExtH P f σ nx [.v (.string a), .v (.string b)] (.v (.int .i64 (Lib.compareBytes a.data.toList b.data.toList))) := by
  subst hee
  intro lay G w N ι vals hG h hv
  refine ⟨_, ?_, VR.of1 (d := .v (.int .i64 _)) (FR.v rfl)⟩
  rw [run_callFunc_extern hf hname hb hn he]
  cases hv with
  | cons hd1 hs =>
    cases hs with
    | cons hd2 hs =>
      cases hs
      cases hd1
      cases hd2
      rw [show ([Value.string a, Value.string b].toArray) = #[.string a, .string b] from rfl, Lib.run_compareString]
      rfl

/-- Room is no longer known. -/
theorem SR.close {G : Gh} {a : Act} {w : World} {id : Nat} {E : TypeId} {ds : List D} {c : Nat} (h : SR G s a w) (hg : getT id s.σ = some (.full E ds c)) : SR G ⟨s.n, s.tm, setT id (.arr E ds) s.σ, s.nx⟩ a w := by
  obtain ⟨N, ι, h1, h2⟩ := h
  obtain ⟨l, hl, ho⟩ := h1.obj id _ hg
  exact ⟨N, ι, h1.again hg hl ho.1, h2.size, h2.defers, fun t d hd => h2.get t d hd⟩
theorem Awp.close {c : Code} {id : Nat} {E : TypeId} {ds : List D} {room : Nat} (hg : getT id s.σ = some (.full E ds room)) (h : Awp P c Q ⟨s.n, s.tm, setT id (.arr E ds) s.σ, s.nx⟩) : Awp P c Q s :=
  fun lay hm G hG a w hs => h lay hm G hG a w (hs.close hg)

/-! ### Calls of function values -/
def capsOk : List D → Bool
  | [] => true
  | d :: ds => (match d with | .st .. | .tup .. => false | _ => true) && capsOk ds
theorem caps_VRs {C : Cx} : ∀ {ds : List D} {vs : List Value}, FR1 C ds vs → capsOk ds = true → VRs C ds vs
  | _, _, .nil, _ => .nil
  | _, _, .cons (d := d) hd hs, h => by
    simp only [capsOk, Bool.and_eq_true] at h
    refine .cons ?_ (caps_VRs hs h.2)
    cases d <;> simp at h <;> first | exact hd | trivial

theorem VRs.append {C : Cx} {ds es : List D} {vs us : List Value} (h : VRs C ds vs) (h' : VRs C es us) : VRs C (ds ++ es) (vs ++ us) := by
  induction h with
  | nil => exact h'
  | cons hd _ ih => exact .cons hd ih

/-- What a call's operation calls, with what. -/
def Doth (P : Program) (s : St) (op : Op) (f : FuncId) (ds : List D) : Prop :=
  ∀ (C : Cx) (a : Act) (o : Oper), FrR C s a → o.op = op → ∃ vals, VRs C ds vals ∧ ∀ w, (execOp a.eval o).run P w = (callFunc f vals.toArray).run P w

theorem Doth.fn {args : List Operand} : Doth P s (.call ⟨.value (.func f), args.toArray, ats⟩) f (args.map s.ev1) :=
  fun C a o hf hop => ⟨args.map a.eval, evs_ok hf args, fun w => run_fnOp hop a w⟩
theorem Doth.tmp {args : List Operand} {t : Tmp} {caps : List D} (ht : s.ev1 (.tmp t) = .fn f caps) (hc : capsOk caps = true) : Doth P s (.call ⟨.value (.tmp t), args.toArray, ats⟩) f (args.map s.ev1 ++ caps) := by
  intro C a o hf hop
  have hv := ev1_ok hf (.tmp t)
  rw [ht] at hv
  generalize hvt : a.eval (.tmp t) = v at hv
  cases hv with
  | fn vs hs =>
    refine ⟨args.map a.eval ++ vs, (evs_ok hf args).append (caps_VRs hs hc), fun w => ?_⟩
    obtain ⟨dst', op', type, pos, after, guard'⟩ := o
    simp only at hop
    subst hop
    simp only [execOp, resolve, hvt, Deferred.ofValue, Sem.run_bind, Sem.run_pure, Result.andThen_ok, invoke]
    congr 2
    simp

theorem run_dothCall {w : World} {G : Gh} {a : Act} {o : Oper} {op : Op} {ds dargs : List D} {r : D} (hdo : Doth G.P s op f ds) (hop : o.op = op) (hc : PureF G.P f dargs r) (lay : LayOK G.P) (hm : G.P.follows .mixedOrders = true)
    {N : Hp} {ι : Nat → Option Loc} (h1 : HR G w N ι s.σ s.nx) (h2 : FrR (G.cx N ι) s a) (hargs : mapO (vw 9 s.σ) ds = some dargs) (hfr : r.fresh = true)
    {K : Act → World → Prop} (hK : ∀ v w' N', HR G w' N' ι s.σ s.nx → Cx.le (G.cx N ι) (G.cx N' ι) → VR (G.cx N' ι) r v → K (a.put o.dst v) w') {Q0 : Exit → Act → World → Prop} : o.wp G.P a w K Q0 := by
  obtain ⟨vals, hvs, hex⟩ := hdo _ a o h2 hop
  have hv := vws_ok h1 hvs hargs
  have hcall := hc.run lay hm w (hpOf w) vals (Hp.le_refl _) hv
  unfold Oper.wp
  rw [hex, run_callFunc hc.go]
  simp only [Oper.upon]
  refine hcall.mono fun e w' ⟨v, he, hb, hvr⟩ => ?_
  subst he
  obtain ⟨q1, q2⟩ := h1.call hb
  refine hK v w' _ q1 q2 (hvr.bring hfr rfl ?_)
  intro b x hx
  simp only [Gh.cx, Hp.or]
  cases hN : N b with
  | none => simpa using hx
  | some y =>
    have h3 := hpOf_lt (h1.N_le _ _ hN)
    simp [newHp] at hx
    omega

theorem RL.callF' {dst : Option Tmp} {op : Op} {ds dargs : List D} {r : D} (hdo : Doth P s op f ds) (hc : PureF P f dargs r) (hargs : mapO (vw 9 s.σ) ds = some dargs) (hfr : r.fresh = true) (hd : freeF gs dst fr = true ∧ dstOk s dst)
    (hK : runL P gs K rest (s.put dst r s.σ s.nx) fr) : RL P gs (⟨dst, op, none⟩ :: rest) s fr K := by
  intro ops l Q hgs hl hKQ lay hm G hG a w N ι h1 h2 h3
  cases l with
  | nil => simp at hl
  | cons o l =>
    simp only [List.map_cons, List.cons.injEq] at hl
    obtain ⟨ho, rfl⟩ := hl
    obtain ⟨e1, e2, e3⟩ := slim_op ho
    simp only at e1 e2 e3
    simp only [wpList]
    rw [if_pos (by simp [Region.wanted, e3])]
    refine .inl ?_
    subst hG
    subst e1
    exact run_dothCall hdo e2 hc lay hm h1 h2 hargs hfr fun v w' N' q1 q2 q3 =>
      RL.run hK ops l Q hgs rfl hKQ lay hm G rfl _ _ N' ι (by rw [St.over_put_σ (ov := []).1, (St.over_put_σ (ov := [])).2]; exact q1) (h2.put q2 o.dst q3 hd.2 s.σ s.nx) ((h3.mono q2).put hgs hd.1)

/-- A call of a function value. -/
theorem RL.cT {dst : Option Tmp} {t : Tmp} (h : ∃ f caps, s.ev1 (.tmp t) = .fn f caps ∧ capsOk caps = true ∧ ∃ dargs, mapO (vw 9 s.σ) (args.toList.map s.ev1 ++ caps) = some dargs ∧ (freeF gs dst fr = true ∧ dstOk s dst) ∧ ∃ r, PureF P f dargs r ∧ r.fresh = true ∧ runL P gs K rest (s.put dst r s.σ s.nx) fr) :
    RL P gs (⟨dst, .call ⟨.value (.tmp t), args, ats⟩, none⟩ :: rest) s fr K := by
  obtain ⟨f, caps, ht, hco, da, h1, h2, r, h3, h4, h5⟩ := h
  have := RL.callF' (op := .call ⟨.value (.tmp t), args.toList.toArray, ats⟩) (Doth.tmp ht hco) h3 h1 h4 h2 h5
  simpa using this

/-- An operation under a guard that does not hold. -/
theorem RL.skipG {dst : Option Tmp} {op : Op} {j : Nat} {want : Bool} (h : s.gd gs j = some (!want) ∧ freeF gs dst fr = true ∧ dstOk s dst ∧ runL P gs K rest (s.put dst .undef s.σ s.nx) fr) :
    RL P gs (⟨dst, op, some (j, want)⟩ :: rest) s fr K := by
  obtain ⟨hgd, hfree, hd, hK⟩ := h
  intro ops l Q hgs hl hKQ lay hm G hG a w N ι h1 h2 h3
  cases l with
  | nil => simp at hl
  | cons o l =>
    simp only [List.map_cons, List.cons.injEq] at hl
    obtain ⟨ho, rfl⟩ := hl
    obtain ⟨e1, e2, e3⟩ := slim_op ho
    simp only at e1 e2 e3
    have hy := gd_ok h2 hgs hgd
    have hw : ¬ Region.wanted o (yielded ops a.tmps) = true := by simp [Region.wanted, e3, hy]
    simp only [wpList]
    rw [if_neg hw]
    subst e1
    exact RL.run hK ops l Q hgs rfl hKQ lay hm G hG _ _ N ι (by rw [St.over_put_σ (ov := []).1, (St.over_put_σ (ov := [])).2]; exact h1) (h2.put (Cx.le.refl _) o.dst (VR.undef _ _) hd _ _) (h3.put hgs hfree)

/-- .. and one whose guard holds: as without it. -/
theorem RL.holdG {dst : Option Tmp} {op : Op} {j : Nat} {want : Bool} (h : s.gd gs j = some want ∧ (∀ t, dst = some t → gs[j]? ≠ some (some t)) ∧ RL P gs (⟨dst, op, none⟩ :: rest) (s.over (getF j want fr)) fr K) :
    RL P gs (⟨dst, op, some (j, want)⟩ :: rest) s fr K := by
  obtain ⟨hgd, hne, hK⟩ := h
  intro ops l Q hgs hl hKQ lay hm G hG a w N ι h1 h2 h3
  cases l with
  | nil => simp at hl
  | cons o l =>
    simp only [List.map_cons, List.cons.injEq] at hl
    obtain ⟨ho, rfl⟩ := hl
    obtain ⟨e1, e2, e3⟩ := slim_op ho
    simp only at e1 e2 e3
    have hy := gd_ok h2 hgs hgd
    have hw : Region.wanted o (yielded ops a.tmps) = true := by simp [Region.wanted, e3, hy]
    have hK' := hK ops ({ o with guard := none } :: l) Q hgs (by simp [slim, e1, e2]) hKQ lay hm G hG a w N ι h1 (h2.over (getF_ok h3 hy)) h3
    simp only [wpList] at hK' ⊢
    rw [if_pos hw]
    rw [if_pos (by simp [Region.wanted])] at hK'
    rcases hK' with h | h
    · exact .inl (by cases o; exact h)
    · exact .inr (by cases o; exact h)

/-! ### Quiet operations of a region that draws -/
section
variable {A : List (List Nat)} {i : Nat} {rd cg : Rd}

/-- One quiet operation, by what it does at any store. -/
theorem DL.quietOp {so : Sop} {op : Op} {dst : Option Tmp} {r : D} {nd : List (Nat × D)} (hnd : ∀ t d, getT t nd = some d → t ∈ tms op ∧ getT t s.tm = some d)
    (hsem : ∀ (o : Oper), o.op = op → ∀ σ nx, SemStep P o nd (fun _ => True) σ nx r σ nx) (hd : dstOk s dst) (hq : quiet A gs.length i = true)
    (hK : runD P gs A K rest (i + 1) (s.put dst r s.σ s.nx) fr rd cg) : DL P gs A K (⟨dst, op, none⟩ :: rest) i s fr rd cg := by
  intro ops l tm0 sz T hgs ok hl hn hsl link
  cases l with
  | nil => simp at hsl
  | cons o l =>
    simp only [List.map_cons, List.cons.injEq] at hsl
    obtain ⟨hso, rfl⟩ := hsl
    obtain ⟨e1, e2, e3⟩ := slim_op hso
    simp only at e1 e2 e3
    have ho : ops[i]? = some o := by simpa using (hl 0).symm
    have hl' : ∀ k, l[k]? = ops[i + 1 + k]? := fun k => by have := hl (k + 1); simpa [Nat.add_assoc, Nat.add_comm 1 k] using this
    have hn' : i + 1 + l.length = ops.size := by simp at hn; omega
    have hgl : gs.length = ops.size := by rw [← hgs]; simp
    rw [hgl] at hq
    have hne : isEffQ A ops.size i o.op = false := by simp only [isEffQ, hq]; simp
    have hlk := DLink.step (cd := fun _ => True) (c := True) (b := r) (r := r) (gb := true) (R := []) (σ := s.σ) (nx := s.nx) (fr' := fr) (rd' := rd) (cg' := cg) hgs ok link ho (nd := nd)
      (fun _ => trivial) (fun j w hgd => by rw [e3] at hgd; cases hgd)
      (fun t d hd => ⟨by rw [e2]; exact (hnd t d hd).1, (link.tm t d (hnd t d hd).2).mono (fun _ _ => ⟨rfl, rfl⟩) fun _ => trivial⟩)
      (fun he => by rw [hne] at he; cases he) (fun he => by rw [hne] at he; cases he)
      (fun _ _ σ nx _ => hsem o e2 σ nx) (fun _ => ⟨rfl, rfl⟩) (by rw [e1]; exact hd) (.inr ⟨rfl, trivial⟩) (fun j w ov hm => .inl hm)
      (fun _ => ⟨farR_nil cg, .inl rfl⟩) (fun x hx => hx) (fun he => by rw [hne] at he; cases he) (fun x hx => hx)
    rw [← e1] at hK
    have := DL.of_run hK ops l tm0 sz _ hgs ok hl' hn' rfl hlk
    simpa [Tr.ext] using this

/-- One quiet operation that looks at some objects. -/
theorem DL.quietR {so : Sop} {op : Op} {dst : Option Tmp} {r : D} {nd : List (Nat × D)} {R : List Nat} (hnd : ∀ t d, getT t nd = some d → t ∈ tms op ∧ getT t s.tm = some d)
    (hsem : ∀ (o : Oper), o.op = op → ∀ σ nx, (∀ id ∈ R, getT id σ = getT id s.σ) → SemStep P o nd (fun _ => True) σ nx r σ nx) (hfar : farR A i R cg = true) (hd : dstOk s dst) (hq : quiet A gs.length i = true)
    (hK : runD P gs A K rest (i + 1) (s.put dst r s.σ s.nx) fr (addR i R rd) cg) : DL P gs A K (⟨dst, op, none⟩ :: rest) i s fr rd cg := by
  intro ops l tm0 sz T hgs ok hl hn hsl link
  cases l with
  | nil => simp at hsl
  | cons o l =>
    simp only [List.map_cons, List.cons.injEq] at hsl
    obtain ⟨hso, rfl⟩ := hsl
    obtain ⟨e1, e2, e3⟩ := slim_op hso
    simp only at e1 e2 e3
    have ho : ops[i]? = some o := by simpa using (hl 0).symm
    have hl' : ∀ k, l[k]? = ops[i + 1 + k]? := fun k => by have := hl (k + 1); simpa [Nat.add_assoc, Nat.add_comm 1 k] using this
    have hn' : i + 1 + l.length = ops.size := by simp at hn; omega
    have hgl : gs.length = ops.size := by rw [← hgs]; simp
    rw [hgl] at hq
    have hne : isEffQ A ops.size i o.op = false := by simp only [isEffQ, hq]; simp
    have hlk := DLink.step (cd := fun _ => True) (c := True) (b := r) (r := r) (gb := true) (R := R) (σ := s.σ) (nx := s.nx) (fr' := fr) (rd' := addR i R rd) (cg' := cg) hgs ok link ho (nd := nd)
      (fun _ => trivial) (fun j w hgd => by rw [e3] at hgd; cases hgd)
      (fun t d hd => ⟨by rw [e2]; exact (hnd t d hd).1, (link.tm t d (hnd t d hd).2).mono (fun _ _ => ⟨rfl, rfl⟩) fun _ => trivial⟩)
      (fun he => by rw [hne] at he; cases he) (fun he => by rw [hne] at he; cases he)
      (fun _ _ σ nx hag => hsem o e2 σ nx hag) (fun _ => ⟨rfl, rfl⟩) (by rw [e1]; exact hd) (.inr ⟨rfl, trivial⟩) (fun j w ov hm => .inl hm)
      (fun _ => ⟨hfar, mem_addR.2⟩) (mem_addR.1) (fun he => by rw [hne] at he; cases he) (fun x hx => hx)
    rw [← e1] at hK
    have := DL.of_run hK ops l tm0 sz _ hgs ok hl' hn' rfl hlk
    simpa [Tr.ext] using this


/-- A quiet call that looks at the objects of R. -/
theorem DL.cR (R : List Nat) {dst : Option Tmp} (h : ∃ dargs, (∀ σ, (∀ id ∈ R, getT id σ = getT id s.σ) → mapO (vw 9 σ) (args.toList.map (s.keep (opsT args.toList)).ev1) = some dargs) ∧ farR A i R cg = true ∧ dstOk s dst ∧ quiet A gs.length i = true ∧ ∃ r, PureF P f dargs r ∧ r.fresh = true ∧ runD P gs A K rest (i + 1) (s.put dst r s.σ s.nx) fr (addR i R rd) cg) :
    DL P gs A K (⟨dst, .call ⟨.value (.func f), args, ats⟩, none⟩ :: rest) i s fr rd cg := by
  obtain ⟨dargs, hargs, hfar, hd, hq, r, hc, hfr, hK⟩ := h
  refine DL.quietR (so := ⟨dst, .call ⟨.value (.func f), args, ats⟩, none⟩) (nd := (s.keep (opsT args.toList)).tm) (fun t d hd => ⟨?_, (getT_keepT hd).2⟩) (fun o hop σ nx hag => ?_) hfar hd hq hK
  · have := (getT_keepT hd).1
    simpa [tms, opT] using this
  · have hev : ∀ x, (St.mk s.n (s.keep (opsT args.toList)).tm σ nx).ev1 x = (s.keep (opsT args.toList)).ev1 x := fun x => by cases x <;> rfl
    refine SemStep.call (n := s.n) (args := args.toList) (fun _ _ _ => trivial) hc (by simpa using hop) ?_ hfr
    rw [show (St.mk s.n (s.keep (opsT args.toList)).tm σ nx).ev1 = (s.keep (opsT args.toList)).ev1 from funext hev]
    exact hargs σ hag

/-- All names are among some. -/
def subN (l : List Nat) : Sg → Bool
  | [] => true
  | (i, _) :: t => l.contains i && subN l t
theorem subN_mem {l : List Nat} {x : Nat × AO} : ∀ {t : Sg}, subN l t = true → x ∈ t → x.1 ∈ l
  | (i, o) :: t, h, hm => by
    simp only [subN, Bool.and_eq_true] at h
    rcases List.mem_cons.1 hm with rfl | hm
    · simpa using h.1
    · exact subN_mem h.2 hm
/-- Some names lead to the same. -/
def sameAt : List Nat → Sg → Sg → Prop
  | [], _, _ => True
  | a :: l, σ, σ' => getT a σ = getT a σ' ∧ sameAt l σ σ'
theorem sameAt_get {σ σ' : Sg} {id : Nat} : ∀ {l : List Nat}, sameAt l σ σ' → id ∈ l → getT id σ = getT id σ'
  | a :: l, h, hm => by
    rcases List.mem_cons.1 hm with rfl | hm
    · exact h.1
    · exact sameAt_get h.2 hm

/-- A call of a function that gets objects and leaves them as they are. -/
theorem DL.cMR {dst : Option Tmp} (y : Bool) (fi : List (Nat × Nat)) (h : ∃ σ1, handS y fi s.σ fi = some σ1 ∧ ∃ dargs, cns y fi (args.toList.map (s.keep (opsT args.toList)).ev1) = some dargs ∧ dstOk s dst ∧ quiet A gs.length i = false ∧
    ∃ nx1 σ2 nx2 kp r, MutF P f σ1 nx1 dargs σ2 nx2 kp r ∧ fiOK fi nx1 kp = true ∧ subN (fi.map (·.1)) (renSg y (f2 fi s.nx kp) σ2) = true ∧ sameAt (fi.map (·.1)) (renSg y (f2 fi s.nx kp) σ2 ++ delTs fi s.σ) s.σ ∧
      runD P gs A K rest (i + 1) (s.put dst ((r.ren (f2 fi s.nx kp)).yg y) (renSg y (f2 fi s.nx kp) σ2 ++ delTs fi s.σ) (s.nx + nx2)) fr rd cg) :
    DL P gs A K (⟨dst, .call ⟨.value (.func f), args, ats⟩, none⟩ :: rest) i s fr rd cg := by
  obtain ⟨σ1, hs, dargs, hargs, hd, hq, nx1, σ2, nx2, kp, r, hc, hok, hsub, hsame, hK⟩ := h
  intro ops l tm0 sz T hgs ok hl hn hsl link
  cases l with
  | nil => simp at hsl
  | cons o l =>
    simp only [List.map_cons, List.cons.injEq] at hsl
    obtain ⟨hso, rfl⟩ := hsl
    obtain ⟨e1, e2, e3⟩ := slim_op hso
    simp only at e1 e2 e3
    have ho : ops[i]? = some o := by simpa using (hl 0).symm
    have hl' : ∀ k, l[k]? = ops[i + 1 + k]? := fun k => by have := hl (k + 1); simpa [Nat.add_assoc, Nat.add_comm 1 k] using this
    have hn' : i + 1 + l.length = ops.size := by simp at hn; omega
    have hgl : gs.length = ops.size := by rw [← hgs]; simp
    rw [hgl] at hq
    have hne : isEffQ A ops.size i o.op = true := by rw [e2]; simp only [isEffQ, hq]; rfl
    have htm : tms o.op = opsT args.toList := by rw [e2]; simp [tms, opT]
    have e2' : o.op = .call ⟨.value (.func f), args.toList.toArray, ats⟩ := by simpa using e2
    have hsem : SemStep P o (s.keep (opsT args.toList)).tm (fun _ => True) s.σ s.nx ((r.ren (f2 fi s.nx kp)).yg y) (renSg y (f2 fi s.nx kp) σ2 ++ delTs fi s.σ) (s.nx + nx2) := by
      intro lay hm G hG a w N ι hr hdef hv K0 Q0 hK0
      subst hG
      have hf : FrR (G.cx N ι) ⟨a.tmps.size, (s.keep (opsT args.toList)).tm, s.σ, s.nx⟩ a := ⟨rfl, hdef, fun t d hd => hv t d hd trivial⟩
      exact run_goCallM (s := ⟨a.tmps.size, (s.keep (opsT args.toList)).tm, s.σ, s.nx⟩) hc lay hm e2' hr hf hok hs hargs hK0
    have hlk := DLink.step (cd := fun _ => True) (c := True) (b := (r.ren (f2 fi s.nx kp)).yg y) (r := (r.ren (f2 fi s.nx kp)).yg y) (gb := true) (R := []) (σ := renSg y (f2 fi s.nx kp) σ2 ++ delTs fi s.σ) (nx := s.nx + nx2) (fr' := fr) (rd' := rd) (cg' := cg) hgs ok link ho (nd := (s.keep (opsT args.toList)).tm)
      (fun _ => trivial) (fun j w hgd => by rw [e3] at hgd; cases hgd)
      (fun t d hd => ⟨by rw [htm]; exact (getT_keepT hd).1, (link.tm t d (getT_keepT hd).2).mono (fun _ _ => ⟨rfl, rfl⟩) fun _ => trivial⟩)
      (fun _ _ => hsem) (fun _ hc => absurd trivial hc)
      (fun he => by rw [hne] at he; cases he) (fun he => by rw [hne] at he; cases he) (by rw [e1]; exact hd) (.inr ⟨rfl, trivial⟩) (fun j w ov hm => .inl hm)
      (fun he => by rw [hne] at he; cases he) (fun x hx => hx) (fun _ => .inl fun id => by
        by_cases hid : id ∈ fi.map (·.1)
        · exact sameAt_get hsame hid
        · have h1 : id ∉ (renSg y (f2 fi s.nx kp) σ2).map (·.1) := fun hm => by
            obtain ⟨x, hx, rfl⟩ := List.mem_map.1 hm
            exact hid (subN_mem hsub hx)
          rw [getT_append, getT_fst h1]
          exact delTs_ne hid) (fun x hx => hx)
    rw [← e1] at hK
    have := DL.of_run hK ops l tm0 sz _ hgs ok hl' hn' rfl hlk
    simpa [Tr.ext] using this

theorem opsT_all {args : List Operand} {t : Nat} : t ∈ opsT args → t ∈ opsT args := id

/-- A quiet call. -/
theorem DL.cQ {dst : Option Tmp} (h : ∃ dargs, (∀ σ, mapO (vw 9 σ) (args.toList.map (s.keep (opsT args.toList)).ev1) = some dargs) ∧ dstOk s dst ∧ quiet A gs.length i = true ∧ ∃ r, PureF P f dargs r ∧ r.fresh = true ∧ runD P gs A K rest (i + 1) (s.put dst r s.σ s.nx) fr rd cg) :
    DL P gs A K (⟨dst, .call ⟨.value (.func f), args, ats⟩, none⟩ :: rest) i s fr rd cg := by
  obtain ⟨dargs, hargs, hd, hq, r, hc, hfr, hK⟩ := h
  refine DL.quietOp (so := ⟨dst, .call ⟨.value (.func f), args, ats⟩, none⟩) (nd := (s.keep (opsT args.toList)).tm) (fun t d hd => ⟨?_, (getT_keepT hd).2⟩) (fun o hop σ nx => ?_) hd hq hK
  · have := (getT_keepT hd).1
    simpa [tms, opT] using this
  · have hev : ∀ x, (St.mk s.n (s.keep (opsT args.toList)).tm σ nx).ev1 x = (s.keep (opsT args.toList)).ev1 x := fun x => by cases x <;> rfl
    refine SemStep.call (n := s.n) (args := args.toList) (fun _ _ _ => trivial) hc (by simpa using hop) ?_ hfr
    rw [show (St.mk s.n (s.keep (opsT args.toList)).tm σ nx).ev1 = (s.keep (opsT args.toList)).ev1 from funext hev]
    exact hargs σ

/-- The trees of a literal's elements, seen as old. -/
def vwP (σ : Sg) : List (Nat × D) → Option (List (Nat × D))
  | [] => some []
  | (k, d) :: l => match vw 9 σ d, vwP σ l with
    | some d', some l' => some ((k, d') :: l')
    | _, _ => none
theorem vwP_ok {G : Gh} {w : World} {N : Hp} {ι : Nat → Option Loc} {σ : Sg} {nx : Nat} (h : HR G w N ι σ nx) : ∀ {ps ps' : List (Nat × D)} {vs : List (Nat × Value)}, VP (G.cx N ι) ps vs → vwP σ ps = some ps' → VP ⟨G.P, hpOf w, Hp.none, fun _ => none⟩ ps' vs
  | [], ps', _, .nil, e => by simp only [vwP] at e; cases e; exact .nil
  | (k, d) :: l, ps', _, .cons hd hs, e => by
    simp only [vwP] at e
    split at e
    · rename_i d' l' e1 e2
      cases e
      exact .cons (vw_VR h hd e1) (vwP_ok h hs e2)
    · cases e

/-- A literal that is only read: a quiet operation. -/
theorem DL.bQ {dst : Option Tmp} {T : TypeId} {n : Nat} {ps : Array (Nat × Operand)} (h : ∃ dps, (∀ σ, vwP σ (ps.toList.map fun p => (p.1, (s.keep (opsT (ps.toList.map (·.2)))).ev1 p.2)) = some dps) ∧ ∃ E ds, abuildSlice P T n dps = some (E, ds) ∧
      mapO (frz 8 [(0, .arr E ds)]) ds = some ds ∧ freshs ds = true ∧ dstOk s dst ∧ quiet A gs.length i = true ∧ runD P gs A K rest (i + 1) (s.put dst (.lst false false E ds) s.σ s.nx) fr rd cg) :
    DL P gs A K (⟨dst, .buildSlice T n ps, none⟩ :: rest) i s fr rd cg := by
  obtain ⟨dps, hps, E, ds, hb, hz, hfr, hd, hq, hK⟩ := h
  refine DL.quietOp (so := ⟨dst, .buildSlice T n ps, none⟩) (nd := (s.keep (opsT (ps.toList.map (·.2)))).tm) (fun t d hd => ⟨?_, (getT_keepT hd).2⟩) (fun o hop σ nx => ?_) hd hq hK
  · have := (getT_keepT hd).1
    simpa [tms] using this
  · intro lay hm G hG a w N ι hr hdef hv K0 Q0 hK0
    subst hG
    have hf : FrR (G.cx N ι) ⟨a.tmps.size, (s.keep (opsT (ps.toList.map (·.2)))).tm, σ, nx⟩ a := ⟨rfl, hdef, fun t d hd => hv t d hd trivial⟩
    have hvp : VP (G.cx N ι) (ps.toList.map fun p => (p.1, (s.keep (opsT (ps.toList.map (·.2)))).ev1 p.2)) ((ps.map fun (i, x) => (i, a.eval x)).toList) :=
      VP.values ps (fun p _ => by
        have := ev1_ok hf p.2
        have e : (St.mk a.tmps.size (s.keep (opsT (ps.toList.map (·.2)))).tm σ nx).ev1 p.2 = (s.keep (opsT (ps.toList.map (·.2)))).ev1 p.2 := by cases p.2 <;> rfl
        rwa [e] at this)
    have hvp' := vwP_ok hr hvp (hps σ)
    let G2 : Gh := ⟨G.P, w, hpOf w, fun _ => False, fun _ => none⟩
    have h0 : HR G2 w Hp.none (fun _ => none) [] 0 := ⟨Hp.le_refl _, Hp.none_le _, fun b x h => (by cases h), rfl, rfl, rfl, Nat.le_refl _, fun _ _ _ => rfl, fun _ _ h => (by cases h), fun _ _ _ _ _ _ _ h => (by cases h), fun _ _ _ _ h => (by cases h), fun _ _ h => (by cases h), fun _ _ h => (by cases h)⟩
    obtain ⟨v, w', ι', q1, q2, q3, q4⟩ := buildSlice_ok (G := G2) lay h0 hvp' hb
    have hbel := q2.below (fun _ h => h)
    have hfz := frz_VR1 (n := 9) (d' := .lst false false E ds) q2 (fun _ h => h) q4 (by
      show (match getT 0 [(0, AO.arr E ds)] with | some (.arr E' es) => if 0 + ds.length ≤ es.length then (match mapO (frz 8 [(0, AO.arr E ds)]) ((es.drop 0).take ds.length) with | some ds' => some (D.lst false false E' ds') | none => none) else none | _ => none) = _
      simp [getT, hz])
    obtain ⟨p1, p2⟩ := hr.call hbel
    have hrun : (execOp a.eval o).run G.P w = .ok (.value v) w' := by
      simp only [execOp, hop, Sem.run_bind]
      rw [show (Instr.buildSlice T n (ps.map fun (i, x) => (i, a.eval x))).run G.P w = .ok v w' from q1]
      rfl
    unfold Oper.wp
    rw [hrun]
    refine hK0 v w' _ _ p1 p2 (VR.of1 (hfz.bring (by simp [D.fresh, hfr]) rfl ?_))
    intro b x hx
    simp only [Gh.cx, Hp.or]
    cases hN : N b with
    | none => simpa using hx
    | some y =>
      have h3 := hpOf_lt (hr.N_le _ _ hN)
      have hx : newHp w.heap.size w' b = some x := hx
      simp [newHp] at hx
      omega
end
end
end Go.Apl

/- APL, part 29: loops by a state for each round. Over any program. -/
namespace Go.Apl
open Go
set_option linter.unusedSimpArgs false
set_option linter.unusedVariables false

def tmE (tm : List (Nat × D)) : List (Nat × D) → Prop
  | [] => True
  | (t, d) :: l => getT t tm = some d ∧ tmE tm l
def sgE (σ : Sg) : Sg → Prop
  | [] => True
  | (i, o) :: l => getT i σ = some o ∧ sgE σ l
def leE (s s' : St) : Prop := s'.n = s.n ∧ tmE s.tm s'.tm ∧ sgE s.σ s'.σ ∧ s.nx ≤ s'.nx

theorem tmE_get {tm : List (Nat × D)} {t : Nat} {d : D} : ∀ {l : List (Nat × D)}, tmE tm l → getT t l = some d → getT t tm = some d
  | (u, e) :: l, h, hg => by
    simp only [getT] at hg
    by_cases he : u = t
    · rw [if_pos he] at hg; cases hg; subst he; exact h.1
    · rw [if_neg he] at hg; exact tmE_get h.2 hg
theorem sgE_get {σ : Sg} {t : Nat} {d : AO} : ∀ {l : Sg}, sgE σ l → getT t l = some d → getT t σ = some d
  | (u, e) :: l, h, hg => by
    simp only [getT] at hg
    by_cases he : u = t
    · rw [if_pos he] at hg; cases hg; subst he; exact h.1
    · rw [if_neg he] at hg; exact sgE_get h.2 hg
theorem leE.le {s s' : St} (h : leE s s') : St.le s s' :=
  ⟨h.1, fun t d hd => .inr (.inl (tmE_get h.2.1 hd)), fun id o ho => sgE_get h.2.2.1 ho, h.2.2.2⟩

section
variable {P : Program} {Q : Exit → St → Prop} {s : St}

/-- A loop with a state for each round. -/
theorem Awp.loopS {α : Type} {c : Code} (f : α → St) (I : α → Prop) (μ : α → Nat) (a0 : α) (hI : I a0) (h0 : leE s (f a0))
    (round : ∀ a, I a → Awp P c (thenQ (fun s' => ∃ a', I a' ∧ μ a' < μ a ∧ leE s' (f a')) Q) (f a)) : Awp P (.loop c) Q s := by
  refine Awp.weak h0.le (Awp.loop (fun n s => ∃ a, μ a = n ∧ I a ∧ St.le s (f a)) (μ a0) ⟨a0, rfl, hI, ⟨rfl, fun t d h => .inr (.inl h), fun _ _ h => h, Nat.le_refl _⟩⟩ ?_)
  · rintro n s ⟨a, rfl, ha, hle⟩
    refine Awp.weak hle (Awp.mono (round a ha) fun e s' q => ?_)
    cases e with
    | normal =>
      obtain ⟨a', h1, h2, h3⟩ := q
      exact ⟨μ a', h2, a', rfl, h1, h3.le⟩
    | _ => exact q
/-- An array's elements, seen as less. -/
theorem Awp.loosen {c : Code} {id : Nat} {E : TypeId} {ds ds' : List D} (hg : getT id s.σ = some (.arr E ds)) (hd : Dles ds ds') (h : Awp P c Q ⟨s.n, s.tm, setT id (.arr E ds') s.σ, s.nx⟩) : Awp P c Q s := by
  intro lay hm G hG a w ⟨N, ι, h1, h2⟩
  refine h lay hm G hG a w ⟨N, ι, ?_, h2.size, h2.defers, fun t d hd => h2.get t d hd⟩
  obtain ⟨l, hl, ho⟩ := h1.obj id _ hg
  refine h1.again hg hl ?_
  obtain ⟨q1, q2, q3, q4⟩ := ho
  have hlen := Dles.length hd
  refine ⟨q1, q2, q3, ?_⟩
  cases hb : l.b with
  | none => rw [hb] at q4; obtain ⟨e1, e2⟩ := q4; subst e1; cases hd; exact ⟨rfl, e2⟩
  | some b =>
    rw [hb] at q4
    obtain ⟨cs, E', g1, g2, g3, g4⟩ := q4
    refine ⟨cs, E', g1, g2, by rw [← hlen]; exact g3, ?_⟩
    rw [← hlen]
    exact FRs.le g4 hd
/-- The state cut down to one that is given. -/
theorem Awp.to (s' : St) {c : Code} (h : leE s s') (h' : Awp P c Q s') : Awp P c Q s := Awp.weak h.le h'
end
end Go.Apl

/- APL, part 30: what simp unfolds. Over any program. -/
namespace Go.Apl
open Go
theorem apick_and (t a : Bool) : apick t (.v (.bool a)) (.v (.bool false)) = .v (.bool (t && a)) := by cases t <;> rfl
theorem apick_or (t b : Bool) : apick t (.v (.bool true)) (.v (.bool b)) = .v (.bool (t || b)) := by cases t <;> rfl
@[simp] theorem apick_t (x y : D) : apick true x y = x := rfl
@[simp] theorem apick_f (x y : D) : apick false x y = y := rfl
attribute [simp] apick_and apick_or
section
variable {n : Nat} {σ : Sg}
@[simp] theorem vw_v (x : Value) : vw (n + 1) σ (.v x) = some (.v x) := rfl
@[simp] theorem vw_st (T : TypeId) (ds : List D) : vw (n + 1) σ (.st T ds) = match mapO (vw n σ) ds with | some ds' => some (.st T ds') | none => none := rfl
@[simp] theorem vw_lst (k x : Bool) (E : TypeId) (ds : List D) : vw (n + 1) σ (.lst k x E ds) = some (.lst true false E (olds ds)) := rfl
@[simp] theorem vw_own (id off len : Nat) : vw (n + 1) σ (.own id off len) = match getT id σ with
      | some (.arr E ds) => if off + len ≤ ds.length then (match mapO (vw n σ) ((ds.drop off).take len) with | some ds' => some (.lst true false E ds') | none => none) else none
      | _ => none := rfl
@[simp] theorem vw_fn (f : FuncId) (c : List D) : vw (n + 1) σ (.fn f c) = match mapO (vw n σ) c with | some c' => some (.fn f c') | none => none := rfl
@[simp] theorem vw_fptr (T : TypeId) (d : D) : vw (n + 1) σ (.fptr T d) = some (.fptr T d.old) := rfl
@[simp] theorem vw_ptr (id : Nat) : vw (n + 1) σ (.ptr id []) = match getT id σ with | some (.box T d) => (match vw n σ d with | some d' => some (.fptr T d') | none => none) | _ => none := rfl
@[simp] theorem vw_undef : vw (n + 1) σ .undef = some .undef := rfl
@[simp] theorem frz_v (x : Value) : frz (n + 1) σ (.v x) = some (.v x) := rfl
@[simp] theorem frz_st (T : TypeId) (ds : List D) : frz (n + 1) σ (.st T ds) = match mapO (frz n σ) ds with | some ds' => some (.st T ds') | none => none := rfl
@[simp] theorem frz_tup (ds : List D) : frz (n + 1) σ (.tup ds) = match mapO (frz n σ) ds with | some ds' => some (.tup ds') | none => none := rfl
@[simp] theorem frz_lst (k x : Bool) (E : TypeId) (ds : List D) : frz (n + 1) σ (.lst k x E ds) = some (.lst k x E ds) := rfl
@[simp] theorem frz_own (id off len : Nat) : frz (n + 1) σ (.own id off len) = match getT id σ with
      | some (.arr E ds) => if off + len ≤ ds.length then (match mapO (frz n σ) ((ds.drop off).take len) with | some ds' => some (.lst false false E ds') | none => none) else none
      | _ => none := rfl
@[simp] theorem frz_fn (f : FuncId) : frz (n + 1) σ (.fn f []) = some (.fn f []) := rfl
@[simp] theorem frz_fptr (T : TypeId) (d : D) : frz (n + 1) σ (.fptr T d) = some (.fptr T d) := rfl
@[simp] theorem frz_undef : frz (n + 1) σ .undef = some .undef := rfl
end
attribute [simp] mapO D.old olds D.fresh freshs rets retL retE nilOK isLst nilRes argTm
attribute [simp] D.young youngs youngs_map AO.young D.ren rens D.ltN ltNs AO.ren AO.ltN renL renT cn cns cnO handS f2 invF renSg delTs delT fiOK retME
attribute [simp] stillOp rdI quiet runD doD doPickD doAheadD addR sameT farR farE D.ids idsV chg opT opsT tms
attribute [simp] runL doOp doPick doAhead isPick isPure getF delF St.over ovOf freeF aop slim St.ev1 St.ev St.put getT setT isCall dstOk D.one fits aload astore afaddr AO.get AO.set D.get D.set isSt ascal isShift aint astr cstD flatV St.gd alen aextract afield aiaddr abuild afill aun aconv abi
  inBlk thenQ St.keep keepT
attribute [simp] aslice abounds aboundO abound exOf arrOf capOf abytes isLs bytesD aeq isStD shape shapes dEq dEqs opO acopy least lenD srcK rowOf mkRow aappz aappend baseD srcD vwP sameAt subN capsOk tmE sgE leE
/-- A long array's zero. -/
def zArr (T n : Nat) (d : D) : D := .st T (List.replicate n d)
end Go.Apl
