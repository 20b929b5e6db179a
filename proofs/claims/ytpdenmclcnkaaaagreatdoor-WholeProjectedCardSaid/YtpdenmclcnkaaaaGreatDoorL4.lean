/- Part of a proof: the texts A13, A14, A15, A16, A17 of a library of data trees, abstract stores and contracts, joined. -/
import Derived.Test.YtpdenmclcnkaaaaGreatDoorL3
/- APL, part 13: contracts of functions, their calls, their returns. Over any program. -/
namespace Go.Apl
open Go
open Go.RowKit (Below)
set_option linter.unusedSimpArgs false
set_option linter.unusedVariables false

def mapO (g : D → Option D) : List D → Option (List D)
  | [] => some []
  | d :: ds => match g d with
    | some d' => match mapO g ds with
      | some ds' => some (d' :: ds')
      | none => none
    | none => none

mutual
/-- A tree as an argument's: its lists may be old ones. -/
def D.old : D → D
  | .lst _ _ E ds => .lst true false E (olds ds)
  | .st T ds => .st T (olds ds)
  | .v x => .v x
  | .tup ds => .tup ds
  | .ptr id p => .ptr id p
  | .fptr T d => .fptr T d.old
  | .own a b c => .own a b c
  | .fn f c => .fn f (olds c)
  | .undef => .undef
def olds : List D → List D
  | [] => []
  | d :: ds => d.old :: olds ds
end

mutual
theorem FR.olden : ∀ {C : Cx} {d : D} {cs : List Value}, FR C d cs → ∀ {H : Hp}, C.ι = (fun _ => none) → Hp.le (C.hp true) H → FR ⟨C.P, H, Hp.none, fun _ => none⟩ d.old cs
  | _, _, _, .v hx, _, _, _ => .v hx
  | _, _, _, .st ts hp hs, _, hi, hh => .st ts hp (FRs.olden hs hi hh)
  | _, _, _, .ptr l b o T h hb ho, _, hi, hh => by rw [hi] at h; cases h
  | C, _, _, .fptr b o ccs E fr cs hb hd hl hz hc, H, hi, hh => .fptr b o ccs E fr cs (hh _ _ hb) (FR.olden hd rfl hh) (by cases ‹D› <;> exact hl) hz hc
  | _, _, _, .lst0 A cap hx, _, _, _ => .lst0 A cap (fun h => by cases h)
  | C, _, _, .lst (k := k) (ds := ds) b o cap ccs E' fr cs hne hb hs hc hcap hx, H, hi, hh => by
    have hl : (olds ds).length = ds.length := by
      clear hs hne hcap hx
      induction ds with
      | nil => rfl
      | cons d ds ih => simp [olds, ih]
    have h1 := FRs.olden hs (H := H) rfl hh
    rw [← hl] at h1 hcap ⊢
    exact .lst (C := ⟨C.P, H, Hp.none, fun _ => none⟩) b o cap ccs E' fr cs (fun e => hne (by rw [e] at hl; exact List.eq_nil_of_length_eq_zero hl.symm)) (hh _ _ (hp_mono C (fun _ => rfl) _ _ hb)) h1 hc hcap (fun h => by cases h)
  | _, _, _, .own l A cap h ha hl hcap hA, _, hi, _ => by rw [hi] at h; cases h
  | _, _, _, .fn vs h, _, hi, hh => .fn vs (FR1.olden h hi hh)
  | _, _, _, .undef x hx, _, _, _ => .undef x hx
theorem FRs.olden : ∀ {C : Cx} {ds : List D} {ts : List TypeId} {cs : List Value}, FRs C ds ts cs → ∀ {H : Hp}, C.ι = (fun _ => none) → Hp.le (C.hp true) H → FRs ⟨C.P, H, Hp.none, fun _ => none⟩ (olds ds) ts cs
  | _, _, _, _, .nil, _, _, _ => .nil
  | _, _, _, _, .cons (d := d) hd hz hl hs, _, hi, hh => .cons (FR.olden hd hi hh) hz (by cases d <;> exact hl) (FRs.olden hs hi hh)
theorem FR1.olden : ∀ {C : Cx} {ds : List D} {vs : List Value}, FR1 C ds vs → ∀ {H : Hp}, C.ι = (fun _ => none) → Hp.le (C.hp true) H → FR1 ⟨C.P, H, Hp.none, fun _ => none⟩ (olds ds) vs
  | _, _, _, .nil, _, _, _ => .nil
  | _, _, _, .cons hd hs, _, hi, hh => .cons (FR.olden hd hi hh) (FR1.olden hs hi hh)
end

theorem olds_map {α : Type} (l : List α) (f : α → D) : olds (l.map f) = l.map (fun x => (f x).old) := by
  induction l with
  | nil => rfl
  | cons x l ih => simp [olds, ih]

/-- Without the store: lists that are laid down, nothing that leads into the store. -/
def frz : Nat → Sg → D → Option D
  | 0, _, _ => none
  | n + 1, σ, d => match d with
    | .v x => some (.v x)
    | .st T ds => match mapO (frz n σ) ds with
      | some ds' => some (.st T ds')
      | none => none
    | .tup ds => match mapO (frz n σ) ds with
      | some ds' => some (.tup ds')
      | none => none
    | .lst k x E ds => some (.lst k x E ds)
    | .own id off len => match getT id σ with
      | some (.arr E ds) => if off + len ≤ ds.length then (match mapO (frz n σ) ((ds.drop off).take len) with
        | some ds' => some (.lst false false E ds')
        | none => none) else none
      | _ => none
    | .fn f [] => some (.fn f [])
    | .fptr T d => some (.fptr T d)
    | .undef => some .undef
    | _ => none

theorem frz_lab {P : Program} {n : Nat} {σ : Sg} {d d' : D} {t : TypeId} (h : frz n σ d = some d') (hl : lab P d t) : lab P d' t := by
  cases n with
  | zero => cases h
  | succ n =>
    cases d <;> simp only [frz] at h
    case v => cases h; exact hl
    case st => split at h <;> cases h; exact hl
    case tup => split at h <;> cases h; exact hl
    case ptr => cases h
    case fptr => cases h; exact hl
    case lst => cases h; exact hl
    case own =>
      split at h
      · split at h
        · split at h <;> cases h; exact hl
        · cases h
      · cases h
    case fn f c => cases c <;> simp at h; subst h; exact hl
    case undef => cases h; exact hl

def newHp (n : Nat) (w : World) : Hp := fun b => if n ≤ b then w.heap[b]? else none

section
variable {G : Gh} {w : World} {N : Hp} {ι : Nat → Option Loc} {σ : Sg} {nx : Nat}

theorem HR.newHp_le (h : HR G w N ι σ nx) : Cx.le (G.cx N ι).shut ⟨G.P, G.I, newHp G.w0.heap.size w, fun _ => none⟩ := by
  refine ⟨rfl, fun k b o hb => ?_, fun _ _ x => by cases x⟩
  have key : ∀ o, N b = some o → newHp G.w0.heap.size w b = some o := fun o ho => by
    simp only [newHp]
    rw [if_pos (h.N_new b o ho)]
    exact h.N_le b o ho
  simp only [Cx.hp, Cx.shut, Gh.cx] at hb ⊢
  cases k
  · exact key o (by simpa using hb)
  · simp only [if_true] at hb ⊢
    cases hN : N b with
    | some x => rw [hN] at hb; simp at hb; subst hb; rw [key x hN]; rfl
    | none =>
      rw [hN] at hb
      have hI : G.I b = some o := by simpa using hb
      cases hn : newHp G.w0.heap.size w b with
      | none => simpa using hI
      | some y =>
        simp only [newHp] at hn
        split at hn
        · have := h.I_le b o hI
          simp only [hpOf] at this
          rw [this] at hn; cases hn; rfl
        · cases hn

theorem frzs_gen {C C' : Cx} (hP : C.P = C'.P) (g : D → Option D) (hg : ∀ d d' cs t, FR C d cs → g d = some d' → lab C.P d t → FR C' d' cs ∧ lab C.P d' t) :
    ∀ {ds ds' : List D} {ts : List TypeId} {cs : List Value}, FRs C ds ts cs → mapO g ds = some ds' → FRs C' ds' ts cs
  | _, _, _, _, .nil, hm => by cases hm; exact .nil
  | _, _, _, _, .cons hd hz hl hs, hm => by
    simp only [mapO] at hm
    split at hm
    · rename_i d1 h1
      split at hm
      · rename_i ds1 h2
        cases hm
        obtain ⟨q1, q2⟩ := hg _ _ _ _ hd h1 hl
        exact .cons q1 (hP ▸ hz) (hP ▸ q2) (frzs_gen hP g hg hs h2)
      · cases hm
    · cases hm

theorem frz_ok (h : HR G w N ι σ nx) (hF : ∀ b, ¬ G.F b) : ∀ (n : Nat) {d d' : D} {cs : List Value}, FR (G.cx N ι) d cs → frz n σ d = some d' → FR ⟨G.P, G.I, newHp G.w0.heap.size w, fun _ => none⟩ d' cs
  | 0, _, _, _, _, hz => by cases hz
  | n + 1, d, d', cs, hf, hz => by
    cases d <;> simp only [frz] at hz
    case v => cases hz; cases hf with | v hx => exact .v hx
    case st =>
      split at hz
      · rename_i ds' hm
        cases hz
        cases hf with | st ts hp hs => exact .st ts hp (frzs_gen (C := G.cx N ι) (C' := ⟨G.P, G.I, newHp G.w0.heap.size w, fun _ => none⟩) rfl (frz n σ) (fun d d' cs t hf hz hl => ⟨frz_ok h hF n hf hz, frz_lab hz hl⟩) hs hm)
      · cases hz
    case tup => cases hf
    case ptr => cases hz
    case fptr =>
      cases hz
      cases hf with
      | fptr b o ccs E fr cs hb hd hl hzz hc => exact .fptr b o ccs E fr cs (h.newHp_le.hp _ _ _ hb) (hd.mono h.newHp_le) hl hzz hc
    case lst =>
      cases hz
      cases hf with
      | lst0 A cap hx => exact .lst0 A cap hx
      | lst b o cap ccs E' fr cs hne hb hs hc hcap hx => exact .lst b o cap ccs E' fr cs hne (h.newHp_le.hp _ _ _ hb) (hs.mono h.newHp_le) hc hcap hx
    case fn f c =>
      cases c <;> simp at hz
      subst hz
      cases hf with | fn vs hs => cases hs; exact .fn [] .nil
    case undef => cases hz; cases hf with | undef x hx => exact .undef x hx
    case own id off len =>
      split at hz
      · rename_i E ds ho
        split at hz
        · rename_i hle
          split at hz
          · rename_i ds' hm
            cases hz
            cases hf with
            | own l A cap hi ha hl hcap hA =>
              obtain ⟨l', hl', hob⟩ := h.obj id _ ho
              have : l' = l := by have := hl'.symm.trans hi; exact Option.some.inj this
              subst this
              obtain ⟨q1, q2, q3, q4⟩ := hob
              have hlen : ds'.length = len := by
                have key : ∀ (xs ys : List D), mapO (frz n σ) xs = some ys → ys.length = xs.length := by
                  intro xs
                  induction xs with
                  | nil => intro ys h; cases h; rfl
                  | cons x xs ih =>
                    intro ys h
                    simp only [mapO] at h
                    split at h
                    · split at h
                      · rename_i hh; cases h; simp [ih _ hh]
                      · cases h
                    · cases h
                have := key _ _ hm
                simp at this; omega
              by_cases h0 : len = 0
              · have : ds' = [] := List.eq_nil_of_length_eq_zero (by omega)
                subst this
                subst h0
                exact .lst0 A cap (fun hh => by cases hh)
              · cases hb : l'.b with
                | none => rw [hb] at q4; obtain ⟨rfl, _⟩ := q4; simp at hle; omega
                | some b =>
                  rw [hb] at q4
                  obtain ⟨ccs, E2, g1, g2, g3, g4⟩ := q4
                  obtain ⟨b', hb', rfl⟩ := hA (by omega)
                  rw [hb] at hb'; cases hb'
                  have hseg := FRs.seg g4 off len hle
                  have hm1 : (off + len) * G.P.cellsOf E ≤ ds.length * G.P.cellsOf E := Nat.mul_le_mul_right _ hle
                  have hm2 : ds.length * G.P.cellsOf E ≤ l'.cap * G.P.cellsOf E := Nat.mul_le_mul_right _ g3
                  rw [Nat.add_mul] at hm1
                  have e1 : (((ccs.toList.drop l'.base).take (ds.length * G.P.cellsOf E)).drop (off * G.P.cellsOf E)).take (len * G.P.cellsOf E) = (ccs.toList.drop (l'.base + off * G.P.cellsOf E)).take (len * G.P.cellsOf E) := by
                    rw [List.drop_take, List.drop_drop, List.take_take, Nat.min_eq_left (by omega)]
                  have hseg' : FRs (G.cx N ι) ((ds.drop off).take len) (List.replicate len E) ((ccs.toList.drop (l'.base + off * G.P.cellsOf E)).take (len * G.P.cellsOf E)) := by rw [← e1]; exact hseg
                  have hfr := frzs_gen (C := G.cx N ι) (C' := ⟨G.P, G.I, newHp G.w0.heap.size w, fun _ => none⟩) rfl (frz n σ) (fun d d' cs t hf hz hl => ⟨frz_ok h hF n hf hz, frz_lab hz hl⟩) hseg' hm
                  have hnew : G.w0.heap.size ≤ b := by
                    rcases Nat.lt_or_ge b G.w0.heap.size with hlt | hge
                    · exact absurd ((h.excl id _ l' b ho hi hb).2.2 hlt) (hF b)
                    · exact hge
                  rw [q2, ← hlen]
                  refine .lst (C := ⟨G.P, G.I, newHp G.w0.heap.size w, fun _ => none⟩) b _ cap ccs E2 (0, 0) _ (fun e => by rw [e] at hlen; simp at hlen; omega) ?_ (by rw [hlen]; exact hfr) (Sub.seg _ _ _) (by omega) (fun hh => by cases hh)
                  simp [Cx.hp, newHp, hnew, g1]
          · cases hz
        · cases hz
      · cases hz
end
end Go.Apl

/- APL, part 14: a function's contract, its proof, its call. Over any program. -/
namespace Go.Apl
open Go
open Go.RowKit (Below)
set_option linter.unusedSimpArgs false
set_option linter.unusedVariables false

/-- What is handed on: old lists alone; what lies in the store is looked at as it stands. -/
def vw : Nat → Sg → D → Option D
  | 0, _, _ => none
  | n + 1, σ, d => match d with
    | .v x => some (.v x)
    | .st T ds => match mapO (vw n σ) ds with
      | some ds' => some (.st T ds')
      | none => none
    | .lst k x E ds => some (.lst true false E (olds ds))
    | .own id off len => match getT id σ with
      | some (.arr E ds) => if off + len ≤ ds.length then (match mapO (vw n σ) ((ds.drop off).take len) with
        | some ds' => some (.lst true false E ds')
        | none => none) else none
      | _ => none
    | .fn f c => match mapO (vw n σ) c with
      | some c' => some (.fn f c')
      | none => none
    | .fptr T d => some (.fptr T d.old)
    | .ptr id [] => match getT id σ with
      | some (.box T d) => match vw n σ d with
        | some d' => some (.fptr T d')
        | none => none
      | _ => none
    | .undef => some .undef
    | _ => none

theorem vw_lab {P : Program} {n : Nat} {σ : Sg} {d d' : D} {t : TypeId} (h : vw n σ d = some d') (hl : lab P d t) : lab P d' t := by
  cases n with
  | zero => cases h
  | succ n =>
    cases d <;> simp only [vw] at h
    case v => cases h; exact hl
    case st => split at h <;> cases h; exact hl
    case tup => cases h
    case ptr id p =>
      cases p with
      | cons i p => simp at h
      | nil =>
        simp only at h
        split at h
        · split at h <;> cases h; exact hl
        · cases h
    case fptr => cases h; exact hl
    case lst => cases h; exact hl
    case own =>
      split at h
      · split at h
        · split at h <;> cases h; exact hl
        · cases h
      · cases h
    case fn => split at h <;> cases h; exact hl
    case undef => cases h; exact hl

theorem mapO_length {g : D → Option D} : ∀ {xs ys : List D}, mapO g xs = some ys → ys.length = xs.length := by
  intro xs
  induction xs with
  | nil => intro ys h; cases h; rfl
  | cons x xs ih =>
    intro ys h
    simp only [mapO] at h
    split at h
    · split at h
      · rename_i hh; cases h; simp [ih hh]
      · cases h
    · cases h

theorem fr1_gen {C C' : Cx} (g : D → Option D) (hg : ∀ d d' cs, FR C d cs → g d = some d' → FR C' d' cs) :
    ∀ {ds ds' : List D} {vs : List Value}, FR1 C ds vs → mapO g ds = some ds' → FR1 C' ds' vs
  | _, _, _, .nil, hm => by cases hm; exact .nil
  | _, _, _, .cons hd hs, hm => by
    simp only [mapO] at hm
    split at hm
    · rename_i d1 h1
      split at hm
      · rename_i ds1 h2
        cases hm
        exact .cons (hg _ _ _ hd h1) (fr1_gen g hg hs h2)
      · cases hm
    · cases hm

section
variable {G : Gh} {w : World} {N : Hp} {ι : Nat → Option Loc} {σ : Sg} {nx : Nat}

theorem vw_ok (h : HR G w N ι σ nx) : ∀ (n : Nat) {d d' : D} {cs : List Value}, FR (G.cx N ι) d cs → vw n σ d = some d' → FR ⟨G.P, hpOf w, Hp.none, fun _ => none⟩ d' cs
  | 0, _, _, _, _, hz => by cases hz
  | n + 1, d, d', cs, hf, hz => by
    cases d <;> simp only [vw] at hz
    case v => cases hz; cases hf with | v hx => exact .v hx
    case st =>
      split at hz
      · rename_i ds' hm
        cases hz
        cases hf with | st ts hp hs => exact .st ts hp (frzs_gen (C := G.cx N ι) (C' := ⟨G.P, hpOf w, Hp.none, fun _ => none⟩) rfl (vw n σ) (fun d d' cs t hf hz hl => ⟨vw_ok h n hf hz, vw_lab hz hl⟩) hs hm)
      · cases hz
    case tup => cases hf
    case ptr id p =>
      cases p with
      | cons i p => simp at hz
      | nil =>
        simp only at hz
        split at hz
        · rename_i T d0 ho
          split at hz
          · rename_i d1 hd1
            cases hz
            cases hf with
            | ptr l b o T1 h1 h2 h3 =>
              obtain ⟨l', hl', hob⟩ := h.obj id _ ho
              have : l' = l := Option.some.inj (hl'.symm.trans h1)
              subst this
              obtain ⟨q1, q2, q3, q4, b', ccs, E, q5, q6, q7, q8⟩ := hob
              have h2' : l'.b = some b := h2
              rw [h2'] at q5; cases q5
              have h3' : l'.at G.P [] = some (o, T1) := h3
              simp [Loc.at, q1, q3] at h3'
              obtain ⟨rfl, _⟩ := h3'
              refine .fptr (C := ⟨G.P, hpOf w, Hp.none, fun _ => none⟩) b 0 ccs E (0, 0) ccs.toList (by simp [Cx.hp, Hp.none, hpOf, q6]) (vw_ok h n q7 hd1) (vw_lab hd1 q4) (by simpa using q8) ?_
              intro j v hj
              simpa using hj
          · cases hz
        · cases hz
    case fptr =>
      cases hz
      cases hf with
      | fptr b o ccs E fr cs hb hd hl hzz hc =>
        exact .fptr (C := ⟨G.P, hpOf w, Hp.none, fun _ => none⟩) b o ccs E fr cs (by simpa [Cx.hp, Hp.none] using h.hp_le true _ _ hb) (FR.olden hd rfl (h.hp_le true)) (by cases ‹D› <;> exact hl) hzz hc
    case lst =>
      cases hz
      rename_i k x E ds
      have := FR.olden (C := (G.cx N ι).shut) (d := .lst k x E ds) (cs := cs) (H := hpOf w) (by
        cases hf with
        | lst0 A cap hx => exact .lst0 A cap hx
        | lst b o cap ccs E' fr cs hne hb hs hc hcap hx => exact .lst (C := (G.cx N ι).shut) b o cap ccs E' fr cs hne hb hs hc hcap hx) rfl (h.hp_le true)
      exact this
    case fn f c =>
      split at hz
      · rename_i c' hm
        cases hz
        cases hf with | fn vs hs => exact .fn vs (fr1_gen (vw n σ) (fun d d' cs hf hz => vw_ok h n hf hz) hs hm)
      · cases hz
    case undef => cases hz; cases hf with | undef x hx => exact .undef x hx
    case own id off len =>
      split at hz
      · rename_i E ds ho
        split at hz
        · rename_i hle
          split at hz
          · rename_i ds' hm
            cases hz
            cases hf with
            | own l A cap hi ha hl hcap hA =>
              obtain ⟨l', hl', hob⟩ := h.obj id _ ho
              have : l' = l := by have := hl'.symm.trans hi; exact Option.some.inj this
              subst this
              obtain ⟨q1, q2, q3, q4⟩ := hob
              have hlen : ds'.length = len := by have := mapO_length hm; simp at this; omega
              by_cases h0 : len = 0
              · have : ds' = [] := List.eq_nil_of_length_eq_zero (by omega)
                subst this
                subst h0
                exact .lst0 A cap (fun hh => by cases hh)
              · cases hb : l'.b with
                | none => rw [hb] at q4; obtain ⟨rfl, _⟩ := q4; simp at hle; omega
                | some b =>
                  rw [hb] at q4
                  obtain ⟨ccs, E2, g1, g2, g3, g4⟩ := q4
                  obtain ⟨b', hb', rfl⟩ := hA (by omega)
                  rw [hb] at hb'; cases hb'
                  have hseg := FRs.seg g4 off len hle
                  have hm1 : (off + len) * G.P.cellsOf E ≤ ds.length * G.P.cellsOf E := Nat.mul_le_mul_right _ hle
                  have hm2 : ds.length * G.P.cellsOf E ≤ l'.cap * G.P.cellsOf E := Nat.mul_le_mul_right _ g3
                  rw [Nat.add_mul] at hm1
                  have e1 : (((ccs.toList.drop l'.base).take (ds.length * G.P.cellsOf E)).drop (off * G.P.cellsOf E)).take (len * G.P.cellsOf E) = (ccs.toList.drop (l'.base + off * G.P.cellsOf E)).take (len * G.P.cellsOf E) := by
                    rw [List.drop_take, List.drop_drop, List.take_take, Nat.min_eq_left (by omega)]
                  have hseg' : FRs (G.cx N ι) ((ds.drop off).take len) (List.replicate len E) ((ccs.toList.drop (l'.base + off * G.P.cellsOf E)).take (len * G.P.cellsOf E)) := by rw [← e1]; exact hseg
                  have hfr := frzs_gen (C := G.cx N ι) (C' := ⟨G.P, hpOf w, Hp.none, fun _ => none⟩) rfl (vw n σ) (fun d d' cs t hf hz hl => ⟨vw_ok h n hf hz, vw_lab hz hl⟩) hseg' hm
                  rw [q2, ← hlen]
                  refine .lst (C := ⟨G.P, hpOf w, Hp.none, fun _ => none⟩) b _ cap ccs E2 (0, 0) _ (fun e => by rw [e] at hlen; simp at hlen; omega) ?_ (by rw [hlen]; exact hfr) (Sub.seg _ _ _) (by omega) (fun hh => by cases hh)
                  simp [Cx.hp, Hp.none, hpOf, g1]
          · cases hz
        · cases hz
      · cases hz

theorem VR1.via {C C' : Cx} {d d' : D} {v : Value} (h : VR1 C d v) (hg : ∀ cs, FR C d cs → FR C' d' cs) (hs : (∃ T ds ds', d = .st T ds ∧ d' = .st T ds') ∨ d' = .undef ∨ (d.solid = true ∧ (∀ T ds, d ≠ .st T ds) ∧ (∀ T ds, d' ≠ .st T ds) ∧ d'.solid = true)) : VR1 C' d' v := by
  rcases hs with ⟨T, ds, ds', rfl, rfl⟩ | rfl | ⟨h1, h2, h3, h4⟩
  · obtain ⟨cs, e, hf⟩ := h
    exact ⟨cs, e, hg _ hf⟩
  · trivial
  · have hf : FR C d [v] := by
      cases d <;> first | exact h | exact absurd rfl (h2 _ _) | (simp [D.solid] at h1; done)
    exact VR1.of_single (hg _ hf) h3

theorem vw_VR (h : HR G w N ι σ nx) {n : Nat} {d d' : D} {v : Value} (hv : VR1 (G.cx N ι) d v) (hz : vw n σ d = some d') : VR1 ⟨G.P, hpOf w, Hp.none, fun _ => none⟩ d' v := by
  refine hv.via (fun cs hf => vw_ok h n hf hz) ?_
  cases n with
  | zero => cases hz
  | succ n =>
    cases d <;> simp only [vw] at hz
    case v => cases hz; exact .inr (.inr ⟨rfl, by simp, by simp, rfl⟩)
    case st => split at hz <;> cases hz; exact .inl ⟨_, _, _, rfl, rfl⟩
    case tup => cases hz
    case ptr id p =>
      cases p with
      | cons i p => simp at hz
      | nil =>
        simp only at hz
        split at hz
        · split at hz <;> cases hz; exact .inr (.inr ⟨rfl, by simp, by simp, rfl⟩)
        · cases hz
    case fptr => cases hz; exact .inr (.inr ⟨rfl, by simp, by simp, rfl⟩)
    case lst => cases hz; exact .inr (.inr ⟨rfl, by simp, by simp, rfl⟩)
    case own =>
      split at hz
      · split at hz
        · split at hz <;> cases hz; exact .inr (.inr ⟨rfl, by simp, by simp, rfl⟩)
        · cases hz
      · cases hz
    case fn => split at hz <;> cases hz; exact .inr (.inr ⟨rfl, by simp, by simp, rfl⟩)
    case undef => cases hz; exact .inr (.inl rfl)

theorem frz_VR1 (h : HR G w N ι σ nx) (hF : ∀ b, ¬ G.F b) {n : Nat} {d d' : D} {v : Value} (hv : VR1 (G.cx N ι) d v) (hz : frz n σ d = some d') : VR1 ⟨G.P, G.I, newHp G.w0.heap.size w, fun _ => none⟩ d' v := by
  cases n with
  | zero => cases hz
  | succ n =>
    by_cases ht : ∃ ds, d = .tup ds
    · obtain ⟨ds, rfl⟩ := ht; cases hv
    · refine hv.via (fun cs hf => frz_ok h hF _ hf hz) ?_
      cases d <;> simp only [frz] at hz
      case v => cases hz; exact .inr (.inr ⟨rfl, by simp, by simp, rfl⟩)
      case st => split at hz <;> cases hz; exact .inl ⟨_, _, _, rfl, rfl⟩
      case tup => exact absurd ⟨_, rfl⟩ ht
      case ptr => cases hz
      case fptr => cases hz; exact .inr (.inr ⟨rfl, by simp, by simp, rfl⟩)
      case lst => cases hz; exact .inr (.inr ⟨rfl, by simp, by simp, rfl⟩)
      case own =>
        split at hz
        · split at hz
          · split at hz <;> cases hz; exact .inr (.inr ⟨rfl, by simp, by simp, rfl⟩)
          · cases hz
        · cases hz
      case fn f c => cases c <;> simp at hz; subst hz; exact .inr (.inr ⟨rfl, by simp, by simp, rfl⟩)
      case undef => cases hz; exact .inr (.inl rfl)
end

/-! ### Contracts -/
def goF (P : Program) (f : FuncId) : Bool :=
  match P.funcs[f]? with
  | some fn => fn.body.isSome && !(fn.name == "runtime.NumGoroutine")
  | none => false

/-- A function that only reads what was there: what it answers. -/
structure PureF (P : Program) (f : FuncId) (args : List D) (r : D) : Prop where
  go : goF P f = true
  run : LayOK P → P.follows .mixedOrders = true → ∀ (w : World) (I : Hp) (vals : List Value), Hp.le I (hpOf w) → VRs ⟨P, I, Hp.none, fun _ => none⟩ args vals →
    Calls P f vals.toArray w fun e w' => ∃ v, e = .returned v ∧ Below w.heap.size w w' ∧ VR ⟨P, I, newHp w.heap.size w', fun _ => none⟩ r v

mutual
def D.fresh : D → Bool
  | .v _ => true
  | .st _ ds => freshs ds
  | .tup ds => freshs ds
  | .lst k _ _ ds => !k && freshs ds
  | .fn _ c => freshs c
  | .undef => true
  | _ => false
def freshs : List D → Bool
  | [] => true
  | d :: ds => d.fresh && freshs ds
end

mutual
theorem FR.bring : ∀ {C : Cx} {d : D} {cs : List Value}, FR C d cs → ∀ {C' : Cx}, d.fresh = true → C.P = C'.P → Hp.le C.N C'.N → FR C' d cs
  | _, _, _, .v hx, _, _, _, _ => .v hx
  | _, _, _, .st ts hp hs, _, hf, hP, hN => .st ts (hP ▸ hp) (FRs.bring hs (by simpa [D.fresh] using hf) hP hN)
  | _, _, _, .ptr .., _, hf, _, _ => by simp [D.fresh] at hf
  | _, _, _, .fptr .., _, hf, _, _ => by simp [D.fresh] at hf
  | _, _, _, .lst0 A cap hx, _, _, _, _ => .lst0 A cap hx
  | _, _, _, .lst (k := k) b o cap ccs E' fr cs hne hb hs hc hcap hx, C', hf, hP, hN => by
    simp [D.fresh] at hf
    obtain ⟨rfl, hf⟩ := hf
    exact .lst b o cap ccs E' fr cs hne (by simp [Cx.hp] at hb ⊢; exact hN _ _ hb) (FRs.bring hs hf hP hN) hc hcap hx
  | _, _, _, .own .., _, hf, _, _ => by simp [D.fresh] at hf
  | _, _, _, .fn vs h, _, hf, hP, hN => .fn vs (FR1.bring h (by simpa [D.fresh] using hf) hP hN)
  | _, _, _, .undef x hx, _, _, _, _ => .undef x hx
theorem FRs.bring : ∀ {C : Cx} {ds : List D} {ts : List TypeId} {cs : List Value}, FRs C ds ts cs → ∀ {C' : Cx}, freshs ds = true → C.P = C'.P → Hp.le C.N C'.N → FRs C' ds ts cs
  | _, _, _, _, .nil, _, _, _, _ => .nil
  | _, _, _, _, .cons hd hz hl hs, _, hf, hP, hN => by
    simp [freshs] at hf
    exact .cons (FR.bring hd hf.1 hP hN) (hP ▸ hz) (hP ▸ hl) (FRs.bring hs hf.2 hP hN)
theorem FR1.bring : ∀ {C : Cx} {ds : List D} {vs : List Value}, FR1 C ds vs → ∀ {C' : Cx}, freshs ds = true → C.P = C'.P → Hp.le C.N C'.N → FR1 C' ds vs
  | _, _, _, .nil, _, _, _, _ => .nil
  | _, _, _, .cons hd hs, _, hf, hP, hN => by
    simp [freshs] at hf
    exact .cons (FR.bring hd hf.1 hP hN) (FR1.bring hs hf.2 hP hN)
end

theorem VR1.bring {C C' : Cx} {d : D} {v : Value} (h : VR1 C d v) (hf : d.fresh = true) (hP : C.P = C'.P) (hN : Hp.le C.N C'.N) : VR1 C' d v := by
  cases d <;> simp only [VR1] at h ⊢ <;> first | exact h | exact FR.bring h hf hP hN | (obtain ⟨cs, e, hh⟩ := h; exact ⟨cs, e, FR.bring hh hf hP hN⟩)
theorem VRs.bring {C C' : Cx} {ds : List D} {vs : List Value} (h : VRs C ds vs) (hf : freshs ds = true) (hP : C.P = C'.P) (hN : Hp.le C.N C'.N) : VRs C' ds vs := by
  induction h with
  | nil => exact .nil
  | cons hd _ ih => simp [freshs] at hf; exact .cons (hd.bring hf.1 hP hN) (ih hf.2)
theorem VR.bring {C C' : Cx} {d : D} {v : Value} (h : VR C d v) (hf : d.fresh = true) (hP : C.P = C'.P) (hN : Hp.le C.N C'.N) : VR C' d v := by
  cases d <;> simp only [VR] at h ⊢ <;> first | exact VR1.bring h hf hP hN | (obtain ⟨vs, e, hh⟩ := h; exact ⟨vs, e, VRs.bring hh (by simpa [D.fresh] using hf) hP hN⟩)

section
variable {G : Gh} {w w' : World} {N : Hp} {ι : Nat → Option Loc} {σ : Sg} {nx : Nat}

/-- What is left behind a call that only made memory. -/
theorem HR.call (h : HR G w N ι σ nx) (hb : Below w.heap.size w w') : HR G w' (N.or (newHp w.heap.size w')) ι σ nx ∧ Cx.le (G.cx N ι) (G.cx (N.or (newHp w.heap.size w')) ι) := by
  have hold : ∀ (b : Nat) (x : Obj), w.heap[b]? = some x → w'.heap[b]? = some x := fun b x hx => by
    have hlt := (Array.getElem?_eq_some_iff.1 hx).1
    rw [hb.block b hlt]; exact hx
  have hN' : ∀ b x, (N.or (newHp w.heap.size w')) b = some x → N b = some x ∨ (w.heap.size ≤ b ∧ w'.heap[b]? = some x) := by
    intro b x hx
    simp only [Hp.or] at hx
    cases hN : N b with
    | some y => rw [hN] at hx; simp at hx; subst hx; exact .inl rfl
    | none =>
      rw [hN] at hx
      simp [newHp] at hx
      exact .inr hx
  have hC : Cx.le (G.cx N ι) (G.cx (N.or (newHp w.heap.size w')) ι) := by
    refine ⟨rfl, fun k b x hx => ?_, fun _ _ h => h⟩
    simp only [Cx.hp, Hp.or] at hx ⊢
    cases k
    · simp at hx ⊢; rw [hx]; simp
    · simp only [if_true] at hx ⊢
      cases hN : N b with
      | some y => rw [hN] at hx; simp at hx; subst hx; simp
      | none =>
        rw [hN] at hx
        have hI : G.I b = some x := by simpa using hx
        have hlt := hpOf_lt (h.I_le _ _ hI)
        have : newHp w.heap.size w' b = none := by simp [newHp]; omega
        simp [this, hI]
  have oldb : ∀ id o l b, getT id σ = some o → ι id = some l → l.b = some b → b < w.heap.size := by
    intro id o' l' b h1 h2 h3
    obtain ⟨m, hm, hr⟩ := h.obj id o' h1
    rw [h2] at hm; cases hm
    cases o' with
    | box T d =>
      obtain ⟨_, _, _, _, b', cs, E, g1, g2, _⟩ := hr
      rw [h3] at g1; cases g1
      exact (Array.getElem?_eq_some_iff.1 g2).1
    | arr E ds =>
      obtain ⟨_, _, _, g⟩ := hr
      rw [h3] at g
      obtain ⟨cs, E', g1, _⟩ := g
      exact (Array.getElem?_eq_some_iff.1 g1).1
    | full E ds c =>
      obtain ⟨⟨_, _, _, g⟩, _⟩ := hr
      rw [h3] at g
      obtain ⟨cs, E', g1, _⟩ := g
      exact (Array.getElem?_eq_some_iff.1 g1).1
  refine ⟨⟨fun b x hx => hold b x (h.I_le b x hx), ?_, ?_, hb.os.trans h.os, hb.tape.trans h.tape, hb.output.trans h.output, Nat.le_trans h.size hb.size, ?_, ?_, h.sep, ?_, h.names, h.pin⟩, hC⟩
  · intro b x hx
    rcases hN' b x hx with hx | ⟨_, hx⟩
    · exact hold b x (h.N_le b x hx)
    · exact hx
  · intro b x hx
    rcases hN' b x hx with hx | ⟨hx, _⟩
    · exact h.N_new b x hx
    · exact Nat.le_trans h.size hx
  · intro b hb' hF
    rw [hb.block b (Nat.lt_of_lt_of_le hb' h.size)]; exact h.keep b hb' hF
  · intro id o ho
    obtain ⟨l, hl, hr⟩ := h.obj id o ho
    exact ⟨l, hl, ObjR.grow hC (fun b x _ hx => hold b x hx) hr⟩
  · intro id o l b h1 h2 h3
    obtain ⟨q1, q2, q3⟩ := h.excl id o l b h1 h2 h3
    refine ⟨q1, ?_, q3⟩
    have := oldb id o l b h1 h2 h3
    simp [Hp.or, q2, newHp]; omega

theorem vws_ok (h : HR G w N ι σ nx) {n : Nat} : ∀ {ds ds' : List D} {vs : List Value}, VRs (G.cx N ι) ds vs → mapO (vw n σ) ds = some ds' → VRs ⟨G.P, hpOf w, Hp.none, fun _ => none⟩ ds' vs
  | _, _, _, .nil, hm => by cases hm; exact .nil
  | _, _, _, .cons hd hs, hm => by
    simp only [mapO] at hm
    split at hm
    · rename_i d1 h1
      split at hm
      · rename_i ds1 h2
        cases hm
        exact .cons (vw_VR h hd h1) (vws_ok h hs h2)
      · cases hm
    · cases hm

theorem evs_ok {C : Cx} {s : St} {a : Act} (hf : FrR C s a) : ∀ (l : List Operand), VRs C (l.map s.ev1) (l.map a.eval)
  | [] => .nil
  | x :: l => .cons (ev1_ok hf x) (evs_ok hf l)
end

theorem run_callFunc {P : Program} {f : FuncId} (h : goF P f = true) (args : Array Value) (w : World) : (callFunc f args).run P w = .ok (.enter f args) w := by
  unfold goF at h
  split at h
  · rename_i fn hf
    simp only [Bool.and_eq_true] at h
    obtain ⟨h1, h2⟩ := h
    have h2' : ¬ (fn.name == "runtime.NumGoroutine") = true := by simpa using h2
    have h1' : ¬ fn.body.isNone = true := by cases hb : fn.body <;> simp [hb] at h1 ⊢
    simp only [callFunc, Sem.run_bind, run_program, Result.andThen_ok, hf]
    rw [if_neg h2', if_neg h1']
    rfl
  · cases h

/-! ### A function's own proof -/
def rets (s : St) (P : Program) : List ResultVar → Option (List D)
  | [] => some []
  | .tmp t :: l => match rets s P l with
    | some ds => some (s.ev1 (.tmp t) :: ds)
    | none => none
  | .cell t T :: l => match s.ev1 (.tmp t) with
    | .ptr id p => match aload P s.σ T (.ptr id p), rets s P l with
      | some d, some ds => some (d :: ds)
      | _, _ => none
    | _ => none

def retD : List D → D
  | [d] => d
  | ds => .tup ds

def retQ (P : Program) (rs : List ResultVar) (r : D) : Exit → St → Prop := fun e s =>
  (e = .normal ∨ e = .ret) ∧ ∃ ds ds', rets s P rs = some ds ∧ mapO (frz 9 s.σ) ds = some ds' ∧ Dles ds' (match r with | .tup l => l | d => [d])


def argTm (args : List D) : List (Nat × D) := args.zipIdx.map fun (d, i) => (i, d)

theorem getT_argTm {args : List D} : ∀ {t : Nat} {d : D}, getT t (argTm args) = some d → args[t]? = some d := by
  intro t d h
  have key : ∀ (l : List D) (k : Nat), getT t ((l.zipIdx k).map fun (d, i) => (i, d)) = some d → k ≤ t ∧ l[t - k]? = some d := by
    intro l
    induction l with
    | nil => intro k h; cases h
    | cons x l ih =>
      intro k h
      simp only [List.zipIdx_cons, List.map_cons, getT] at h
      by_cases hk : k = t
      · rw [if_pos hk] at h; cases h; subst hk; simp
      · rw [if_neg hk] at h
        obtain ⟨h1, h2⟩ := ih (k + 1) h
        refine ⟨by omega, ?_⟩
        have : t - k = (t - (k + 1)) + 1 := by omega
        rw [this, List.getElem?_cons_succ]
        exact h2
  have := key args 0 h
  simpa using this.2

def resOne (a : Act) (x : ResultVar) : Sem Value :=
  match x with
  | .tmp t => pure (a.tmps.getD t undef)
  | .cell b t => do loadVar t (← asAddr (a.tmps.getD b undef))

theorem run_rets {G : Gh} (hlay : LayOK G.P) {w : World} {N : Hp} {ι : Nat → Option Loc} {s : St} {a : Act} (h : HR G w N ι s.σ s.nx) (hf : FrR (G.cx N ι) s a) :
    ∀ (l : List ResultVar) (ds : List D), rets s G.P l = some ds → ∃ vs, (l.mapM (resOne a)).run G.P w = .ok vs w ∧ VRs (G.cx N ι) ds vs := by
  intro l
  induction l with
  | nil => intro ds h; cases h; exact ⟨[], rfl, .nil⟩
  | cons x l ih =>
    intro ds hr
    cases x with
    | tmp t =>
      simp only [rets] at hr
      cases hl : rets s G.P l with
      | none => simp [hl] at hr
      | some ds' =>
        simp [hl] at hr; subst hr
        obtain ⟨vs, q1, q2⟩ := ih ds' hl
        refine ⟨a.tmps.getD t undef :: vs, ?_, .cons (ev1_ok hf (.tmp t)) q2⟩
        rw [List.mapM_cons]
        simp only [resOne, Sem.run_bind, Sem.run_pure, Result.andThen_ok, q1]
    | cell t T =>
      simp only [rets] at hr
      split at hr
      · rename_i id p he
        cases hl : rets s G.P l with
        | none => simp [hl] at hr
        | some ds' =>
          cases hld : aload G.P s.σ T (.ptr id p) with
          | none => simp [hl, hld] at hr
          | some d =>
            simp [hl, hld] at hr; subst hr
            obtain ⟨vs, q1, q2⟩ := ih ds' hl
            have hv := ev1_ok hf (.tmp t)
            rw [he] at hv
            obtain ⟨v, r1, r2⟩ := load_ok hlay h hv hld
            obtain ⟨lo, b, o, T1, hp, _⟩ := ptr_addr hv
            refine ⟨v :: vs, ?_, .cons r2 q2⟩
            rw [List.mapM_cons]
            have hp' : a.tmps.getD t undef = .pointer (some ⟨b, o, none⟩) := hp
            have r1' : (loadVar T ⟨b, o, none⟩).run G.P w = .ok v w := by
              rw [hp] at r1
              simpa only [Instr.loadAt, Instr.sureAddr, Sem.run_bind, Sem.run_pure, Result.andThen_ok] using r1
            simp only [resOne, hp', asAddr, Sem.run_bind, Sem.run_pure, Result.andThen_ok, r1', q1]
      · cases hr

theorem VRs.le {C : Cx} : ∀ {ds ds' : List D} {vs : List Value}, VRs C ds vs → Dles ds ds' → VRs C ds' vs
  | _, _, _, .nil, .nil => .nil
  | _, _, _, .cons hd hs, .cons h hss => .cons (hd.le h) (hs.le hss)

theorem frzs_VRs {G : Gh} {w : World} {N : Hp} {ι : Nat → Option Loc} {σ : Sg} {nx : Nat} (h : HR G w N ι σ nx) (hF : ∀ b, ¬ G.F b) {n : Nat} : ∀ {ds ds' : List D} {vs : List Value}, VRs (G.cx N ι) ds vs → mapO (frz n σ) ds = some ds' → VRs ⟨G.P, G.I, newHp G.w0.heap.size w, fun _ => none⟩ ds' vs
  | _, _, _, .nil, hm => by cases hm; exact .nil
  | _, _, _, .cons hd hs, hm => by
    simp only [mapO] at hm
    split at hm
    · rename_i d1 h1
      split at hm
      · rename_i ds1 h2
        cases hm
        exact .cons (frz_VR1 h hF hd h1) (frzs_VRs h hF hs h2)
      · cases hm
    · cases hm

def isTup : D → Bool
  | .tup _ => true
  | _ => false

/-- The contract of a function, by its text. -/
theorem PureF.intro {P : Program} {f : FuncId} {fn : Func} {c : Code} {args : List D} {r : D} (hf : P.funcs[f]? = some fn) (hb : fn.body = some c) (hgo : goF P f = true) (hn : args.length ≤ fn.ntmps)
    (hr : match r with | .tup l => fn.results.size = l.length ∧ l.length ≠ 1 | _ => fn.results.size = 1)
    (h : Awp P c (retQ P fn.results.toList r) ⟨fn.ntmps, argTm args, [], 0⟩) : PureF P f args r := by
  refine ⟨hgo, fun lay hm w I vals hI hv => ?_⟩
  let G : Gh := ⟨P, w, I, fun _ => False, fun _ => none⟩
  have hlen := hv.length
  have h0 : HR G w Hp.none (fun _ => none) [] 0 :=
    { I_le := hI, N_le := Hp.none_le _, N_new := (fun b o h => (by cases h)), os := rfl, tape := rfl, output := rfl, size := Nat.le_refl _, keep := (fun _ _ _ => rfl), obj := (fun id o h => (by cases h)),
      sep := (fun _ _ _ _ _ _ _ h => (by cases h)), excl := (fun _ _ _ _ h => (by cases h)), names := (fun _ _ h => (by cases h)), pin := (fun _ _ h => (by cases h)) }
  refine calls_of_wp hf hb ?_
  have hsr : SR G ⟨fn.ntmps, argTm args, [], 0⟩ { tmps := vals.toArray ++ Array.replicate (fn.ntmps - vals.toArray.size) undef, defers := [] } w := by
    refine ⟨Hp.none, fun _ => none, h0, by simp; omega, rfl, fun t d hd => ?_⟩
    have hd := getT_argTm hd
    obtain ⟨v, q1, q2⟩ := hv.get t d hd
    have ht : t < vals.length := (List.getElem?_eq_some_iff.1 q1).1
    have e : (vals.toArray ++ Array.replicate (fn.ntmps - vals.toArray.size) undef).getD t undef = v := by
      rw [Array.getD_eq_getD_getElem?, Array.getElem?_append_left (by simpa using ht)]
      simp [q1]
    rw [e]
    exact VR.of1 q2
  refine wp_mono (h lay hm G rfl _ w hsr) fun e a w' ⟨t, q, hs⟩ => ?_
  obtain ⟨he, ds, ds', q1, q2, q3⟩ := q
  obtain ⟨N, ι, h1, h2⟩ := hs
  obtain ⟨vs, r1, r2⟩ := run_rets (G := G) lay h1 h2 _ _ q1
  have hfz := (frzs_VRs h1 (fun _ h => h) r2 q2).le q3
  have hbel := h1.below (fun _ h => h)
  have hrun : (results fn a.tmps).run P w' = .ok (if h : vs.toArray.size = 1 then vs.toArray[0] else .tuple vs.toArray) w' := by
    show ((fn.results.mapM (resOne a)) >>= fun vs => (pure (if h : vs.size = 1 then vs[0] else .tuple vs) : Sem Value)).run P w' = _
    rw [Sem.run_bind, Array.mapM_eq_mapM_toList, Sem.run_map, r1]
    rfl
  have hvl := hfz.length
  have hres : VR ⟨P, I, newHp w.heap.size w', fun _ => none⟩ r (if h : vs.toArray.size = 1 then vs.toArray[0] else .tuple vs.toArray) := by
    cases r with
    | tup l =>
      replace hfz : VRs _ l vs := hfz
      have hvl := hfz.length
      replace hr : fn.results.size = l.length ∧ l.length ≠ 1 := hr
      have hne : ¬ vs.toArray.size = 1 := by simp; omega
      rw [dif_neg hne]
      exact ⟨vs.toArray, rfl, by simpa using hfz⟩
    | _ =>
      all_goals
        cases hfz with
        | cons hd hs =>
          cases hs
          rw [dif_pos (by simp)]
          exact VR.of1 (by simpa using hd)
  rcases he with rfl | rfl
  · exact ⟨h2.defers, _, hrun, _, rfl, hbel, hres⟩
  · exact ⟨h2.defers, _, hrun, _, rfl, hbel, hres⟩

end Go.Apl

/- APL, part 15: regions, slim; operations under a guard are run ahead, and what they yield is held to be so where the guard holds. Over any program. -/
namespace Go.Apl
open Go
open Go.RowKit (Below)
set_option linter.unusedSimpArgs false
set_option linter.unusedVariables false

/-- An operation without what doesn't matter in a region's own order. -/
structure Sop where
  dst : Option Tmp
  op : Op
  guard : Option (Nat × Bool)
def slim (o : Oper) : Sop := ⟨o.dst, o.op, o.guard⟩

/-- What holds where a guard holds. -/
abbrev Fr := List ((Nat × Bool) × List (Nat × D))
def getF (j : Nat) (b : Bool) : Fr → List (Nat × D)
  | [] => []
  | ((i, c), ov) :: fr => if i = j ∧ c = b then ov else getF j b fr
def delF (j : Nat) (b : Bool) : Fr → Fr
  | [] => []
  | ((i, c), ov) :: fr => if i = j ∧ c = b then delF j b fr else ((i, c), ov) :: delF j b fr
def St.over (ov : List (Nat × D)) (s : St) : St := ⟨s.n, ov ++ s.tm, s.σ, s.nx⟩
/-- What holds where a temporary is so. -/
def ovOf (gs : List (Option Tmp)) (tc : Tmp) (b : Bool) : Fr → List (Nat × D)
  | [] => []
  | ((i, c), ov) :: fr => if c = b ∧ gs[i]? = some (some tc) then ov ++ ovOf gs tc b fr else ovOf gs tc b fr
/-- A target that no guard and no held value bears. -/
def freeF (gs : List (Option Tmp)) (dst : Option Tmp) : Fr → Bool
  | [] => true
  | ((i, _), ov) :: fr => (match dst with
    | some t => decide (gs[i]? ≠ some (some t)) && (getT t ov).isNone
    | none => true) && freeF gs dst fr

section
variable {P : Program} {Q : Exit → St → Prop} {s : St}

theorem getT_append {α : Type} {k : Nat} {l m : List (Nat × α)} : getT k (l ++ m) = match getT k l with | some x => some x | none => getT k m := by
  induction l with
  | nil => rfl
  | cons x l ih =>
    obtain ⟨j, y⟩ := x
    simp only [List.cons_append, getT]
    split
    · rfl
    · exact ih

/-- A guard's value. -/
def St.gd (s : St) (gs : List (Option Tmp)) (j : Nat) : Option Bool :=
  match gs[j]? with
  | some (some t) => match s.ev1 (.tmp t) with
    | .v (.bool b) => some b
    | _ => none
  | _ => none

theorem yield_of {C : Cx} {a : Act} (hf : FrR C s a) {ops : Array Oper} {gs : List (Option Tmp)} (hgs : ops.toList.map (·.dst) = gs) {j : Nat} {t : Tmp} {b : Bool} (ht : gs[j]? = some (some t)) (hb : s.ev1 (.tmp t) = .v (.bool b)) : yielded ops a.tmps j = some b := by
  have ht' : (ops[j]?).bind (·.dst) = some t := by
    rw [← hgs] at ht
    simp at ht
    obtain ⟨o, ho, hd⟩ := ht
    simp [ho, hd]
  have hv := ev1_ok hf (.tmp t)
  rw [hb] at hv
  have he : a.eval (.tmp t) = .bool b := by
    generalize a.eval (.tmp t) = v at hv
    cases hv; rfl
  simp only [Act.eval] at he
  have hlt : t < a.tmps.size := by
    rcases Nat.lt_or_ge t a.tmps.size with h | h
    · exact h
    · simp [Array.getD, Nat.not_lt.2 h, undef] at he
  have hg : a.tmps[t]? = some (.bool b) := by
    rw [Array.getElem?_eq_getElem hlt]
    simp [Array.getD, hlt] at he
    rw [he]
  simp [yielded, ht', hg]

theorem gd_ok {C : Cx} {a : Act} (hf : FrR C s a) {ops : Array Oper} {gs : List (Option Tmp)} (hgs : ops.toList.map (·.dst) = gs) {j : Nat} {b : Bool} (h : s.gd gs j = some b) : yielded ops a.tmps j = some b := by
  unfold St.gd at h
  split at h
  · rename_i t ht
    split at h
    · rename_i b' hb
      cases h
      exact yield_of hf hgs ht hb
    · cases h
  · cases h

/-- The held values are so. -/
def FrOK (C : Cx) (ops : Array Oper) (fr : Fr) (a : Act) : Prop :=
  ∀ j b ov, ((j, b), ov) ∈ fr → yielded ops a.tmps j = some b → ∀ t d, getT t ov = some d → VR C d (a.tmps.getD t undef)

theorem FrOK.mono {C C' : Cx} (h : Cx.le C C') {ops : Array Oper} {fr : Fr} {a : Act} (hf : FrOK C ops fr a) : FrOK C' ops fr a :=
  fun j b ov hm hy t d hd => (hf j b ov hm hy t d hd).mono h

theorem yielded_put {ops : Array Oper} {gs : List (Option Tmp)} (hgs : ops.toList.map (·.dst) = gs) {a : Act} {j : Nat} {dst : Option Tmp} {v : Value} (h : ∀ t, dst = some t → gs[j]? ≠ some (some t)) :
    yielded ops (a.put dst v).tmps j = yielded ops a.tmps j := by
  cases dst with
  | none => rfl
  | some t =>
    have h := h t rfl
    have hne : ∀ u, (ops[j]?).bind (·.dst) = some u → u ≠ t := by
      intro u hu e
      subst e
      apply h
      rw [← hgs]
      simp only [List.getElem?_map, Array.getElem?_toList]
      cases ho : ops[j]? with
      | none => rw [ho] at hu; cases hu
      | some o => rw [ho] at hu; simp at hu; simp [hu]
    unfold yielded
    cases hu : (ops[j]?).bind (·.dst) with
    | none => rfl
    | some u =>
      have := hne u hu
      simp only [Act.put, Option.bind_some]
      rw [Array.getElem?_setIfInBounds_ne (fun e => this e.symm)]

theorem FrOK.put {C : Cx} {ops : Array Oper} {gs : List (Option Tmp)} (hgs : ops.toList.map (·.dst) = gs) {fr : Fr} {a : Act} {dst : Option Tmp} {v : Value} (hf : FrOK C ops fr a) (h : freeF gs dst fr = true) : FrOK C ops fr (a.put dst v) := by
  induction fr with
  | nil => intro j b ov hm; cases hm
  | cons x fr ih =>
    obtain ⟨⟨i, c⟩, ov0⟩ := x
    simp only [freeF, Bool.and_eq_true] at h
    have ih' := ih (fun j b ov hm => hf j b ov (List.mem_cons_of_mem _ hm)) h.2
    intro j b ov hm hy t d hd
    rcases List.mem_cons.1 hm with e | hm
    · cases e
      cases dst with
      | none => exact hf _ _ _ (List.mem_cons_self ..) hy t d hd
      | some u =>
        have h1 := h.1
        simp at h1
        rw [yielded_put hgs (fun t e => by cases e; exact h1.1)] at hy
        have := hf _ _ _ (List.mem_cons_self ..) hy t d hd
        have hne : u ≠ t := fun e => by subst e; rw [h1.2] at hd; cases hd
        simp only [Act.put]
        have e : (a.tmps.setIfInBounds u v).getD t undef = a.tmps.getD t undef := by
          simp [Array.getD_eq_getD_getElem?, Array.getElem?_setIfInBounds_ne hne]
        rwa [e]
    · exact ih' j b ov hm hy t d hd

theorem FrR.over {C : Cx} {a : Act} (hf : FrR C s a) {ov : List (Nat × D)} (h : ∀ t d, getT t ov = some d → VR C d (a.tmps.getD t undef)) : FrR C (s.over ov) a :=
  ⟨hf.size, hf.defers, fun t d hd => by
    simp only [St.over, getT_append] at hd
    split at hd
    · rename_i x hx; cases hd; exact h t _ hx
    · exact hf.get t d hd⟩

theorem getF_ok {C : Cx} {ops : Array Oper} {a : Act} {j : Nat} {b : Bool} : ∀ {fr : Fr}, FrOK C ops fr a → yielded ops a.tmps j = some b → ∀ t d, getT t (getF j b fr) = some d → VR C d (a.tmps.getD t undef)
  | [], _, _, _, _, h => by cases h
  | ((i, c), ov) :: fr, hf, hy, t, d, h => by
    simp only [getF] at h
    split at h
    · rename_i he
      obtain ⟨rfl, rfl⟩ := he
      exact hf _ _ _ (by simp) hy t d h
    · exact getF_ok (fun j b ov hm => hf j b ov (List.mem_cons_of_mem _ hm)) hy t d h

theorem ovOf_ok {C : Cx} {ops : Array Oper} {gs : List (Option Tmp)} {a : Act} {tc : Tmp} {b : Bool} (hy : ∀ j, gs[j]? = some (some tc) → yielded ops a.tmps j = some b) : ∀ {fr : Fr}, FrOK C ops fr a → ∀ t d, getT t (ovOf gs tc b fr) = some d → VR C d (a.tmps.getD t undef)
  | [], _, _, _, h => by cases h
  | ((i, c), ov) :: fr, hf, t, d, h => by
    have ih := ovOf_ok hy (fr := fr) (fun j b ov hm => hf j b ov (List.mem_cons_of_mem _ hm)) t d
    simp only [ovOf] at h
    split at h
    · rename_i he
      obtain ⟨rfl, he⟩ := he
      rw [getT_append] at h
      split at h
      · rename_i x hx; cases h; exact hf _ _ _ (by simp) (hy i he) t _ hx
      · exact ih h
    · exact ih h

theorem delF_mem {j : Nat} {b : Bool} : ∀ {fr : Fr} {x : (Nat × Bool) × List (Nat × D)}, x ∈ delF j b fr → x ∈ fr
  | [], _, h => h
  | ((i, c), ov) :: fr, x, h => by
    simp only [delF] at h
    split at h
    · exact List.mem_cons_of_mem _ (delF_mem h)
    · rcases List.mem_cons.1 h with rfl | h
      · simp
      · exact List.mem_cons_of_mem _ (delF_mem h)

/-- From a state on, a region's rest leads to K, without a departure. -/
def RL (P : Program) (gs : List (Option Tmp)) (sl : List Sop) (s : St) (fr : Fr) (K : St → Prop) : Prop :=
  ∀ (ops : Array Oper) (l : List Oper) (Q : Exit → St → Prop), ops.toList.map (·.dst) = gs → l.map slim = sl → (∀ s', K s' → Q .normal s') →
    LayOK P → P.follows .mixedOrders = true → ∀ G, G.P = P → ∀ a w N ι, HR G w N ι s.σ s.nx → FrR (G.cx N ι) s a → FrOK (G.cx N ι) ops fr a → wpList P ops (lift G Q) l a w

theorem RL.nil {gs : List (Option Tmp)} {fr : Fr} {K : St → Prop} (h : K s) : RL P gs [] s fr K := by
  intro ops l Q hg hl hK lay hm G hG a w N ι h1 h2 _
  have : l = [] := by simpa using hl
  subst this
  exact ⟨s, hK s h, N, ι, h1, h2⟩

theorem Awp.reg {id : Nat} {l : List Oper} {y : Code} (h : ∀ K : St → Prop, (∀ s', Awp P y Q s' → K s') → RL P (l.map (·.dst)) (l.map slim) s [] K) : Awp P (.seq (.region id l.toArray false) y) Q s :=
  Awp.seq fun lay hm G hG a w ⟨N, ι, h1, h2⟩ => wp_region_lit (h _ (fun _ h => h) l.toArray l _ (by simp) rfl (fun s' h => h) lay hm G hG a w N ι h1 h2 (fun _ _ _ h => by cases h))
/-- A region at the end. -/
theorem Awp.regE {id : Nat} {l : List Oper} (h : ∀ K : St → Prop, (∀ s', Q .normal s' → K s') → RL P (l.map (·.dst)) (l.map slim) s [] K) : Awp P (.region id l.toArray false) Q s :=
  fun lay hm G hG a w ⟨N, ι, h1, h2⟩ => wp_region_lit (h _ (fun _ h => h) l.toArray l _ (by simp) rfl (fun s' h => h) lay hm G hG a w N ι h1 h2 (fun _ _ _ h => by cases h))

def isCall (o : Op) : Bool :=
  match o with
  | .call c => match c.callee with
    | .builtin .cap => true
    | .builtin _ => false
    | _ => true
  | .binOp _ _ _ (.const (.slice none 0 0)) _ => true
  | _ => false

/-- Operations that neither make nor write. -/
def isPure (o : Op) : Bool :=
  match o with
  | .move _ | .assign _ | .load .. | .nilCheck _ | .binOp .. | .unOp .. | .convert .. | .fieldAddr .. | .field .. | .indexAddr .. | .extract .. | .build .. | .slice .. => true
  | .call c => match c.callee with
    | .builtin .len | .builtin .min | .builtin .max => true
    | _ => false
  | _ => false

theorem isPure_same {o : Op} {r : D} {σ : Sg} {nx : Nat} (h : isPure o = true) (hr : aop P s o = some (r, σ, nx)) : σ = s.σ ∧ nx = s.nx := by
  unfold aop at hr
  split at hr <;> simp [isPure] at h
  all_goals try (split at hr <;> first | (cases hr; exact ⟨rfl, rfl⟩) | (split at hr <;> first | (cases hr; exact ⟨rfl, rfl⟩) | cases hr) | cases hr)
  all_goals try (cases hr; exact ⟨rfl, rfl⟩)
  all_goals
    rename_i c
    obtain ⟨callee, args, ats⟩ := c
    cases callee <;> simp at h hr
    rename_i b
    unfold abi at hr
    cases b <;> simp at h <;> (split at hr <;> first | (split at hr <;> first | (cases hr; exact ⟨rfl, rfl⟩) | cases hr) | cases hr | skip)
    all_goals contradiction

def doOp (P : Program) (o : Sop) (s : St) (K : St → Prop) : Prop :=
  match aop P s o.op with
  | some (r, σ, nx) => dstOk s o.dst ∧ K (s.put o.dst r σ nx)
  | none => False

/-- A choice, whose parts may be held values. -/
def doPick (gs : List (Option Tmp)) (fr : Fr) (dst : Option Tmp) (c x y : Operand) (s : St) (K : St → Prop) : Prop :=
  match c with
  | .tmp tc => match s.ev1 (.tmp tc) with
    | .v (.bool t) => dstOk s dst ∧ K (s.put dst (apick t ((s.over (ovOf gs tc true fr)).ev1 x) ((s.over (ovOf gs tc false fr)).ev1 y)) s.σ s.nx)
    | _ => False
  | _ => False

def isPick (o : Op) : Option (Operand × Operand × Operand) :=
  match o with
  | .pick c x y => some (c, x, y)
  | _ => none

/-- A pure operation under a guard: ahead. -/
def doAhead (P : Program) (gs : List (Option Tmp)) (o : Sop) (j : Nat) (want b : Bool) (s : St) (fr : Fr) (K : St → Fr → Prop) : Prop :=
  match o.dst with
  | some t => t < s.n ∧ freeF gs (some t) fr = true ∧ gs[j]? ≠ some (some t) ∧
    match aop P (s.over (getF j want fr)) o.op with
    | some (r, _, _) => K (s.put o.dst .undef s.σ s.nx) (((j, want), (t, r) :: getF j want fr) :: delF j want fr)
    | none => b ≠ want ∧ K (s.put o.dst .undef s.σ s.nx) fr
  | none => False

def runL (P : Program) (gs : List (Option Tmp)) (K : St → Prop) : List Sop → St → Fr → Prop
  | [], s, _ => K s
  | o :: rest, s, fr =>
    match o.guard with
    | none => match isPick o.op with
      | some (c, x, y) => freeF gs o.dst fr = true ∧ doPick gs fr o.dst c x y s (fun s' => runL P gs K rest s' fr)
      | none => if isCall o.op then RL P gs (o :: rest) s fr K else freeF gs o.dst fr = true ∧ doOp P o s (fun s' => runL P gs K rest s' fr)
    | some (j, want) => match s.gd gs j with
      | some b => if isCall o.op then RL P gs (o :: rest) s fr K
        else if isPure o.op then doAhead P gs o j want b s fr (fun s' fr' => runL P gs K rest s' fr')
        else freeF gs o.dst fr = true ∧ (if b = want then doOp P o (s.over (getF j want fr)) (fun s' => runL P gs K rest s' fr) else dstOk s o.dst ∧ runL P gs K rest (s.put o.dst .undef s.σ s.nx) fr)
      | none => False

theorem VR.undef (C : Cx) (v : Value) : VR C .undef v := trivial

theorem doOp_wp {ops : Array Oper} {gs : List (Option Tmp)} (hgs : ops.toList.map (·.dst) = gs) {rest : List Oper} {o : Oper} {fr : Fr} (lay : LayOK P) (hm : P.follows .mixedOrders = true) {K : St → Prop} (h : doOp P (slim o) s K) (hfree : freeF gs o.dst fr = true)
    {G : Gh} (hG : G.P = P) {a : Act} {w : World} {N : Hp} {ι : Nat → Option Loc} (h1 : HR G w N ι s.σ s.nx) (h2 : FrR (G.cx N ι) s a) (h3 : FrOK (G.cx N ι) ops fr a)
    (hK : ∀ s' a' w' N' ι', K s' → HR G w' N' ι' s'.σ s'.nx → FrR (G.cx N' ι') s' a' → FrOK (G.cx N' ι') ops fr a' → wpList P ops (lift G Q) rest a' w') :
    o.wp P a w (wpList P ops (lift G Q) rest) (lift G Q) := by
  subst hG
  unfold doOp at h
  split at h
  · rename_i r σ nx hr
    obtain ⟨hd, hk⟩ := h
    have hr : aop G.P s o.op = some (r, σ, nx) := hr
    have hd : dstOk s o.dst := hd
    obtain ⟨nv, w', ι', q1, q2, q3, q4⟩ := aop_ok lay h1 h2 hr
    unfold Oper.wp
    rw [q1]
    rcases q4 with ⟨v, rfl, hv⟩ | ⟨rfl, rfl⟩
    · exact hK _ _ _ N ι' hk (by cases hdd : o.dst <;> simpa [St.put, hdd, slim] using q2) (h2.put q3 o.dst hv hd σ nx) ((h3.mono q3).put hgs hfree)
    · exact hK _ _ _ N ι' hk (by cases hdd : o.dst <;> simpa [St.put, hdd, slim] using q2) (h2.put q3 o.dst (VR.undef _ _) hd σ nx) ((h3.mono q3).put hgs hfree)
  · exact h.elim

theorem St.over_put_σ {ov : List (Nat × D)} {dst : Option Tmp} {r : D} {σ : Sg} {nx : Nat} : (s.put dst r σ nx).σ = σ ∧ (s.put dst r σ nx).nx = nx := by cases dst <;> exact ⟨rfl, rfl⟩

theorem freeF_guard {gs : List (Option Tmp)} {t : Tmp} : ∀ {fr : Fr} {j : Nat} {b : Bool} {ov : List (Nat × D)}, freeF gs (some t) fr = true → ((j, b), ov) ∈ fr → gs[j]? ≠ some (some t) ∧ getT t ov = none
  | ((i, c), ov0) :: fr, j, b, ov, h, hm => by
    simp only [freeF, Bool.and_eq_true] at h
    rcases List.mem_cons.1 hm with e | hm
    · cases e; simpa using h.1
    · exact freeF_guard h.2 hm

theorem RL.run {gs : List (Option Tmp)} {K : St → Prop} : ∀ {sl : List Sop} {s : St} {fr : Fr}, runL P gs K sl s fr → RL P gs sl s fr K
  | [], s, fr, h => RL.nil h
  | so :: rest, s, fr, h => by
    intro ops l Q hgs hl hK lay hm G hG a w N ι h1 h2 h3
    cases l with
    | nil => simp at hl
    | cons o l =>
      simp at hl
      obtain ⟨rfl, rfl⟩ := hl
      have whole : RL P gs (slim o :: l.map slim) s fr K → wpList P ops (lift G Q) (o :: l) a w :=
        fun h => h ops (o :: l) Q hgs (by simp) hK lay hm G hG a w N ι h1 h2 h3
      simp only [runL] at h
      split at h
      · rename_i hg
        have hg : o.guard = none := hg
        have hw : Region.wanted o (yielded ops a.tmps) = true := by simp [Region.wanted, hg]
        split at h
        · -- pick
          rename_i c x y hp
          obtain ⟨hfree, h⟩ := h
          have hfree : freeF gs o.dst fr = true := hfree
          have hop : o.op = .pick c x y := by
            have hp : isPick o.op = some (c, x, y) := hp
            unfold isPick at hp
            split at hp
            · rename_i he; cases hp; exact he
            · cases hp
          unfold doPick at h
          split at h
          · rename_i tc
            split at h
            · rename_i t ht
              obtain ⟨hd, hk⟩ := h
              have hd : dstOk s o.dst := hd
              have hc := ev1_ok h2 (.tmp tc)
              rw [ht] at hc
              have hcv : a.eval (.tmp tc) = .bool t := by
                generalize a.eval (.tmp tc) = v at hc
                cases hc; rfl
              simp only [wpList]
              rw [if_pos hw]
              refine .inl ?_
              have hrun : (execOp a.eval o).run P w = .ok (.value (if t = true then a.eval x else a.eval y)) w := by
                simp only [execOp, hop, hcv, asBool, Sem.run_bind, Sem.run_pure, Result.andThen_ok]
              unfold Oper.wp
              rw [hrun]
              have hv : VR (G.cx N ι) (apick t ((s.over (ovOf gs tc true fr)).ev1 x) ((s.over (ovOf gs tc false fr)).ev1 y)) (if t = true then a.eval x else a.eval y) := by
                cases t
                · exact VR.of1 (ev1_ok (h2.over (ovOf_ok (fun j hj => yield_of h2 hgs hj ht) h3)) y)
                · exact VR.of1 (ev1_ok (h2.over (ovOf_ok (fun j hj => yield_of h2 hgs hj ht) h3)) x)
              exact RL.run hk ops l Q hgs rfl hK lay hm G hG _ _ N ι (by simpa [slim, (St.over_put_σ (ov := [])).1, (St.over_put_σ (ov := [])).2] using h1) (h2.put (Cx.le.refl _) o.dst hv hd s.σ s.nx) (h3.put hgs hfree)
            · exact h.elim
          · exact h.elim
        · split at h
          · exact whole h
          · simp only [wpList]
            rw [if_pos hw]
            exact .inl (doOp_wp hgs lay hm h.2 h.1 hG h1 h2 h3 fun s' a' w' N' ι' hk g1 g2 g3 => RL.run hk ops l Q hgs rfl hK lay hm G hG a' w' N' ι' g1 g2 g3)
      · rename_i j want hg
        have hg : o.guard = some (j, want) := hg
        split at h
        · rename_i b hb
          have hy := gd_ok h2 hgs hb
          split at h
          · exact whole h
          · split at h
            · -- ahead
              rename_i hpure
              unfold doAhead at h
              split at h
              · rename_i t hdst
                have hdst : o.dst = some t := hdst
                obtain ⟨hlt, hfree, hgt, h⟩ := h
                have hyp : ∀ v : Value, yielded ops (a.put o.dst v).tmps j = yielded ops a.tmps j := fun v =>
                  yielded_put hgs fun u hu => by rw [hdst] at hu; cases hu; exact hgt
                split at h
                · rename_i r σ nx hr
                  by_cases hbw : b = want
                  · subst hbw
                    have hw : Region.wanted o (yielded ops a.tmps) = true := by simp [Region.wanted, hg, hy]
                    simp only [wpList]
                    rw [if_pos hw]
                    refine .inl ?_
                    have hr : aop P (s.over (getF j b fr)) o.op = some (r, σ, nx) := hr
                    obtain ⟨e1, e2⟩ := isPure_same hpure hr
                    subst e1; subst e2
                    obtain ⟨nv, w', ι', q1, q2, q3, q4⟩ := aop_ok (s := s.over (getF j b fr)) (hG ▸ lay) h1 (h2.over (getF_ok h3 hy)) (by rw [hG]; exact hr)
                    rw [hG] at q1
                    unfold Oper.wp
                    rw [q1]
                    have fin : ∀ v : Value, VR (G.cx N ι') r v → wpList P ops (lift G Q) l (a.put o.dst v) w' := fun v hv => by
                      have hput : (s.put (slim o).dst .undef s.σ s.nx) = ⟨s.n, (t, .undef) :: s.tm, s.σ, s.nx⟩ := by
                        show s.put o.dst .undef s.σ s.nx = _
                        rw [hdst]; rfl
                      refine RL.run h ops l Q hgs rfl hK lay hm G hG _ _ N ι' (by rw [hput]; exact q2) (h2.put q3 o.dst (VR.undef _ _) (by rw [hdst]; exact hlt) s.σ s.nx) ?_
                      have h3' := h3.mono q3
                      intro j' b' ov' hm' hy' u d hd
                      rcases List.mem_cons.1 hm' with e | hm'
                      · cases e
                        simp only [getT] at hd
                        by_cases hu : t = u
                        · subst hu
                          rw [if_pos rfl] at hd; cases hd
                          have : t < a.tmps.size := by rw [h2.size]; exact hlt
                          simpa [Act.put, hdst, Array.getD, this] using hv
                        · rw [if_neg hu] at hd
                          have := getF_ok h3' hy u d hd
                          simp only [Act.put, hdst]
                          have e : (a.tmps.setIfInBounds t v).getD u undef = a.tmps.getD u undef := by
                            simp [Array.getD_eq_getD_getElem?, Array.getElem?_setIfInBounds_ne hu]
                          rwa [e]
                      · exact (h3'.put (v := v) hgs (by rw [hdst]; exact hfree)) j' b' ov' (delF_mem hm') hy' u d hd
                    rcases q4 with ⟨v, rfl, hv⟩ | ⟨rfl, rfl⟩
                    · exact fin v hv
                    · exact fin undef (VR.undef _ _)
                  · have hw : ¬ Region.wanted o (yielded ops a.tmps) = true := by simp [Region.wanted, hg, hy]; exact hbw
                    simp only [wpList]
                    rw [if_neg hw]
                    have hput : (s.put (slim o).dst .undef s.σ s.nx) = ⟨s.n, (t, .undef) :: s.tm, s.σ, s.nx⟩ := by
                      show s.put o.dst .undef s.σ s.nx = _
                      rw [hdst]; rfl
                    refine RL.run h ops l Q hgs rfl hK lay hm G hG _ _ N ι (by rw [hput]; exact h1) (h2.put (Cx.le.refl _) o.dst (VR.undef _ _) (by rw [hdst]; exact hlt) s.σ s.nx) ?_
                    intro j' b' ov' hm' hy' u d hd
                    rcases List.mem_cons.1 hm' with e | hm'
                    · cases e
                      rw [hyp, hy] at hy'
                      cases hy'
                      exact absurd rfl hbw
                    · exact (h3.put (v := Go.undef) hgs (by rw [hdst]; exact hfree)) j' b' ov' (delF_mem hm') hy' u d hd
                · obtain ⟨hbw, h⟩ := h
                  have hw : ¬ Region.wanted o (yielded ops a.tmps) = true := by simp [Region.wanted, hg, hy]; exact hbw
                  simp only [wpList]
                  rw [if_neg hw]
                  have hput : (s.put (slim o).dst .undef s.σ s.nx) = ⟨s.n, (t, .undef) :: s.tm, s.σ, s.nx⟩ := by
                    show s.put o.dst .undef s.σ s.nx = _
                    rw [hdst]; rfl
                  exact RL.run h ops l Q hgs rfl hK lay hm G hG _ _ N ι (by rw [hput]; exact h1) (h2.put (Cx.le.refl _) o.dst (VR.undef _ _) (by rw [hdst]; exact hlt) s.σ s.nx) (h3.put hgs (by rw [hdst]; exact hfree))
              · exact h.elim
            · obtain ⟨hfree, h⟩ := h
              split at h
              · rename_i hbw
                subst hbw
                have hw : Region.wanted o (yielded ops a.tmps) = true := by simp [Region.wanted, hg, hy]
                simp only [wpList]
                rw [if_pos hw]
                exact .inl (doOp_wp (s := s.over (getF j b fr)) hgs lay hm h hfree hG h1 (h2.over (getF_ok h3 hy)) h3 fun s' a' w' N' ι' hk g1 g2 g3 => RL.run hk ops l Q hgs rfl hK lay hm G hG a' w' N' ι' g1 g2 g3)
              · rename_i hbw
                have hw : ¬ Region.wanted o (yielded ops a.tmps) = true := by simp [Region.wanted, hg, hy]; exact hbw
                simp only [wpList]
                rw [if_neg hw]
                have hd : dstOk s o.dst := h.1
                exact RL.run h.2 ops l Q hgs rfl hK lay hm G hG _ _ N ι (by cases hdd : o.dst <;> simpa [St.put, hdd, slim] using h1) (h2.put (Cx.le.refl _) o.dst (VR.undef _ _) hd s.σ s.nx) (h3.put hgs hfree)
        · exact h.elim

theorem run_goCall {w : World} {G : Gh} {a : Act} {o : Oper} {f : FuncId} {args : List Operand} {ats : Array TypeId} {dargs : List D} {r : D} (hc : PureF G.P f dargs r) (lay : LayOK G.P) (hm : G.P.follows .mixedOrders = true)
    (hop : o.op = .call ⟨.value (.func f), args.toArray, ats⟩) {N : Hp} {ι : Nat → Option Loc} (h1 : HR G w N ι s.σ s.nx) (h2 : FrR (G.cx N ι) s a) (hargs : mapO (vw 9 s.σ) (args.map s.ev1) = some dargs) (hfr : r.fresh = true)
    {K : Act → World → Prop} (hK : ∀ v w' N', HR G w' N' ι s.σ s.nx → Cx.le (G.cx N ι) (G.cx N' ι) → VR (G.cx N' ι) r v → K (a.put o.dst v) w') {Q0 : Exit → Act → World → Prop} : o.wp G.P a w K Q0 := by
  have hv := vws_ok h1 (evs_ok h2 args) hargs
  have hcall := hc.run lay hm w (hpOf w) (args.map a.eval) (Hp.le_refl _) hv
  obtain ⟨dst', op', type, pos, after, guard'⟩ := o
  simp only at hop
  subst hop
  unfold Oper.wp
  rw [execOp_call_go, run_callFunc hc.go]
  simp only [Oper.upon]
  have e : #[] ++ Array.map a.eval args.toArray ++ #[] = (args.map a.eval).toArray := by simp
  rw [e]
  refine hcall.mono fun e w' ⟨v, he, hb, hvr⟩ => ?_
  subst he
  obtain ⟨q1, q2⟩ := h1.call hb
  refine hK v w' _ q1 q2 (hvr.bring hfr rfl ?_)
  intro b x hx
  simp only [Gh.cx, Hp.or]
  cases hN : N b with
  | none => simpa using hx
  | some y =>
    have h3 := hpOf_lt (h1.N_le _ _ hN)
    simp [newHp] at hx
    omega

/-- A call of a function by its contract. -/
theorem RL.callF {gs : List (Option Tmp)} {K : St → Prop} {rest : List Sop} {dst : Option Tmp} {f : FuncId} {args : List Operand} {ats : Array TypeId} {fr : Fr}
    {dargs : List D} {r : D} (hc : PureF P f dargs r) (hargs : mapO (vw 9 s.σ) (args.map s.ev1) = some dargs) (hfr : r.fresh = true) (hd : freeF gs dst fr = true ∧ dstOk s dst)
    (hK : runL P gs K rest (s.put dst r s.σ s.nx) fr) : RL P gs (⟨dst, .call ⟨.value (.func f), args.toArray, ats⟩, none⟩ :: rest) s fr K := by
  intro ops l Q hgs hl hKQ lay hm G hG a w N ι h1 h2 h3
  cases l with
  | nil => simp at hl
  | cons o l =>
    simp only [List.map_cons, List.cons.injEq] at hl
    obtain ⟨ho, rfl⟩ := hl
    have e1 : o.dst = dst := by
      have := congrArg Sop.dst ho
      exact this
    have e2 : o.op = .call ⟨.value (.func f), args.toArray, ats⟩ := by
      have := congrArg Sop.op ho
      exact this
    have e3 : o.guard = none := by
      have := congrArg Sop.guard ho
      exact this
    simp only [wpList]
    rw [if_pos (by simp [Region.wanted, e3])]
    refine .inl ?_
    subst hG
    subst e1
    exact run_goCall hc lay hm e2 h1 h2 hargs hfr fun v w' N' q1 q2 q3 =>
      RL.run hK ops l Q hgs rfl hKQ lay hm G rfl _ _ N' ι (by rw [St.over_put_σ (ov := []).1, (St.over_put_σ (ov := [])).2]; exact q1) (h2.put q2 o.dst q3 hd.2 s.σ s.nx) ((h3.mono q2).put hgs hd.1)

/-- A call under a guard, ahead. -/
theorem RL.callG {gs : List (Option Tmp)} {K : St → Prop} {rest : List Sop} {t : Tmp} {f : FuncId} {args : List Operand} {ats : Array TypeId} {fr : Fr} {j : Nat} {want b : Bool}
    {dargs : List D} {r : D} (hc : PureF P f dargs r) (hgd : s.gd gs j = some b) (hargs : mapO (vw 9 s.σ) (args.map (s.over (getF j want fr)).ev1) = some dargs) (hfr : r.fresh = true) (hd : freeF gs (some t) fr = true ∧ gs[j]? ≠ some (some t) ∧ t < s.n)
    (hK : runL P gs K rest (s.put (some t) .undef s.σ s.nx) (((j, want), (t, r) :: getF j want fr) :: delF j want fr)) : RL P gs (⟨some t, .call ⟨.value (.func f), args.toArray, ats⟩, some (j, want)⟩ :: rest) s fr K := by
  intro ops l Q hgs hl hKQ lay hm G hG a w N ι h1 h2 h3
  cases l with
  | nil => simp at hl
  | cons o l =>
    simp only [List.map_cons, List.cons.injEq] at hl
    obtain ⟨ho, rfl⟩ := hl
    have e1 : o.dst = some t := by
      have := congrArg Sop.dst ho
      exact this
    have e2 : o.op = .call ⟨.value (.func f), args.toArray, ats⟩ := by
      have := congrArg Sop.op ho
      exact this
    have hg : o.guard = some (j, want) := by
      have := congrArg Sop.guard ho
      exact this
    obtain ⟨hfree, hgt, hlt⟩ := hd
    have hy := gd_ok h2 hgs hgd
    have hyp : ∀ v : Value, yielded ops (a.put o.dst v).tmps j = yielded ops a.tmps j := fun v =>
      yielded_put hgs fun u hu => by rw [e1] at hu; cases hu; exact hgt
    subst hG
    by_cases hbw : b = want
    · subst hbw
      have hw : Region.wanted o (yielded ops a.tmps) = true := by simp [Region.wanted, hg, hy]
      simp only [wpList]
      rw [if_pos hw]
      refine .inl ?_
      refine run_goCall (s := s.over (getF j b fr)) hc lay hm e2 h1 (h2.over (getF_ok h3 hy)) hargs hfr fun v w' N' q1 q2 q3 => ?_
      refine RL.run hK ops l Q hgs rfl hKQ lay hm G rfl _ _ N' ι q1 (by rw [e1]; exact h2.put q2 (some t) (VR.undef _ _) hlt s.σ s.nx) ?_
      have h3' := h3.mono q2
      intro j' b' ov' hm' hy' u d hd
      rcases List.mem_cons.1 hm' with e | hm'
      · cases e
        simp only [getT] at hd
        by_cases hu : t = u
        · subst hu
          rw [if_pos rfl] at hd; cases hd
          have : t < a.tmps.size := by rw [h2.size]; exact hlt
          simpa [Act.put, e1, Array.getD, this] using q3
        · rw [if_neg hu] at hd
          have := getF_ok h3' hy u d hd
          simp only [Act.put, e1]
          have e : (a.tmps.setIfInBounds t v).getD u undef = a.tmps.getD u undef := by
            simp [Array.getD_eq_getD_getElem?, Array.getElem?_setIfInBounds_ne hu]
          rwa [e]
      · exact (h3'.put (v := v) hgs (by rw [e1]; exact hfree)) j' b' ov' (delF_mem hm') hy' u d hd
    · have hw : ¬ Region.wanted o (yielded ops a.tmps) = true := by simp [Region.wanted, hg, hy]; exact hbw
      simp only [wpList]
      rw [if_neg hw]
      refine RL.run hK ops l Q hgs rfl hKQ lay hm G rfl _ _ N ι h1 (by rw [e1]; exact h2.put (Cx.le.refl _) (some t) (VR.undef _ _) hlt s.σ s.nx) ?_
      intro j' b' ov' hm' hy' u d hd
      rcases List.mem_cons.1 hm' with e | hm'
      · cases e
        rw [hyp, hy] at hy'
        cases hy'
        exact absurd rfl hbw
      · exact (h3.put (v := Go.undef) hgs (by rw [e1]; exact hfree)) j' b' ov' (delF_mem hm') hy' u d hd
end
end Go.Apl

/- APL, part 16: loops by rounds, states cut down, what simp unfolds. Over any program. -/
namespace Go.Apl
open Go
open Go.RowKit (Below)
set_option linter.unusedSimpArgs false
set_option linter.unusedVariables false

section
variable {P : Program} {Q : Exit → St → Prop} {s : St}

/-- A loop that ends within so many rounds. -/
def Lp (P : Program) (c : Code) (Q : Exit → St → Prop) : Nat → St → Prop
  | 0, _ => False
  | n + 1, s => Awp P c (thenQ (Lp P c Q n) Q) s

theorem Awp.loopN {c : Code} (n : Nat) (h : Lp P c Q n s) : Awp P (.loop c) Q s := by
  refine Awp.loop (fun n s => Lp P c Q n s) n h fun n s hI => ?_
  cases n with
  | zero => exact hI.elim
  | succ n => exact Awp.mono hI fun e s' q => by cases e <;> first | exact ⟨n, Nat.lt_succ_self n, q⟩ | exact q

/-- A state with few temporaries. -/
def keepT (ks : List Nat) : List (Nat × D) → List (Nat × D)
  | [] => []
  | (k, d) :: l => if k ∈ ks then (k, d) :: keepT (ks.erase k) l else keepT ks l

theorem getT_keepT {k : Nat} {d : D} : ∀ {l : List (Nat × D)} {ks : List Nat}, getT k (keepT ks l) = some d → k ∈ ks ∧ getT k l = some d := by
  intro l
  induction l with
  | nil => intro ks h; cases h
  | cons x l ih =>
    obtain ⟨j, e⟩ := x
    intro ks h
    simp only [keepT] at h
    split at h
    · rename_i hj
      simp only [getT] at h ⊢
      by_cases he : j = k
      · subst he; rw [if_pos rfl] at h ⊢; exact ⟨hj, h⟩
      · rw [if_neg he] at h ⊢
        obtain ⟨h1, h2⟩ := ih h
        exact ⟨List.mem_of_mem_erase h1, h2⟩
    · rename_i hj
      obtain ⟨h1, h2⟩ := ih h
      simp only [getT]
      by_cases he : j = k
      · subst he; exact absurd h1 hj
      · rw [if_neg he]; exact ⟨h1, h2⟩

def St.keep (ks : List Nat) (s : St) : St := ⟨s.n, keepT ks s.tm, s.σ, s.nx⟩
theorem St.keep_le (ks : List Nat) (s : St) : St.le s (s.keep ks) :=
  ⟨rfl, fun t d h => .inr (.inl (getT_keepT h).2), fun _ _ h => h, Nat.le_refl _⟩

theorem Awp.keep (ks : List Nat) {c : Code} (h : Awp P c Q (s.keep ks)) : Awp P c Q s := Awp.weak (s.keep_le ks) h

theorem RL.mono {gs : List (Option Tmp)} {sl : List Sop} {fr : Fr} {K K' : St → Prop} (h : RL P gs sl s fr K) (hk : ∀ s, K s → K' s) : RL P gs sl s fr K' :=
  fun ops l Q h1 h2 h3 => h ops l Q h1 h2 fun s q => h3 s (hk s q)

/-- A region, then the rest, with few temporaries. -/
theorem Awp.rg (ks : List Nat) {id : Nat} {l : List Oper} {y : Code} (h : ∀ K : St → Prop, (∀ s', Awp P y Q s' → K s') → runL P (l.map (·.dst)) (fun s => K (s.keep ks)) (l.map slim) s []) : Awp P (.seq (.region id l.toArray false) y) Q s :=
  Awp.reg fun K hK => (RL.run (h (fun s => Awp P y Q s) (fun _ h => h))).mono fun s h => hK s (Awp.keep ks h)
/-- A region at the end. -/
theorem Awp.rgE {id : Nat} {l : List Oper} (h : ∀ K : St → Prop, (∀ s', Q .normal s' → K s') → runL P (l.map (·.dst)) K (l.map slim) s []) : Awp P (.region id l.toArray false) Q s :=
  Awp.regE fun K hK => RL.run (h K hK)

end

end Go.Apl

/- APL, part 17: regions that draw their order: one walk of the text's order serves every order. The law. Over any program. -/
namespace Go.Apl
open Go
open Go.RowKit (Below)
set_option linter.unusedSimpArgs false
set_option linter.unusedVariables false

def opT : Operand → List Nat
  | .tmp t => [t]
  | _ => []
def opsT : List Operand → List Nat
  | [] => []
  | x :: l => opT x ++ opsT l
def opO : Option Operand → List Nat
  | none => []
  | some x => opT x
/-- The temporaries that an operation reads. -/
def tms : Op → List Nat
  | .move x | .assign x | .nilCheck x => opT x
  | .pick c x y => opT c ++ (opT x ++ opT y)
  | .box _ x | .load _ x | .unOp _ _ x | .convert _ _ x | .fieldAddr _ x _ | .field _ x _ | .extract x _ => opT x
  | .build _ ps => opsT (ps.toList.map (·.2))
  | .buildSlice _ _ ps => opsT (ps.toList.map (·.2))
  | .store _ x y | .binOp _ _ x y _ | .indexAddr _ x y => opT x ++ opT y
  | .slice _ x lo hi mx => opT x ++ (opO lo ++ (opO hi ++ opO mx))
  | .call c => opsT c.args.toList ++ (match c.callee with | .value f => opT f | _ => [])
  | _ => []
/-- Operations that make, write or call. -/
def isEff (o : Op) : Bool := !isPure o && (isPick o).isNone

/-- Operations that a walk takes for quiet: calls that leave the store as it is. They stand in the last row of A. -/
def quiet (A : List (List Nat)) (n i : Nat) : Bool := (A.getD n []).contains i
def isEffQ (A : List (List Nat)) (n i : Nat) (o : Op) : Bool := isEff o && !quiet A n i

/-- What is asked of a region that draws: A holds what goes before each operation. -/
def rdsOf (ops : Array Oper) (o : Oper) : List Nat :=
  tms o.op ++ (match o.guard with
    | some (j, _) => (match ops[j]? with | some g => (match g.dst with | some t => [t] | none => []) | none => [])
    | none => [])
def ancB (ops : Array Oper) (A : List (List Nat)) (j : Nat) : Bool :=
  match ops[j]? with
  | some o => (o.after.toList.all fun e => !Region.binds .any e || ((A.getD j []).contains e.on && decide (e.on < j))) &&
      ((A.getD j []).all fun x => decide (x < j) && o.after.toList.any fun e => Region.binds .any e && (x == e.on || (A.getD e.on []).contains x))
  | none => true
def tmpB (ops : Array Oper) (A : List (List Nat)) (i : Nat) : Bool :=
  match ops[i]? with
  | some o => (List.range ops.size).all fun k => match ops[k]? with
    | some p => (match p.dst with
      | some t => (decide (k = i) || !(rdsOf ops o).contains t || (if k < i then (A.getD i []).contains k else (A.getD k []).contains i)) &&
          (decide (k = i) || decide (o.dst ≠ some t))
      | none => true) && (!(decide (k < i) && isEffQ A ops.size k p.op && isEffQ A ops.size i o.op) || (A.getD i []).contains k)
    | none => true
  | none => true
def drawB (ops : Array Oper) (A : List (List Nat)) : Bool :=
  (List.range ops.size).all fun i => ancB ops A i && tmpB ops A i

structure DrawOK (ops : Array Oper) (A : List (List Nat)) : Prop where
  lt : ∀ j x, x ∈ A.getD j [] → j < ops.size → x < j
  dir : ∀ (j : Nat) (o : Oper) (e : Edge), ops[j]? = some o → e ∈ o.after → Region.binds .any e = true → e.on ∈ A.getD j []
  path : ∀ (j : Nat) (o : Oper) (x : Nat), ops[j]? = some o → x ∈ A.getD j [] → ∃ e ∈ o.after, Region.binds .any e = true ∧ (x = e.on ∨ x ∈ A.getD e.on [])
  reads : ∀ (i k : Nat) (o p : Oper) (t : Nat), ops[i]? = some o → ops[k]? = some p → p.dst = some t → t ∈ rdsOf ops o → (k < i → k ∈ A.getD i []) ∧ (i < k → i ∈ A.getD k [])
  once : ∀ (i k : Nat) (o p : Oper) (t : Nat), ops[i]? = some o → ops[k]? = some p → o.dst = some t → p.dst = some t → i = k
  eff : ∀ (i k : Nat) (o p : Oper), ops[i]? = some o → ops[k]? = some p → isEffQ A ops.size i o.op = true → isEffQ A ops.size k p.op = true → k < i → k ∈ A.getD i []

theorem drawB_ok {ops : Array Oper} {A : List (List Nat)} (h : drawB ops A = true) : DrawOK ops A := by
  unfold drawB at h
  rw [List.all_eq_true] at h
  have ha : ∀ j o, ops[j]? = some o → ancB ops A j = true := fun j o ho => by
    have hlt := (Array.getElem?_eq_some_iff.1 ho).1
    have := h j (by simpa using hlt)
    simp only [Bool.and_eq_true] at this
    exact this.1
  have ht : ∀ j o, ops[j]? = some o → tmpB ops A j = true := fun j o ho => by
    have hlt := (Array.getElem?_eq_some_iff.1 ho).1
    have := h j (by simpa using hlt)
    simp only [Bool.and_eq_true] at this
    exact this.2
  have ht' : ∀ (i k : Nat) (o p : Oper), ops[i]? = some o → ops[k]? = some p → ((match p.dst with
      | some t => (decide (k = i) || !(rdsOf ops o).contains t || (if k < i then (A.getD i []).contains k else (A.getD k []).contains i)) &&
          (decide (k = i) || decide (o.dst ≠ some t))
      | none => true) && (!(decide (k < i) && isEffQ A ops.size k p.op && isEffQ A ops.size i o.op) || (A.getD i []).contains k)) = true := fun i k o p hi hk => by
    have h1 := ht i o hi
    unfold tmpB at h1
    rw [hi] at h1
    simp only [List.all_eq_true] at h1
    have hlt := (Array.getElem?_eq_some_iff.1 hk).1
    have h2 := h1 k (by simpa using hlt)
    rw [hk] at h2
    exact h2
  refine ⟨fun j x hx hj => ?_, fun j o e ho he hb => ?_, fun j o x ho hx => ?_, fun i k o p t hi hk hp hr => ?_, fun i k o p t hi hk ho hp => ?_, fun i k o p hi hk ho hp hlt => ?_⟩
  · have ho : ops[j]? = some ops[j] := Array.getElem?_eq_getElem hj
    have := ha j _ ho
    unfold ancB at this
    rw [ho] at this
    simp only [Bool.and_eq_true, List.all_eq_true] at this
    have h2 := this.2 x hx
    simp only [Bool.and_eq_true, decide_eq_true_eq] at h2
    exact h2.1
  · have := ha j o ho
    unfold ancB at this
    rw [ho] at this
    simp only [Bool.and_eq_true, List.all_eq_true] at this
    have h2 := this.1 e (by simpa using he)
    rw [hb] at h2
    simp at h2
    simpa using h2.1
  · have := ha j o ho
    unfold ancB at this
    rw [ho] at this
    simp only [Bool.and_eq_true, List.all_eq_true, List.any_eq_true] at this
    obtain ⟨_, e, he, hb, h3⟩ := this.2 x hx
    refine ⟨e, by simpa using he, hb, ?_⟩
    simpa using h3
  · have h1 := ht' i k o p hi hk
    rw [hp] at h1
    simp only [Bool.and_eq_true] at h1
    have h2 := h1.1.1
    have hr' : (rdsOf ops o).contains t = true := by simpa using hr
    rw [hr'] at h2
    constructor
    · intro hlt
      rw [if_pos hlt] at h2
      simp [Nat.ne_of_lt hlt] at h2
      simpa using h2
    · intro hlt
      rw [if_neg (by omega)] at h2
      have : ¬ k = i := by omega
      simp [this] at h2
      simpa using h2
  · have h1 := ht' i k o p hi hk
    rw [hp] at h1
    simp only [Bool.and_eq_true] at h1
    have h2 := h1.1.2
    simp [ho] at h2
    exact h2.symm
  · have h1 := ht' i k o p hi hk
    simp only [Bool.and_eq_true] at h1
    have h2 := h1.2
    simp [hlt, ho, hp] at h2
    simpa using h2

/-- What an operation does, seen from the trees. -/
def SemStep (P : Program) (o : Oper) (nd : List (Nat × D)) (cd : Nat → Prop) (σ : Sg) (nx : Nat) (r : D) (σ' : Sg) (nx' : Nat) : Prop :=
  LayOK P → P.follows .mixedOrders = true → ∀ G, G.P = P → ∀ (a : Act) (w : World) (N : Hp) (ι : Nat → Option Loc), HR G w N ι σ nx → a.defers = [] →
    (∀ t d, getT t nd = some d → cd t → VR (G.cx N ι) d (a.tmps.getD t undef)) → ∀ (K : Act → World → Prop) (Q : Exit → Act → World → Prop),
    (∀ v w' N' ι', HR G w' N' ι' σ' nx' → Cx.le (G.cx N ι) (G.cx N' ι') → VR (G.cx N' ι') r v → K (a.put o.dst v) w') → o.wp P a w K Q

/-- What the walk of the text's order has written down. -/
structure Tr where
  nd : Nat → List (Nat × D)
  cd : Nat → Nat → Prop
  r : Nat → D
  c : Nat → Prop
  σ : Nat → Sg
  nx : Nat → Nat
  gb : Nat → Bool
  R : Nat → List Nat

section
variable {P : Program} {Q : Exit → St → Prop}

def Jt (gs : List (Option Tmp)) (tm0 : List (Nat × D)) (T : Tr) (i t : Nat) (d : D) (cond : Prop) : Prop :=
  d = .undef ∨ (getT t tm0 = some d ∧ ∀ k, k < i → gs[k]? ≠ some (some t)) ∨ (∃ k, k < i ∧ gs[k]? = some (some t) ∧ T.r k = d ∧ (cond → T.c k))

structure TV (P : Program) (ops : Array Oper) (A : List (List Nat)) (gs : List (Option Tmp)) (tm0 : List (Nat × D)) (T : Tr) (i : Nat) (o : Oper) : Prop where
  g0 : o.guard = none → T.c i
  g1 : ∀ j w, o.guard = some (j, w) → (T.c i ↔ T.gb i = w) ∧ ∃ t, gs[j]? = some (some t) ∧ Jt gs tm0 T i t (.v (.bool (T.gb i))) True
  view : ∀ t d, getT t (T.nd i) = some d → t ∈ tms o.op ∧ Jt gs tm0 T i t d (T.c i ∧ T.cd i t)
  effS : isEffQ A ops.size i o.op = true → T.c i → SemStep P o (T.nd i) (T.cd i) (T.σ i) (T.nx i) (T.r i) (T.σ (i + 1)) (T.nx (i + 1))
  effN : isEffQ A ops.size i o.op = true → ¬ T.c i → T.σ (i + 1) = T.σ i ∧ T.nx (i + 1) = T.nx i
  rdS : isEffQ A ops.size i o.op = false → T.c i → ∀ σ nx, (∀ id ∈ T.R i, getT id σ = getT id (T.σ i)) → SemStep P o (T.nd i) (T.cd i) σ nx (T.r i) σ nx
  rdN : isEffQ A ops.size i o.op = false → T.σ (i + 1) = T.σ i ∧ T.nx (i + 1) = T.nx i

def Far (ops : Array Oper) (A : List (List Nat)) (T : Tr) (n : Nat) : Prop :=
  ∀ (i e : Nat) (o p : Oper), i < n → e < n → ops[i]? = some o → ops[e]? = some p → isEffQ A ops.size i o.op = false → isEffQ A ops.size e p.op = true → i ∈ A.getD e [] ∨ e ∈ A.getD i [] ∨ ∀ id ∈ T.R i, getT id (T.σ (e + 1)) = getT id (T.σ e)

structure DInv (G : Gh) (ops : Array Oper) (A : List (List Nat)) (gs : List (Option Tmp)) (tm0 : List (Nat × D)) (sz : Nat) (T : Tr) (listed : Array Bool) (a : Act) (w : World) : Prop where
  size : listed.size = ops.size
  down : ∀ j, listed.getD j false = true → ∀ x ∈ A.getD j [], listed.getD x false = true
  tsz : a.tmps.size = sz
  defers : a.defers = []
  rest : ∃ m, m ≤ ops.size ∧ (∀ (e : Nat) (p : Oper), ops[e]? = some p → isEffQ A ops.size e p.op = true → (listed.getD e false = true ↔ e < m)) ∧ ∃ N ι, HR G w N ι (T.σ m) (T.nx m) ∧
    (∀ t d, getT t tm0 = some d → (∀ i, listed.getD i false = true → gs[i]? ≠ some (some t)) → VR (G.cx N ι) d (a.tmps.getD t undef)) ∧
    (∀ i, listed.getD i false = true → ∀ t, gs[i]? = some (some t) → T.c i → VR (G.cx N ι) (T.r i) (a.tmps.getD t undef))

theorem gs_of {ops : Array Oper} {gs : List (Option Tmp)} (hgs : ops.toList.map (·.dst) = gs) {i : Nat} {t : Tmp} (h : gs[i]? = some (some t)) : ∃ o, ops[i]? = some o ∧ o.dst = some t := by
  rw [← hgs] at h
  simp at h
  exact h
theorem gs_to {ops : Array Oper} {gs : List (Option Tmp)} (hgs : ops.toList.map (·.dst) = gs) {i : Nat} {o : Oper} (h : ops[i]? = some o) : gs[i]? = some o.dst := by
  rw [← hgs]
  simp [h]

/-- Without effects between, the store stays. -/
theorem Tr.still {ops : Array Oper} {A : List (List Nat)} {gs : List (Option Tmp)} {tm0 : List (Nat × D)} {T : Tr} (tv : ∀ i o, ops[i]? = some o → TV P ops A gs tm0 T i o) (S : List Nat) : ∀ (d m : Nat), m + d ≤ ops.size →
    (∀ e p, m ≤ e → e < m + d → ops[e]? = some p → isEffQ A ops.size e p.op = true → ∀ id ∈ S, getT id (T.σ (e + 1)) = getT id (T.σ e)) → ∀ id ∈ S, getT id (T.σ (m + d)) = getT id (T.σ m)
  | 0, _, _, _, _, _ => rfl
  | d + 1, m, hle, h, id, hid => by
    have ih := Tr.still tv S d m (by omega) (fun e p h1 h2 => h e p h1 (by omega)) id hid
    have ho : ops[m + d]? = some ops[m + d] := Array.getElem?_eq_getElem (by omega)
    have : getT id (T.σ (m + d + 1)) = getT id (T.σ (m + d)) := by
      cases he : isEffQ A ops.size (m + d) (ops[m + d]).op with
      | true => exact h _ _ (by omega) (by omega) ho he id hid
      | false => rw [((tv _ _ ho).rdN he).1]
    show getT id (T.σ (m + d + 1)) = _
    rw [this, ih]
theorem Tr.same {ops : Array Oper} {A : List (List Nat)} {gs : List (Option Tmp)} {tm0 : List (Nat × D)} {T : Tr} (tv : ∀ i o, ops[i]? = some o → TV P ops A gs tm0 T i o) : ∀ (d m : Nat), m + d ≤ ops.size →
    (∀ e p, m ≤ e → e < m + d → ops[e]? = some p → isEffQ A ops.size e p.op = false) → T.σ (m + d) = T.σ m ∧ T.nx (m + d) = T.nx m
  | 0, _, _, _ => ⟨rfl, rfl⟩
  | d + 1, m, hle, h => by
    have ih := Tr.same tv d m (by omega) (fun e p h1 h2 => h e p h1 (by omega))
    have ho : ops[m + d]? = some ops[m + d] := Array.getElem?_eq_getElem (by omega)
    have := (tv _ _ ho).rdN (h _ _ (by omega) (by omega) ho)
    exact ⟨this.1.trans ih.1, this.2.trans ih.2⟩

theorem Jt_VR {C : Cx} {ops : Array Oper} {A : List (List Nat)} {gs : List (Option Tmp)} {tm0 : List (Nat × D)} {T : Tr} (hgs : ops.toList.map (·.dst) = gs) (ok : DrawOK ops A) {listed : Array Bool} {a : Act}
    (h1 : ∀ t d, getT t tm0 = some d → (∀ i, listed.getD i false = true → gs[i]? ≠ some (some t)) → VR C d (a.tmps.getD t undef))
    (h2 : ∀ i, listed.getD i false = true → ∀ t, gs[i]? = some (some t) → T.c i → VR C (T.r i) (a.tmps.getD t undef))
    (down : ∀ j, listed.getD j false = true → ∀ x ∈ A.getD j [], listed.getD x false = true)
    {i t : Nat} {o : Oper} {d : D} {cond : Prop} (ho : ops[i]? = some o) (hi : listed.getD i false = false) (hall : ∀ x ∈ A.getD i [], listed.getD x false = true) (hr : t ∈ rdsOf ops o) (hj : Jt gs tm0 T i t d cond) (hc : cond) : VR C d (a.tmps.getD t undef) := by
  rcases hj with rfl | ⟨h, hn⟩ | ⟨k, hk, hg, rfl, hcc⟩
  · trivial
  · refine h1 t d h fun k hl hg => ?_
    obtain ⟨p, hp, hd⟩ := gs_of hgs hg
    rcases Nat.lt_trichotomy k i with hlt | rfl | hlt
    · exact hn k hlt hg
    · rw [hi] at hl; cases hl
    · have := down k hl i ((ok.reads i k o p t ho hp hd hr).2 hlt)
      rw [hi] at this; cases this
  · obtain ⟨p, hp, hd⟩ := gs_of hgs hg
    exact h2 k (hall k ((ok.reads i k o p t ho hp hd hr).1 hk)) t hg (hcc hc)

theorem yield_bool {C : Cx} {a : Act} {ops : Array Oper} {gs : List (Option Tmp)} (hgs : ops.toList.map (·.dst) = gs) {j t : Nat} {b : Bool} (ht : gs[j]? = some (some t)) (hv : VR C (.v (.bool b)) (a.tmps.getD t undef)) : yielded ops a.tmps j = some b := by
  obtain ⟨o, ho, hd⟩ := gs_of hgs ht
  have ht' : (ops[j]?).bind (·.dst) = some t := by simp [ho, hd]
  have he : a.tmps.getD t undef = .bool b := by
    generalize a.tmps.getD t undef = v at hv
    cases hv; rfl
  have hlt : t < a.tmps.size := by
    rcases Nat.lt_or_ge t a.tmps.size with h | h
    · exact h
    · simp [Array.getD, Nat.not_lt.2 h, undef] at he
  have hg : a.tmps[t]? = some (.bool b) := by
    rw [Array.getElem?_eq_getElem hlt]
    simp [Array.getD, hlt] at he
    rw [he]
  simp [yielded, ht', hg]

theorem getD_set_self {listed : Array Bool} {i : Nat} (h : i < listed.size) : (listed.setIfInBounds i true).getD i false = true := by
  simp [Array.getD, h]

theorem count_set {listed : Array Bool} {i : Nat} (hi : i < listed.size) (h : listed.getD i false = false) : (listed.setIfInBounds i true).toList.count false + 1 = listed.toList.count false := by
  have h0 : listed.toList[i]? = some false := by
    simp [Array.getD, hi] at h
    simp [hi, h]
  have key : ∀ (l : List Bool) (i : Nat), l[i]? = some false → (l.set i true).count false + 1 = l.count false := by
    intro l
    induction l with
    | nil => intro i h; simp at h
    | cons x l ih =>
      intro i h
      cases i with
      | zero => simp at h; subst h; simp
      | succ i =>
        simp at h
        have := ih i (by simpa using h)
        simp only [List.set_cons_succ, List.count_cons]
        omega
  have := key listed.toList i h0
  simpa using this

/-- **Whatever order is drawn.** -/
theorem DInv.any {G : Gh} {ops : Array Oper} {A : List (List Nat)} {gs : List (Option Tmp)} {tm0 : List (Nat × D)} {sz : Nat} {T : Tr} (hG : G.P = P) (lay : LayOK P) (hm : P.follows .mixedOrders = true) (hgs : ops.toList.map (·.dst) = gs) (ok : DrawOK ops A)
    (tv : ∀ i o, ops[i]? = some o → TV P ops A gs tm0 T i o) (far : Far ops A T ops.size) (hdst : ∀ (i t : Nat), gs[i]? = some (some t) → t < sz) {Q' : Exit → Act → World → Prop}
    (fin : ∀ a w, a.tmps.size = sz → a.defers = [] → (∃ N ι, HR G w N ι (T.σ ops.size) (T.nx ops.size) ∧ ∀ t d, Jt gs tm0 T ops.size t d True → VR (G.cx N ι) d (a.tmps.getD t undef)) → Q' .normal a w) :
    ∀ (fuel : Nat) (listed : Array Bool) (a : Act) (w : World), listed.toList.count false ≤ fuel → DInv G ops A gs tm0 sz T listed a w → wpAny P .any ops Q' fuel listed a w := by
  have done : ∀ (listed : Array Bool) (a : Act) (w : World), DInv G ops A gs tm0 sz T listed a w → Region.ready .any ops listed = [] → Q' .normal a w := by
    intro listed a w inv hr
    have all : ∀ i, i < ops.size → listed.getD i false = true := by
      intro i
      induction i using Nat.strongRecOn with
      | _ i ih =>
        intro hi
        cases hl : listed.getD i false with
        | true => rfl
        | false =>
          exfalso
          have ho : ops[i]? = some ops[i] := Array.getElem?_eq_getElem hi
          have : i ∈ Region.ready .any ops listed := by
            refine mem_ready.2 ⟨?_, _, ho, fun e he hb => ?_⟩
            · have : i < listed.size := by rw [inv.size]; exact hi
              simp [Array.getD, this] at hl ⊢; exact hl
            · have h1 := ok.dir i _ e ho he hb
              have h2 := ok.lt i _ h1 hi
              exact ih _ h2 (by omega)
          rw [hr] at this
          cases this
    obtain ⟨m, hm1, hm2, N, ι, h1, h2, h3⟩ := inv.rest
    have hend := Tr.same tv (ops.size - m) m (by omega) (fun e p he1 he2 hp => by
      cases hh : isEffQ A ops.size e p.op with
      | false => rfl
      | true =>
        have := (hm2 e p hp hh).1 (all e (Array.getElem?_eq_some_iff.1 hp).1)
        omega)
    rw [Nat.add_sub_cancel' hm1] at hend
    refine fin a w inv.tsz inv.defers ⟨N, ι, by rw [hend.1, hend.2]; exact h1, fun t d hj => ?_⟩
    rcases hj with rfl | ⟨h, hn⟩ | ⟨k, hk, hg, rfl, hcc⟩
    · trivial
    · exact h2 t d h fun i hl hg => by
        obtain ⟨p, hp, _⟩ := gs_of hgs hg
        exact hn i (Array.getElem?_eq_some_iff.1 hp).1 hg
    · exact h3 k (all k hk) t hg (hcc trivial)
  intro fuel
  induction fuel with
  | zero =>
    intro listed a w hf inv
    have hr : Region.ready .any ops listed = [] := by
      rw [List.eq_nil_iff_forall_not_mem]
      intro j hj
      obtain ⟨h0, o, ho, _⟩ := mem_ready.1 hj
      have hlt : j < listed.size := by rw [inv.size]; exact (Array.getElem?_eq_some_iff.1 ho).1
      have hc : listed.toList.count false = 0 := by omega
      rw [List.count_eq_zero] at hc
      apply hc
      simp [Array.getD, hlt] at h0
      rw [← h0]
      simp
    exact ⟨hr, done listed a w inv hr⟩
  | succ fuel ih =>
    intro listed a w hf inv
    refine ⟨done listed a w inv, fun i hi => ?_⟩
    obtain ⟨h0, o, ho, hpre⟩ := mem_ready.1 hi
    have hin : i < ops.size := (Array.getElem?_eq_some_iff.1 ho).1
    have hil : i < listed.size := by rw [inv.size]; exact hin
    have hi0 : listed.getD i false = false := by simp [Array.getD, hil] at h0 ⊢; exact h0
    have hall : ∀ x ∈ A.getD i [], listed.getD x false = true := fun x hx => by
      obtain ⟨e, he, hb, h⟩ := ok.path i o x ho hx
      have := hpre e he hb
      rcases h with rfl | h
      · exact this
      · exact inv.down _ this x h
    obtain ⟨m, hm1, hm2, N, ι, q1, q2, q3⟩ := inv.rest
    have hTV := tv i o ho
    have hJ : ∀ {t d cond}, t ∈ rdsOf ops o → Jt gs tm0 T i t d cond → cond → VR (G.cx N ι) d (a.tmps.getD t undef) := fun hr hj hc => Jt_VR hgs ok q2 q3 inv.down ho hi0 hall hr hj hc
    have hcount : (listed.setIfInBounds i true).toList.count false ≤ fuel := by
      have := count_set hil hi0
      omega
    have hlisted : ∀ j, (listed.setIfInBounds i true).getD j false = true → j = i ∨ listed.getD j false = true := fun j hj => by
      by_cases hji : j = i
      · exact .inl hji
      · rw [getD_set_ne false (Ne.symm hji)] at hj; exact .inr hj
    have hdown : ∀ j, (listed.setIfInBounds i true).getD j false = true → ∀ x ∈ A.getD j [], (listed.setIfInBounds i true).getD x false = true := fun j hj x hx => by
      rcases hlisted j hj with rfl | hj
      · exact getD_set_true (hall x hx)
      · exact getD_set_true (inv.down j hj x hx)
    -- what is left, by the outcome
    have next : ∀ (v : Value) (w' : World) (N' : Hp) (ι' : Nat → Option Loc) (m' : Nat), m' ≤ ops.size → (∀ (e : Nat) (p : Oper), ops[e]? = some p → isEffQ A ops.size e p.op = true → ((listed.setIfInBounds i true).getD e false = true ↔ e < m')) →
        HR G w' N' ι' (T.σ m') (T.nx m') → Cx.le (G.cx N ι) (G.cx N' ι') → (T.c i → VR (G.cx N' ι') (T.r i) v) → wpAny P .any ops Q' fuel (listed.setIfInBounds i true) (a.put o.dst v) w' := by
      intro v w' N' ι' m' hm1' hm2' hr hle hv
      refine ih _ _ _ hcount ⟨by simpa using inv.size, hdown, ?_, ?_, m', hm1', hm2', N', ι', hr, fun t d hd hno => ?_, fun k hk t hg hc => ?_⟩
      · cases o.dst <;> simpa [Act.put] using inv.tsz
      · cases o.dst <;> simpa [Act.put] using inv.defers
      · have hne : o.dst ≠ some t := fun he => hno i (getD_set_self hil) (by rw [gs_to hgs ho, he])
        have := (q2 t d hd fun k hl => hno k (getD_set_true hl)).mono hle
        cases hdd : o.dst with
        | none => simpa [Act.put] using this
        | some u =>
          have hut : u ≠ t := fun e => hne (by rw [hdd, e])
          have e : (a.tmps.setIfInBounds u v).getD t undef = a.tmps.getD t undef := by
            simp [Array.getD_eq_getD_getElem?, Array.getElem?_setIfInBounds_ne hut]
          simpa only [Act.put, e] using this
      · rcases hlisted k hk with rfl | hk2
        · have hd : o.dst = some t := by
            have := gs_to hgs ho
            rw [this] at hg; exact Option.some.inj hg
          have hlt : t < a.tmps.size := by rw [inv.tsz]; exact hdst _ t hg
          rw [hd]
          simpa [Act.put, Array.getD, hlt] using hv hc
        · have hki : k ≠ i := fun e => by subst e; rw [hi0] at hk2; cases hk2
          have hne : o.dst ≠ some t := fun he => by
            obtain ⟨p, hp, hpd⟩ := gs_of hgs hg
            exact hki (ok.once k i p o t hp ho hpd he)
          have := (q3 k hk2 t hg hc).mono hle
          cases hdd : o.dst with
          | none => simpa [Act.put] using this
          | some u =>
            have hut : u ≠ t := fun e => hne (by rw [hdd, e])
            have e : (a.tmps.setIfInBounds u v).getD t undef = a.tmps.getD t undef := by
              simp [Array.getD_eq_getD_getElem?, Array.getElem?_setIfInBounds_ne hut]
            simpa only [Act.put, e] using this
    -- whether it is wanted
    have hwant : (T.c i ∧ Region.wanted o (yielded ops a.tmps) = true) ∨ (¬ T.c i ∧ Region.wanted o (yielded ops a.tmps) = false) := by
      cases hg : o.guard with
      | none => exact .inl ⟨hTV.g0 hg, by simp [Region.wanted, hg]⟩
      | some jw =>
        obtain ⟨j, want⟩ := jw
        obtain ⟨hc, t, ht, hj⟩ := hTV.g1 j want hg
        have hread : t ∈ rdsOf ops o := by
          obtain ⟨p, hp, hd⟩ := gs_of hgs ht
          simp [rdsOf, hg, hp, hd]
        have hv := hJ hread hj trivial
        have hy := yield_bool hgs ht hv
        by_cases hb : T.gb i = want
        · exact .inl ⟨hc.2 hb, by simp [Region.wanted, hg, hy, hb]⟩
        · exact .inr ⟨fun h => hb (hc.1 h), by simp [Region.wanted, hg, hy, hb]⟩
    have hview : T.c i → ∀ t d, getT t (T.nd i) = some d → T.cd i t → VR (G.cx N ι) d (a.tmps.getD t undef) := fun hc t d hd hcd => by
      obtain ⟨h1, h2⟩ := hTV.view t d hd
      exact hJ (by unfold rdsOf; exact List.mem_append_left _ h1) h2 ⟨hc, hcd⟩
    unfold wpOp
    rw [ho]
    simp only []
    cases he : isEffQ A ops.size i o.op with
    | true =>
      -- an effect: all that stand ahead of it are done
      have hmi : m ≤ i := by
        rcases Nat.lt_or_ge i m with h | h
        · have := (hm2 i o ho he).2 h
          rw [hi0] at this; cases this
        · exact h
      have hsame := Tr.same tv (i - m) m (by omega) (fun e p h1 h2 hp => by
        cases hh : isEffQ A ops.size e p.op with
        | false => rfl
        | true =>
          have hlt : e < i := by omega
          have := (hm2 e p hp hh).1 (hall e (ok.eff i e o p ho hp he hh hlt))
          omega)
      rw [Nat.add_sub_cancel' hmi] at hsame
      have hm2' : ∀ (e : Nat) (p : Oper), ops[e]? = some p → isEffQ A ops.size e p.op = true → ((listed.setIfInBounds i true).getD e false = true ↔ e < i + 1) := fun e p hp hpe => by
        constructor
        · intro h
          rcases hlisted e h with rfl | h
          · omega
          · have := (hm2 e p hp hpe).1 h; omega
        · intro h
          rcases Nat.lt_or_ge e i with hlt | hge
          · exact getD_set_true (hall e (ok.eff i e o p ho hp he hpe hlt))
          · have : e = i := by omega
            subst this
            exact getD_set_self hil
      rcases hwant with ⟨hc, hw⟩ | ⟨hc, hw⟩
      · rw [if_pos hw]
        refine .inl ?_
        refine hTV.effS he hc lay hm G hG a w N ι (by rw [hsame.1, hsame.2]; exact q1) inv.defers (hview hc) _ _ fun v w' N' ι' g1 g2 g3 => ?_
        exact next v w' N' ι' (i + 1) (by omega) hm2' g1 g2 (fun _ => g3)
      · rw [if_neg (by rw [hw]; simp)]
        obtain ⟨e1, e2⟩ := hTV.effN he hc
        exact next undef w N ι (i + 1) (by omega) hm2' (by rw [e1, e2, hsame.1, hsame.2]; exact q1) (Cx.le.refl _) (fun h => absurd h hc)
    | false =>
      have hm2' : ∀ (e : Nat) (p : Oper), ops[e]? = some p → isEffQ A ops.size e p.op = true → ((listed.setIfInBounds i true).getD e false = true ↔ e < m) := fun e p hp hpe => by
        have hei : e ≠ i := fun h => by subst h; rw [ho] at hp; cases hp; rw [he] at hpe; cases hpe
        rw [getD_set_ne false (Ne.symm hei)]
        exact hm2 e p hp hpe
      rcases hwant with ⟨hc, hw⟩ | ⟨hc, hw⟩
      · rw [if_pos hw]
        refine .inl ?_
        have hagree : ∀ id ∈ T.R i, getT id (T.σ m) = getT id (T.σ i) := by
          rcases Nat.lt_or_ge i m with hlt | hge
          · -- later effects are done already
            have := Tr.still tv (T.R i) (m - i) i (by omega) (fun e p h1 h2 hp hpe => by
              rcases far i e o p hin (Array.getElem?_eq_some_iff.1 hp).1 ho hp he hpe with h | h | h
              · have hle : listed.getD e false = true := (hm2 e p hp hpe).2 (by omega)
                have := inv.down e hle i h
                rw [hi0] at this; cases this
              · have := ok.lt i e h hin; omega
              · exact h)
            rw [Nat.add_sub_cancel' (by omega)] at this
            exact this
          · have := Tr.still tv (T.R i) (i - m) m (by omega) (fun e p h1 h2 hp hpe => by
              rcases far i e o p hin (Array.getElem?_eq_some_iff.1 hp).1 ho hp he hpe with h | h | h
              · have := ok.lt e i h (Array.getElem?_eq_some_iff.1 hp).1; omega
              · have := (hm2 e p hp hpe).1 (hall e h); omega
              · exact h)
            rw [Nat.add_sub_cancel' hge] at this
            exact fun id hid => (this id hid).symm
        refine hTV.rdS he hc _ _ hagree lay hm G hG a w N ι q1 inv.defers (hview hc) _ _ fun v w' N' ι' g1 g2 g3 => ?_
        exact next v w' N' ι' m hm1 hm2' g1 g2 (fun _ => g3)
      · rw [if_neg (by rw [hw]; simp)]
        exact next undef w N ι m hm1 hm2' q1 (Cx.le.refl _) (fun h => absurd h hc)
end
end Go.Apl
