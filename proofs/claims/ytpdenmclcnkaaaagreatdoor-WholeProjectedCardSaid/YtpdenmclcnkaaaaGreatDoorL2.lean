/- Part of a proof: the texts A6, A7, A8, A9, A10 of a library of data trees, abstract stores and contracts, joined. -/
import Derived.Test.YtpdenmclcnkaaaaGreatDoorL1
/- APL, part 6: making variables, structs, arrays and slices. Over any program. -/
namespace Go.Apl
open Go
open Go.RowKit (Below)

def leafD (P : Program) (T : TypeId) (c : Value) : Option D :=
  if scal P T then (if flatV c then some (.v c) else match c with
    | .slice none 0 0 => (match P.underlying T with | some (.slice e) => some (.lst false true e []) | _ => none)
    | _ => none) else none

def unflL (g : TypeId → List Value → Option (D × List Value)) : List TypeId → List Value → Option (List D × List Value)
  | [], cs => some ([], cs)
  | t :: ts, cs => match g t cs with
    | some (d, rest) => match unflL g ts rest with
      | some (ds, rest') => some (d :: ds, rest')
      | none => none
    | none => none
def unfl (P : Program) : Nat → TypeId → List Value → Option (D × List Value)
  | 0, _, _ => none
  | n + 1, T, cs => match parts P T with
    | some ts => match unflL (unfl P n) ts cs with
      | some (ds, rest) => some (.st T ds, rest)
      | none => none
    | none => match cs with
      | c :: rest => (match leafD P T c with | some d => some (d, rest) | none => none)
      | [] => none
def zeroD (P : Program) (T : TypeId) : Option D :=
  match P.info? T with
  | some i => match i.zero with
    | some (.agg cs) => if (parts P T).isSome then (match unfl P 12 T cs.toList with | some (d, []) => some d | _ => none) else none
    | some c => if (parts P T).isNone then leafD P T c else none
    | none => none
  | none => none

theorem leafD_ok {C : Cx} {T : TypeId} {c : Value} {d : D} (h : leafD C.P T c = some d) : FR C d [c] ∧ fits C.P T d = true ∧ ∀ U ds, d ≠ .st U ds := by
  unfold leafD at h
  split at h
  · rename_i hs
    split at h
    · rename_i hf; cases h; exact ⟨.v hf, hs, by simp⟩
    · split at h
      · split at h
        · cases h; exact ⟨.lst0 none 0 (fun _ => rfl), hs, by simp⟩
        · cases h
      · cases h
  · cases h

theorem unflL_ok {C : Cx} (g : TypeId → List Value → Option (D × List Value))
    (hg : ∀ T cs d rest, g T cs = some (d, rest) → ∃ c1, cs = c1 ++ rest ∧ FR C d c1 ∧ c1.length = C.P.cellsOf T ∧ lab C.P d T) :
    ∀ (ts : List TypeId) (cs : List Value) (ds : List D) (rest : List Value), unflL g ts cs = some (ds, rest) → ∃ c1, cs = c1 ++ rest ∧ FRs C ds ts c1 := by
  intro ts
  induction ts with
  | nil => intro cs ds rest h; simp [unflL] at h; obtain ⟨rfl, rfl⟩ := h; exact ⟨[], by simp, .nil⟩
  | cons t ts ih =>
    intro cs ds rest h
    simp only [unflL] at h
    split at h
    · rename_i d r1 h1
      split at h
      · rename_i ds' r2 h2
        cases h
        obtain ⟨c1, e1, f1, l1, b1⟩ := hg t cs d r1 h1
        obtain ⟨c2, e2, f2⟩ := ih r1 ds' _ h2
        exact ⟨c1 ++ c2, by rw [e1, e2, List.append_assoc], .cons f1 l1 b1 f2⟩
      · cases h
    · cases h

theorem unfl_ok {C : Cx} (hlay : LayOK C.P) : ∀ (n : Nat) (T : TypeId) (cs : List Value) (d : D) (rest : List Value), unfl C.P n T cs = some (d, rest) →
    ∃ c1, cs = c1 ++ rest ∧ FR C d c1 ∧ c1.length = C.P.cellsOf T ∧ lab C.P d T := by
  intro n
  induction n with
  | zero => intro T cs d rest h; simp [unfl] at h
  | succ n ih =>
    intro T cs d rest h
    simp only [unfl] at h
    split at h
    · rename_i ts hp
      split at h
      · rename_i ds r hu
        cases h
        obtain ⟨c1, e1, f1⟩ := unflL_ok (C := C) _ ih ts cs ds _ hu
        exact ⟨c1, e1, .st ts hp f1, by rw [(FRs.length f1).2, parts_cells hlay hp], rfl⟩
      · cases h
    · cases cs with
      | nil => simp at h
      | cons c r =>
        simp only at h
        cases hl : leafD C.P T c with
        | none => simp [hl] at h
        | some d' =>
          simp [hl] at h
          obtain ⟨rfl, rfl⟩ := h
          obtain ⟨f, g, _⟩ := leafD_ok (C := C) hl
          exact ⟨[c], rfl, f, FR.len hlay f g, fits_lab g⟩

theorem zeroD_ok {C : Cx} (hlay : LayOK C.P) {T : TypeId} {d : D} (h : zeroD C.P T = some d) (w : World) :
    ∃ z, (zeroValue T).run C.P w = .ok z w ∧ FR C d z.cells.toList ∧ VR1 C d z ∧ fits C.P T d = true := by
  unfold zeroD at h
  split at h
  · rename_i i hi
    split at h
    · rename_i cs hz
      split at h
      · rename_i hp
        split at h
        · rename_i d' hu
          cases h
          obtain ⟨c1, e1, f1, l1, b1⟩ := unfl_ok (C := C) hlay _ _ _ _ _ hu
          simp at e1
          subst e1
          refine ⟨.agg cs, by simp [zeroValue, typeInfo, hi, hz], f1, ?_, ?_⟩
          · obtain ⟨ts, hp⟩ := Option.isSome_iff_exists.1 hp
            simp only [unfl, hp] at hu
            split at hu
            · cases hu; exact ⟨cs, rfl, f1⟩
            · cases hu
          · obtain ⟨ts, hp⟩ := Option.isSome_iff_exists.1 hp
            simp only [unfl, hp] at hu
            split at hu
            · cases hu; simp [fits]
            · cases hu
        · cases h
      · cases h
    · rename_i c hz hna
      split at h
      · obtain ⟨f, g, ns⟩ := leafD_ok (C := C) h
        have hv : VR1 C d c := VR1.of_single f ns
        refine ⟨c, by simp [zeroValue, typeInfo, hi, hna], ?_, hv, g⟩
        exact VR1.cells hv (fits_solid g)
      · cases h
    · cases h
  · cases h

section
variable {G : Gh} {w : World} {N : Hp} {ι : Nat → Option Loc} {σ : Sg} {nx : Nat}

/-- A new variable. -/
theorem newVar_ok (hlay : LayOK G.P) (h : HR G w N ι σ nx) {T : TypeId} {d : D} {v : Value} (hv : VR1 (G.cx N ι) d v) (hf : fits G.P T d = true) :
    ∃ b w' ι', (newVar T v).run G.P w = .ok ⟨b, 0, none⟩ w' ∧ HR G w' N ι' ((nx, .box T d) :: σ) (nx + 1) ∧ Cx.le (G.cx N ι) (G.cx N ι') ∧ VR1 (G.cx N ι') (.ptr nx []) (.pointer (some ⟨b, 0, none⟩)) := by
  have hc := VR1.cells hv (fits_solid hf)
  have hlen : v.cells.size = G.P.cellsOf T := by simpa using FR.len (C := G.cx N ι) hlay hc hf
  obtain ⟨h1, h2⟩ := HR.new h (w.alloc (.cells v.cells T)) (.box T d) ⟨some w.heap.size, 0, 1, T, false⟩ (.inr ⟨_, rfl, rfl⟩)
    ⟨rfl, rfl, rfl, fits_lab hf, w.heap.size, v.cells, T, rfl, heap_alloc_self w _, hc, hlen⟩
  refine ⟨w.heap.size, _, _, ?_, h1, h2, ?_⟩
  · simp only [newVar, newRow, Sem.run_bind, run_newObj, Result.andThen_ok, World.alloc_eq]
    rfl
  · exact FR.ptr ⟨some w.heap.size, 0, 1, T, false⟩ _ _ T (by simp [withLoc]) rfl (by simp [Loc.at])

theorem alloc_ok (hlay : LayOK G.P) (h : HR G w N ι σ nx) {T : TypeId} {z : D} (hz : zeroD G.P T = some z) :
    ∃ v w' ι', (Instr.alloc T true (.tuple #[])).run G.P w = .ok v w' ∧ HR G w' N ι' ((nx, .box T z) :: σ) (nx + 1) ∧ Cx.le (G.cx N ι) (G.cx N ι') ∧ VR1 (G.cx N ι') (.ptr nx []) v := by
  obtain ⟨zv, r1, _, r2, r3⟩ := zeroD_ok (C := G.cx N ι) hlay hz w
  obtain ⟨b, w', ι', q1, q2, q3, q4⟩ := newVar_ok hlay h r2 r3
  refine ⟨_, w', ι', ?_, q2, q3, q4⟩
  have r1' : (zeroValue T).run G.P w = .ok zv w := r1
  simp only [Instr.alloc, Sem.run_bind, r1', Result.andThen_ok, q1]
  rfl

theorem box_ok (hlay : LayOK G.P) (h : HR G w N ι σ nx) {T : TypeId} {d : D} {v : Value} (hv : VR1 (G.cx N ι) d v) (hf : fits G.P T d = true) :
    ∃ v' w' ι', (Instr.box T v).run G.P w = .ok v' w' ∧ HR G w' N ι' ((nx, .box T d) :: σ) (nx + 1) ∧ Cx.le (G.cx N ι) (G.cx N ι') ∧ VR1 (G.cx N ι') (.ptr nx []) v' := by
  obtain ⟨b, w', ι', q1, q2, q3, q4⟩ := newVar_ok hlay h hv hf
  refine ⟨_, w', ι', ?_, q2, q3, q4⟩
  simp only [Instr.box, Sem.run_bind, q1, Result.andThen_ok]
  rfl
end

/-! ### Parts laid into zero -/
def afill (P : Program) (ts : List TypeId) (ds : List D) : List (Nat × D) → Option (List D)
  | [] => some ds
  | (i, x) :: rest => match ts[i]? with
    | some t => if fits P t x then afill P ts (ds.set i x) rest else none
    | none => none

theorem foldl_splice (xs : List Value) : ∀ (k off : Nat) (cs : Array Value), off + k + xs.length ≤ cs.size →
    (xs.zipIdx k).foldl (fun cs (cj : Value × Nat) => cs.setIfInBounds (off + cj.2) cj.1) cs = (cs.toList.take (off + k) ++ xs ++ cs.toList.drop (off + k + xs.length)).toArray := by
  induction xs with
  | nil => intro k off cs h; simp
  | cons x xs ih =>
    intro k off cs h
    simp only [List.zipIdx_cons, List.foldl_cons]
    rw [ih (k + 1) off (cs.setIfInBounds (off + k) x) (by simp at h ⊢; omega)]
    congr 1
    have e := list_seg_step cs.toList (off + k) x xs (by simp at h ⊢; omega)
    simpa [Nat.add_assoc] using e

inductive VP (C : Cx) : List (Nat × D) → List (Nat × Value) → Prop
  | nil : VP C [] []
  | cons {i : Nat} {d : D} {v : Value} {ds : List (Nat × D)} {vs : List (Nat × Value)} (h : VR1 C d v) (hs : VP C ds vs) : VP C ((i, d) :: ds) ((i, v) :: vs)

theorem fill_ok {C : Cx} (hlay : LayOK C.P) (place : Nat → Option (Nat × Nat)) (ts : List TypeId) (hpl : ∀ i t, ts[i]? = some t → place i = some (sizes C.P (ts.take i), C.P.cellsOf t)) :
    ∀ {ps : List (Nat × D)} {vs : List (Nat × Value)}, VP C ps vs → ∀ (ds ds' : List D) (cs : Array Value), FRs C ds ts cs.toList → afill C.P ts ds ps = some ds' →
    ∃ cs', Instr.fill place cs vs = some cs' ∧ FRs C ds' ts cs'.toList := by
  intro ps vs hv
  induction hv with
  | nil => intro ds ds' cs h ha; simp [afill] at ha; subst ha; exact ⟨cs, rfl, h⟩
  | @cons i d v ds0 vs0 hd _ ih =>
    intro ds ds' cs h ha
    simp only [afill] at ha
    split at ha
    · rename_i t ht
      split at ha
      · rename_i hf
        have hc := VR1.cells hd (fits_solid hf)
        have hl : v.cells.toList.length = C.P.cellsOf t := FR.len hlay hc hf
        have hset := FRs.set h i t ht d _ hc hl (fits_lab hf)
        obtain ⟨_, _, _, _, hbound⟩ := FRs.get h i t ht
        have hl' : v.cells.size = C.P.cellsOf t := by simpa using hl
        have hb' : sizes C.P (ts.take i) + C.P.cellsOf t ≤ cs.size := by simpa using hbound
        have hfold := foldl_splice v.cells.toList 0 (sizes C.P (ts.take i)) cs (by simp; omega)
        obtain ⟨cs', g1, g2⟩ := ih (ds.set i d) ds' (cs.toList.take (sizes C.P (ts.take i)) ++ v.cells.toList ++ cs.toList.drop (sizes C.P (ts.take i) + v.cells.toList.length)).toArray (by simpa using hset) ha
        refine ⟨cs', ?_, g2⟩
        simp only [Instr.fill, hpl i t ht]
        rw [if_neg (by simp [hl']; omega)]
        rw [← g1]
        congr 1
        rw [← Array.foldl_toList, Array.toList_zipIdx]
        simpa using hfold
      · cases ha
    · cases ha

def abuild (P : Program) (T : TypeId) (ps : List (Nat × D)) : Option D :=
  match zeroD P T with
  | some (.st _ ds) => match parts P T with
    | some ts => match afill P ts ds ps with
      | some ds' => some (.st T ds')
      | none => none
    | none => none
  | _ => none

theorem mapM_places {P : Program} (w : World) : ∀ (fs : List Field), (∀ f ∈ fs, ∃ d, P.underlying f.type = some d) →
    (fs.mapM (fun f => (do pure (f.offset, ← sizeOf f.type) : Sem (Nat × Nat)))).run P w = .ok (fs.map fun f => (f.offset, P.cellsOf f.type)) w := by
  intro fs
  induction fs with
  | nil => intro _; simp
  | cons f fs ih =>
    intro h
    obtain ⟨d, hd⟩ := h f (by simp)
    simp only [List.mapM_cons, Sem.run_bind, run_sizeOf' hd, Result.andThen_ok, Sem.run_pure, ih (fun g hg => h g (by simp [hg])), List.map_cons]

end Go.Apl

/- APL, part 7: structs, arrays and slices that are built; addresses and parts. Over any program. -/
namespace Go.Apl
open Go
open Go.RowKit (Below)

theorem parts_struct {P : Program} {T : TypeId} {ts : List TypeId} (hlay : LayOK P) (h : parts P T = some ts) :
    (∃ fs, P.underlying T = some (.struct fs) ∧ ts = fs.toList.map (·.type) ∧ (∀ i f, fs[i]? = some f → f.offset = sizes P (ts.take i)) ∧ ∀ f ∈ fs.toList, ∃ d, P.underlying f.type = some d) ∨
    (∃ n e, P.underlying T = some (.array n e) ∧ ts = List.replicate n e ∧ ∃ d, P.underlying e = some d) := by
  unfold parts at h
  split at h
  · rename_i hT
    have hl := hlay.at hT
    unfold layoutAt at hl
    split at h
    · rename_i fs hu
      cases h
      simp only [hu, Bool.and_eq_true, List.all_eq_true] at hl
      obtain ⟨⟨h1, h2⟩, h3⟩ := hl
      refine .inl ⟨fs, hu, rfl, ?_, ?_⟩
      · intro i f hf
        have := h2 (f, i) (by rw [List.mem_zipIdx_iff_getElem?]; simpa using hf)
        simp at this
        rw [this]
      · intro f hf
        have := h3 f hf
        exact Option.isSome_iff_exists.1 this
    · rename_i n e hu
      cases h
      simp only [hu, Bool.and_eq_true] at hl
      exact .inr ⟨n, e, hu, rfl, Option.isSome_iff_exists.1 hl.2⟩
    · cases h
  · cases h

theorem mapM_places' {P : Program} (w : World) (fs : Array Field) (h : ∀ f ∈ fs.toList, ∃ d, P.underlying f.type = some d) :
    (fs.mapM (fun f => (do pure (f.offset, ← sizeOf f.type) : Sem (Nat × Nat)))).run P w = .ok (fs.map fun f => (f.offset, P.cellsOf f.type)) w := by
  rw [Array.mapM_eq_mapM_toList]
  rw [Sem.run_map, mapM_places w fs.toList h]
  simp only [Result.andThen_ok]
  congr 1
  apply Array.ext'
  simp

theorem VP.values {C : Cx} {ρ : Operand → Value} {ev : Operand → D} (ps : Array (Nat × Operand)) (h : ∀ p ∈ ps.toList, VR1 C (ev p.2) (ρ p.2)) :
    VP C (ps.toList.map fun p => (p.1, ev p.2)) ((ps.map fun (i, x) => (i, ρ x)).toList) := by
  rw [Array.toList_map]
  generalize ps.toList = l at *
  induction l with
  | nil => exact .nil
  | cons p l ih => exact .cons (h p (by simp)) (ih fun q hq => h q (by simp [hq]))

section
variable {G : Gh} {w : World} {N : Hp} {ι : Nat → Option Loc} {σ : Sg} {nx : Nat}

theorem build_ok {C : Cx} (hlay : LayOK C.P) (w : World) {T : TypeId} {ps : List (Nat × D)} {vs : Array (Nat × Value)} {r : D} (hv : VP C ps vs.toList) (hr : abuild C.P T ps = some r) :
    ∃ v, (Instr.build T vs).run C.P w = .ok v w ∧ VR1 C r v := by
  unfold abuild at hr
  split at hr
  · rename_i U ds hz
    split at hr
    · rename_i ts hp
      split at hr
      · rename_i ds' ha
        cases hr
        obtain ⟨z, z1, z2, z3, z4⟩ := zeroD_ok (C := C) hlay hz w
        simp [fits] at z4; subst z4
        cases z2 with
        | st ts' hp' hs =>
          rw [hp] at hp'; cases hp'
          rcases parts_struct hlay hp with ⟨fs, hu, ht, hoff, hk⟩ | ⟨n, e, hu, ht, hk⟩
          · obtain ⟨cs', f1, f2⟩ := fill_ok (C := C) hlay (fun i => (fs.map fun f => (f.offset, C.P.cellsOf f.type))[i]?) ts (by
              intro i t hi
              subst ht
              simp at hi
              obtain ⟨f, hf, rfl⟩ := hi
              simp [hf, hoff i f (by simpa using hf)]) hv ds ds' z.cells hs ha
            refine ⟨.agg cs', ?_, cs', rfl, .st ts hp f2⟩
            simp only [Instr.build, Sem.run_bind, z1, Result.andThen_ok, run_underlying hu, mapM_places' w fs hk]
            rw [f1]; rfl
          · obtain ⟨cs', f1, f2⟩ := fill_ok (C := C) hlay (fun i => some (i * C.P.cellsOf e, C.P.cellsOf e)) ts (by
              intro i t hi
              subst ht
              simp [List.getElem?_replicate] at hi
              obtain ⟨hi, rfl⟩ := hi
              rw [sizes_rep _ _ _ _ (Nat.le_of_lt hi)]) hv ds ds' z.cells hs ha
            obtain ⟨d, hd⟩ := hk
            refine ⟨.agg cs', ?_, cs', rfl, .st ts hp f2⟩
            simp only [Instr.build, Sem.run_bind, z1, Result.andThen_ok, run_underlying hu, run_sizeOf' hd]
            rw [f1]; rfl
      · cases hr
    · cases hr
  · cases hr

/-- A slice that is written out. -/
def abuildSlice (P : Program) (T : TypeId) (n : Nat) (ps : List (Nat × D)) : Option (TypeId × List D) :=
  match P.underlying T with
  | some (.slice E) => match zeroD P E with
    | some z => if 0 < P.cellsOf E ∧ n * P.cellsOf E ≤ 16777216 then (match afill P (List.replicate n E) (List.replicate n z) ps with
      | some ds => some (E, ds)
      | none => none) else none
    | none => none
  | _ => none

theorem afill_length {P : Program} {ts : List TypeId} : ∀ {ps : List (Nat × D)} {ds ds' : List D}, afill P ts ds ps = some ds' → ds'.length = ds.length := by
  intro ps
  induction ps with
  | nil => intro ds ds' h; simp [afill] at h; rw [h]
  | cons p ps ih =>
    obtain ⟨i, x⟩ := p
    intro ds ds' h
    simp only [afill] at h
    split at h
    · split at h
      · rw [ih h]; simp
      · cases h
    · cases h

theorem FRs.rep {C : Cx} {z : D} {cs : List Value} {E : TypeId} (h : FR C z cs) (hz : cs.length = C.P.cellsOf E) (hl : lab C.P z E) (n : Nat) : FRs C (List.replicate n z) (List.replicate n E) (List.replicate n cs).flatten := by
  induction n with
  | zero => exact .nil
  | succ n ih => simpa [List.replicate_succ] using FRs.cons h hz hl ih

theorem range_mod (cs : Array Value) (n : Nat) (_h : 0 < cs.size) : ((Array.range (n * cs.size)).map (fun i => cs[i % cs.size]!)).toList = (List.replicate n cs.toList).flatten := by
  apply List.ext_getElem?
  intro i
  simp only [Array.toList_map, Array.toList_range, List.getElem?_map]
  induction n generalizing i with
  | zero => simp
  | succ n ih =>
    rw [List.replicate_succ, List.flatten_cons]
    by_cases hi : i < cs.size
    · rw [List.getElem?_append_left (by simpa using hi), List.getElem?_range (by rw [Nat.succ_mul]; omega)]
      simp [Nat.mod_eq_of_lt hi, hi]
    · have hi' : cs.size ≤ i := Nat.le_of_not_lt hi
      rw [List.getElem?_append_right (by simpa using hi'), ← ih (i - cs.toList.length)]
      by_cases hi2 : i < (n + 1) * cs.size
      · have h2 : i - cs.size < n * cs.size := by rw [Nat.succ_mul] at hi2; omega
        rw [List.getElem?_range hi2, List.getElem?_range (by simpa using h2)]
        simp
        congr 1
        exact Nat.mod_eq_sub_mod hi'
      · have h2 : ¬ i - cs.size < n * cs.size := by rw [Nat.succ_mul] at hi2; omega
        rw [List.getElem?_eq_none (by simpa using hi2), List.getElem?_eq_none (by simpa using h2)]

theorem newArr_ok (h : HR G w N ι σ nx) {E : TypeId} {ds : List D} {cs : Array Value} (hc : FRs (G.cx N ι) ds (List.replicate ds.length E) cs.toList) (hpos : 0 < G.P.cellsOf E) :
    ∃ b w' ι', (newRow E cs).run G.P w = .ok ⟨b, 0, none⟩ w' ∧ HR G w' N ι' ((nx, .arr E ds) :: σ) (nx + 1) ∧ Cx.le (G.cx N ι) (G.cx N ι') ∧ VR1 (G.cx N ι') (.own nx 0 ds.length) (.slice (some ⟨b, 0, none⟩) ds.length ds.length) := by
  have hl : cs.size = ds.length * G.P.cellsOf E := by
    have := (FRs.length hc).2
    simp [sizes] at this
    exact this
  obtain ⟨h1, h2⟩ := HR.new h (w.alloc (.cells cs E)) (.arr E ds) ⟨some w.heap.size, 0, ds.length, E, true⟩ (.inr ⟨_, rfl, rfl⟩)
    ⟨rfl, rfl, hpos, cs, E, heap_alloc_self w _, by simp [hl], Nat.le_refl _, by
      have e : ds.length * G.P.cellsOf E = cs.toList.length := by simp [hl]
      show FRs _ _ _ ((cs.toList.drop 0).take (ds.length * G.P.cellsOf E))
      rw [List.drop_zero, e, List.take_length]; exact hc⟩
  refine ⟨w.heap.size, _, _, ?_, h1, h2, ?_⟩
  · simp only [newRow, Sem.run_bind, run_newObj, Result.andThen_ok, World.alloc_eq]
    rfl
  · exact FR.own ⟨some w.heap.size, 0, ds.length, E, true⟩ _ _ (by simp [withLoc]) rfl (Nat.le_refl _) (by simp) (fun _ => ⟨_, rfl, by simp⟩)

theorem buildSlice_ok (hlay : LayOK G.P) (h : HR G w N ι σ nx) {T E : TypeId} {n : Nat} {ps : List (Nat × D)} {vs : Array (Nat × Value)} {ds : List D} (hv : VP (G.cx N ι) ps vs.toList)
    (hr : abuildSlice G.P T n ps = some (E, ds)) :
    ∃ v w' ι', (Instr.buildSlice T n vs).run G.P w = .ok v w' ∧ HR G w' N ι' ((nx, .arr E ds) :: σ) (nx + 1) ∧ Cx.le (G.cx N ι) (G.cx N ι') ∧ VR1 (G.cx N ι') (.own nx 0 ds.length) v := by
  unfold abuildSlice at hr
  split at hr
  · rename_i E' hu
    split at hr
    · rename_i z hz
      split at hr
      · rename_i hb
        split at hr
        · rename_i ds' ha
          cases hr
          obtain ⟨zv, z1, z2, z3, z4⟩ := zeroD_ok (C := G.cx N ι) hlay hz w
          have hzl : zv.cells.toList.length = G.P.cellsOf E := FR.len (C := G.cx N ι) hlay z2 z4
          have hzs : zv.cells.size = G.P.cellsOf E := by simpa using hzl
          have hrep := FRs.rep z2 hzl (fits_lab z4) n
          rw [← range_mod zv.cells n (by omega), hzs] at hrep
          obtain ⟨cs', f1, f2⟩ := fill_ok (C := G.cx N ι) hlay (fun i => some (i * G.P.cellsOf E, G.P.cellsOf E)) (List.replicate n E) (by
            intro i t hi
            simp [List.getElem?_replicate] at hi
            obtain ⟨hi, rfl⟩ := hi
            rw [sizes_rep _ _ _ _ (Nat.le_of_lt hi)]) hv _ ds _ hrep ha
          have hlen : ds.length = n := by rw [afill_length ha]; simp
          obtain ⟨b, w', ι', q1, q2, q3, q4⟩ := newArr_ok h (cs := cs') (by rw [hlen]; exact f2) hb.1
          obtain ⟨u, hk⟩ : ∃ u, G.P.underlying E = some u := by
            cases z with
            | st U es => simp [fits] at z4; subst z4; cases z2 with | st ts hp _ => exact parts_known hp
            | _ => simp [fits] at z4; all_goals exact scal_known z4
          refine ⟨_, w', ι', ?_, q2, q3, q4⟩
          have z1' : (zeroValue E).run G.P w = .ok zv w := z1
          have f1' : Instr.fill (fun i => some (i * G.P.cellsOf E, G.P.cellsOf E)) ((Array.range (n * G.P.cellsOf E)).map (zv.cells[· % zv.cells.size]!)) vs.toList = some cs' := by
            rw [hzs]; exact f1
          simp only [Instr.buildSlice, Sem.run_bind, run_underlying hu, Result.andThen_ok, run_sizeOf' hk]
          rw [if_neg (by omega)]
          by_cases h0 : n * G.P.cellsOf E = 0
          · have hn0 : n = 0 := by
              rcases Nat.mul_eq_zero.1 h0 with h' | h'
              · exact h'
              · omega
            subst hn0
            simp only [Nat.zero_mul, if_true, Sem.run_bind, Sem.run_pure, Result.andThen_ok]
            have : (Array.range 0).map (fun i => (#[] : Array Value)[i % (#[] : Array Value).size]!) = (Array.range (0 * G.P.cellsOf E)).map (zv.cells[· % zv.cells.size]!) := by simp [Array.range]
            simp only [this]
            rw [f1']
            simp only [Sem.run_bind, q1, Result.andThen_ok]
            simp [hlen]
          · rw [if_neg h0]
            simp only [Sem.run_bind, z1', Result.andThen_ok, Sem.run_pure]
            rw [f1']
            simp only [Sem.run_bind, q1, Result.andThen_ok]
            simp [hlen]
        · cases hr
      · cases hr
    · cases hr
  · cases hr
end
end Go.Apl

/- APL, part 8: addresses of parts, parts of values. Over any program. -/
namespace Go.Apl
open Go

theorem Sub.part {cs : List Value} {ccs : Array Value} {o : Nat} (h : Sub cs ccs o) (a n : Nat) : Sub ((cs.drop a).take n) ccs (o + a) := by
  intro j v hj
  rw [List.getElem?_take] at hj
  split at hj
  · rw [List.getElem?_drop] at hj
    have := h _ _ hj
    rwa [← Nat.add_assoc] at this
  · cases hj

theorem offAt_append {P : Program} : ∀ (p : List Nat) (T0 : TypeId) (o : Nat) (T : TypeId) (ts : List TypeId) (i : Nat) (t : TypeId), offAt P T0 p = some (o, T) → parts P T = some ts → ts[i]? = some t →
    offAt P T0 (p ++ [i]) = some (o + sizes P (ts.take i), t)
  | [], T0, o, T, ts, i, t, h, hp, hi => by
    simp [offAt] at h
    obtain ⟨rfl, rfl⟩ := h
    simp [offAt, hp, hi]
  | j :: p, T0, o, T, ts, i, t, h, hp, hi => by
    simp only [offAt] at h
    cases hq : parts P T0 with
    | none => simp [hq] at h
    | some us =>
      simp only [hq] at h
      cases hu : us[j]? with
      | none => simp [hu] at h
      | some u =>
        simp only [hu] at h
        cases ho : offAt P u p with
        | none => simp [ho] at h
        | some y =>
          obtain ⟨o1, T1⟩ := y
          simp [ho] at h
          obtain ⟨rfl, rfl⟩ := h
          have ih := offAt_append p u o1 T1 ts i t ho hp hi
          simp [offAt, hq, hu, ih, Nat.add_assoc]

theorem Loc.at_append {P : Program} {l : Loc} {p : List Nat} {o : Nat} {T : TypeId} {ts : List TypeId} {i : Nat} {t : TypeId} (h : l.at P p = some (o, T)) (hp : parts P T = some ts) (hi : ts[i]? = some t) :
    l.at P (p ++ [i]) = some (o + sizes P (ts.take i), t) := by
  cases ha : l.arr with
  | false =>
    rw [Loc.at_box ha] at h ⊢
    cases ho : offAt P l.T p with
    | none => simp [ho] at h
    | some y =>
      obtain ⟨o1, T1⟩ := y
      simp [ho] at h
      obtain ⟨rfl, rfl⟩ := h
      rw [offAt_append p _ _ _ _ _ _ ho hp hi]
      simp [Nat.add_assoc]
  | true =>
    cases p with
    | nil => simp [Loc.at, ha] at h
    | cons j p =>
      rw [Loc.at_arr ha] at h
      rw [List.cons_append, Loc.at_arr ha]
      cases ho : offAt P l.T p with
      | none => simp [ho] at h
      | some y =>
        obtain ⟨o1, T1⟩ := y
        simp [ho] at h
        obtain ⟨rfl, rfl⟩ := h
        rw [offAt_append p _ _ _ _ _ _ ho hp hi]
        simp [Nat.add_assoc]

/-- The label of what lies at a place. -/
def isSt (σ : Sg) (id : Nat) (p : List Nat) (T : TypeId) : Bool :=
  match getT id σ with
  | some o => match o.get p with
    | some (.st T' _) => T' == T
    | _ => false
  | none => false

def stTy (P : Program) (T : TypeId) : Bool :=
  match P.underlying T with
  | some (.struct _) => true
  | _ => false

def afaddr (P : Program) (σ : Sg) (T : TypeId) (x : D) (i : Nat) : Option D :=
  match parts P T with
  | some ts => match ts[i]? with
    | some t => if stTy P T ∧ 0 < P.cellsOf t then (match x with
      | .ptr id p => if isSt σ id p T then some (.ptr id (p ++ [i])) else none
      | .fptr T' d => if T' = T then (match d with
        | .st _ ds => match ds[i]? with
          | some e => some (.fptr t e)
          | none => none
        | _ => none) else none
      | _ => none) else none
    | none => none
  | none => none

section
variable {G : Gh} {w : World} {N : Hp} {ι : Nat → Option Loc} {σ : Sg} {nx : Nat}

theorem isSt_at (h : HR G w N ι σ nx) {id : Nat} {p : List Nat} {T : TypeId} {v : Value} (hv : VR1 (G.cx N ι) (.ptr id p) v) (hs : isSt σ id p T = true) :
    ∃ l b o, v = .pointer (some ⟨b, o, none⟩) ∧ ι id = some l ∧ l.b = some b ∧ l.at G.P p = some (o, T) := by
  obtain ⟨l, b, o, T1, rfl, h1, h2, h3⟩ := ptr_addr hv
  refine ⟨l, b, o, rfl, h1, h2, ?_⟩
  unfold isSt at hs
  split at hs
  · rename_i ob ho
    split at hs
    · rename_i T' ds hg
      simp at hs; subst hs
      obtain ⟨l', hl', hob⟩ := h.obj id ob ho
      have : l' = l := by have := hl'.symm.trans h1; exact Option.some.inj this
      subst this
      obtain ⟨b', cs, E, off, T2, q1, q2, q3, q4, q5, q6⟩ := ObjR.part hob hg
      have h3' : l'.at G.P p = some (o, T1) := h3
      have q3' : l'.at G.P p = some (off, T2) := q3
      rw [h3'] at q3'; cases q3'
      simp [lab] at q4; subst q4
      exact h3
    · cases hs
  · cases hs

theorem faddr_ok (hlay : LayOK G.P) (h : HR G w N ι σ nx) {T : TypeId} {dx r : D} {vx : Value} {i : Nat} (hv : VR1 (G.cx N ι) dx vx) (hr : afaddr G.P σ T dx i = some r) :
    ∃ v, (Instr.fieldAt T vx i).run G.P w = .ok v w ∧ VR1 (G.cx N ι) r v := by
  unfold afaddr at hr
  split at hr
  · rename_i ts hp
    split at hr
    · rename_i t hi
      split at hr
      · rename_i hpos
        rcases parts_struct hlay hp with ⟨fs, hu, ht, hoff, hk⟩ | ⟨n, e, hu, ht, hk⟩
        · subst ht
          simp at hi
          obtain ⟨f, hf, rfl⟩ := hi
          obtain ⟨u, hku⟩ := hk f (by have := Array.mem_of_getElem? hf; simpa using this)
          have hplace : ∀ b o, (Instr.fieldAt T (.pointer (some ⟨b, o, none⟩)) i).run G.P w = .ok (.pointer (some ⟨b, o + f.offset, none⟩)) w := by
            intro b o
            simp only [Instr.fieldAt, Sem.run_bind, run_underlying hu, Result.andThen_ok, hf, Instr.sureAddr, Sem.run_pure, fieldPlace, run_sizeOf' hku]
            rw [if_neg (by have := hpos.2; omega), addr_add]
            rfl
          split at hr
          · rename_i id p
            split at hr
            · rename_i hs
              cases hr
              obtain ⟨l, b, o, rfl, h1, h2, h3⟩ := isSt_at h hv hs
              refine ⟨_, hplace b o, .ptr l b _ f.type h1 h2 ?_⟩
              have := Loc.at_append h3 hp (i := i) (t := f.type) (by simp [hf])
              rw [hoff i f hf]
              exact this
            · cases hr
          · rename_i T' d
            split at hr
            · rename_i hT
              subst hT
              split at hr
              · rename_i U ds
                split at hr
                · rename_i e0 he0
                  cases hr
                  cases hv with
                  | fptr b o ccs E fr cs hb hd hl hz hc =>
                    simp [lab] at hl; subst hl
                    cases hd with
                    | st ts' hp' hs =>
                      have hp'' : parts G.P U = some ts' := hp'
                      rw [hp] at hp''; cases hp''
                      obtain ⟨d2, q1, q2, q3, q4⟩ := FRs.get hs i f.type (by simp [hf])
                      rw [he0] at q1; cases q1
                      refine ⟨_, hplace b o, ?_⟩
                      rw [hoff i f hf]
                      have q4' : sizes G.P ((fs.toList.map (·.type)).take i) + G.P.cellsOf f.type ≤ cs.length := q4
                      exact FR.fptr b _ ccs E fr _ hb q3 q2 (by show (List.take (G.P.cellsOf f.type) (List.drop (sizes G.P _) cs)).length = G.P.cellsOf f.type; simp only [List.length_take, List.length_drop]; omega) (hc.part _ _)
                · cases hr
              · cases hr
            · cases hr
          · cases hr
        · simp [stTy, hu] at hpos
      · cases hr
    · cases hr
  · cases hr

/-! ### Elements -/
def aiaddr (P : Program) (σ : Sg) (T : TypeId) (x ix : D) : Option D :=
  match ix with
  | .v (.int _ n) => match P.underlying T with
    | some (.slice E) => match x with
      | .lst _ _ E' ds => if E' = E ∧ 0 ≤ n ∧ n < ds.length ∧ (P.underlying E).isSome then (match ds[n.toNat]? with
        | some e => some (.fptr E e)
        | none => none) else none
      | .own id off len => match getT id σ with
        | some (.arr E' _) => if E' = E ∧ 0 ≤ n ∧ n < len ∧ (P.underlying E).isSome then some (.ptr id [off + n.toNat]) else none
        | _ => none
      | _ => none
    | some (.array k E) => if 0 ≤ n ∧ n < k ∧ (parts P T).isSome then (match x with
      | .ptr id p => if isSt σ id p T then some (.ptr id (p ++ [n.toNat])) else none
      | .fptr T' d => if T' = T then (match d with
        | .st _ ds => match ds[n.toNat]? with
          | some e => some (.fptr E e)
          | none => none
        | _ => none) else none
      | _ => none) else none
    | _ => none
  | _ => none

theorem run_indexAt_slice {P : Program} (w : World) {T E : TypeId} {u : TypeDesc} (hu : P.underlying T = some (.slice E)) (hE : P.underlying E = some u) (k : IntKind) (n : Int) (b o len cap : Nat) (h0 : 0 ≤ n) (h1 : n < len) :
    (Instr.indexAt T (.slice (some ⟨b, o, none⟩) len cap) (.int k n)).run P w = .ok (.pointer (some ⟨b, o + n.toNat * P.cellsOf E, none⟩)) w := by
  simp only [Instr.indexAt, asIntOf, Sem.run_bind, Sem.run_pure, Result.andThen_ok, run_underlying hu]
  rw [if_pos ⟨h0, h1⟩]
  simp only [Sem.run_bind, run_sizeOf' hE, Result.andThen_ok, addr_add]
  rfl

theorem run_indexAt_array {P : Program} (w : World) {T E : TypeId} {u : TypeDesc} {m : Nat} (hu : P.underlying T = some (.array m E)) (hE : P.underlying E = some u) (k : IntKind) (n : Int) (b o : Nat) (h0 : 0 ≤ n) (h1 : n < m) :
    (Instr.indexAt T (.pointer (some ⟨b, o, none⟩)) (.int k n)).run P w = .ok (.pointer (some ⟨b, o + n.toNat * P.cellsOf E, none⟩)) w := by
  simp only [Instr.indexAt, asIntOf, Sem.run_bind, Sem.run_pure, Result.andThen_ok, run_underlying hu, Instr.sureAddr]
  rw [if_pos ⟨h0, h1⟩]
  simp only [Sem.run_bind, run_sizeOf' hE, Result.andThen_ok, addr_add]
  rfl

theorem iaddr_ok (hlay : LayOK G.P) (h : HR G w N ι σ nx) {T : TypeId} {dx di r : D} {vx vi : Value} (hv : VR1 (G.cx N ι) dx vx) (hi : VR1 (G.cx N ι) di vi) (hr : aiaddr G.P σ T dx di = some r) :
    ∃ v, (Instr.indexAt T vx vi).run G.P w = .ok v w ∧ VR1 (G.cx N ι) r v := by
  unfold aiaddr at hr
  split at hr
  · rename_i k n
    cases hi
    split at hr
    · rename_i E hu
      split at hr
      · rename_i kk xx E' ds
        split at hr
        · rename_i hc
          obtain ⟨rfl, h0, h1, hE⟩ := hc
          obtain ⟨u, hE⟩ := Option.isSome_iff_exists.1 hE
          split at hr
          · rename_i e he
            cases hr
            cases hv with
            | lst0 A cap hx => simp at he
            | lst b o cap ccs E2 fr cs hne hb hs hc hcap hx =>
              refine ⟨_, run_indexAt_slice w hu hE k n b o ds.length cap h0 h1, ?_⟩
              obtain ⟨d2, q1, q2, q3, q4⟩ := FRs.get hs n.toNat E' (by simp [List.getElem?_replicate]; omega)
              rw [he] at q1; cases q1
              have hz : sizes (G.cx N ι).P ((List.replicate ds.length E').take n.toNat) = n.toNat * G.P.cellsOf E' := sizes_rep _ _ _ _ (by omega)
              rw [hz] at q3 q4
              have q4' : n.toNat * G.P.cellsOf E' + G.P.cellsOf E' ≤ cs.length := q4
              have hb2 : (G.cx N ι).hp true b = some (.cells ccs E2 fr) := by
                cases kk
                · simp only [Cx.hp] at hb ⊢
                  simp only [if_true]
                  have hb3 : N b = some (.cells ccs E2 fr) := by simpa using hb
                  simp [hb3]
                · exact hb
              exact FR.fptr b _ ccs E2 fr _ hb2 q3 q2 (by show (List.take (G.P.cellsOf E') (List.drop (n.toNat * G.P.cellsOf E') cs)).length = G.P.cellsOf E'; simp only [List.length_take, List.length_drop]; omega) (hc.part _ _)
          · cases hr
        · cases hr
      · rename_i id off len
        split at hr
        · rename_i E' ds ho
          split at hr
          · rename_i hc
            obtain ⟨rfl, h0, h1, hE⟩ := hc
            obtain ⟨u, hE⟩ := Option.isSome_iff_exists.1 hE
            cases hr
            cases hv with
            | own l A cap hi ha hl hcap hA =>
              obtain ⟨l', hl', hob⟩ := h.obj id _ ho
              have : l' = l := by have := hl'.symm.trans hi; exact Option.some.inj this
              subst this
              obtain ⟨q1, q2, q3, q4⟩ := hob
              obtain ⟨b, hb, rfl⟩ := hA (by omega)
              refine ⟨_, run_indexAt_slice w hu hE k n b _ len cap h0 h1, ?_⟩
              refine FR.ptr l' b _ E' hi hb ?_
              show l'.at G.P [off + n.toNat] = _
              rw [Loc.at_arr q1]
              simp [offAt, q2, Nat.add_mul, Nat.add_assoc]
          · cases hr
        · cases hr
      · cases hr
    · rename_i m E hu
      split at hr
      · rename_i hc
        obtain ⟨h0, h1, hp⟩ := hc
        obtain ⟨ts, hp⟩ := Option.isSome_iff_exists.1 hp
        rcases parts_struct hlay hp with ⟨fs, hu', _⟩ | ⟨n', e, hu', ht, u, hE⟩
        · rw [hu] at hu'; cases hu'
        · rw [hu] at hu'; cases hu'
          subst ht
          have hsz : sizes G.P ((List.replicate m E).take n.toNat) = n.toNat * G.P.cellsOf E := sizes_rep _ _ _ _ (by omega)
          split at hr
          · rename_i id p
            split at hr
            · rename_i hs
              cases hr
              obtain ⟨l, b, o, rfl, g1, g2, g3⟩ := isSt_at h hv hs
              refine ⟨_, run_indexAt_array w hu hE k n b o h0 h1, .ptr l b _ E g1 g2 ?_⟩
              have := Loc.at_append g3 hp (i := n.toNat) (t := E) (by simp [List.getElem?_replicate]; omega)
              rw [hsz] at this
              exact this
            · cases hr
          · rename_i T' d
            split at hr
            · rename_i hT
              subst hT
              split at hr
              · rename_i U ds
                split at hr
                · rename_i e0 he0
                  cases hr
                  cases hv with
                  | fptr b o ccs E2 fr cs hb hd hl hz hc =>
                    simp [lab] at hl; subst hl
                    cases hd with
                    | st ts' hp' hs =>
                      have hp'' : parts G.P U = some ts' := hp'
                      rw [hp] at hp''; cases hp''
                      obtain ⟨d2, q1, q2, q3, q4⟩ := FRs.get hs n.toNat E (by simp [List.getElem?_replicate]; omega)
                      rw [he0] at q1; cases q1
                      have hsz' : sizes (G.cx N ι).P ((List.replicate m E).take n.toNat) = n.toNat * G.P.cellsOf E := hsz
                      rw [hsz'] at q3 q4
                      have q4' : n.toNat * G.P.cellsOf E + G.P.cellsOf E ≤ cs.length := q4
                      refine ⟨_, run_indexAt_array w hu hE k n b o h0 h1, ?_⟩
                      exact FR.fptr b _ ccs E2 fr _ hb q3 q2 (by show (List.take (G.P.cellsOf E) (List.drop (n.toNat * G.P.cellsOf E) cs)).length = G.P.cellsOf E; simp only [List.length_take, List.length_drop]; omega) (hc.part _ _)
                · cases hr
              · cases hr
            · cases hr
          · cases hr
      · cases hr
    · cases hr
  · cases hr

/-! ### Parts of values -/
theorem part_ok {C : Cx} (hlay : LayOK C.P) (w : World) {t : TypeId} {d : D} {cs : Array Value} {off : Nat} (hd : FR C d ((cs.toList.drop off).take (C.P.cellsOf t))) (hb : off + C.P.cellsOf t ≤ cs.size) (hf : fits C.P t d = true) :
    ∃ v, (part t cs off).run C.P w = .ok v w ∧ VR1 C d v := by
  have hlen := FR.len hlay hd hf
  cases hp : parts C.P t with
  | some ts =>
    obtain ⟨u, hu⟩ := parts_known hp
    refine ⟨.agg (cs.extract off (off + C.P.cellsOf t)), ?_, ?_⟩
    · simp only [part, Sem.run_bind, run_isAgg_parts hp, Result.andThen_ok, if_true, run_sizeOf' hu]; rfl
    · cases d <;> simp [fits] at hf <;> first | (simp [scal_parts hf] at hp; done) | skip
      refine ⟨_, rfl, ?_⟩
      have : (cs.extract off (off + C.P.cellsOf t)).toList = (cs.toList.drop off).take (C.P.cellsOf t) := by simp
      rw [this]; exact hd
  | none =>
    have hsc : scal C.P t = true ∧ ∀ U ds, d ≠ .st U ds := by
      cases d <;> simp [fits] at hf <;> first | exact ⟨hf, by simp⟩ | skip
      subst hf
      cases hd with | st ts hp' _ => rw [hp'] at hp; cases hp
    obtain ⟨v, hv⟩ := FR.single hd hsc.2
    have hget : cs[off]? = some v := by
      have h0 : ((cs.toList.drop off).take (C.P.cellsOf t))[0]? = some v := by rw [hv]; rfl
      rw [List.getElem?_take] at h0
      split at h0
      · simpa using h0
      · cases h0
    refine ⟨v, ?_, VR1.of_single (hv ▸ hd) hsc.2⟩
    simp only [part, Sem.run_bind, run_isAgg_scal hsc.1, Result.andThen_ok, hget]
    rfl

def afield (P : Program) (T : TypeId) (x : D) (i : Nat) : Option D :=
  match parts P T with
  | some ts => match ts[i]? with
    | some t => if stTy P T then (match x with
      | .st T' ds => if T' = T then (match ds[i]? with
        | some d => if fits P t d then some d else none
        | none => none) else none
      | _ => none) else none
    | none => none
  | none => none

theorem field_ok {C : Cx} (hlay : LayOK C.P) (w : World) {T : TypeId} {dx r : D} {vx : Value} {i : Nat} (hv : VR1 C dx vx) (hr : afield C.P T dx i = some r) :
    ∃ v, (Instr.field T vx i).run C.P w = .ok v w ∧ VR1 C r v := by
  unfold afield at hr
  split at hr
  · rename_i ts hp
    split at hr
    · rename_i t hi
      split at hr
      · rename_i hst
        split at hr
        · rename_i T' ds
          split at hr
          · rename_i hT
            subst hT
            split at hr
            · rename_i d hd
              split at hr
              · rename_i hf
                cases hr
                obtain ⟨cs, rfl, hfr⟩ := hv
                cases hfr with
                | st ts' hp' hs =>
                  rw [hp] at hp'; cases hp'
                  rcases parts_struct hlay hp with ⟨fs, hu, ht, hoff, hk⟩ | ⟨n, e, hu, ht, hk⟩
                  · subst ht
                    simp at hi
                    obtain ⟨f, hfe, rfl⟩ := hi
                    obtain ⟨d2, q1, q2, q3, q4⟩ := FRs.get hs i f.type (by simp [hfe])
                    rw [hd] at q1; cases q1
                    have hb' : sizes C.P ((fs.toList.map (·.type)).take i) + C.P.cellsOf f.type ≤ cs.size := by simpa using q4
                    obtain ⟨v, g1, g2⟩ := part_ok hlay w q3 hb' hf
                    refine ⟨v, ?_, g2⟩
                    simp only [Instr.field, Sem.run_bind, run_underlying hu, Result.andThen_ok, hfe, asAgg, Sem.run_pure, hoff i f hfe]
                    exact g1
                  · simp [stTy, hu] at hst
              · cases hr
            · cases hr
          · cases hr
        · cases hr
      · cases hr
    · cases hr
  · cases hr

def aextract (x : D) (i : Nat) : Option D :=
  match x with
  | .tup ds => ds[i]?
  | _ => none

theorem extract_ok {C : Cx} {P : Program} (w : World) {dx r : D} {vx : Value} {i : Nat} (hv : VR C dx vx) (hr : aextract dx i = some r) :
    ∃ v, (Instr.extract vx i).run P w = .ok v w ∧ VR1 C r v := by
  cases dx <;> simp [aextract] at hr
  obtain ⟨vs, rfl, hs⟩ := hv
  obtain ⟨v, h1, h2⟩ := hs.get i r hr
  refine ⟨v, ?_, h2⟩
  have : vs[i]? = some v := by simpa using h1
  simp [Instr.extract, this]
end
end Go.Apl

/- APL, part 9: numbers, truth values and texts. Over any program. -/
namespace Go.Apl
open Go
set_option linter.unusedSimpArgs false

def strEq (a b : ByteArray) : Bool := a.toList == b.toList
def strLt (a b : ByteArray) : Bool := Op.bytesLess a.toList b.toList
theorem strEq_iff (a b : ByteArray) : strEq a b = (a == b) := (beq_toListBytes a b).symm

def aint (op : BinOp) (k : IntKind) (a b : Int) : Option D :=
  match op with
  | .add => some (.v (.int k (k.wrap (a + b))))
  | .sub => some (.v (.int k (k.wrap (a - b))))
  | .mul => some (.v (.int k (k.wrap (a * b))))
  | .quo => if b = 0 then none else some (.v (.int k (k.wrap (a.tdiv b))))
  | .rem => if b = 0 then none else some (.v (.int k (a.tmod b)))
  | .and => some (.v (.int k (k.wrap (BitVec.ofInt k.bits a &&& BitVec.ofInt k.bits b).toNat)))
  | .or => some (.v (.int k (k.wrap (BitVec.ofInt k.bits a ||| BitVec.ofInt k.bits b).toNat)))
  | .xor => some (.v (.int k (k.wrap (BitVec.ofInt k.bits a ^^^ BitVec.ofInt k.bits b).toNat)))
  | .andNot => some (.v (.int k (k.wrap (BitVec.ofInt k.bits a &&& ~~~ BitVec.ofInt k.bits b).toNat)))
  | .eql => some (.v (.bool (a == b)))
  | .neq => some (.v (.bool (a != b)))
  | .lss => some (.v (.bool (decide (a < b))))
  | .leq => some (.v (.bool (decide (a ≤ b))))
  | .gtr => some (.v (.bool (decide (b < a))))
  | .geq => some (.v (.bool (decide (b ≤ a))))
  | _ => none
def ashift (op : BinOp) (k : IntKind) (a b : Int) : Option D :=
  if b < 0 then none else match op with
  | .shl => some (.v (.int k (k.wrap (a * 2 ^ (min b.toNat k.bits)))))
  | .shr => some (.v (.int k (a.fdiv (2 ^ (min b.toNat k.bits)))))
  | _ => none
def astr (op : BinOp) (a b : ByteArray) : Option D :=
  match op with
  | .add => if a.size + b.size ≤ 9223372036854775807 then some (.v (.string (a ++ b))) else none
  | .eql => some (.v (.bool (strEq a b)))
  | .neq => some (.v (.bool (!strEq a b)))
  | .lss => some (.v (.bool (strLt a b)))
  | .leq => some (.v (.bool (strLt a b || strEq a b)))
  | .gtr => some (.v (.bool (!(strLt a b || strEq a b))))
  | .geq => some (.v (.bool (!strLt a b)))
  | _ => none

def isShift : BinOp → Bool
  | .shl | .shr => true
  | _ => false

def isBoolTy (P : Program) (T : TypeId) : Bool :=
  match P.underlying T with
  | some .bool => true
  | _ => false
theorem isBoolTy_iff {P : Program} {T : TypeId} (h : isBoolTy P T = true) : P.underlying T = some .bool := by
  unfold isBoolTy at h
  split at h
  · assumption
  · cases h

/-- What two scalars come to. -/
def ascal (P : Program) (op : BinOp) (T : TypeId) (x y : Value) : Option D :=
  match x, y with
  | .int k a, .int k' b => if isShift op then ashift op k a b else if k = k' then aint op k a b else none
  | .string a, .string b => astr op a b
  | .bool a, .bool b => if isBoolTy P T then (match op with
    | .eql => some (.v (.bool (a == b)))
    | .neq => some (.v (.bool (!(a == b))))
    | _ => none) else none
  | _, _ => none

theorem scal_op {C : Cx} (w : World) {op : BinOp} {T : TypeId} {x y : Value} {r : D} (ox oy : Operand) (h : ascal C.P op T x y = some r) :
    ∃ v, (do eqGuard op T ox oy x y; binOp op T x y : Sem Value).run C.P w = .ok v w ∧ VR1 C r v := by
  unfold ascal at h
  split at h
  · rename_i k a k' b
    split at h
    · rename_i hs
      unfold ashift at h
      split at h
      · cases h
      · rename_i hb
        split at h <;> first | (cases h; done) | skip
        all_goals
          cases h
          refine ⟨_, ?_, .v rfl⟩
          simp only [eqGuard_shl, eqGuard_shr, binOp_shl, binOp_shr, Sem.run_bind, Sem.run_pure, Result.andThen_ok, Op.shift]
          rw [if_neg hb]
          rfl
    · split at h
      · rename_i hk; subst hk
        unfold aint at h
        split at h
        case h_4 | h_5 =>
          split at h
          · cases h
          · rename_i hb
            cases h
            refine ⟨_, ?_, .v rfl⟩
            simp only [eqGuard_quo, eqGuard_rem, binOp_quo, binOp_rem, Sem.run_bind, Sem.run_pure, Result.andThen_ok, Op.intDiv]
            rw [if_neg hb]
            rfl
        all_goals first
          | (cases h; done)
          | (cases h
             refine ⟨_, ?_, .v rfl⟩
             simp only [eqGuard_add, eqGuard_sub, eqGuard_mul, eqGuard_and, eqGuard_or, eqGuard_xor, eqGuard_andNot, eqGuard_lss, eqGuard_leq, eqGuard_gtr, eqGuard_geq, eqGuard_at_int,
               binOp_add, binOp_sub, binOp_mul, binOp_and, binOp_or, binOp_xor, binOp_andNot, binOp_eql, binOp_neq, binOp_lss, binOp_leq, binOp_gtr, binOp_geq,
               Sem.run_bind, Sem.run_pure, Result.andThen_ok, Op.intArith, Op.intBits]
             try rfl)
      · cases h
  · rename_i a b
    unfold astr at h
    split at h
    case h_1 =>
      split at h
      · rename_i hb
        cases h
        refine ⟨_, ?_, .v rfl⟩
        simp only [eqGuard_add, Sem.run_bind, Sem.run_pure, Result.andThen_ok, binOp, Op.stringOp, IntKind.max_i64]
        rw [if_neg (by omega)]
        rfl
      · cases h
    all_goals first
      | (cases h; done)
      | (cases h
         refine ⟨_, ?_, .v rfl⟩
         simp only [eqGuard_at_string, Sem.run_bind, Sem.run_pure, Result.andThen_ok, binOp, Op.stringOp]
         rfl)
  · rename_i a b
    split at h
    · rename_i hu
      have hu := isBoolTy_iff hu
      split at h <;> first | (cases h; done) | skip
      all_goals
        cases h
        refine ⟨_, ?_, .v rfl⟩
        simp only [eqGuard_at_bool, Sem.run_bind, Sem.run_pure, Result.andThen_ok, binOp, Op.equal, Op.maxDepth, run_equalIn_bool w 9999 T a b hu]
    · cases h
  · cases h

def aun (op : UnOp) (x : D) : Option D :=
  match op, x with
  | .not, .v (.bool b) => some (.v (.bool (!b)))
  | .neg, .v (.int k n) => some (.v (.int k (k.wrap (0 - n))))
  | .xor, .v (.int k n) => some (.v (.int k (k.wrap (BitVec.ofInt k.bits (if k.signed then -1 else k.max) ^^^ BitVec.ofInt k.bits n).toNat)))
  | _, _ => none

theorem un_ok {C : Cx} (w : World) {op : UnOp} {dx r : D} {vx : Value} (hv : VR1 C dx vx) (h : aun op dx = some r) : ∃ v, (Op.unary op vx).run C.P w = .ok v w ∧ VR1 C r v := by
  unfold aun at h
  split at h
  · cases h; cases hv; exact ⟨_, rfl, .v rfl⟩
  · cases h; cases hv; exact ⟨_, rfl, .v rfl⟩
  · cases h; cases hv; exact ⟨_, rfl, .v rfl⟩
  · cases h

/-- A conversion between whole numbers, or of a text into a text. -/
def aconv (P : Program) (S T : TypeId) (x : D) : Option D :=
  match P.underlying S, P.underlying T, x with
  | some _, some (.int k), .v (.int _ n) => some (.v (.int k (k.wrap n)))
  | some _, some .string, .v (.string s) => some (.v (.string s))
  | _, _, _ => none

theorem conv_ok {C : Cx} (w : World) {S T : TypeId} {dx r : D} {vx : Value} (hv : VR1 C dx vx) (h : aconv C.P S T dx = some r) : ∃ v, (convert S T vx).run C.P w = .ok v w ∧ VR1 C r v := by
  unfold aconv at h
  split at h
  · rename_i u k kk n h1 h2
    cases h; cases hv
    refine ⟨_, ?_, .v rfl⟩
    simp only [convert, Sem.run_bind, run_underlying h1, run_underlying h2, Result.andThen_ok]
    rfl
  · rename_i u s h1 h2
    cases h; cases hv
    refine ⟨_, ?_, .v rfl⟩
    simp only [convert, Sem.run_bind, run_underlying h1, run_underlying h2, Result.andThen_ok]
    rfl
  · cases h

/-- The length of a list, of a text; least and greatest. -/
def alen (P : Program) (T : TypeId) (x : D) : Option D :=
  match P.underlying T, x with
  | some (.slice _), .lst _ _ _ ds => some (.v (.int .i64 ds.length))
  | some (.slice _), .own _ _ n => some (.v (.int .i64 n))
  | some .string, .v (.string s) => some (.v (.int .i64 s.size))
  | some (.array n _), _ => some (.v (.int .i64 n))
  | _, _ => none

theorem len_ok {C : Cx} (w : World) {T U : TypeId} {dx r : D} {vx : Value} (hv : VR1 C dx vx) (h : alen C.P T dx = some r) : ∃ v, (Builtin.len_ #[T] U #[vx]).run C.P w = .ok v w ∧ VR1 C r v := by
  unfold alen at h
  split at h
  · rename_i e k x E ds hu
    cases h
    cases hv with
    | lst0 A cap hx => exact ⟨_, by simp [Builtin.len_, run_underlying hu]; rfl, .v rfl⟩
    | lst b o cap ccs E2 fr cs hne hb hs hc hcap hx => exact ⟨_, by simp [Builtin.len_, run_underlying hu]; rfl, .v rfl⟩
  · rename_i e id off n hu
    cases h
    cases hv with | own l A cap hi ha hl hcap hA => exact ⟨_, by simp [Builtin.len_, run_underlying hu]; rfl, .v rfl⟩
  · rename_i s hu
    cases h; cases hv
    exact ⟨_, by simp [Builtin.len_, run_underlying hu]; rfl, .v rfl⟩
  · rename_i n e hu
    cases h
    exact ⟨_, by simp [Builtin.len_, run_underlying hu]; rfl, .v rfl⟩
  · cases h

def amin (x y : D) : Option D :=
  match x, y with
  | .v (.int k a), .v (.int _ b) => some (.v (.int k (if b < a then b else a)))
  | _, _ => none
def amax (x y : D) : Option D :=
  match x, y with
  | .v (.int k a), .v (.int _ b) => some (.v (.int k (if b > a then b else a)))
  | _, _ => none
theorem min_ok {C : Cx} (w : World) {T : Array TypeId} {U : TypeId} {dx dy r : D} {vx vy : Value} (hx : VR1 C dx vx) (hy : VR1 C dy vy) (h : amin dx dy = some r) : ∃ v, (Builtin.min_ T U #[vx, vy]).run C.P w = .ok v w ∧ VR1 C r v := by
  unfold amin at h
  split at h
  · cases h; cases hx; cases hy; exact ⟨_, rfl, .v rfl⟩
  · cases h
theorem max_ok {C : Cx} (w : World) {T : Array TypeId} {U : TypeId} {dx dy r : D} {vx vy : Value} (hx : VR1 C dx vx) (hy : VR1 C dy vy) (h : amax dx dy = some r) : ∃ v, (Builtin.max_ T U #[vx, vy]).run C.P w = .ok v w ∧ VR1 C r v := by
  unfold amax at h
  split at h
  · cases h; cases hx; cases hy; exact ⟨_, rfl, .v rfl⟩
  · cases h
end Go.Apl

/- APL, part 10: append. Over any program. -/
namespace Go.Apl
open Go
set_option linter.unusedSimpArgs false

theorem FRs.append {C : Cx} : ∀ {ds es : List D} {ts us : List TypeId} {cs gs : List Value}, FRs C ds ts cs → FRs C es us gs → FRs C (ds ++ es) (ts ++ us) (cs ++ gs)
  | _, _, _, _, _, _, .nil, h => h
  | _, _, _, _, _, _, .cons hd hz hl hs, h => by simpa [List.append_assoc] using FRs.cons hd hz hl (FRs.append hs h)

theorem FRs.split {C : Cx} : ∀ {ds : List D} {ts : List TypeId} {cs : List Value}, FRs C ds ts cs → ∀ k, FRs C (ds.take k) (ts.take k) (cs.take (sizes C.P (ts.take k))) ∧ FRs C (ds.drop k) (ts.drop k) (cs.drop (sizes C.P (ts.take k)))
  | _, _, _, .nil, k => by simp [sizes]; exact .nil
  | _, _, _, .cons (d := d) (ds := ds) (t := t) (ts := ts) (cs := cs) (rest := rest) hd hz hl hs, k => by
    cases k with
    | zero => simp [sizes]; exact ⟨.nil, .cons hd hz hl hs⟩
    | succ k =>
      obtain ⟨h1, h2⟩ := FRs.split hs k
      have e : sizes C.P ((t :: ts).take (k + 1)) = cs.length + sizes C.P (ts.take k) := by simp [sizes, hz]
      rw [e]
      have e2 : (cs ++ rest).take (cs.length + sizes C.P (ts.take k)) = cs ++ rest.take (sizes C.P (ts.take k)) := by
        rw [List.take_append, List.take_of_length_le (by omega)]; simp
      have e3 : (cs ++ rest).drop (cs.length + sizes C.P (ts.take k)) = rest.drop (sizes C.P (ts.take k)) := by
        rw [← List.drop_drop, List.drop_left]
      rw [e2, e3]
      exact ⟨.cons hd hz hl h1, h2⟩

theorem FRs.seg {C : Cx} {ds : List D} {n : Nat} {E : TypeId} {cs : List Value} (h : FRs C ds (List.replicate n E) cs) (a b : Nat) (hab : a + b ≤ n) :
    FRs C ((ds.drop a).take b) (List.replicate b E) ((cs.drop (a * C.P.cellsOf E)).take (b * C.P.cellsOf E)) := by
  have h1 := (FRs.split h a).2
  rw [sizes_rep _ _ _ _ (by omega), List.drop_replicate] at h1
  have h2 := (FRs.split h1 b).1
  rwa [sizes_rep _ _ _ _ (by omega), List.take_replicate, Nat.min_eq_left (by omega)] at h2

def u8Ty (P : Program) (E : TypeId) : Bool :=
  scal P E && match P.underlying E with
  | some (.int .u8) => true
  | _ => false

def byteDs (s : ByteArray) : List D := s.data.toList.map fun b => .v (.int .u8 b.toNat)

def srcD (P : Program) (σ : Sg) (E : TypeId) (x : D) : Option (List D) :=
  match x with
  | .lst _ _ E' ds => if E' = E ∨ ds = [] then some ds else none
  | .own id off len => match getT id σ with
    | some (.arr E' ds) => if E' = E ∧ off + len ≤ ds.length then some ((ds.drop off).take len) else none
    | _ => none
  | .v (.string s) => if u8Ty P E then some (byteDs s) else none
  | _ => none

/-- What a slice or a text holds, as cells. -/
structure Src (P : Program) (w : World) (E : TypeId) (n : Nat) (cs : List Value) (v : Value) : Prop where
  len : (Builtin.lenOf v).run P w = .ok n w
  first : ∀ w', (∀ a, w'.cell? a = w.cell? a) → (Builtin.firstCells (P.cellsOf E) n v).run P w' = .ok cs.toArray w'

section
variable {G : Gh} {w : World} {N : Hp} {ι : Nat → Option Loc} {σ : Sg} {nx : Nat}

theorem first_some {P : Program} {w : World} {E : TypeId} {n b o cap : Nat} {cs : List Value} {ccs : Array Value} {E' : TypeId} {fr : Nat × Nat} (hb : w.heap[b]? = some (.cells ccs E' fr)) (hc : Sub cs ccs o)
    (hl : cs.length = n * P.cellsOf E) : Src P w E n cs (.slice (some ⟨b, o, none⟩) n cap) := by
  refine ⟨by simp [Builtin.lenOf], fun w' hw => ?_⟩
  have := run_loadCells_list (P := P) w' ⟨b, o, none⟩ cs (fun j v hj => by
    rw [hw, addr_add]
    simp [World.cell?, hb, hc j v hj])
  rw [hl] at this
  simpa [Builtin.firstCells] using this

theorem byte_FRs {C : Cx} {E : TypeId} (hlay : LayOK C.P) (h : u8Ty C.P E = true) (l : List UInt8) :
    FRs C (l.map fun b => .v (.int .u8 b.toNat)) (List.replicate l.length E) (l.map fun b => .int .u8 b.toNat) := by
  simp only [u8Ty, Bool.and_eq_true] at h
  induction l with
  | nil => exact .nil
  | cons b l ih => exact FRs.cons (cs := [.int .u8 b.toNat]) (.v rfl) (by simp [scal_cells hlay h.1]) (scal_parts h.1) ih

theorem src_ok (hlay : LayOK G.P) (h : HR G w N ι σ nx) {E : TypeId} {dx : D} {vx : Value} {ds : List D} (hv : VR1 (G.cx N ι) dx vx) (hs : srcD G.P σ E dx = some ds) :
    ∃ cs, Src G.P w E ds.length cs vx ∧ FRs (G.cx N ι) ds (List.replicate ds.length E) cs := by
  unfold srcD at hs
  split at hs
  · rename_i k x E' es
    split at hs
    · rename_i hE
      cases hs
      cases hv with
      | lst0 A cap hx =>
        refine ⟨[], ⟨by simp [Builtin.lenOf], fun w' _ => ?_⟩, .nil⟩
        cases A with
        | none => simp [Builtin.firstCells]
        | some a => simp [Builtin.firstCells, loadCells, loadCellsFrom]
      | lst b o cap ccs E2 fr cs hne hb hs hc hcap hx =>
        have hE' : E' = E := hE.resolve_right hne
        subst hE'
        refine ⟨cs, first_some (h.hp_le k b _ hb) hc ?_, hs.mono (Cx.shut_le _)⟩
        have := (FRs.length hs).2
        simpa [sizes] using this
    · cases hs
  · rename_i id off len
    split at hs
    · rename_i E' es ho
      split at hs
      · rename_i hc
        obtain ⟨rfl, hle⟩ := hc
        cases hs
        cases hv with
        | own l A cap hi ha hl hcap hA =>
          obtain ⟨l', hl', hob⟩ := h.obj id _ ho
          have : l' = l := by have := hl'.symm.trans hi; exact Option.some.inj this
          subst this
          obtain ⟨q1, q2, q3, q4⟩ := hob
          have hlen : ((es.drop off).take len).length = len := by simp; omega
          cases hb : l'.b with
          | none =>
            rw [hb] at q4
            obtain ⟨rfl, hz⟩ := q4
            have h0 : len = 0 := by simp at hle; omega
            subst h0
            refine ⟨[], ⟨by simp [Builtin.lenOf], fun w' _ => ?_⟩, by simpa using FRs.nil⟩
            cases A with
            | none => simp [Builtin.firstCells]
            | some a => simp [Builtin.firstCells, loadCells, loadCellsFrom]
          | some b =>
            rw [hb] at q4
            obtain ⟨cs, E2, g1, g2, g3, g4⟩ := q4
            have hseg := FRs.seg g4 off len hle
            by_cases h0 : len = 0
            · subst h0
              refine ⟨[], ⟨by simp [Builtin.lenOf], fun w' _ => ?_⟩, by simpa using FRs.nil⟩
              cases A with
              | none => simp [Builtin.firstCells]
              | some a => simp [Builtin.firstCells, loadCells, loadCellsFrom]
            · obtain ⟨b', hb', rfl⟩ := hA (by omega)
              rw [hb] at hb'; cases hb'
              have hm1 : (off + len) * G.P.cellsOf E' ≤ es.length * G.P.cellsOf E' := Nat.mul_le_mul_right _ hle
              have hm2 : es.length * G.P.cellsOf E' ≤ l'.cap * G.P.cellsOf E' := Nat.mul_le_mul_right _ g3
              rw [Nat.add_mul] at hm1
              have e1 : (((cs.toList.drop l'.base).take (es.length * G.P.cellsOf E')).drop (off * G.P.cellsOf E')).take (len * G.P.cellsOf E') = (cs.toList.drop (l'.base + off * G.P.cellsOf E')).take (len * G.P.cellsOf E') := by
                rw [List.drop_take, List.drop_drop, List.take_take, Nat.min_eq_left (by omega)]
              have hseg' : FRs (G.cx N ι) ((es.drop off).take len) (List.replicate len E') ((cs.toList.drop (l'.base + off * G.P.cellsOf E')).take (len * G.P.cellsOf E')) := by rw [← e1]; exact hseg
              refine ⟨_, ?_, by rw [hlen]; exact hseg'⟩
              rw [hlen, q2]
              exact first_some g1 (Sub.seg _ _ _) (by
                have g2' : l'.base + l'.cap * G.P.cellsOf E' ≤ cs.size := g2
                simp only [List.length_take, List.length_drop, Array.length_toList]; omega)
      · cases hs
    · cases hs
  · rename_i s
    split at hs
    · rename_i hu
      cases hs
      cases hv
      have hb := byte_FRs (C := G.cx N ι) hlay hu s.data.toList
      refine ⟨_, ⟨by simp [Builtin.lenOf, byteDs], fun w' _ => ?_⟩, by simpa [byteDs] using hb⟩
      simp only [Builtin.firstCells, Sem.run_pure]
      congr 1
      apply Array.ext'
      simp [byteDs]
    · cases hs
  · cases hs

theorem run_append_grow' {P : Program} {w : World} {t u ty E : TypeId} {i : TypeInfo} {z : Value} (ht : P.underlying t = some (.slice E)) (hu : (∃ e, P.underlying u = some (.slice e)) ∨ P.underlying u = some .string) (hi : P.info? E = some i) (hz : i.zero = some z)
    {A : Option Addr} {sLen sCap n : Nat} {olds news : List Value} {x : Value} (ho : Src P w E sLen olds (.slice A sLen sCap)) (hn : Src P w E n news x) (hg : sCap < sLen + n) (hbytes : (sLen + n) * i.bytes ≤ 140737488355328) (hb0 : 0 < i.bytes) :
    (Builtin.append_ #[t, u] ty #[.slice A sLen sCap, x]).run P w =
      .ok (.slice (some ⟨w.heap.size, 0, none⟩) (sLen + n) (grownCap w (sLen + n) sCap E))
        (w.drew.alloc (.cells (olds.toArray ++ news.toArray ++ Builtin.zeroCells z.cells (grownCap w (sLen + n) sCap E - (sLen + n))) E)) := by
  have hn' : ¬ (sLen + n ≤ sCap) := by omega
  have hle : sLen + n ≤ 140737488355328 := Nat.le_trans (Nat.le_mul_of_pos_right _ hb0) hbytes
  have h63' : ¬ (9223372036854775807 < ((sLen : Int) + (n : Int))) := by omega
  have h48' : ¬ (281474976710656 < Builtin.nextslicecap (sLen + n) sCap * i.bytes) := by have := growslice_fits (need := sLen + n) (old := sCap) (bytes := i.bytes) (by omega) hbytes; omega
  have hf := hn.first w.drew (fun _ => rfl)
  have hfo := ho.first w.drew (fun _ => rfl)
  have hsz : P.cellsOf E = i.size := cellsOf_info hi
  rw [hsz] at hf hfo
  rcases hu with ⟨e, hu'⟩ | hu' <;>
    simp [Builtin.append_, run_underlying ht, run_underlying hu', sizeOf, typeInfo, zeroValue, hi, hz, hn.len, hn', h63', h48', Question.forced, hf, hfo, newRow, grownCap] <;>
    (congr 2; apply Array.ext'; simp)

theorem run_append_room' {P : Program} {w : World} {t u ty E E2 : TypeId} {i : TypeInfo} (ht : P.underlying t = some (.slice E)) (hu : (∃ e, P.underlying u = some (.slice e)) ∨ P.underlying u = some .string) (hi : P.info? E = some i)
    {b o sLen sCap n : Nat} {cur : Array Value} (hg : w.heap[b]? = some (.cells cur E2 (0, 0))) {news : List Value} {x : Value} (hn : Src P w E n news x) (_hl : news.length = n * i.size) (h1 : ∀ v ∈ news, v.oneCell' = true)
    (hroom : sLen + n ≤ sCap) (hfit : o + sLen * i.size + news.length ≤ cur.size) :
    (Builtin.append_ #[t, u] ty #[.slice (some ⟨b, o, none⟩) sLen sCap, x]).run P w =
      .ok (.slice (some ⟨b, o, none⟩) (sLen + n) sCap) (w.setRow b (cur.toList.take (o + sLen * i.size) ++ news ++ cur.toList.drop (o + sLen * i.size + news.length)).toArray) := by
  have hf := hn.first w (fun _ => rfl)
  have hsz : P.cellsOf E = i.size := cellsOf_info hi
  rw [hsz] at hf
  have hst := run_storeCells_at P b (o + sLen * i.size) E2 news 0 cur w hg (by omega) h1
  simp only [Nat.add_zero] at hst
  rcases hu with ⟨e, hu'⟩ | hu' <;>
    simp [Builtin.append_, run_underlying ht, run_underlying hu', sizeOf, typeInfo, hi, hn.len, hroom, hf, Addr.add_lit, hst]

/-- Nothing is appended. -/
theorem run_append_none' {P : Program} {w : World} {t u ty E : TypeId} {i : TypeInfo} (ht : P.underlying t = some (.slice E)) (hu : (∃ e, P.underlying u = some (.slice e)) ∨ P.underlying u = some .string) (hi : P.info? E = some i)
    {A : Option Addr} {sLen sCap : Nat} {x : Value} (hle : sLen ≤ sCap) (hn : Src P w E 0 [] x) :
    (Builtin.append_ #[t, u] ty #[.slice A sLen sCap, x]).run P w = .ok (.slice A sLen sCap) w := by
  have hf := hn.first w (fun _ => rfl)
  have hsz : P.cellsOf E = i.size := cellsOf_info hi
  rw [hsz] at hf
  rcases hu with ⟨e, hu'⟩ | hu' <;> cases A <;>
    simp [Builtin.append_, run_underlying ht, run_underlying hu', sizeOf, typeInfo, hi, hn.len, hle, hf, storeCells]

/-- An object goes on under another name, in the same block. -/
theorem HR.move (h : HR G w N ι σ nx) (id : Nat) (o o' : AO) (l l' : Loc) (b : Nat) (cs : Array Value)
    (hg : getT id σ = some o) (hl : ι id = some l) (hb : l.b = some b) (hb' : l'.b = some b) (ho : ObjR (G.cx N ι) (w.setRow b cs) o' l') :
    HR G (w.setRow b cs) N (withLoc ι nx l') ((nx, o') :: delT id σ) (nx + 1) ∧ Cx.le (G.cx N ι) (G.cx N (withLoc ι nx l')) := by
  have hC : Cx.le (G.cx N ι) (G.cx N (withLoc ι nx l')) := withLoc_le h.names (Nat.le_refl _)
  have hex := h.excl id o l b hg hl hb
  have other : ∀ b', b' ≠ b → (w.setRow b cs).heap[b']? = w.heap[b']? := fun b' hne => heap_setRow_other w b cs b' hne
  have hidlt := h.names id l hl
  have inT : ∀ j x, getT j ((nx, o') :: delT id σ) = some x → j = nx ∧ x = o' ∨ j ≠ nx ∧ j ≠ id ∧ getT j σ = some x := by
    intro j x hj
    simp only [getT] at hj
    by_cases hjn : nx = j
    · rw [if_pos hjn] at hj; exact .inl ⟨hjn.symm, (Option.some.inj hj).symm⟩
    · rw [if_neg hjn, getT_delT] at hj
      by_cases hji : j = id
      · rw [if_pos hji] at hj; cases hj
      · rw [if_neg hji] at hj; exact .inr ⟨fun e => hjn e.symm, hji, hj⟩
  have lk : ∀ j, j ≠ nx → withLoc ι nx l' j = ι j := fun j hne => by simp [withLoc, hne]
  have ls : withLoc ι nx l' nx = some l' := by simp [withLoc]
  refine ⟨⟨?_, ?_, h.N_new, h.os, h.tape, h.output, by simpa using h.size, ?_, ?_, ?_, ?_, ?_, ?_⟩, hC⟩
  · intro b' x hx
    have : b' ≠ b := fun e => by rw [e, hex.1] at hx; cases hx
    show (w.setRow b cs).heap[b']? = some x
    rw [other b' this]; exact h.I_le b' x hx
  · intro b' x hx
    have : b' ≠ b := fun e => by rw [e, hex.2.1] at hx; cases hx
    show (w.setRow b cs).heap[b']? = some x
    rw [other b' this]; exact h.N_le b' x hx
  · intro b' hb2 hF
    have : b' ≠ b := fun e => hF (by rw [e]; exact hex.2.2 (e ▸ hb2))
    rw [other b' this]; exact h.keep b' hb2 hF
  · intro j x hj
    rcases inT j x hj with ⟨rfl, rfl⟩ | ⟨hne, hnid, hj⟩
    · exact ⟨l', ls, ObjR.grow hC (fun _ _ _ hx => hx) ho⟩
    · obtain ⟨m, hm, hr⟩ := h.obj j x hj
      refine ⟨m, by rw [lk j hne]; exact hm, ObjR.grow hC (fun b' y hb2 hy => ?_) hr⟩
      have : b' ≠ b := fun e => hnid (h.sep j id x o m l b hj hg hm hl (e ▸ hb2) hb)
      rw [other b' this]; exact hy
  · intro j j' x x' m m' b2 g1 g2 k1 k2 b1 b2'
    have t1 := inT j x g1
    have t2 := inT j' x' g2
    clear g1 g2
    rcases t1 with ⟨rfl, rfl⟩ | ⟨hne, hnid, g1⟩ <;> rcases t2 with ⟨rfl, rfl⟩ | ⟨hne', hnid', g2⟩
    · rfl
    · rw [ls] at k1; cases k1
      rw [lk j' hne'] at k2
      rw [hb'] at b1; cases b1
      exact absurd (h.sep j' id x' o m' l b g2 hg k2 hl b2' hb) hnid'
    · rw [ls] at k2; cases k2
      rw [lk j hne] at k1
      rw [hb'] at b2'; cases b2'
      exact absurd (h.sep j id x o m l b g1 hg k1 hl b1 hb) hnid
    · rw [lk j hne] at k1
      rw [lk j' hne'] at k2
      exact h.sep j j' x x' m m' b2 g1 g2 k1 k2 b1 b2'
  · intro j x m b2 g1 k1 b1
    rcases inT j x g1 with ⟨rfl, rfl⟩ | ⟨hne, hnid, g1⟩
    · rw [ls] at k1; cases k1
      rw [hb'] at b1; cases b1
      exact hex
    · rw [lk j hne] at k1
      exact h.excl j x m b2 g1 k1 b1
  · intro j m hm
    simp only [withLoc] at hm
    by_cases hj : j = nx
    · omega
    · rw [if_neg hj] at hm
      have := h.names j m hm
      omega
  · intro j m hm
    obtain ⟨p1, p2⟩ := h.pin j m hm
    have p3 := h.names j m p2
    exact ⟨p1, by rw [lk j (by omega)]; exact p2⟩

def baseD (σ : Sg) (E : TypeId) (x : D) : Option (Option Nat × List D) :=
  match x with
  | .lst _ true E' ds => if E' = E ∨ ds = [] then some (none, ds) else none
  | .own id off len => match getT id σ with
    | some (.arr E' ds) => if E' = E ∧ off + len ≤ ds.length then some (some id, (ds.drop off).take len) else none
    | _ => none
  | _ => none

def aappend (P : Program) (σ : Sg) (nx : Nat) (T U : TypeId) (x y : D) : Option (D × Sg × Nat) :=
  match P.underlying T, P.underlying U with
  | some (.slice E), some (.slice _) | some (.slice E), some .string =>
    match baseD σ E x, srcD P σ E y with
    | some (del, ds), some es =>
      if 0 < P.cellsOf E ∧ 0 < P.bytesOf E ∧ (ds.length + es.length) * P.bytesOf E ≤ 140737488355328 ∧ (zeroD P E).isSome ∧ (del = none → ds = [] ∨ es ≠ []) then
        some (.own nx 0 (ds.length + es.length), (nx, .arr E (ds ++ es)) :: (match del with | some id => delT id σ | none => σ), nx + 1) else none
    | _, _ => none
  | _, _ => none

theorem zero_cells {C : Cx} (hlay : LayOK C.P) {E : TypeId} (h : (zeroD C.P E).isSome = true) : ∃ i z, C.P.info? E = some i ∧ i.zero = some z ∧ z.cells.size = C.P.cellsOf E := by
  obtain ⟨d, hd⟩ := Option.isSome_iff_exists.1 h
  have hd' := hd
  obtain ⟨z, z1, z2, z3, z4⟩ := zeroD_ok (C := C) hlay hd default
  unfold zeroD at hd'
  split at hd'
  · rename_i i hi
    have hlen : z.cells.size = C.P.cellsOf E := by simpa using FR.len hlay z2 z4
    simp only [zeroValue, typeInfo, Sem.run_bind, run_program, Result.andThen_ok, hi, Sem.run_pure] at z1
    cases hz : i.zero with
    | none => simp [hz] at hd'
    | some z' =>
      simp [hz] at z1
      subst z1
      exact ⟨i, _, hi, hz, hlen⟩
  · cases hd'

set_option maxHeartbeats 400000 in
theorem append_ok (hlay : LayOK G.P) (h : HR G w N ι σ nx) {T U ty : TypeId} {dx dy : D} {vx vy : Value} {r : D} {σ' : Sg} {nx' : Nat} (hx : VR1 (G.cx N ι) dx vx) (hy : VR1 (G.cx N ι) dy vy)
    (hr : aappend G.P σ nx T U dx dy = some (r, σ', nx')) :
    ∃ v w' ι', (Builtin.append_ #[T, U] ty #[vx, vy]).run G.P w = .ok v w' ∧ HR G w' N ι' σ' nx' ∧ Cx.le (G.cx N ι) (G.cx N ι') ∧ VR1 (G.cx N ι') r v := by
  obtain ⟨E, ht, hu, hr⟩ : ∃ E, G.P.underlying T = some (.slice E) ∧ ((∃ e, G.P.underlying U = some (.slice e)) ∨ G.P.underlying U = some .string) ∧
      (match baseD σ E dx, srcD G.P σ E dy with
        | some (del, ds), some es =>
          if 0 < G.P.cellsOf E ∧ 0 < G.P.bytesOf E ∧ (ds.length + es.length) * G.P.bytesOf E ≤ 140737488355328 ∧ (zeroD G.P E).isSome ∧ (del = none → ds = [] ∨ es ≠ []) then
            some (D.own nx 0 (ds.length + es.length), (nx, AO.arr E (ds ++ es)) :: (match del with | some id => delT id σ | none => σ), nx + 1) else none
        | _, _ => none) = some (r, σ', nx') := by
    unfold aappend at hr
    split at hr
    · rename_i E e h1 h2; exact ⟨E, h1, .inl ⟨e, h2⟩, hr⟩
    · rename_i E h1 h2; exact ⟨E, h1, .inr h2, hr⟩
    · cases hr
  split at hr
  · rename_i del ds es hbase hsrc
    split at hr
    · rename_i hc
      obtain ⟨hsz, hby, hroom, hz, hne⟩ := hc
      simp only [Option.some.injEq, Prod.mk.injEq] at hr
      obtain ⟨rfl, rfl, rfl⟩ := hr
      obtain ⟨i, z, hi, hiz, hzs⟩ := zero_cells (C := G.cx N ι) hlay hz
      have hi : G.P.info? E = some i := hi
      have hzs : z.cells.size = G.P.cellsOf E := hzs
      have hisz : G.P.cellsOf E = i.size := cellsOf_info hi
      have hiby : G.P.bytesOf E = i.bytes := by simp [Program.bytesOf, hi]
      obtain ⟨ncs, hn1, hn2⟩ := src_ok hlay h hy hsrc
      have hnlen : ncs.length = es.length * G.P.cellsOf E := by have := (FRs.length hn2).2; simpa [sizes] using this
      -- the grown row, in a new block
      have grown : ∀ (ocs : List Value) (cap : Nat), FRs (G.cx N ι) ds (List.replicate ds.length E) ocs → ds.length + es.length ≤ cap → cap = grownCap w (ds.length + es.length) 0 E ∨ True →
          ∃ ι', HR G (w.drew.alloc (.cells (ocs.toArray ++ ncs.toArray ++ Builtin.zeroCells z.cells (cap - (ds.length + es.length))) E)) N ι' ((nx, .arr E (ds ++ es)) :: σ) (nx + 1) ∧ Cx.le (G.cx N ι) (G.cx N ι') ∧
            VR1 (G.cx N ι') (.own nx 0 (ds.length + es.length)) (.slice (some ⟨w.heap.size, 0, none⟩) (ds.length + es.length) cap) := by
        intro ocs cap ho hcap _
        have hlen : ocs.length = ds.length * G.P.cellsOf E := by have := (FRs.length ho).2; simpa [sizes] using this
        have hobj : ObjR (G.cx N ι) (w.drew.alloc (.cells (ocs.toArray ++ ncs.toArray ++ Builtin.zeroCells z.cells (cap - (ds.length + es.length))) E)) (.arr E (ds ++ es)) ⟨some w.heap.size, 0, cap, E, true⟩ := by
          refine ⟨rfl, rfl, hsz, _, E, heap_alloc_self w.drew _, ?_, by simpa using hcap, ?_⟩
          · simp only [Array.size_append, List.size_toArray, size_zeroCells, hzs, hlen, hnlen, Nat.zero_add]
            show cap * G.P.cellsOf E ≤ _
            rw [← Nat.add_mul, ← Nat.add_mul]
            exact Nat.mul_le_mul_right _ (by omega)
          · have happ := FRs.append ho hn2
            rw [List.replicate_append_replicate] at happ
            have e : ((ocs.toArray ++ ncs.toArray ++ Builtin.zeroCells z.cells (cap - (ds.length + es.length))).toList.drop 0).take ((ds ++ es).length * G.P.cellsOf E) = ocs ++ ncs := by
              simp only [Array.toList_append, List.drop_zero]
              rw [List.take_append_of_le_length (by simp [hlen, hnlen, Nat.add_mul]), List.take_of_length_le (by simp [hlen, hnlen, Nat.add_mul])]
            show FRs _ _ _ (((_ : Array Value).toList.drop 0).take ((ds ++ es).length * G.P.cellsOf E))
            rw [e, List.length_append]
            exact happ
        obtain ⟨g1, g2⟩ := HR.new h.drew _ (.arr E (ds ++ es)) ⟨some w.heap.size, 0, cap, E, true⟩ (.inr ⟨_, rfl, rfl⟩) hobj
        refine ⟨_, g1, g2, ?_⟩
        exact FR.own ⟨some w.heap.size, 0, cap, E, true⟩ _ _ (by simp [withLoc]) rfl hcap (by simp) (fun _ => ⟨_, rfl, by simp⟩)
      unfold baseD at hbase
      split at hbase
      · rename_i k E' ds0
        split at hbase
        · rename_i hE
          simp only [Option.some.injEq, Prod.mk.injEq] at hbase
          obtain ⟨rfl, rfl⟩ := hbase
          have hsrc0 : srcD G.P σ E (.lst k true E' ds0) = some ds0 := by simp [srcD, hE]
          obtain ⟨ocs, ho1, ho2⟩ := src_ok hlay h hx hsrc0
          obtain ⟨A, cap, hvx, hcap⟩ : ∃ A cap, vx = .slice A ds0.length cap ∧ cap = ds0.length := by
            cases hx with
            | lst0 A cap hx => exact ⟨A, cap, rfl, hx rfl⟩
            | lst b o cap ccs E2 fr cs hne hb hs hc hcap hx => exact ⟨_, cap, rfl, hx rfl⟩
          subst hvx
          by_cases hes : es = []
          · subst hes
            have hds : ds0 = [] := (hne rfl).resolve_right (by simp)
            subst hds
            have hnc : ncs = [] := List.eq_nil_of_length_eq_zero (by simpa using hnlen)
            subst hnc
            have hrun := run_append_none' (ty := ty) ht hu hi (A := A) (sLen := 0) (sCap := cap) (Nat.zero_le _) hn1
            obtain ⟨g1, g2⟩ := HR.new h w (.arr E []) ⟨none, 0, 0, E, true⟩ (.inl ⟨rfl, rfl⟩) ⟨rfl, rfl, hsz, rfl, rfl⟩
            refine ⟨_, w, _, hrun, g1, g2, ?_⟩
            exact FR.own ⟨none, 0, 0, E, true⟩ A cap (by simp [withLoc]) rfl (Nat.zero_le _) (by simp at hcap; simp [hcap]) (fun hp => by simp at hcap; omega)
          · have hpos : 0 < es.length := List.length_pos_iff.2 hes
            have hrun := run_append_grow' (ty := ty) ht hu hi hiz ho1 hn1 (by omega) (by rw [← hiby]; exact hroom) (by omega)
            obtain ⟨ι', g1, g2, g3⟩ := grown ocs (grownCap w (ds0.length + es.length) cap E) ho2 (grownCap_ge _ _ _ _) (.inr trivial)
            exact ⟨_, _, ι', hrun, g1, g2, g3⟩
        · cases hbase
      · rename_i id off len
        split at hbase
        · rename_i E' ds0 hob
          split at hbase
          · rename_i hE
            obtain ⟨rfl, hle⟩ := hE
            simp only [Option.some.injEq, Prod.mk.injEq] at hbase
            obtain ⟨rfl, rfl⟩ := hbase
            have hdl : ((ds0.drop off).take len).length = len := by simp; omega
            have hsrc0 : srcD G.P σ E' (.own id off len) = some ((ds0.drop off).take len) := by simp [srcD, hob, hle]
            obtain ⟨ocs, ho1, ho2⟩ := src_ok hlay h hx hsrc0
            cases hx with
            | own l A cap hil ha hl hcap hA =>
              by_cases hfit : len + es.length ≤ cap
              · -- there is room
                obtain ⟨l', hl', hobj⟩ := h.obj id _ hob
                have : l' = l := by have := hl'.symm.trans hil; exact Option.some.inj this
                subst this
                by_cases hc0 : cap = 0
                · -- nothing at all
                  have he0 : es = [] := List.eq_nil_of_length_eq_zero (by omega)
                  have hl0 : len = 0 := by omega
                  subst he0; subst hl0; subst hc0
                  have hnc : ncs = [] := List.eq_nil_of_length_eq_zero (by simpa using hnlen)
                  subst hnc
                  have hrun := run_append_none' (ty := ty) ht hu hi (A := A) (sLen := 0) (sCap := 0) (Nat.zero_le _) hn1
                  have h' := h.less (σ' := delT id σ) (fun j x hj => by rw [getT_delT] at hj; split at hj <;> first | (cases hj; done) | exact hj) (Nat.le_refl _)
                  obtain ⟨g1, g2⟩ := HR.new h' w (.arr E' []) ⟨none, 0, 0, E', true⟩ (.inl ⟨rfl, rfl⟩) ⟨rfl, rfl, hsz, rfl, rfl⟩
                  refine ⟨_, w, _, hrun, by simpa using g1, g2, ?_⟩
                  rw [hdl]
                  exact FR.own ⟨none, 0, 0, E', true⟩ A 0 (by simp [withLoc]) rfl (Nat.zero_le _) (by simp) (fun hp => by omega)
                · obtain ⟨b, hb, rfl⟩ := hA (by omega)
                  obtain ⟨q1, q2, q3, q4⟩ := hobj
                  rw [hb] at q4
                  obtain ⟨cs, E2, r1, r2, r3, r4⟩ := q4
                  have r2' : l'.base + l'.cap * G.P.cellsOf E' ≤ cs.size := r2
                  have hone : ∀ v ∈ ncs, v.oneCell' = true := FRs.one hn2
                  have hm1 : (off + cap) * G.P.cellsOf E' ≤ l'.cap * G.P.cellsOf E' := Nat.mul_le_mul_right _ (Nat.le_of_eq hcap)
                  have hm2 : (len + es.length) * G.P.cellsOf E' ≤ cap * G.P.cellsOf E' := Nat.mul_le_mul_right _ hfit
                  rw [Nat.add_mul] at hm1 hm2
                  have hrun := run_append_room' (ty := ty) (w := w) ht hu hi (b := b) (o := l'.base + off * G.P.cellsOf E') (sLen := len) (sCap := cap) r1 hn1 (by rw [hnlen, hisz]) hone hfit (by rw [← hisz, hnlen]; omega)
                  have hm3 : (off + len) * G.P.cellsOf E' ≤ ds0.length * G.P.cellsOf E' := Nat.mul_le_mul_right _ hle
                  have hm4 : ds0.length * G.P.cellsOf E' ≤ l'.cap * G.P.cellsOf E' := Nat.mul_le_mul_right _ r3
                  rw [Nat.add_mul] at hm3
                  have holds : FRs (G.cx N ι) ((ds0.drop off).take len) (List.replicate len E') ((cs.toList.drop (l'.base + off * G.P.cellsOf E')).take (len * G.P.cellsOf E')) := by
                    have hseg := FRs.seg r4 off len hle
                    have e1 : (((cs.toList.drop l'.base).take (ds0.length * G.P.cellsOf E')).drop (off * G.P.cellsOf E')).take (len * G.P.cellsOf E') = (cs.toList.drop (l'.base + off * G.P.cellsOf E')).take (len * G.P.cellsOf E') := by
                      rw [List.drop_take, List.drop_drop, List.take_take, Nat.min_eq_left (by omega)]
                    rw [← e1]; exact hseg
                  obtain ⟨g1, g2⟩ := HR.move h id _ (.arr E' ((ds0.drop off).take len ++ es)) l' ⟨some b, l'.base + off * G.P.cellsOf E', cap, E', true⟩ b
                    (cs.toList.take (l'.base + off * G.P.cellsOf E' + len * G.P.cellsOf E') ++ ncs ++ cs.toList.drop (l'.base + off * G.P.cellsOf E' + len * G.P.cellsOf E' + ncs.length)).toArray hob hil hb rfl (by
                      refine ⟨rfl, rfl, hsz, _, E2, setRow_heap w b cs _ E2 _ r1, ?_, by simp; omega, ?_⟩
                      · simp only [List.size_toArray, List.length_append, List.length_take, List.length_drop, Array.length_toList]
                        show l'.base + off * G.P.cellsOf E' + cap * G.P.cellsOf E' ≤ _
                        omega
                      · have happ := FRs.append holds hn2
                        rw [List.replicate_append_replicate] at happ
                        have e2 : (((cs.toList.take (l'.base + off * G.P.cellsOf E' + len * G.P.cellsOf E') ++ ncs ++ cs.toList.drop (l'.base + off * G.P.cellsOf E' + len * G.P.cellsOf E' + ncs.length)).drop (l'.base + off * G.P.cellsOf E')).take ((len + es.length) * G.P.cellsOf E')) =
                            (cs.toList.drop (l'.base + off * G.P.cellsOf E')).take (len * G.P.cellsOf E') ++ ncs := by
                          have hs := splice_out cs.toList ncs (l'.base + off * G.P.cellsOf E') ((len + es.length) * G.P.cellsOf E') (len * G.P.cellsOf E') (by rw [hnlen, Nat.add_mul]; omega) (by simp only [Array.length_toList]; rw [Nat.add_mul]; omega)
                          rw [hs, List.take_take, Nat.min_eq_left (by rw [Nat.add_mul]; omega), List.drop_of_length_le (i := len * G.P.cellsOf E' + ncs.length) (by simp only [List.length_take]; rw [hnlen, Nat.add_mul]; omega), List.append_nil]
                        have hl2 : ((ds0.drop off).take len ++ es).length = len + es.length := by simp; omega
                        show FRs _ _ (List.replicate ((ds0.drop off).take len ++ es).length E') ((((_ : List Value).toArray).toList.drop (l'.base + off * G.P.cellsOf E')).take (((ds0.drop off).take len ++ es).length * G.P.cellsOf E'))
                        rw [hl2]
                        rw [← e2] at happ
                        exact happ)
                  rw [← hisz] at hrun
                  have fin := FR.own (C := G.cx N (withLoc ι nx ⟨some b, l'.base + off * G.P.cellsOf E', cap, E', true⟩)) (id := nx) (off := 0) (len := len + es.length) ⟨some b, l'.base + off * G.P.cellsOf E', cap, E', true⟩ (some ⟨b, l'.base + off * G.P.cellsOf E', none⟩) cap (by simp [withLoc]) rfl hfit (by simp) (fun _ => ⟨b, rfl, by simp⟩)
                  rw [q2]
                  refine Exists.intro _ (Exists.intro _ (Exists.intro _ ⟨hrun, g1, g2, ?_⟩))
                  rw [hdl]
                  exact fin
              · have hrun := run_append_grow' (ty := ty) ht hu hi hiz (by rw [hdl] at ho1; exact ho1) hn1 (by omega) (by rw [← hiby]; rw [hdl] at hroom; exact hroom) (by omega)
                obtain ⟨ι', g1, g2, g3⟩ := grown ocs (grownCap w (len + es.length) cap E') ho2 (by rw [hdl]; exact grownCap_ge _ _ _ _) (.inr trivial)
                rw [hdl] at g1 g3
                refine ⟨_, _, ι', hrun, ?_, g2, by rw [hdl]; exact g3⟩
                exact g1.less (fun j x hj => by
                  simp only [getT] at hj ⊢
                  split
                  · rename_i he; rw [if_pos he] at hj; exact hj
                  · rename_i he
                    rw [if_neg he, getT_delT] at hj
                    split at hj
                    · cases hj
                    · exact hj) (Nat.le_refl _)
          · cases hbase
        · cases hbase
      · cases hbase
    · cases hr
  · cases hr
end
end Go.Apl
