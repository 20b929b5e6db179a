/- Part of a proof: the texts A9B, A10B, A10C, A11, A12 of a library of data trees, abstract stores and contracts, joined. -/
import Derived.Test.YtpdenmclcnkaaaaGreatDoorL2
import Derived.Laws.StructEq
import Derived.ChangeKeysEq
import Derived.Laws.Slices
import Derived.Laws.BytesString
import Derived.Lib.AppendZerosOnto
/- APL, part 9B: structs and arrays compared. Over any program. -/
namespace Go.Apl
open Go
set_option linter.unusedSimpArgs false
set_option linter.unusedVariables false

mutual
def dEq : D → D → Bool
  | .v (.int _ a), .v (.int _ b) => a == b
  | .v (.string a), .v (.string b) => strEq a b
  | .v (.bool a), .v (.bool b) => a == b
  | .st _ ds, .st _ es => dEqs ds es
  | _, _ => false
def dEqs : List D → List D → Bool
  | d :: ds, e :: es => dEq d e && dEqs ds es
  | [], [] => true
  | _, _ => false
end

/-- A tree of a plain comparable type. -/
def shapes (g : TypeId → D → Bool) : List TypeId → List D → Bool
  | t :: ts, d :: ds => g t d && shapes g ts ds
  | [], [] => true
  | _, _ => false
def shape (P : Program) : Nat → TypeId → D → Bool
  | 0, _, _ => false
  | n + 1, T, d => match parts P T with
    | some ts => match d with
      | .st T' ds => T' == T && shapes (shape P n) ts ds
      | _ => false
    | none => scal P T && match P.underlying T, d with
      | some (.int k), .v (.int k' _) => decide (k = k')
      | some .string, .v (.string _) => true
      | some .bool, .v (.bool _) => true
      | _, _ => false
def eqT (P : Program) : Nat → TypeId → Bool
  | 0, _ => false
  | n + 1, T => match P.underlying T with
    | some (.int _) | some .string | some .bool => true
    | some (.struct fs) => !P.stoodInHeld T && fs.toList.all (fun f => decide (f.name ≠ "_") && eqT P n f.type)
    | some (.array _ E) => (P.info? E).isSome && eqT P n E
    | _ => false

theorem shapes_get {g : TypeId → D → Bool} : ∀ {ts : List TypeId} {ds : List D}, shapes g ts ds = true → ∀ (i : Nat) (t : TypeId), ts[i]? = some t → ∃ d, ds[i]? = some d ∧ g t d = true
  | t :: ts, d :: ds, h, i, t', hi => by
    simp [shapes] at h
    cases i with
    | zero => simp at hi; subst hi; exact ⟨d, rfl, h.1⟩
    | succ i => simp at hi; simpa using shapes_get h.2 i t' hi
  | [], _, _, i, t', hi => by simp at hi
  | _ :: _, [], h, _, _, _ => by simp [shapes] at h
theorem shapes_len {g : TypeId → D → Bool} : ∀ {ts : List TypeId} {ds : List D}, shapes g ts ds = true → ds.length = ts.length
  | t :: ts, d :: ds, h => by simp [shapes] at h; simp [shapes_len h.2]
  | [], [], _ => rfl
  | [], _ :: _, h => by simp [shapes] at h
  | _ :: _, [], h => by simp [shapes] at h

theorem shape_fits {P : Program} {n : Nat} {T : TypeId} {d : D} (h : shape P n T d = true) : fits P T d = true := by
  cases n with
  | zero => simp [shape] at h
  | succ n =>
    simp only [shape] at h
    split at h
    · split at h
      · simp at h; simp [fits, h.1]
      · cases h
    · simp only [Bool.and_eq_true] at h
      obtain ⟨h1, h2⟩ := h
      split at h2 <;> first | (cases h2; done) | simpa [fits] using h1

theorem dEqs_drop {ds es : List D} {k : Nat} {d e : D} (hd : ds[k]? = some d) (he : es[k]? = some e) : dEqs (ds.drop k) (es.drop k) = (dEq d e && dEqs (ds.drop (k + 1)) (es.drop (k + 1))) := by
  rw [List.drop_eq_getElem_cons (List.getElem?_eq_some_iff.1 hd).1, List.drop_eq_getElem_cons (List.getElem?_eq_some_iff.1 he).1]
  simp only [dEqs]
  rw [(List.getElem?_eq_some_iff.1 hd).2, (List.getElem?_eq_some_iff.1 he).2]

theorem VR1.val {C : Cx} {x v : Value} (h : VR1 C (.v x) v) : v = x := by cases h; rfl

theorem eqItems_ok {C : Cx} (hlay : LayOK C.P) (w : World) {n : Nat} {E : TypeId} {m : Nat} {ds es : List D} {xs ys : Array Value}
    (ih : ∀ {T : TypeId} {d e : D} {v u : Value}, eqT C.P n T = true → shape C.P n T d = true → shape C.P n T e = true → VR1 C d v → VR1 C e u → (Op.equalIn n T v u).run C.P w = .ok (dEq d e) w)
    (hE : eqT C.P n E = true) (hd : shapes (shape C.P n) (List.replicate m E) ds = true) (he : shapes (shape C.P n) (List.replicate m E) es = true)
    (hx : FRs C ds (List.replicate m E) xs.toList) (hy : FRs C es (List.replicate m E) ys.toList) :
    ∀ (j k : Nat), k + j = m → (Op.eqItems n E (C.P.cellsOf E) xs ys (List.range' k j)).run C.P w = .ok (dEqs (ds.drop k) (es.drop k)) w := by
  intro j
  induction j with
  | zero =>
    intro k hk
    have h1 := shapes_len hd
    have h2 := shapes_len he
    simp at h1 h2
    rw [List.drop_eq_nil_of_le (by omega), List.drop_eq_nil_of_le (by omega)]
    rfl
  | succ j ihj =>
    intro k hk
    have hkE : (List.replicate m E)[k]? = some E := by simp [List.getElem?_replicate]; omega
    obtain ⟨d, hdk, hsd⟩ := shapes_get hd k E hkE
    obtain ⟨e, hek, hse⟩ := shapes_get he k E hkE
    obtain ⟨d2, q1, q2, q3, q4⟩ := FRs.get hx k E hkE
    obtain ⟨e2, r1, r2, r3, r4⟩ := FRs.get hy k E hkE
    rw [hdk] at q1; cases q1
    rw [hek] at r1; cases r1
    have hsz : sizes C.P ((List.replicate m E).take k) = k * C.P.cellsOf E := sizes_rep _ _ _ _ (by omega)
    rw [hsz] at q3 q4 r3 r4
    have p1 : FR C d ((xs.toList.drop (k * C.P.cellsOf E)).take (C.P.cellsOf E)) := by first | exact q2 | exact q3
    have p2 : FR C e ((ys.toList.drop (k * C.P.cellsOf E)).take (C.P.cellsOf E)) := by first | exact r2 | exact r3
    obtain ⟨v, g1, g2⟩ := part_ok hlay w p1 (by simpa using q4) (shape_fits hsd)
    obtain ⟨u, g3, g4⟩ := part_ok hlay w p2 (by simpa using r4) (shape_fits hse)
    have := ih hE hsd hse g2 g4
    rw [List.range'_succ]
    simp only [Op.eqItems, Sem.run_bind, g1, g3, Result.andThen_ok, this, dEqs_drop hdk hek]
    cases dEq d e
    · simp
    · simpa using ihj (k + 1) (by omega)

theorem eqFields_ok {C : Cx} (hlay : LayOK C.P) (w : World) {n : Nat} {fs : Array Field} {ds es : List D} {xs ys : Array Value}
    (ih : ∀ {T : TypeId} {d e : D} {v u : Value}, eqT C.P n T = true → shape C.P n T d = true → shape C.P n T e = true → VR1 C d v → VR1 C e u → (Op.equalIn n T v u).run C.P w = .ok (dEq d e) w)
    (hF : ∀ f ∈ fs.toList, f.name ≠ "_" ∧ eqT C.P n f.type = true) (hoff : ∀ i f, fs[i]? = some f → f.offset = sizes C.P ((fs.toList.map (·.type)).take i))
    (hd : shapes (shape C.P n) (fs.toList.map (·.type)) ds = true) (he : shapes (shape C.P n) (fs.toList.map (·.type)) es = true)
    (hx : FRs C ds (fs.toList.map (·.type)) xs.toList) (hy : FRs C es (fs.toList.map (·.type)) ys.toList) :
    ∀ (l : List Field) (k : Nat), fs.toList.drop k = l → (Op.eqFields n xs ys l).run C.P w = .ok (dEqs (ds.drop k) (es.drop k)) w := by
  intro l
  induction l with
  | nil =>
    intro k hk
    have h1 := shapes_len hd
    have h2 := shapes_len he
    have h3 : fs.toList.length ≤ k := by simpa using hk
    simp at h1 h2 h3
    rw [List.drop_eq_nil_of_le (by omega), List.drop_eq_nil_of_le (by omega)]
    rfl
  | cons f l ihl =>
    intro k hk
    have hfk : fs.toList[k]? = some f := by
      have : (fs.toList.drop k)[0]? = some f := by rw [hk]; rfl
      simpa using this
    have hl : fs.toList.drop (k + 1) = l := by
      have : (fs.toList.drop k).drop 1 = l := by rw [hk]; rfl
      simpa [List.drop_drop, Nat.add_comm] using this
    obtain ⟨hname, hT⟩ := hF f (List.mem_of_getElem? hfk)
    have hkE : (fs.toList.map (·.type))[k]? = some f.type := by simp only [List.getElem?_map, hfk]; rfl
    obtain ⟨d, hdk, hsd⟩ := shapes_get hd k _ hkE
    obtain ⟨e, hek, hse⟩ := shapes_get he k _ hkE
    obtain ⟨d2, q1, q2, q3, q4⟩ := FRs.get hx k _ hkE
    obtain ⟨e2, r1, r2, r3, r4⟩ := FRs.get hy k _ hkE
    rw [hdk] at q1; cases q1
    rw [hek] at r1; cases r1
    have ho := hoff k f (by simpa using hfk)
    rw [← ho] at q3 q4 r3 r4
    have p1 : FR C d ((xs.toList.drop f.offset).take (C.P.cellsOf f.type)) := by first | exact q2 | exact q3
    have p2 : FR C e ((ys.toList.drop f.offset).take (C.P.cellsOf f.type)) := by first | exact r2 | exact r3
    obtain ⟨v, g1, g2⟩ := part_ok hlay w p1 (by simpa using q4) (shape_fits hsd)
    obtain ⟨u, g3, g4⟩ := part_ok hlay w p2 (by simpa using r4) (shape_fits hse)
    have := ih hT hsd hse g2 g4
    simp only [Op.eqFields]
    rw [if_pos hname]
    simp only [Sem.run_bind, g1, g3, Result.andThen_ok, this, dEqs_drop hdk hek]
    cases dEq d e
    · simp
    · simpa using ihl (k + 1) hl

theorem eq_ok {C : Cx} (hlay : LayOK C.P) (w : World) : ∀ (n : Nat) {T : TypeId} {d e : D} {v u : Value}, eqT C.P n T = true → shape C.P n T d = true → shape C.P n T e = true → VR1 C d v → VR1 C e u → (Op.equalIn n T v u).run C.P w = .ok (dEq d e) w := by
  intro n
  induction n with
  | zero => intro T d e v u h; simp [eqT] at h
  | succ n ih =>
    intro T d e v u ht hd he hv hu
    simp only [shape] at hd he
    cases hp : parts C.P T with
    | none =>
      simp only [hp, Bool.and_eq_true] at hd he
      obtain ⟨_, hd⟩ := hd
      obtain ⟨_, he⟩ := he
      split at hd
      · rename_i k k' a hU
        simp only [hU] at he
        split at he
        · rename_i q1 k2 k2' b hq
          cases hq
          simp at hd he
          subst hd; subst he
          rw [VR1.val hv, VR1.val hu]
          simp only [dEq]
          exact run_equalIn_int w n T _ _ a b hU
        · rename_i hq; cases hq
        · rename_i hq; cases hq
        · cases he
      · rename_i a hU
        simp only [hU] at he
        split at he
        · rename_i hq; cases hq
        · rename_i b hq
          rw [VR1.val hv, VR1.val hu]
          simp only [dEq, strEq]
          exact run_equalIn_string w n T a _ hU
        · rename_i hq; cases hq
        · cases he
      · rename_i a hU
        simp only [hU] at he
        split at he
        · rename_i hq; cases hq
        · rename_i hq; cases hq
        · rename_i b hq
          rw [VR1.val hv, VR1.val hu]
          simp only [dEq]
          exact run_equalIn_bool' w n T a _ hU
        · cases he
      · cases hd
    | some ts =>
      simp only [hp] at hd he
      split at hd
      · rename_i T1 ds
        split at he
        · rename_i T2 es
          simp at hd he
          obtain ⟨rfl, hd⟩ := hd
          obtain ⟨e2, he⟩ := he
          subst e2
          obtain ⟨xs, rfl, hfx⟩ := hv
          obtain ⟨ys, rfl, hfy⟩ := hu
          cases hfx with
          | st ts1 hp1 hs1 =>
            cases hfy with
            | st ts2 hp2 hs2 =>
              rw [hp] at hp1 hp2
              cases hp1; cases hp2
              simp only [dEq]
              rcases parts_struct hlay hp with ⟨fs, hU, hts, hoff, hk⟩ | ⟨m, E, hU, hts, hk⟩
              · subst hts
                simp only [eqT, hU, Bool.and_eq_true, Bool.not_eq_true', List.all_eq_true, decide_eq_true_eq] at ht
                have hfo : C.P.fieldsOf T2 = fs := by simp [Program.fieldsOf, hU]
                rw [run_equalIn_struct w n T2 xs ys (by rw [hfo]; exact hU) ht.1, hfo]
                have := eqFields_ok hlay w (fun h1 h2 h3 h4 h5 => ih h1 h2 h3 h4 h5) ht.2 hoff hd he hs1 hs2 fs.toList 0 (by simp)
                simpa using this
              · subst hts
                simp only [eqT, hU, Bool.and_eq_true] at ht
                obtain ⟨i, hi⟩ := Option.isSome_iff_exists.1 ht.1
                rw [run_equalIn_array w n xs ys hU hi, List.range_eq_range']
                have := eqItems_ok hlay w (fun h1 h2 h3 h4 h5 => ih h1 h2 h3 h4 h5) ht.2 hd he hs1 hs2 m 0 (by omega)
                simpa using this
        · cases he
      · cases hd

theorem eqT_up {P : Program} : ∀ (n : Nat) {T : TypeId}, eqT P n T = true → eqT P (n + 1) T = true
  | 0, T, h => by simp [eqT] at h
  | n + 1, T, h => by
    rw [eqT] at h ⊢
    split at h
    · rename_i hU; simp only [hU]
    · rename_i hU; simp only [hU]
    · rename_i hU; simp only [hU]
    · rename_i fs hU
      simp only [hU, Bool.and_eq_true, List.all_eq_true] at h ⊢
      exact ⟨h.1, fun f hf => ⟨(h.2 f hf).1, eqT_up n (h.2 f hf).2⟩⟩
    · rename_i m E hU
      simp only [hU, Bool.and_eq_true] at h ⊢
      exact ⟨h.1, eqT_up n h.2⟩
    · cases h
theorem shapes_mono {g g' : TypeId → D → Bool} (hg : ∀ t d, g t d = true → g' t d = true) : ∀ {ts : List TypeId} {ds : List D}, shapes g ts ds = true → shapes g' ts ds = true
  | t :: ts, d :: ds, h => by
    simp [shapes] at h ⊢
    exact ⟨hg _ _ h.1, shapes_mono hg h.2⟩
  | [], [], _ => rfl
  | [], _ :: _, h => by simp [shapes] at h
  | _ :: _, [], h => by simp [shapes] at h
theorem shape_up {P : Program} : ∀ (n : Nat) {T : TypeId} {d : D}, shape P n T d = true → shape P (n + 1) T d = true
  | 0, T, d, h => by simp [shape] at h
  | n + 1, T, d, h => by
    unfold shape at h ⊢
    cases hp : parts P T with
    | none => simp only [hp] at h ⊢; exact h
    | some ts =>
      simp only [hp] at h ⊢
      split at h
      · simp only [Bool.and_eq_true] at h ⊢
        exact ⟨h.1, shapes_mono (fun t d hh => shape_up n hh) h.2⟩
      · cases h
theorem eqT_more {P : Program} {n : Nat} {T : TypeId} (h : eqT P n T = true) : ∀ k, eqT P (n + k) T = true
  | 0 => h
  | k + 1 => eqT_up _ (eqT_more h k)
theorem shape_more {P : Program} {n : Nat} {T : TypeId} {d : D} (h : shape P n T d = true) : ∀ k, shape P (n + k) T d = true
  | 0 => h
  | k + 1 => shape_up _ (shape_more h k)

/-- A type whose values are compared part by part. -/
def eqTy (P : Program) (T : TypeId) : Bool := eqT P 6 T && !P.eqGuardType P.depth T
def isStD : D → Bool
  | .st .. => true
  | _ => false
/-- Two structs or arrays compared. -/
def aeq (P : Program) (op : BinOp) (T : TypeId) (d e : D) : Option D :=
  if isStD d && isStD e && eqTy P T && shape P 6 T d && shape P 6 T e then
    match op with
    | .eql => some (.v (.bool (dEq d e)))
    | .neq => some (.v (.bool (!dEq d e)))
    | _ => none
  else none

theorem aeq_ok {C : Cx} (hlay : LayOK C.P) (w : World) {op : BinOp} {T : TypeId} {d e r : D} {v u : Value} (ox oy : Operand) (h : aeq C.P op T d e = some r) (hv : VR1 C d v) (hu : VR1 C e u) :
    ∃ x, (do eqGuard op T ox oy v u; binOp op T v u : Sem Value).run C.P w = .ok x w ∧ VR1 C r x := by
  unfold aeq at h
  split at h
  · rename_i hc
    simp only [Bool.and_eq_true, eqTy, Bool.not_eq_true'] at hc
    obtain ⟨⟨⟨⟨hd, he⟩, ht, hg⟩, hs1⟩, hs2⟩ := hc
    have key := eq_ok hlay w 10000 (eqT_more ht 9994) (shape_more hs1 9994) (shape_more hs2 9994) hv hu
    cases d <;> simp [isStD] at hd
    cases e <;> simp [isStD] at he
    obtain ⟨xs, rfl, _⟩ := hv
    obtain ⟨ys, rfl, _⟩ := hu
    split at h
    · cases h
      refine ⟨_, ?_, .v rfl⟩
      rw [Sem.run_bind, run_eqGuard_agg w _ _ _ _ _ _ hg, Result.andThen_ok, run_eql_struct, key]
      rfl
    · cases h
      refine ⟨_, ?_, .v rfl⟩
      rw [Sem.run_bind, run_eqGuard_agg w _ _ _ _ _ _ hg, Result.andThen_ok, run_neq_struct, key]
      rfl
    · cases h
  · cases h
end Go.Apl

/- APL, part 10B: parts of slices and texts; bytes made a text. Over any program. -/
namespace Go.Apl
open Go
set_option linter.unusedSimpArgs false
set_option linter.unusedVariables false

/-- A bound of a part. -/
def abound (n : Nat) : D → Option Nat
  | .v (.int _ i) => if 0 ≤ i ∧ i ≤ n then some i.toNat else none
  | _ => none
def aboundO (n dflt : Nat) : Option D → Option Nat
  | none => some dflt
  | some d => abound n d
/-- From where, up to where, and how much room: none, as before. -/
def abounds (n dh : Nat) (lo hi mx : Option D) : Option (Nat × Nat × Option Nat) :=
  match mx with
  | none => match aboundO n dh hi with
    | some h => match aboundO h 0 lo with
      | some l => some (l, h, none)
      | none => none
    | none => none
  | some d => match abound n d, hi with
    | some m, some e => match abound m e with
      | some h => match aboundO h 0 lo with
        | some l => some (l, h, some m)
        | none => none
      | none => none
    | _, _ => none

inductive VRO (C : Cx) : Option D → Option Value → Prop
  | none : VRO C none none
  | some {d : D} {v : Value} (h : VR1 C d v) : VRO C (some d) (some v)

theorem abound_ok {C : Cx} {P : Program} (w : World) {n cap : Nat} {d : D} {v : Value} {i : Nat} (code : BoundsCode) (h : abound n d = some i) (hc : n ≤ cap) (hv : VR1 C d v) :
    (Instr.sliceBound v cap code).run P w = .ok i w ∧ i ≤ n := by
  unfold abound at h
  split at h
  · rename_i k j
    split at h
    · rename_i hj
      cases h; cases hv
      refine ⟨?_, by omega⟩
      exact run_sliceBound w k j cap code hj.1 (by omega)
    · cases h
  · cases h

theorem abounds_ok {C : Cx} {P : Program} (w : World) {isS : Bool} {n dh cap : Nat} {lo hi mx : Option D} {vlo vhi vmx : Option Value} {l h : Nat} {m : Option Nat} (hr : abounds n dh lo hi mx = some (l, h, m)) (hc : n ≤ cap) (hd : dh ≤ n)
    (h1 : VRO C lo vlo) (h2 : VRO C hi vhi) (h3 : VRO C mx vmx) :
    (Instr.sliceBounds isS dh cap vlo vhi vmx).run P w = .ok (l, h, m.getD cap) w ∧ l ≤ h ∧ h ≤ n ∧ (∀ k, m = some k → h ≤ k ∧ k ≤ n) ∧ vmx.isSome = m.isSome := by
  unfold abounds at hr
  cases h3 with
  | none =>
    simp only at hr
    split at hr
    · rename_i h' hh
      split at hr
      · rename_i l' hl
        cases hr
        cases h2 with
        | none =>
          simp [aboundO] at hh
          subst hh
          cases h1 with
          | none => simp [aboundO] at hl; subst hl; simp [Instr.sliceBounds, hd]
          | some q =>
            obtain ⟨e1, e2⟩ := abound_ok (P := P) w (.sliceB) hl (Nat.le_refl _) q
            simp [Instr.sliceBounds, e1, e2, hd]
        | some q2 =>
          obtain ⟨f1, f2⟩ := abound_ok (P := P) w (if isS then .sliceAcap else .sliceAlen) hh hc q2
          cases h1 with
          | none => simp [aboundO] at hl; subst hl; simp [Instr.sliceBounds, f1, f2]
          | some q =>
            obtain ⟨e1, e2⟩ := abound_ok (P := P) w (.sliceB) hl (Nat.le_refl _) q
            simp [Instr.sliceBounds, f1, f2, e1, e2]
      · cases hr
    · cases hr
  | some q3 =>
    simp only at hr
    split at hr
    · rename_i m' e' hm
      split at hr
      · rename_i h' hh
        split at hr
        · rename_i l' hl
          cases hr
          cases h2 with
          | some q2 =>
            obtain ⟨g1, g2⟩ := abound_ok (P := P) w (if isS then .slice3Acap else .slice3Alen) hm hc q3
            obtain ⟨f1, f2⟩ := abound_ok (P := P) w .slice3B hh (Nat.le_refl _) q2
            cases h1 with
            | none => simp [aboundO] at hl; subst hl; simp [Instr.sliceBounds, f1, f2, g1, g2]; omega
            | some q =>
              obtain ⟨e1, e2⟩ := abound_ok (P := P) w (.slice3C) hl (Nat.le_refl _) q
              simp [Instr.sliceBounds, f1, f2, e1, e2, g1, g2]; omega
        · cases hr
      · cases hr
    · cases hr

def exOf (ex : Bool) (h n : Nat) : Option Nat → Bool
  | none => ex && h == n
  | some m => m == h
def arrOf (σ : Sg) (id : Nat) (E : TypeId) : Bool :=
  match getT id σ with
  | some (.arr E' _) => E' == E
  | some (.full E' _ _) => E' == E
  | _ => false
/-- How far a slice of an array of one's own may be made longer. -/
def capOf (σ : Sg) (id off len : Nat) : Nat :=
  match getT id σ with
  | some (.full _ _ c) => max len (c - off)
  | _ => len
/-- A part of a text or of a slice. -/
def aslice (P : Program) (σ : Sg) (T : TypeId) (x : D) (lo hi mx : Option D) : Option D :=
  match x with
  | .v (.string s) => match P.underlying T, abounds s.size s.size lo hi mx with
    | some .string, some (l, h, none) => some (.v (.string (s.extract l h)))
    | _, _ => none
  | .lst k ex E ds => match P.underlying T, abounds ds.length ds.length lo hi mx with
    | some (.slice E'), some (l, h, m) => if (E' = E ∨ ds = []) ∧ (P.underlying E').isSome then some (.lst k (exOf ex h ds.length m) E ((ds.take h).drop l)) else none
    | _, _ => none
  | .own id off len => match P.underlying T, abounds (capOf σ id off len) len lo hi mx with
    | some (.slice E), some (l, h, none) => if (P.underlying E).isSome ∧ arrOf σ id E = true then some (.own id (off + l) (h - l)) else none
    | _, _ => none
  | _ => none

section
variable {G : Gh} {w : World} {N : Hp} {ι : Nat → Option Loc} {σ : Sg} {nx : Nat}

theorem run_slice_gen {P : Program} (w : World) {T E : TypeId} (hu : P.underlying T = some (.slice E)) (A : Option Addr) (n cap l h m : Nat) {vlo vhi vmx : Option Value}
    (hE : (P.underlying E).isSome = true) (hb : (Instr.sliceBounds true n cap vlo vhi vmx).run P w = .ok (l, h, m) w) :
    (Instr.sliceAt T (.slice A n cap) vlo vhi vmx).run P w = .ok (.slice (if m = l then A else A.map (·.add (l * P.cellsOf E))) (h - l) (m - l)) w := by
  obtain ⟨u, hu'⟩ := Option.isSome_iff_exists.1 hE
  simp only [Instr.sliceAt, Instr.slice, Sem.run_bind, run_underlying hu, Result.andThen_ok, hb, run_sizeOf' hu', Sem.run_pure]

theorem slice_ok (h : HR G w N ι σ nx) {T : TypeId} {dx r : D} {vx : Value} {lo hi mx : Option D} {vlo vhi vmx : Option Value} (hv : VR1 (G.cx N ι) dx vx) (h1 : VRO (G.cx N ι) lo vlo) (h2 : VRO (G.cx N ι) hi vhi) (h3 : VRO (G.cx N ι) mx vmx)
    (hr : aslice G.P σ T dx lo hi mx = some r) : ∃ v, (Instr.sliceAt T vx vlo vhi vmx).run G.P w = .ok v w ∧ VR1 (G.cx N ι) r v := by
  unfold aslice at hr
  split at hr
  · -- a text
    rename_i s
    split at hr
    · rename_i l hh hu hb
      cases hr
      cases hv
      obtain ⟨e1, e2, e3, _, e5⟩ := abounds_ok (P := G.P) (isS := false) w hb (Nat.le_refl _) (Nat.le_refl _) h1 h2 h3
      cases vmx with
      | some _ => simp at e5
      | none =>
        refine ⟨.string (s.extract l hh), ?_, .v rfl⟩
        simp only [Instr.sliceAt, Instr.slice, Sem.run_bind, run_underlying hu, Result.andThen_ok, Option.isSome_none, Bool.false_eq_true, if_false, e1, Sem.run_pure]
    · cases hr
  · -- a list
    rename_i k ex E ds
    split at hr
    · rename_i E' l hh m hu hb
      split at hr
      · rename_i hE
        obtain ⟨hE, hE'⟩ := hE
        cases hr
        cases hv with
        | lst0 A cap hx =>
          obtain ⟨e1, e2, e3, e4, _⟩ := abounds_ok (P := G.P) (isS := true) (cap := cap) w hb (by simp) (Nat.le_refl _) h1 h2 h3
          have e3' : hh = 0 := by simpa using e3
          subst e3'
          have e2' : l = 0 := by omega
          subst e2'
          refine ⟨_, run_slice_gen w hu A 0 cap 0 0 (m.getD cap) hE' e1, ?_⟩
          simp only [List.take_nil, List.drop_nil]
          refine FR.lst0 _ _ fun hx' => ?_
          cases m with
          | none => simp [exOf] at hx' ⊢; exact hx hx'
          | some m => simp [exOf] at hx' ⊢; exact hx'
        | lst b o cap ccs E2 fr cs hne hb' hs hc hcap hx =>
          have hEE : E' = E := hE.resolve_right hne
          subst hEE
          obtain ⟨e1, e2, e3, e4, _⟩ := abounds_ok (P := G.P) (isS := true) (cap := cap) w hb hcap (Nat.le_refl _) h1 h2 h3
          refine ⟨_, run_slice_gen w hu _ _ cap l hh (m.getD cap) hE' e1, ?_⟩
          have hlen : ((ds.take hh).drop l).length = hh - l := by simp; omega
          have hm : hh ≤ m.getD cap := by
            cases m with
            | none => simp; omega
            | some m => simpa using (e4 m rfl).1
          have hxx : exOf ex hh ds.length m = true → m.getD cap - l = hh - l := by
            cases m with
            | none => simp [exOf]; intro h1 h2; have := hx h1; omega
            | some m => simp [exOf]; omega
          by_cases h0 : hh = l
          · subst h0
            have : (ds.take hh).drop hh = [] := List.eq_nil_of_length_eq_zero (by rw [hlen]; omega)
            rw [this]
            have e0 : hh - hh = 0 := by omega
            rw [e0]
            exact FR.lst0 _ _ fun hx' => by have := hxx hx'; omega
          · have hml : ¬ m.getD cap = l := by omega
            rw [if_neg hml, ← hlen]
            simp only [Option.map_some, addr_add]
            have hseg := FRs.seg hs l (hh - l) (by omega)
            rw [← List.drop_take] at hseg
            refine FR.lst b _ _ ccs E2 fr _ (fun e => by rw [e] at hlen; simp at hlen; omega) hb' (by rw [hlen]; exact hseg) ?_ (by rw [hlen]; omega) (fun hx' => by rw [hlen]; exact hxx hx')
            have := Sub.part hc (l * G.P.cellsOf E') ((hh - l) * G.P.cellsOf E')
            exact this
      · cases hr
    · cases hr
  · -- an array of one's own
    rename_i id off len
    split at hr
    · rename_i E l hh hu hb
      split at hr
      · rename_i hE
        obtain ⟨hE', hob⟩ := hE
        cases hr
        cases hv with
        | own lc A cap hi ha hl hcap hA =>
          have hcl : capOf σ id off len ≤ cap := by
            unfold capOf
            split
            · rename_i E1 ds1 c hg
              obtain ⟨l', hl', ho⟩ := h.obj id _ hg
              have : l' = lc := by have := hl'.symm.trans hi; exact Option.some.inj this
              subst this
              have := ho.2
              omega
            · exact hl
          obtain ⟨e1, e2, e3, e4, _⟩ := abounds_ok (P := G.P) (isS := true) (cap := cap) w hb hcl (by unfold capOf; split <;> omega) h1 h2 h3
          refine ⟨_, run_slice_gen w hu _ _ cap l hh cap hE' e1, ?_⟩
          have hT : lc.T = E := by
            unfold arrOf at hob
            split at hob
            · rename_i E1 ds1 hg
              obtain ⟨l', hl', ho⟩ := h.obj id _ hg
              have : l' = lc := by have := hl'.symm.trans hi; exact Option.some.inj this
              subst this
              obtain ⟨_, q2, _⟩ := ho
              rw [q2]; simpa using hob
            · rename_i E1 ds1 c hg
              obtain ⟨l', hl', ho⟩ := h.obj id _ hg
              have : l' = lc := by have := hl'.symm.trans hi; exact Option.some.inj this
              subst this
              obtain ⟨⟨_, q2, _⟩, _⟩ := ho
              rw [q2]; simpa using hob
            · simp at hob
          refine FR.own lc _ _ hi ha (by omega) (by omega) fun h0 => ?_
          obtain ⟨b, hb1, hb2⟩ := hA (by omega)
          refine ⟨b, hb1, ?_⟩
          rw [if_neg (by omega), hb2]
          simp only [Option.map_some, addr_add, hT]
          congr 2
          rw [Nat.add_mul]; omega
      · cases hr
    · cases hr
  · cases hr

def bytesD : List D → Option (List Int)
  | [] => some []
  | .v (.int .u8 n) :: l => match bytesD l with
    | some ns => some (n :: ns)
    | none => none
  | _ => none
def mkBytes (ns : List Int) : ByteArray := ns.foldl (fun r n => r.push (UInt8.ofNat n.toNat)) ByteArray.empty
def isLs : D → Bool
  | .lst .. | .own .. => true
  | _ => false
/-- Bytes made a text. -/
def abytes (P : Program) (σ : Sg) (S T : TypeId) (x : D) : Option D :=
  match P.underlying S, P.underlying T with
  | some (.slice E), some .string => if u8Ty P E && isLs x then (match srcD P σ E x with
    | some ds => match bytesD ds with
      | some ns => some (.v (.string (mkBytes ns)))
      | none => none
    | none => none) else none
  | _, _ => none

theorem bytesD_cells {C : Cx} {E : TypeId} : ∀ {ds : List D} {ns : List Int} {cs : List Value} {n : Nat}, bytesD ds = some ns → FRs C ds (List.replicate n E) cs → cs = ns.map (Value.int .u8)
  | [], ns, cs, n, h, hf => by
    cases h
    generalize List.replicate n E = ts at hf
    cases hf; rfl
  | d :: l, ns, cs, n, h, hf => by
    unfold bytesD at h
    split at h
    · cases ‹_ = []›
    · rename_i heq
      cases heq
      split at h
      · rename_i ns' h'
        cases h
        generalize hts : List.replicate n E = ts at hf
        cases hf with
        | cons hd hz hl hs =>
          cases n with
          | zero => cases hts
          | succ n =>
            rw [List.replicate_succ] at hts
            cases hts
            cases hd
            simp [bytesD_cells h' hs]
      · cases h
    · cases h

theorem bytes_ok (hlay : LayOK G.P) (h : HR G w N ι σ nx) {S T : TypeId} {dx r : D} {vx : Value} (hv : VR1 (G.cx N ι) dx vx) (hr : abytes G.P σ S T dx = some r) :
    ∃ v, (convert S T vx).run G.P w = .ok v w ∧ VR1 (G.cx N ι) r v := by
  unfold abytes at hr
  split at hr
  · rename_i E hS hT
    split at hr
    · rename_i hu8
      simp only [Bool.and_eq_true] at hu8
      obtain ⟨hu8, hls⟩ := hu8
      split at hr
      · rename_i ds hsrc
        split at hr
        · rename_i ns hns
          cases hr
          obtain ⟨cs, q1, q2⟩ := src_ok hlay h hv hsrc
          have hcs := bytesD_cells hns q2
          have hE : G.P.underlying E = some (.int .u8) := by
            simp only [u8Ty, Bool.and_eq_true] at hu8
            have := hu8.2
            split at this
            · assumption
            · cases this
          have hz : G.P.cellsOf E = 1 := by
            simp only [u8Ty, Bool.and_eq_true] at hu8
            exact scal_cells hlay hu8.1
          obtain ⟨A, n, c, rfl⟩ : ∃ A n c, vx = .slice A n c := by
            cases dx with
            | lst k x E ds => cases hv <;> exact ⟨_, _, _, rfl⟩
            | own id off len => cases hv; exact ⟨_, _, _, rfl⟩
            | _ => simp [isLs] at hls
          refine ⟨_, ?_, .v rfl⟩
          rw [run_convert_bytes_string w S T E A n c hS hE hT]
          have hlen := q1.len
          have hn : n = ds.length := by
            have h' : (Builtin.lenOf (.slice A n c)).run G.P w = .ok n w := by simp [Builtin.lenOf]
            rw [h'] at hlen; cases hlen; rfl
          cases A with
          | none =>
            have hf := q1.first w (fun _ => rfl)
            simp [Builtin.firstCells, Sem.run_pure] at hf
            have : cs = [] := by
              cases cs with
              | nil => rfl
              | cons => simp at hf
            rw [this] at hcs
            have : ns = [] := by cases ns with | nil => rfl | cons => simp at hcs
            subst this
            rfl
          | some a =>
            have hf := q1.first w (fun _ => rfl)
            simp only [Builtin.firstCells, hz, Nat.mul_one] at hf
            rw [hcs] at hf
            exact run_bytesToString w a n c ns (by rw [hn]; exact hf)
        · cases hr
      · cases hr
    · cases hr
  · cases hr
end
end Go.Apl

/- APL, part 10C: what is copied into an array of one's own; an array whose room is known; zeros behind it. Over any program. -/
namespace Go.Apl
open Go
set_option linter.unusedSimpArgs false
set_option linter.unusedVariables false

section
variable {G : Gh} {w : World} {N : Hp} {ι : Nat → Option Loc} {σ : Sg} {nx : Nat}

/-- An object's other reading, in the same block with the same cells. -/
theorem HR.again (h : HR G w N ι σ nx) {id : Nat} {o o' : AO} {l : Loc} (hg : getT id σ = some o) (hl : ι id = some l) (ho : ObjR (G.cx N ι) w o' l) : HR G w N ι (setT id o' σ) nx := by
  have key : ∀ j x, getT j (setT id o' σ) = some x → (j = id ∧ x = o') ∨ (j ≠ id ∧ getT j σ = some x) := by
    intro j x hj
    rw [getT_setT] at hj
    by_cases e : j = id
    · rw [if_pos e, hg] at hj; cases hj; exact .inl ⟨e, rfl⟩
    · rw [if_neg e] at hj; exact .inr ⟨e, hj⟩
  refine ⟨h.I_le, h.N_le, h.N_new, h.os, h.tape, h.output, h.size, h.keep, ?_, ?_, ?_, h.names, h.pin⟩
  · intro j x hj
    rcases key j x hj with ⟨rfl, rfl⟩ | ⟨_, hj⟩
    · exact ⟨l, hl, ho⟩
    · exact h.obj j x hj
  · intro j j' x x' m m' b h1 h2 h3 h4 h5 h6
    have g1 : ∃ y, getT j σ = some y := by
      rcases key j x h1 with ⟨rfl, _⟩ | ⟨_, hj⟩
      · exact ⟨o, hg⟩
      · exact ⟨_, hj⟩
    have g2 : ∃ y, getT j' σ = some y := by
      rcases key j' x' h2 with ⟨rfl, _⟩ | ⟨_, hj⟩
      · exact ⟨o, hg⟩
      · exact ⟨_, hj⟩
    obtain ⟨y, g1⟩ := g1
    obtain ⟨y', g2⟩ := g2
    exact h.sep j j' y y' m m' b g1 g2 h3 h4 h5 h6
  · intro j x m b h1 h3 h5
    rcases key j x h1 with ⟨rfl, _⟩ | ⟨_, hj⟩
    · exact h.excl j o m b hg h3 h5
    · exact h.excl j x m b hj h3 h5

/-- An object written anew in its own block. -/
theorem HR.rewrite (h : HR G w N ι σ nx) {id : Nat} {o o' : AO} {l : Loc} {b : Nat} {cs : Array Value} (hg : getT id σ = some o) (hl : ι id = some l) (hb : l.b = some b) (ho : ObjR (G.cx N ι) (w.setRow b cs) o' l) :
    HR G (w.setRow b cs) N ι (setT id o' σ) nx := by
  have hex := h.excl id o l b hg hl hb
  have other : ∀ b', b' ≠ b → (w.setRow b cs).heap[b']? = w.heap[b']? := fun b' hne => heap_setRow_other w b cs b' hne
  have key : ∀ j x, getT j (setT id o' σ) = some x → (j = id ∧ x = o') ∨ (j ≠ id ∧ getT j σ = some x) := by
    intro j x hj
    rw [getT_setT] at hj
    by_cases e : j = id
    · rw [if_pos e, hg] at hj; cases hj; exact .inl ⟨e, rfl⟩
    · rw [if_neg e] at hj; exact .inr ⟨e, hj⟩
  have old : ∀ j x, getT j (setT id o' σ) = some x → ∃ y, getT j σ = some y := by
    intro j x hj
    rcases key j x hj with ⟨rfl, _⟩ | ⟨_, hj⟩
    · exact ⟨o, hg⟩
    · exact ⟨_, hj⟩
  refine ⟨?_, ?_, h.N_new, h.os, h.tape, h.output, by simpa using h.size, ?_, ?_, ?_, ?_, h.names, h.pin⟩
  · intro b' x hx
    have : b' ≠ b := fun e => by rw [e, hex.1] at hx; cases hx
    show (w.setRow b cs).heap[b']? = some x
    rw [other b' this]; exact h.I_le b' x hx
  · intro b' x hx
    have : b' ≠ b := fun e => by rw [e, hex.2.1] at hx; cases hx
    show (w.setRow b cs).heap[b']? = some x
    rw [other b' this]; exact h.N_le b' x hx
  · intro b' hb2 hF
    have : b' ≠ b := fun e => hF (by rw [e]; exact hex.2.2 (e ▸ hb2))
    rw [other b' this]; exact h.keep b' hb2 hF
  · intro j x hj
    rcases key j x hj with ⟨rfl, rfl⟩ | ⟨hne, hj⟩
    · exact ⟨l, hl, ho⟩
    · obtain ⟨m, hm, hr⟩ := h.obj j x hj
      refine ⟨m, hm, ObjR.grow (Cx.le.refl _) (fun b' y hb2 hy => ?_) hr⟩
      have : b' ≠ b := fun e => hne (h.sep j id x o m l b hj hg hm hl (e ▸ hb2) hb)
      rw [other b' this]; exact hy
  · intro j j' x x' m m' b2 h1 h2 h3 h4 h5 h6
    obtain ⟨y, g1⟩ := old j x h1
    obtain ⟨y', g2⟩ := old j' x' h2
    exact h.sep j j' y y' m m' b2 g1 g2 h3 h4 h5 h6
  · intro j x m b2 h1 h3 h5
    obtain ⟨y, g1⟩ := old j x h1
    exact h.excl j y m b2 g1 h3 h5

/-- Its elements, of an array of one's own, with the room that is known. -/
def rowOf (σ : Sg) (id : Nat) : Option (TypeId × List D × Nat × Option Nat) :=
  match getT id σ with
  | some (.arr E ds) => some (E, ds, ds.length, none)
  | some (.full E ds c) => some (E, ds, c, some c)
  | _ => none
def mkRow (E : TypeId) (ds : List D) : Option Nat → AO
  | none => .arr E ds
  | some c => .full E ds c
def least (a b : Nat) : Nat := if a ≤ b then a else b
theorem least_min (a b : Nat) : Nat.min a b = least a b := by unfold least; exact Nat.min_def

def lenD : D → Option Nat
  | .lst _ _ _ ds => some ds.length
  | .own _ _ n => some n
  | .v (.string s) => some s.size
  | _ => none
/-- The first elements. -/
def srcK (P : Program) (σ : Sg) (E : TypeId) (k : Nat) : D → Option (List D)
  | .lst _ _ E' ds => if E' = E ∧ k ≤ ds.length then some (ds.take k) else none
  | .own id off len => match rowOf σ id with
    | some (E', ds, _, _) => if E' = E ∧ k ≤ len ∧ off + k ≤ ds.length then some ((ds.drop off).take k) else none
    | none => none
  | .v (.string s) => if u8Ty P E = true ∧ k ≤ s.size then some ((byteDs s).take k) else none
  | _ => none

theorem lenD_ok {C : Cx} {P : Program} (w : World) {d : D} {v : Value} {n : Nat} (h : lenD d = some n) (hv : VR1 C d v) : (Builtin.lenOf v).run P w = .ok n w := by
  unfold lenD at h
  split at h <;> cases h
  · cases hv <;> simp [Builtin.lenOf]
  · cases hv; simp [Builtin.lenOf]
  · cases hv; simp [Builtin.lenOf]

theorem rowOf_ok (h : HR G w N ι σ nx) {id : Nat} {E : TypeId} {ds : List D} {room : Nat} {c : Option Nat} (hr : rowOf σ id = some (E, ds, room, c)) :
    getT id σ = some (mkRow E ds c) ∧ ∃ l, ι id = some l ∧ ArrR (G.cx N ι) w E ds l ∧ (∀ k, c = some k → l.cap = k ∧ room = k) ∧ (c = none → room = ds.length) ∧
      (∀ {w' : World} {ds' : List D}, ArrR (G.cx N ι) w' E ds' l → ObjR (G.cx N ι) w' (mkRow E ds' c) l) := by
  unfold rowOf at hr
  split at hr
  · rename_i E' ds' hg
    simp only [Option.some.injEq, Prod.mk.injEq] at hr
    obtain ⟨rfl, rfl, rfl, rfl⟩ := hr
    obtain ⟨l, hl, ho⟩ := h.obj _ _ hg
    exact ⟨hg, l, hl, ho, (fun _ e => by cases e), fun _ => rfl, fun ha => ha⟩
  · rename_i E' ds' c' hg
    simp only [Option.some.injEq, Prod.mk.injEq] at hr
    obtain ⟨rfl, rfl, rfl, rfl⟩ := hr
    obtain ⟨l, hl, ho⟩ := h.obj _ _ hg
    exact ⟨hg, l, hl, ho.1, (fun _ e => by cases e; exact ⟨ho.2, rfl⟩), (fun e => by cases e), fun ha => ⟨ha, ho.2⟩⟩
  · cases hr

theorem ArrR.room {C : Cx} {E : TypeId} {ds : List D} {l : Loc} (h : ArrR C w E ds l) : ds.length ≤ l.cap := by
  obtain ⟨_, _, _, h4⟩ := h
  cases hb : l.b with
  | none => rw [hb] at h4; rw [h4.1]; simp
  | some b => rw [hb] at h4; obtain ⟨cs, E', _, _, g3, _⟩ := h4; exact g3

theorem first_seg {P : Program} {w : World} {E : TypeId} {k b o n cap : Nat} {cs : List Value} {ccs : Array Value} {E' : TypeId} {fr : Nat × Nat} (hb : w.heap[b]? = some (.cells ccs E' fr)) (hc : Sub cs ccs o)
    (hl : cs.length = k * P.cellsOf E) : (Builtin.firstCells (P.cellsOf E) k (.slice (some ⟨b, o, none⟩) n cap)).run P w = .ok cs.toArray w := by
  have := run_loadCells_list (P := P) w ⟨b, o, none⟩ cs (fun j v hj => by
    rw [addr_add]
    simp [World.cell?, hb, hc j v hj])
  rw [hl] at this
  simpa [Builtin.firstCells] using this

theorem srcK_ok (hlay : LayOK G.P) (h : HR G w N ι σ nx) {E : TypeId} {k : Nat} {dx : D} {vx : Value} {es : List D} (hk : 0 < k) (hv : VR1 (G.cx N ι) dx vx) (hs : srcK G.P σ E k dx = some es) :
    ∃ cs, (Builtin.firstCells (G.P.cellsOf E) k vx).run G.P w = .ok cs.toArray w ∧ FRs (G.cx N ι) es (List.replicate k E) cs ∧ es.length = k := by
  unfold srcK at hs
  split at hs
  · rename_i kk x E' ds
    split at hs
    · rename_i hc
      obtain ⟨rfl, hle⟩ := hc
      cases hs
      cases hv with
      | lst0 A cap hx => simp at hle; omega
      | lst b o cap ccs E2 fr cs hne hb hs hc hcap hx =>
        have hseg := FRs.seg hs 0 k (by omega)
        simp only [List.drop_zero, Nat.zero_mul] at hseg
        have hlen := (FRs.length hs).2
        have hl2 : (cs.take (k * G.P.cellsOf E')).length = k * G.P.cellsOf E' := by
          have := (FRs.length hseg).2
          simpa [sizes] using this
        refine ⟨_, first_seg (h.hp_le kk b _ hb) (by have := Sub.part hc 0 (k * G.P.cellsOf E'); simpa using this) hl2, hseg.mono (Cx.shut_le _), by simp; omega⟩
    · cases hs
  · rename_i id off len
    split at hs
    · rename_i E' ds room c hr
      split at hs
      · rename_i hc
        obtain ⟨rfl, hkl, hle⟩ := hc
        cases hs
        obtain ⟨hg, l', hl', ha', _, _, _⟩ := rowOf_ok h hr
        cases hv with
        | own l A cap hi ha hl hcap hA =>
          have : l' = l := by have := hl'.symm.trans hi; exact Option.some.inj this
          subst this
          obtain ⟨q1, q2, q3, q4⟩ := ha'
          obtain ⟨b, hb, rfl⟩ := hA (by omega)
          rw [hb] at q4
          obtain ⟨cs, E2, g1, g2, g3, g4⟩ := q4
          have hseg := FRs.seg g4 off k hle
          have hm1 : (off + k) * G.P.cellsOf E' ≤ ds.length * G.P.cellsOf E' := Nat.mul_le_mul_right _ hle
          have hm2 : ds.length * G.P.cellsOf E' ≤ l'.cap * G.P.cellsOf E' := Nat.mul_le_mul_right _ g3
          rw [Nat.add_mul] at hm1
          have e1 : (((cs.toList.drop l'.base).take (ds.length * G.P.cellsOf E')).drop (off * G.P.cellsOf E')).take (k * G.P.cellsOf E') = (cs.toList.drop (l'.base + off * G.P.cellsOf E')).take (k * G.P.cellsOf E') := by
            rw [List.drop_take, List.drop_drop, List.take_take, Nat.min_eq_left (by omega)]
          have e1 : FRs (G.cx N ι) ((ds.drop off).take k) (List.replicate k E') ((cs.toList.drop (l'.base + off * G.P.cellsOf E')).take (k * G.P.cellsOf E')) := by rw [← e1]; exact hseg
          have g2' : l'.base + l'.cap * G.P.cellsOf E' ≤ cs.size := g2
          rw [q2]
          exact ⟨_, first_seg g1 (Sub.seg _ _ _) (by simp only [List.length_take, List.length_drop, Array.length_toList]; omega), e1, by simp; omega⟩
      · cases hs
    · cases hs
  · rename_i s
    split at hs
    · rename_i hc
      obtain ⟨hu, hle⟩ := hc
      cases hs
      cases hv
      have hb := byte_FRs (C := G.cx N ι) hlay hu s.data.toList
      have hz : G.P.cellsOf E = 1 := by simp only [u8Ty, Bool.and_eq_true] at hu; exact scal_cells hlay hu.1
      have hlen : s.data.toList.length = s.size := rfl
      have hseg := FRs.seg hb 0 k (by rw [hlen]; omega)
      simp only [List.drop_zero, Nat.zero_mul] at hseg
      refine ⟨_, ?_, hseg, by simp [byteDs]; omega⟩
      simp only [Builtin.firstCells, Sem.run_pure]
      congr 1
      apply Array.ext'
      have hz' : (G.cx N ι).P.cellsOf E = 1 := hz
      simp [hz', List.map_take]
    · cases hs
  · cases hs

/-- 'copy': how many, and the store behind it. -/
def acopy (P : Program) (σ : Sg) (T : TypeId) (x y : D) : Option (D × Sg) :=
  match x, P.underlying T, lenD y with
  | .own id off len, some (.slice E), some n =>
    if least n len = 0 then (if 0 < P.cellsOf E ∧ (P.underlying E).isSome ∧ isLs y then some (.v (.int .i64 0), σ) else none) else
    match rowOf σ id, srcK P σ E (least n len) y with
    | some (E', ds, room, c), some es =>
      if E' = E ∧ (P.underlying E).isSome ∧ off ≤ ds.length ∧ off + least n len ≤ room then
        some (.v (.int .i64 (least n len)), setT id (mkRow E (ds.take off ++ es ++ ds.drop (off + least n len)) c) σ) else none
    | _, _ => none
  | _, _, _ => none

/-- The elements behind a copy. -/
theorem ArrR.splice {C : Cx} {E : TypeId} {ds es : List D} {l : Loc} {b off k : Nat} {cs : Array Value} {E2 : TypeId} {ncs : List Value} (ha : ArrR C w E ds l) (hb : l.b = some b) (hw : w.heap[b]? = some (.cells cs E2 (0, 0)))
    (hn : FRs C es (List.replicate k E) ncs) (hlen : es.length = k) (hoff : off ≤ ds.length) (hroom : off + k ≤ l.cap) :
    ArrR C (w.setRow b (cs.toList.take (l.base + off * C.P.cellsOf E) ++ ncs ++ cs.toList.drop (l.base + off * C.P.cellsOf E + ncs.length)).toArray) E (ds.take off ++ es ++ ds.drop (off + k)) l := by
  obtain ⟨q1, q2, q3, q4⟩ := ha
  rw [hb] at q4
  obtain ⟨cs', E', g1, g2, g3, g4⟩ := q4
  rw [hw] at g1; cases g1
  have hnl : ncs.length = k * C.P.cellsOf E := by have := (FRs.length hn).2; simpa [sizes] using this
  have hm1 : off * C.P.cellsOf E ≤ ds.length * C.P.cellsOf E := Nat.mul_le_mul_right _ hoff
  have hm2 : ds.length * C.P.cellsOf E ≤ l.cap * C.P.cellsOf E := Nat.mul_le_mul_right _ g3
  have hm3 : (off + k) * C.P.cellsOf E ≤ l.cap * C.P.cellsOf E := Nat.mul_le_mul_right _ hroom
  have hm4 : (off + k) * C.P.cellsOf E = off * C.P.cellsOf E + k * C.P.cellsOf E := Nat.add_mul _ _ _
  refine ⟨q1, q2, q3, ?_⟩
  rw [hb]
  refine ⟨_, E2, setRow_heap w b cs _ E2 _ hw, ?_, ?_, ?_⟩
  · simp only [List.size_toArray, List.length_append, List.length_take, List.length_drop, Array.length_toList]
    omega
  · simp; omega
  · have hA := FRs.seg g4 0 off (by omega)
    simp only [List.drop_zero, Nat.zero_mul] at hA
    have hC := FRs.seg g4 (off + k) (ds.length - (off + k)) 
    generalize hL : (ds.take off ++ es ++ ds.drop (off + k)).length = L
    have hL' : L = off + k + (ds.length - (off + k)) := by rw [← hL]; simp; omega
    have hLl : L ≤ l.cap := by omega
    have hm5 : L * C.P.cellsOf E ≤ l.cap * C.P.cellsOf E := Nat.mul_le_mul_right _ hLl
    have hm6 : L * C.P.cellsOf E = off * C.P.cellsOf E + k * C.P.cellsOf E + (ds.length - (off + k)) * C.P.cellsOf E := by rw [hL', Nat.add_mul, Nat.add_mul]
    have hs := splice_out cs.toList ncs l.base (L * C.P.cellsOf E) (off * C.P.cellsOf E) (by omega) (by simp only [Array.length_toList]; omega)
    show FRs C _ _ ((((_ : List Value).toArray).toList.drop l.base).take (L * C.P.cellsOf E))
    simp only
    rw [hs]
    have e1 : ((cs.toList.drop l.base).take (L * C.P.cellsOf E)).take (off * C.P.cellsOf E) = ((cs.toList.drop l.base).take (ds.length * C.P.cellsOf E)).take (off * C.P.cellsOf E) := by
      rw [List.take_take, List.take_take, Nat.min_eq_left (by omega), Nat.min_eq_left (by omega)]
    rw [e1]
    have happ := FRs.append hA hn
    by_cases hge : off + k ≤ ds.length
    · have hC' := hC (by omega)
      have hLd : L = ds.length := by omega
      have e2 : (ds.drop (off + k)).take (ds.length - (off + k)) = ds.drop (off + k) := List.take_of_length_le (by simp)
      rw [e2] at hC'
      have e3 : (((cs.toList.drop l.base).take (ds.length * C.P.cellsOf E)).drop ((off + k) * C.P.cellsOf E)).take ((ds.length - (off + k)) * C.P.cellsOf E) = ((cs.toList.drop l.base).take (ds.length * C.P.cellsOf E)).drop (off * C.P.cellsOf E + ncs.length) := by
        rw [hnl, ← hm4]
        apply List.take_of_length_le
        simp only [List.length_drop, List.length_take]
        rw [← hLd, hm6, hm4, hLd]
        omega
      rw [e3] at hC'
      have := FRs.append happ hC'
      rw [List.replicate_append_replicate, List.replicate_append_replicate, show off + k + (ds.length - (off + k)) = ds.length by omega] at this
      rw [hLd]
      exact this
    · have e2 : ds.drop (off + k) = [] := List.drop_eq_nil_of_le (by omega)
      have e3 : ((cs.toList.drop l.base).take (L * C.P.cellsOf E)).drop (off * C.P.cellsOf E + ncs.length) = [] := by
        apply List.drop_eq_nil_of_le
        simp only [List.length_take, List.length_drop]
        rw [hnl, hm6]
        have : ds.length - (off + k) = 0 := by omega
        rw [this]
        omega
      rw [e2, e3, List.append_nil, List.append_nil]
      rw [List.replicate_append_replicate] at happ
      have : L = off + k := by omega
      rw [this]
      exact happ

theorem copy_ok (hlay : LayOK G.P) (h : HR G w N ι σ nx) {T U ty : TypeId} {dx dy r : D} {vx vy : Value} {σ' : Sg} (hx : VR1 (G.cx N ι) dx vx) (hy : VR1 (G.cx N ι) dy vy) (hr : acopy G.P σ T dx dy = some (r, σ')) :
    ∃ v w', (Builtin.copy_ #[T, U] ty #[vx, vy]).run G.P w = .ok v w' ∧ HR G w' N ι σ' nx ∧ VR1 (G.cx N ι) r v := by
  unfold acopy at hr
  split at hr
  · rename_i id off len E n hu hln
    have hlen := lenD_ok (P := G.P) w hln hy
    cases hx with
    | own l A cap hi ha hl hcap hA =>
      split at hr
      · rename_i h0
        split at hr
        · rename_i hc
          obtain ⟨hz, hE, hls⟩ := hc
          cases hr
          obtain ⟨u, hE'⟩ := Option.isSome_iff_exists.1 hE
          obtain ⟨A', n', c', rfl⟩ : ∃ A' n' c', vy = .slice A' n' c' := by
            cases dy with
            | lst k x E ds => cases hy <;> exact ⟨_, _, _, rfl⟩
            | own id off len => cases hy; exact ⟨_, _, _, rfl⟩
            | _ => simp [isLs] at hls
          have hf : (Builtin.firstCells (G.P.cellsOf E) 0 (.slice A' n' c')).run G.P w = .ok #[] w := by
            cases A' <;> simp [Builtin.firstCells, loadCells, loadCellsFrom]
          refine ⟨.int .i64 0, w, ?_, h, .v rfl⟩
          simp only [Builtin.copy_]
          simp [run_underlying hu, hlen, run_sizeOf' hE', least_min, h0, hf]
          cases A <;> simp [storeCells, goInt]
        · cases hr
      · rename_i h0
        split at hr
        · rename_i E' ds room c es hrow hsrc
          split at hr
          · rename_i hc
            obtain ⟨rfl, hE, hoff, hroom⟩ := hc
            simp only [Option.some.injEq, Prod.mk.injEq] at hr
            obtain ⟨rfl, rfl⟩ := hr
            obtain ⟨u, hE'⟩ := Option.isSome_iff_exists.1 hE
            have hk : 0 < least n len := Nat.pos_of_ne_zero h0
            obtain ⟨ncs, f1, f2, f3⟩ := srcK_ok hlay h hk hy hsrc
            obtain ⟨hg, l', hl', har, hc1, hc2, hmk⟩ := rowOf_ok h hrow
            have : l' = l := by have := hl'.symm.trans hi; exact Option.some.inj this
            subst this
            have hkl : least n len ≤ len := by unfold least; split <;> omega
            obtain ⟨b, hb, rfl⟩ := hA (by omega)
            have har' := har
            obtain ⟨q1, q2, q3, q4⟩ := har'
            rw [hb] at q4
            obtain ⟨cs, E2, g1, g2, g3, g4⟩ := q4
            have hrm : off + least n len ≤ l'.cap := by
              cases c with
              | none => have := hc2 rfl; omega
              | some c => have := hc1 c rfl; omega
            have hone : ∀ v ∈ ncs, v.oneCell' = true := FRs.one f2
            have hnl : ncs.length = least n len * G.P.cellsOf E' := by have := (FRs.length f2).2; simpa [sizes] using this
            have hm1 : (off + least n len) * G.P.cellsOf E' ≤ l'.cap * G.P.cellsOf E' := Nat.mul_le_mul_right _ hrm
            rw [Nat.add_mul] at hm1
            have g2' : l'.base + l'.cap * G.P.cellsOf E' ≤ cs.size := g2
            have hst := run_storeCells_at G.P b (l'.base + off * G.P.cellsOf E') E2 ncs 0 cs w g1 (by omega) hone
            simp only [Nat.add_zero] at hst
            have hsp := ArrR.splice har hb g1 f2 f3 hoff hrm
            refine ⟨.int .i64 (least n len), _, ?_, h.rewrite hg hi hb (hmk hsp), .v rfl⟩
            simp only [Builtin.copy_]
            simp [run_underlying hu, hlen, run_sizeOf' hE', least_min, f1, q2, hst, goInt]
          · cases hr
        · cases hr
  · cases hr

theorem zeroCells_list (zc : Array Value) : ∀ k, (Builtin.zeroCells zc k).toList = (List.replicate k zc.toList).flatten
  | 0 => by simp [Builtin.zeroCells]
  | k + 1 => by
    have ih := zeroCells_list zc k
    rw [List.replicate_succ', List.flatten_append, ← ih]
    simp only [Builtin.zeroCells, Array.toList_map, Array.toList_range, Nat.add_mul, Nat.one_mul, List.range_add, List.map_append, List.flatten_cons, List.flatten_nil, List.append_nil]
    congr 1
    apply List.ext_getElem
    · simp
    · intro j h1 h2
      simp at h1 h2
      simp [Nat.mod_eq_of_lt h1, h1]
theorem zeros_FRs {C : Cx} {E : TypeId} {z : D} {zc : Array Value} (h : FR C z zc.toList) (hz : zc.size = C.P.cellsOf E) (hl : lab C.P z E) : ∀ k, FRs C (List.replicate k z) (List.replicate k E) (Builtin.zeroCells zc k).toList
  | 0 => by simpa [Builtin.zeroCells] using FRs.nil
  | k + 1 => by
    have := FRs.cons h (t := E) (by simpa using hz) hl (zeros_FRs h hz hl k)
    rw [zeroCells_list] at this ⊢
    simpa [List.replicate_succ] using this

/-- Zeros behind a part of an array that has no room for them. -/
def aappz (P : Program) (σ : Sg) (nx : Nat) (T U : TypeId) (x y : D) : Option (D × Sg × Nat) :=
  match x, y, P.underlying T, P.underlying U with
  | .own id off len, .v (.int _ k), some (.slice E), some (.int _) => match rowOf σ id, zeroD P E with
    | some (E', ds, _, some c), some z =>
      if E' = E ∧ off + len ≤ ds.length ∧ 0 < k ∧ c < off + len + k.toNat ∧ 0 < P.cellsOf E ∧ 0 < P.bytesOf E ∧ (len + k.toNat) * P.bytesOf E ≤ 140737488355328 then
        some (.own nx 0 (len + k.toNat), (nx, .arr E ((ds.drop off).take len ++ List.replicate k.toNat z)) :: σ, nx + 1) else none
    | _, _ => none
  | _, _, _, _ => none

theorem appz_ok (hlay : LayOK G.P) (h : HR G w N ι σ nx) {T U ty : TypeId} {dx dy : D} {vx vy : Value} {r : D} {σ' : Sg} {nx' : Nat} (hx : VR1 (G.cx N ι) dx vx) (hy : VR1 (G.cx N ι) dy vy)
    (hr : aappz G.P σ nx T U dx dy = some (r, σ', nx')) :
    ∃ v w' ι', (Builtin.append_ #[T, U] ty #[vx, vy]).run G.P w = .ok v w' ∧ HR G w' N ι' σ' nx' ∧ Cx.le (G.cx N ι) (G.cx N ι') ∧ VR1 (G.cx N ι') r v := by
  unfold aappz at hr
  split at hr
  · rename_i id off len kq k E kn ht htn
    split at hr
    · rename_i E' ds room c z hrow hz
      split at hr
      · rename_i hc
        obtain ⟨rfl, hle, hk0, hcap0, hsz, hby, hroom⟩ := hc
        simp only [Option.some.injEq, Prod.mk.injEq] at hr
        obtain ⟨rfl, rfl, rfl⟩ := hr
        obtain ⟨i, zv, hi, hiz, hzs⟩ := zero_cells (C := G.cx N ι) hlay (E := E') (by show (zeroD G.P E').isSome = true; rw [hz]; rfl)
        have hi : G.P.info? E' = some i := hi
        have hzs : zv.cells.size = G.P.cellsOf E' := hzs
        have hisz : G.P.cellsOf E' = i.size := cellsOf_info hi
        have hiby : G.P.bytesOf E' = i.bytes := by simp [Program.bytesOf, hi]
        obtain ⟨zv', z1, z2, z3, z4⟩ := zeroD_ok (C := G.cx N ι) hlay hz w
        have hzz : zv' = zv := by
          simp only [zeroValue, typeInfo, Sem.run_bind, run_program, Result.andThen_ok] at z1
          have hi' : (G.cx N ι).P.info? E' = some i := hi
          simp [hi', hiz, Sem.run_pure] at z1
          exact z1.symm
        subst hzz
        obtain ⟨hg, l', hl', har, hc1, hc2, hmk⟩ := rowOf_ok h hrow
        obtain ⟨hlc, _⟩ := hc1 c rfl
        obtain ⟨kk, rfl⟩ : ∃ kk : Nat, k = kk := ⟨k.toNat, by omega⟩
        simp only [Int.toNat_natCast] at *
        cases hy
        cases hx with
        | own l A cap hil ha hl hcap hA =>
          have : l' = l := by have := hl'.symm.trans hil; exact Option.some.inj this
          subst this
          obtain ⟨ocs, ho1, ho2⟩ : ∃ ocs, (Builtin.firstCells i.size len (.slice A len cap)).run G.P w.drew = .ok ocs.toArray w.drew ∧ FRs (G.cx N ι) ((ds.drop off).take len) (List.replicate len E') ocs := by
            rw [← hisz]
            by_cases h0 : len = 0
            · subst h0
              refine ⟨[], ?_, by simpa using FRs.nil⟩
              cases A <;> simp [Builtin.firstCells, loadCells, loadCellsFrom]
            · obtain ⟨cs, f1, f2, f3⟩ := srcK_ok (k := len) (dx := .own id off len) hlay h.drew (by omega) (FR.own l' A cap hil ha hl hcap hA) (show srcK G.P σ E' len (.own id off len) = some ((ds.drop off).take len) by simp [srcK, hrow, hle])
              exact ⟨cs, f1, f2⟩
          have holen : ocs.length = len * G.P.cellsOf E' := by have := (FRs.length ho2).2; simpa [sizes] using this
          have hkk : 0 < kk := by omega
          have hb' : kk * i.bytes ≤ (len + kk) * i.bytes := Nat.mul_le_mul_right _ (by omega)
          rw [hiby] at hroom
          have hby' : 0 < i.bytes := by rw [← hiby]; exact hby
          have hle2 : len + kk ≤ 140737488355328 := Nat.le_trans (Nat.le_mul_of_pos_right _ hby') hroom
          have hrun := Lib.run_append_grow_zeros w T U ty E' i zv' kq kn ht htn hi hiz A len cap ocs ho1 kk hkk (by rw [← hisz]; exact hsz) (by omega) (by omega) (by omega) (by
            have := growslice_fits (need := len + kk) (old := cap) (bytes := i.bytes) (by omega) hroom
            omega)
          have hge := grownCap_ge w (len + kk) cap E'
          have hfz := zeros_FRs (C := G.cx N ι) z2 hzs (fits_lab z4) kk
          have hzl : (Builtin.zeroCells zv'.cells kk).toList.length = kk * G.P.cellsOf E' := by simp [size_zeroCells, hzs]
          have hobj : ObjR (G.cx N ι) (w.drew.alloc (.cells (ocs.toArray ++ Builtin.zeroCells zv'.cells kk ++ Builtin.zeroCells zv'.cells (grownCap w (len + kk) cap E' - (len + kk))) E')) (.arr E' ((ds.drop off).take len ++ List.replicate kk z)) ⟨some w.heap.size, 0, grownCap w (len + kk) cap E', E', true⟩ := by
            refine ⟨rfl, rfl, hsz, _, E', heap_alloc_self w.drew _, ?_, ?_, ?_⟩
            · simp only [Array.size_append, List.size_toArray, size_zeroCells, hzs, holen, Nat.zero_add]
              show grownCap w (len + kk) cap E' * G.P.cellsOf E' ≤ _
              rw [← Nat.add_mul, ← Nat.add_mul]
              exact Nat.mul_le_mul_right _ (by omega)
            · simp; omega
            · have happ := FRs.append ho2 hfz
              rw [List.replicate_append_replicate] at happ
              have hL : ((ds.drop off).take len ++ List.replicate kk z).length = len + kk := by simp; omega
              have e : ((ocs.toArray ++ Builtin.zeroCells zv'.cells kk ++ Builtin.zeroCells zv'.cells (grownCap w (len + kk) cap E' - (len + kk))).toList.drop 0).take ((len + kk) * G.P.cellsOf E') = ocs ++ (Builtin.zeroCells zv'.cells kk).toList := by
                simp only [Array.toList_append, List.drop_zero]
                rw [List.take_append_of_le_length (by simp only [List.length_append, hzl, holen, Nat.add_mul]; omega), List.take_of_length_le (by simp only [List.length_append, hzl, holen, Nat.add_mul]; omega)]
              show FRs _ _ (List.replicate ((ds.drop off).take len ++ List.replicate kk z).length E') (((_ : Array Value).toList.drop 0).take (((ds.drop off).take len ++ List.replicate kk z).length * G.P.cellsOf E'))
              rw [hL, e]
              exact happ
          obtain ⟨g1, g2⟩ := HR.new h.drew _ _ _ (.inr ⟨_, rfl, rfl⟩) hobj
          refine ⟨_, _, _, hrun, g1, g2, ?_⟩
          exact FR.own ⟨some w.heap.size, 0, grownCap w (len + kk) cap E', E', true⟩ _ _ (by simp [withLoc]) rfl hge (by simp) (fun _ => ⟨_, rfl, by simp⟩)
      · cases hr
    · cases hr
  · cases hr
end
end Go.Apl

/- APL, part 11: abstract states, what an operation makes of one. Over any program. -/
namespace Go.Apl
open Go
set_option linter.unusedSimpArgs false

structure St where
  n : Nat
  tm : List (Nat × D)
  σ : Sg
  nx : Nat

def cstD (v : Value) : D :=
  match v with
  | .slice none 0 0 => .lst false true 0 []
  | v => if flatV v then .v v else .undef

def St.ev (s : St) : Operand → D
  | .tmp t => match getT t s.tm with
    | some d => d
    | none => .undef
  | .const v => cstD v
  | .func f => .fn f []
  | .global _ => .undef

def D.one : D → D
  | .tup _ => .undef
  | d => d
def St.ev1 (s : St) (x : Operand) : D := (s.ev x).one

def St.put (s : St) (dst : Option Tmp) (r : D) (σ : Sg) (nx : Nat) : St :=
  match dst with
  | some t => ⟨s.n, (t, r) :: s.tm, σ, nx⟩
  | none => ⟨s.n, s.tm, σ, nx⟩

def dstOk (s : St) (dst : Option Tmp) : Prop :=
  match dst with
  | some t => t < s.n
  | none => True

structure FrR (C : Cx) (s : St) (a : Act) : Prop where
  size : a.tmps.size = s.n
  defers : a.defers = []
  get : ∀ t d, getT t s.tm = some d → VR C d (a.tmps.getD t undef)

def SR (G : Gh) (s : St) (a : Act) (w : World) : Prop := ∃ N ι, HR G w N ι s.σ s.nx ∧ FrR (G.cx N ι) s a

theorem FrR.mono {C C' : Cx} (h : Cx.le C C') {s s' : St} {a : Act} (hf : FrR C s a) (hn : s'.n = s.n) (ht : s'.tm = s.tm) : FrR C' s' a :=
  ⟨by rw [hn]; exact hf.size, hf.defers, fun t d hd => (hf.get t d (by rw [← ht]; exact hd)).mono h⟩

theorem FrR.put {C C' : Cx} (h : Cx.le C C') {s : St} {a : Act} (hf : FrR C s a) (dst : Option Tmp) {r : D} {v : Value} (hv : VR C' r v) (hd : dstOk s dst) (σ : Sg) (nx : Nat) : FrR C' (s.put dst r σ nx) (a.put dst v) := by
  cases dst with
  | none => exact ⟨hf.size, hf.defers, fun t d hd => (hf.get t d hd).mono h⟩
  | some t =>
    simp only [dstOk] at hd
    refine ⟨by simpa [Act.put, St.put] using hf.size, hf.defers, fun u d hu => ?_⟩
    simp only [St.put, getT] at hu
    simp only [Act.put]
    by_cases he : t = u
    · subst he
      rw [if_pos rfl] at hu
      cases hu
      have : t < a.tmps.size := by rw [hf.size]; exact hd
      simpa [Array.getD, this] using hv
    · rw [if_neg he] at hu
      have := (hf.get u d hu).mono h
      have e : (a.tmps.setIfInBounds t v).getD u undef = a.tmps.getD u undef := by
        simp [Array.getD_eq_getD_getElem?, Array.getElem?_setIfInBounds_ne he]
      rwa [e]

theorem ev_ok {C : Cx} {s : St} {a : Act} (hf : FrR C s a) (x : Operand) : VR C (s.ev x) (a.eval x) := by
  cases x with
  | tmp t =>
    simp only [St.ev, Act.eval]
    cases h : getT t s.tm with
    | none => trivial
    | some d => exact hf.get t d h
  | const v =>
    simp only [St.ev, Act.eval, cstD]
    split
    · exact .lst0 none 0 (fun _ => rfl)
    · split
      · rename_i h; exact .v h
      · trivial
  | global g => trivial
  | func f => exact .fn [] .nil

theorem ev1_ok {C : Cx} {s : St} {a : Act} (hf : FrR C s a) (x : Operand) : VR1 C (s.ev1 x) (a.eval x) := by
  have h := ev_ok hf x
  unfold St.ev1
  cases hd : s.ev x <;> rw [hd] at h <;> first | exact h | trivial

def apick (t : Bool) (x y : D) : D := if t then x else y
theorem apick_bool (t a b : Bool) : apick t (.v (.bool a)) (.v (.bool b)) = .v (.bool (if t then a else b)) := by cases t <;> rfl

/-- The built-in functions. -/
def abi (P : Program) (s : St) (b : Builtin) (args : List Operand) (Ts : List TypeId) : Option (D × Sg × Nat) :=
  match b, args, Ts with
  | .len, [x], [T] => match alen P T (s.ev1 x) with
    | some r => some (r, s.σ, s.nx)
    | none => none
  | .min, [x, y], _ => match amin (s.ev1 x) (s.ev1 y) with
    | some r => some (r, s.σ, s.nx)
    | none => none
  | .max, [x, y], _ => match amax (s.ev1 x) (s.ev1 y) with
    | some r => some (r, s.σ, s.nx)
    | none => none
  | .append, [x, y], [T, U] => match aappend P s.σ s.nx T U (s.ev1 x) (s.ev1 y) with
    | some r => some r
    | none => aappz P s.σ s.nx T U (s.ev1 x) (s.ev1 y)
  | .copy, [x, y], [T, _] => match acopy P s.σ T (s.ev1 x) (s.ev1 y) with
    | some (r, σ') => some (r, σ', s.nx)
    | none => none
  | _, _, _ => none

/-- What an operation comes to; stores, texts' bytes and calls of Go functions are elsewhere. -/
def aop (P : Program) (s : St) (o : Op) : Option (D × Sg × Nat) :=
  match o with
  | .move x | .assign x => some (s.ev x, s.σ, s.nx)
  | .pick c x y => match s.ev1 c with
    | .v (.bool t) => some (apick t (s.ev1 x) (s.ev1 y), s.σ, s.nx)
    | _ => none
  | .alloc T => match zeroD P T with
    | some z => some (.ptr s.nx [], (s.nx, .box T z) :: s.σ, s.nx + 1)
    | none => none
  | .box T x => if fits P T (s.ev1 x) then some (.ptr s.nx [], (s.nx, .box T (s.ev1 x)) :: s.σ, s.nx + 1) else none
  | .build T ps => match abuild P T (ps.toList.map fun p => (p.1, s.ev1 p.2)) with
    | some r => some (r, s.σ, s.nx)
    | none => none
  | .buildSlice T n ps => match abuildSlice P T n (ps.toList.map fun p => (p.1, s.ev1 p.2)) with
    | some (E, ds) => some (.own s.nx 0 ds.length, (s.nx, .arr E ds) :: s.σ, s.nx + 1)
    | none => none
  | .load T x => match aload P s.σ T (s.ev1 x) with
    | some r => some (r, s.σ, s.nx)
    | none => none
  | .store T x y => match astore P s.σ T (s.ev1 x) (s.ev1 y) with
    | some σ' => some (.undef, σ', s.nx)
    | none => none
  | .nilCheck x => match s.ev1 x with
    | .ptr id p => some (.ptr id p, s.σ, s.nx)
    | .fptr T d => some (.fptr T d, s.σ, s.nx)
    | .fn f c => some (.fn f c, s.σ, s.nx)
    | _ => none
  | .binOp op T x y _ => match s.ev1 x, s.ev1 y with
    | .v a, .v b => match ascal P op T a b with
      | some r => some (r, s.σ, s.nx)
      | none => none
    | d, e => match aeq P op T d e with
      | some r => some (r, s.σ, s.nx)
      | none => none
  | .slice T x lo hi mx => match aslice P s.σ T (s.ev1 x) (lo.map s.ev1) (hi.map s.ev1) (mx.map s.ev1) with
    | some r => some (r, s.σ, s.nx)
    | none => none
  | .unOp op _ x => match aun op (s.ev1 x) with
    | some r => some (r, s.σ, s.nx)
    | none => none
  | .convert S T x => match aconv P S T (s.ev1 x) with
    | some r => some (r, s.σ, s.nx)
    | none => match abytes P s.σ S T (s.ev1 x) with
      | some r => some (r, s.σ, s.nx)
      | none => none
  | .fieldAddr T x i => match afaddr P s.σ T (s.ev1 x) i with
    | some r => some (r, s.σ, s.nx)
    | none => none
  | .field T x i => match afield P T (s.ev1 x) i with
    | some r => some (r, s.σ, s.nx)
    | none => none
  | .indexAddr T x i => match aiaddr P s.σ T (s.ev1 x) (s.ev1 i) with
    | some r => some (r, s.σ, s.nx)
    | none => none
  | .extract x i => match aextract (s.ev x) i with
    | some r => some (r, s.σ, s.nx)
    | none => none
  | .call c => match c.callee with
    | .builtin b => abi P s b c.args.toList c.argTypes.toList
    | _ => none
  | _ => none

theorem VR.of1 {C : Cx} {d : D} {v : Value} (h : VR1 C d v) : VR C d v := by
  cases d <;> first | exact h | cases h

theorem VP_of {C : Cx} {s : St} {a : Act} (hf : FrR C s a) (ps : Array (Nat × Operand)) :
    VP C (ps.toList.map fun p => (p.1, s.ev1 p.2)) ((ps.map fun (i, x) => (i, a.eval x)).toList) :=
  VP.values ps (fun p _ => ev1_ok hf p.2)

/-- An operation's run, by its abstract outcome. -/
theorem aop_ok {G : Gh} (hlay : LayOK G.P) {s : St} {a : Act} {w : World} {N : Hp} {ι : Nat → Option Loc} (h : HR G w N ι s.σ s.nx) (hf : FrR (G.cx N ι) s a) {o : Oper} {r : D} {σ' : Sg} {nx' : Nat} (hr : aop G.P s o.op = some (r, σ', nx')) :
    ∃ nv w' ι', (execOp a.eval o).run G.P w = .ok nv w' ∧ HR G w' N ι' σ' nx' ∧ Cx.le (G.cx N ι) (G.cx N ι') ∧
      ((∃ v, nv = .value v ∧ VR (G.cx N ι') r v) ∨ (nv = .skip ∧ r = .undef)) := by
  obtain ⟨dst, op, type, pos, after, guard⟩ := o
  simp only at hr
  have rfl' := Cx.le.refl (G.cx N ι)
  unfold aop at hr
  split at hr
  · cases hr; exact ⟨_, w, ι, rfl, h, rfl', .inl ⟨_, rfl, ev_ok hf _⟩⟩
  · cases hr; exact ⟨_, w, ι, rfl, h, rfl', .inl ⟨_, rfl, ev_ok hf _⟩⟩
  · -- pick
    rename_i c x y
    split at hr
    · rename_i t ht
      cases hr
      have hc := ev1_ok hf c
      rw [ht] at hc
      have hcv : a.eval c = .bool t := by
        generalize a.eval c = v at hc
        cases hc; rfl
      refine ⟨.value (if t = true then a.eval x else a.eval y), w, ι, by simp only [execOp, hcv, asBool, Sem.run_bind, Sem.run_pure, Result.andThen_ok], h, rfl', .inl ⟨_, rfl, ?_⟩⟩
      cases t
      · exact VR.of1 (ev1_ok hf y)
      · exact VR.of1 (ev1_ok hf x)
    · cases hr
  · -- alloc
    rename_i T
    split at hr
    · rename_i z hz
      cases hr
      obtain ⟨v, w', ι', q1, q2, q3, q4⟩ := alloc_ok hlay h hz
      exact ⟨_, w', ι', by simp only [execOp, Sem.run_bind, q1, Result.andThen_ok, Sem.run_pure], q2, q3, .inl ⟨v, rfl, VR.of1 q4⟩⟩
    · cases hr
  · -- box
    rename_i T x
    split at hr
    · rename_i hx
      cases hr
      obtain ⟨v, w', ι', q1, q2, q3, q4⟩ := box_ok hlay h (ev1_ok hf x) hx
      exact ⟨_, w', ι', by simp only [execOp, Sem.run_bind, q1, Result.andThen_ok, Sem.run_pure], q2, q3, .inl ⟨v, rfl, VR.of1 q4⟩⟩
    · cases hr
  · -- build
    rename_i T ps
    split at hr
    · rename_i r' hb
      cases hr
      obtain ⟨v, q1, q2⟩ := build_ok (C := G.cx N ι) hlay w (VP_of hf ps) hb
      have q1' : (Instr.build T (ps.map fun (i, x) => (i, a.eval x))).run G.P w = .ok v w := q1
      exact ⟨_, w, ι, by simp only [execOp, Sem.run_bind, q1', Result.andThen_ok, Sem.run_pure], h, rfl', .inl ⟨v, rfl, VR.of1 q2⟩⟩
    · cases hr
  · -- buildSlice
    rename_i T n ps
    split at hr
    · rename_i E ds hb
      cases hr
      obtain ⟨v, w', ι', q1, q2, q3, q4⟩ := buildSlice_ok hlay h (VP_of hf ps) hb
      exact ⟨_, w', ι', by simp only [execOp, Sem.run_bind, q1, Result.andThen_ok, Sem.run_pure], q2, q3, .inl ⟨v, rfl, VR.of1 q4⟩⟩
    · cases hr
  · -- load
    rename_i T x
    split at hr
    · rename_i r' hb
      cases hr
      obtain ⟨v, q1, q2⟩ := load_ok hlay h (ev1_ok hf x) hb
      exact ⟨_, w, ι, by simp only [execOp, Sem.run_bind, q1, Result.andThen_ok, Sem.run_pure], h, rfl', .inl ⟨v, rfl, VR.of1 q2⟩⟩
    · cases hr
  · -- store
    rename_i T x y
    split at hr
    · rename_i σ2 hb
      cases hr
      obtain ⟨w', q1, q2⟩ := store_ok hlay h (ev1_ok hf x) (ev1_ok hf y) hb
      exact ⟨_, w', ι, by simp only [execOp, Sem.run_bind, q1, Result.andThen_ok, Sem.run_pure], q2, rfl', .inr ⟨rfl, rfl⟩⟩
    · cases hr
  · -- nilCheck
    rename_i x
    have hx := ev1_ok hf x
    split at hr
    · rename_i id p he
      cases hr
      rw [he] at hx
      obtain ⟨l, b, o, T, hv, _⟩ := ptr_addr hx
      exact ⟨_, w, ι, by simp only [execOp, hv]; rfl, h, rfl', .inl ⟨_, rfl, hv ▸ hx⟩⟩
    · rename_i T d he
      cases hr
      rw [he] at hx
      obtain ⟨b, o, hv⟩ : ∃ b o, a.eval x = .pointer (some ⟨b, o, none⟩) := by
        generalize a.eval x = v at hx
        cases hx; exact ⟨_, _, rfl⟩
      exact ⟨_, w, ι, by simp only [execOp, hv]; rfl, h, rfl', .inl ⟨_, rfl, hv ▸ hx⟩⟩
    · rename_i f c he
      cases hr
      rw [he] at hx
      obtain ⟨vs, hv⟩ : ∃ vs, a.eval x = .func (.func f) #[] vs := by
        generalize a.eval x = v at hx
        cases hx; exact ⟨_, rfl⟩
      exact ⟨_, w, ι, by simp only [execOp, hv]; rfl, h, rfl', .inl ⟨_, rfl, hv ▸ hx⟩⟩
    · cases hr
  · -- binOp
    rename_i op' T x y yT
    split at hr
    · rename_i va vb hx hy
      split at hr
      · rename_i r' hb
        cases hr
        have h1 := ev1_ok hf x
        have h2 := ev1_ok hf y
        rw [hx] at h1
        rw [hy] at h2
        have e1 : a.eval x = va := by generalize a.eval x = v at h1; cases h1; rfl
        have e2 : a.eval y = vb := by generalize a.eval y = v at h2; cases h2; rfl
        obtain ⟨v, q1, q2⟩ := scal_op (C := G.cx N ι) w x y hb
        have q1' : (do eqGuard op' T x y va vb; binOp op' T va vb : Sem Value).run G.P w = .ok v w := q1
        exact ⟨_, w, ι, by simp only [execOp, e1, e2]; rw [Sem.run_bind, q1']; rfl, h, rfl', .inl ⟨v, rfl, VR.of1 q2⟩⟩
      · cases hr
    · split at hr
      · rename_i r' hb
        cases hr
        obtain ⟨v, q1, q2⟩ := aeq_ok (C := G.cx N ι) hlay w x y hb (ev1_ok hf x) (ev1_ok hf y)
        have q1' : (do eqGuard op' T x y (a.eval x) (a.eval y); binOp op' T (a.eval x) (a.eval y) : Sem Value).run G.P w = .ok v w := q1
        exact ⟨_, w, ι, by simp only [execOp]; rw [Sem.run_bind, q1']; rfl, h, rfl', .inl ⟨v, rfl, VR.of1 q2⟩⟩
      · cases hr
  · -- slice
    rename_i T x lo hi mx
    split at hr
    · rename_i r' hb
      cases hr
      have ho : ∀ z : Option Operand, VRO (G.cx N ι) (z.map s.ev1) (z.map a.eval) := fun z => by
        cases z with
        | none => exact .none
        | some z => exact .some (ev1_ok hf z)
      obtain ⟨v, q1, q2⟩ := slice_ok h (ev1_ok hf x) (ho lo) (ho hi) (ho mx) hb
      exact ⟨_, w, ι, by simp only [execOp, Sem.run_bind, q1, Result.andThen_ok, Sem.run_pure], h, rfl', .inl ⟨v, rfl, VR.of1 q2⟩⟩
    · cases hr
  · -- unOp
    rename_i op' T x
    split at hr
    · rename_i r' hb
      cases hr
      obtain ⟨v, q1, q2⟩ := un_ok (C := G.cx N ι) w (ev1_ok hf x) hb
      have q1' : (Op.unary op' (a.eval x)).run G.P w = .ok v w := q1
      exact ⟨_, w, ι, by simp only [execOp, Sem.run_bind, q1', Result.andThen_ok, Sem.run_pure], h, rfl', .inl ⟨v, rfl, VR.of1 q2⟩⟩
    · cases hr
  · -- convert
    rename_i S T x
    split at hr
    · rename_i r' hb
      cases hr
      obtain ⟨v, q1, q2⟩ := conv_ok (C := G.cx N ι) w (ev1_ok hf x) hb
      have q1' : (convert S T (a.eval x)).run G.P w = .ok v w := q1
      exact ⟨_, w, ι, by simp only [execOp, Sem.run_bind, q1', Result.andThen_ok, Sem.run_pure], h, rfl', .inl ⟨v, rfl, VR.of1 q2⟩⟩
    · split at hr
      · rename_i r' hb
        cases hr
        obtain ⟨v, q1, q2⟩ := bytes_ok hlay h (ev1_ok hf x) hb
        exact ⟨_, w, ι, by simp only [execOp, Sem.run_bind, q1, Result.andThen_ok, Sem.run_pure], h, rfl', .inl ⟨v, rfl, VR.of1 q2⟩⟩
      · cases hr
  · -- fieldAddr
    rename_i T x i
    split at hr
    · rename_i r' hb
      cases hr
      obtain ⟨v, q1, q2⟩ := faddr_ok hlay h (ev1_ok hf x) hb
      exact ⟨_, w, ι, by simp only [execOp, Sem.run_bind, q1, Result.andThen_ok, Sem.run_pure], h, rfl', .inl ⟨v, rfl, VR.of1 q2⟩⟩
    · cases hr
  · -- field
    rename_i T x i
    split at hr
    · rename_i r' hb
      cases hr
      obtain ⟨v, q1, q2⟩ := field_ok (C := G.cx N ι) hlay w (ev1_ok hf x) hb
      have q1' : (Instr.field T (a.eval x) i).run G.P w = .ok v w := q1
      exact ⟨_, w, ι, by simp only [execOp, Sem.run_bind, q1', Result.andThen_ok, Sem.run_pure], h, rfl', .inl ⟨v, rfl, VR.of1 q2⟩⟩
    · cases hr
  · -- indexAddr
    rename_i T x i
    split at hr
    · rename_i r' hb
      cases hr
      obtain ⟨v, q1, q2⟩ := iaddr_ok hlay h (ev1_ok hf x) (ev1_ok hf i) hb
      exact ⟨_, w, ι, by simp only [execOp, Sem.run_bind, q1, Result.andThen_ok, Sem.run_pure], h, rfl', .inl ⟨v, rfl, VR.of1 q2⟩⟩
    · cases hr
  · -- extract
    rename_i x i
    split at hr
    · rename_i r' hb
      cases hr
      obtain ⟨v, q1, q2⟩ := extract_ok (C := G.cx N ι) (P := G.P) w (ev_ok hf x) hb
      exact ⟨_, w, ι, by simp only [execOp, Sem.run_bind, q1, Result.andThen_ok, Sem.run_pure], h, rfl', .inl ⟨v, rfl, VR.of1 q2⟩⟩
    · cases hr
  · -- a built-in
    rename_i c
    obtain ⟨callee, args, Ts⟩ := c
    simp only at hr
    split at hr
    · rename_i b
      have ea : args = args.toList.toArray := by simp
      have eT : Ts = Ts.toList.toArray := by simp
      generalize args.toList = al at *
      generalize Ts.toList = tl at *
      subst ea; subst eT
      unfold abi at hr
      split at hr
      · rename_i x T
        split at hr
        · rename_i r' hb
          cases hr
          obtain ⟨v, q1, q2⟩ := len_ok (C := G.cx N ι) (U := type) w (ev1_ok hf x) hb
          have q1' : (Builtin.len_ #[T] type #[a.eval x]).run G.P w = .ok v w := q1
          exact ⟨_, w, ι, by simp only [execOp, resolve, invoke, builtin, List.map_toArray, List.map_cons, List.map_nil, Sem.run_bind, q1', Result.andThen_ok, Sem.run_pure], h, rfl', .inl ⟨v, rfl, VR.of1 q2⟩⟩
        · cases hr
      · rename_i x y
        split at hr
        · rename_i r' hb
          cases hr
          obtain ⟨v, q1, q2⟩ := min_ok (C := G.cx N ι) (T := tl.toArray) (U := type) w (ev1_ok hf x) (ev1_ok hf y) hb
          have q1' : (Builtin.min_ tl.toArray type #[a.eval x, a.eval y]).run G.P w = .ok v w := q1
          exact ⟨_, w, ι, by simp only [execOp, resolve, invoke, builtin, List.map_toArray, List.map_cons, List.map_nil, Sem.run_bind, q1', Result.andThen_ok, Sem.run_pure], h, rfl', .inl ⟨v, rfl, VR.of1 q2⟩⟩
        · cases hr
      · rename_i x y
        split at hr
        · rename_i r' hb
          cases hr
          obtain ⟨v, q1, q2⟩ := max_ok (C := G.cx N ι) (T := tl.toArray) (U := type) w (ev1_ok hf x) (ev1_ok hf y) hb
          have q1' : (Builtin.max_ tl.toArray type #[a.eval x, a.eval y]).run G.P w = .ok v w := q1
          exact ⟨_, w, ι, by simp only [execOp, resolve, invoke, builtin, List.map_toArray, List.map_cons, List.map_nil, Sem.run_bind, q1', Result.andThen_ok, Sem.run_pure], h, rfl', .inl ⟨v, rfl, VR.of1 q2⟩⟩
        · cases hr
      · rename_i x y T U
        have hr' : aappend G.P s.σ s.nx T U (s.ev1 x) (s.ev1 y) = some (r, σ', nx') ∨ aappz G.P s.σ s.nx T U (s.ev1 x) (s.ev1 y) = some (r, σ', nx') := by
          split at hr
          · rename_i e; rw [e]; exact .inl hr
          · exact .inr hr
        obtain ⟨v, w', ι', q1, q2, q3, q4⟩ := hr'.elim (append_ok (ty := type) hlay h (ev1_ok hf x) (ev1_ok hf y)) (appz_ok (ty := type) hlay h (ev1_ok hf x) (ev1_ok hf y))
        exact ⟨_, w', ι', by simp only [execOp, resolve, invoke, builtin, List.map_toArray, List.map_cons, List.map_nil, Sem.run_bind, q1, Result.andThen_ok, Sem.run_pure], q2, q3, .inl ⟨v, rfl, VR.of1 q4⟩⟩
      · rename_i x y T U
        split at hr
        · rename_i r1 σ1 hb
          cases hr
          obtain ⟨v, w', q1, q2, q4⟩ := copy_ok (T := T) (U := U) (ty := type) hlay h (ev1_ok hf x) (ev1_ok hf y) hb
          exact ⟨_, w', ι, by simp only [execOp, resolve, invoke, builtin, List.map_toArray, List.map_cons, List.map_nil, Sem.run_bind, q1, Result.andThen_ok, Sem.run_pure], q2, rfl', .inl ⟨v, rfl, VR.of1 q4⟩⟩
        · cases hr
      · cases hr
    · cases hr
  · cases hr
end Go.Apl

/- APL, part 12: rules for code over abstract states. Over any program. -/
namespace Go.Apl
open Go
set_option linter.unusedSimpArgs false
set_option linter.unusedVariables false

/-! ### Weaker trees -/
mutual
inductive Dle : D → D → Prop
  | refl (d : D) : Dle d d
  | lst {k x k' x' : Bool} {E : TypeId} {ds ds' : List D} (hk : k = true → k' = true) (hx : x' = true → x = true) (h : Dles ds ds') : Dle (.lst k x E ds) (.lst k' x' E ds')
  | lst0 {k x k' x' : Bool} {E E' : TypeId} (hx : x' = true → x = true) : Dle (.lst k x E []) (.lst k' x' E' [])
  | st {T : TypeId} {ds ds' : List D} (h : Dles ds ds') : Dle (.st T ds) (.st T ds')
inductive Dles : List D → List D → Prop
  | nil : Dles [] []
  | cons {d d' : D} {ds ds' : List D} (h : Dle d d') (hs : Dles ds ds') : Dles (d :: ds) (d' :: ds')
end

theorem Dles.refl : ∀ (ds : List D), Dles ds ds
  | [] => .nil
  | d :: ds => .cons (.refl d) (Dles.refl ds)
theorem Dles.length : ∀ {ds ds' : List D}, Dles ds ds' → ds.length = ds'.length
  | _, _, .nil => rfl
  | _, _, .cons _ hs => by simp [Dles.length hs]
theorem Dle.lab {P : Program} {t : TypeId} : ∀ {d d' : D}, Dle d d' → lab P d t → lab P d' t
  | _, _, .refl _, h => h
  | _, _, .lst .., h => h
  | _, _, .lst0 .., h => h
  | _, _, .st .., h => h

theorem hp_mono (C : Cx) {k k' : Bool} (h : k = true → k' = true) : Hp.le (C.hp k) (C.hp k') := by
  intro b o hb
  cases k <;> cases k' <;> simp [Cx.hp] at hb h ⊢ <;> first | exact hb | exact .inl hb | simp [hb]

mutual
theorem FR.le {C : Cx} : ∀ {d d' : D} {cs : List Value}, FR C d cs → Dle d d' → FR C d' cs
  | _, _, _, h, .refl _ => h
  | _, _, _, .lst0 A cap hx, .lst hk hx' hs => by cases hs; exact .lst0 A cap (fun h => hx (hx' h))
  | _, _, _, .lst b o cap ccs E' fr cs hne hb hs hc hcap hx, .lst hk hx' hds => by
    have hl := Dles.length hds
    rw [hl]
    refine .lst b o cap ccs E' fr cs (fun e => hne (List.eq_nil_of_length_eq_zero (by rw [hl, e]; rfl))) (hp_mono C hk _ _ hb) ?_ hc (hl ▸ hcap) (fun h => by rw [← hl]; exact hx (hx' h))
    rw [← hl]
    exact FRs.le hs hds
  | _, _, _, .lst0 A cap hx, .lst0 hx' => .lst0 A cap (fun h => hx (hx' h))
  | _, _, _, .lst b o cap ccs E' fr cs hne hb hs hc hcap hx, .lst0 hx' => absurd rfl hne
  | _, _, _, .st ts hp hs, .st hds => .st ts hp (FRs.le hs hds)
theorem FRs.le {C : Cx} : ∀ {ds ds' : List D} {ts : List TypeId} {cs : List Value}, FRs C ds ts cs → Dles ds ds' → FRs C ds' ts cs
  | _, _, _, _, .nil, .nil => .nil
  | _, _, _, _, .cons hd hz hl hs, .cons h hss => .cons (FR.le hd h) hz (h.lab hl) (FRs.le hs hss)
end

theorem VR1.le {C : Cx} {d d' : D} {v : Value} (h : VR1 C d v) (hl : Dle d d') : VR1 C d' v := by
  cases hl with
  | refl => exact h
  | lst hk hx hs => exact FR.le (show FR C _ [v] from h) (.lst hk hx hs)
  | lst0 hx => exact FR.le (show FR C _ [v] from h) (.lst0 hx)
  | st hs =>
    obtain ⟨cs, e, hf⟩ := h
    exact ⟨cs, e, FR.le hf (.st hs)⟩

/-! ### Weaker states -/
structure St.le (s s' : St) : Prop where
  n : s'.n = s.n
  tm : ∀ t d', getT t s'.tm = some d' → d' = .undef ∨ getT t s.tm = some d' ∨ ∃ d, getT t s.tm = some d ∧ Dle d d'
  σ : ∀ id o, getT id s'.σ = some o → getT id s.σ = some o
  nx : s.nx ≤ s'.nx

theorem VR.le {C : Cx} {d d' : D} {v : Value} (h : VR C d v) (hl : Dle d d') : VR C d' v := by
  cases hl with
  | refl => exact h
  | lst hk hx hs => exact VR1.le (d := .lst _ _ _ _) h (.lst hk hx hs)
  | lst0 hx => exact VR1.le (d := .lst _ _ _ _) h (.lst0 hx)
  | st hs => exact VR1.le (d := .st _ _) h (.st hs)

theorem SR.le {G : Gh} {s s' : St} {a : Act} {w : World} (h : SR G s a w) (hl : St.le s s') : SR G s' a w := by
  obtain ⟨N, ι, h1, h2⟩ := h
  refine ⟨N, ι, h1.less hl.σ hl.nx, by rw [hl.n]; exact h2.size, h2.defers, fun t d' hd => ?_⟩
  rcases hl.tm t d' hd with rfl | h | ⟨d, h, hle⟩
  · trivial
  · exact h2.get t d' h
  · exact VR.le (h2.get t d h) hle

/-! ### Code -/
def lift (G : Gh) (Q : Exit → St → Prop) : Exit → Act → World → Prop := fun e a w => ∃ s, Q e s ∧ SR G s a w

def Awp (P : Program) (c : Code) (Q : Exit → St → Prop) (s : St) : Prop :=
  LayOK P → P.follows .mixedOrders = true → ∀ G, G.P = P → ∀ a w, SR G s a w → c.wp P (lift G Q) a w

def Wl (P : Program) (ops : Array Oper) (Q : Exit → St → Prop) (l : List Oper) (s : St) : Prop :=
  LayOK P → P.follows .mixedOrders = true → ∀ G, G.P = P → ∀ a w, SR G s a w → wpList P ops (lift G Q) l a w

def thenQ (K : St → Prop) (Q : Exit → St → Prop) : Exit → St → Prop
  | .normal, s => K s
  | e, s => Q e s
def inBlk (id : Nat) (Q : Exit → St → Prop) : Exit → St → Prop
  | .exit id', s => if id' = id then Q .normal s else Q (.exit id') s
  | e, s => Q e s

section
variable {P : Program} {Q : Exit → St → Prop} {s : St}

theorem Awp.weak {c : Code} {s' : St} (hl : St.le s s') (h : Awp P c Q s') : Awp P c Q s :=
  fun lay hm G hG a w hs => h lay hm G hG a w (hs.le hl)
theorem Awp.mono {c : Code} {Q' : Exit → St → Prop} (h : Awp P c Q s) (hq : ∀ e s, Q e s → Q' e s) : Awp P c Q' s :=
  fun lay hm G hG a w hs => wp_mono (h lay hm G hG a w hs) fun e a w ⟨t, q, r⟩ => ⟨t, hq e t q, r⟩
theorem Awp.skip (h : Q .normal s) : Awp P .skip Q s := fun _ _ _ _ _ _ hs => wp_skip ⟨s, h, hs⟩
theorem Awp.exit {id : Nat} (h : Q (.exit id) s) : Awp P (.exit id) Q s := fun _ _ _ _ _ _ hs => wp_exit ⟨s, h, hs⟩
theorem Awp.ret (h : Q .ret s) : Awp P .ret Q s := fun _ _ _ _ _ _ hs => wp_ret ⟨s, h, hs⟩
theorem Awp.seq {x y : Code} (h : Awp P x (thenQ (Awp P y Q) Q) s) : Awp P (.seq x y) Q s :=
  fun lay hm G hG a w hs => wp_seq (wp_mono (h lay hm G hG a w hs) fun e a w ⟨t, q, r⟩ => by
    cases e <;> first | exact q lay hm G hG a w r | exact ⟨t, q, r⟩)
/-- A sequence whose first part leads to one state. -/
theorem Awp.cut {x y : Code} (s' : St) (h : Awp P x (thenQ (fun t => St.le t s') Q) s) (h' : Awp P y Q s') : Awp P (.seq x y) Q s :=
  Awp.seq (h.mono fun e t q => by cases e <;> first | exact h'.weak q | exact q)
theorem Awp.block {id : Nat} {c : Code} (h : Awp P c (inBlk id Q) s) : Awp P (.block id c) Q s :=
  fun lay hm G hG a w hs => wp_block (wp_mono (h lay hm G hG a w hs) fun e a w ⟨t, q, r⟩ => by
    cases e with
    | exit id' =>
      simp only [inBlk] at q
      simp only [Exit.inBlock]
      split <;> rename_i he
      · rw [if_pos he] at q; exact ⟨t, q, r⟩
      · rw [if_neg he] at q; exact ⟨t, q, r⟩
    | _ => exact ⟨t, q, r⟩)
theorem Awp.cond {c : Operand} {x y : Code} (t : Bool) (hc : s.ev1 c = .v (.bool t)) (hx : t = true → Awp P x Q s) (hy : t = false → Awp P y Q s) : Awp P (.cond c x y) Q s :=
  fun lay hm G hG a w hs => by
    obtain ⟨N, ι, h1, h2⟩ := hs
    have hv := ev1_ok h2 c
    rw [hc] at hv
    have he : a.eval c = .bool t := by
      generalize a.eval c = v at hv
      cases hv; rfl
    exact wp_cond_split he (fun ht => hx ht lay hm G hG a w ⟨N, ι, h1, h2⟩) (fun ht => hy ht lay hm G hG a w ⟨N, ι, h1, h2⟩)

open Classical in
theorem Awp.loop {c : Code} (I : Nat → St → Prop) (m : Nat) (h0 : I m s) (round : ∀ n s, I n s → Awp P c (thenQ (fun s' => ∃ n', n' < n ∧ I n' s') Q) s) : Awp P (.loop c) Q s := by
  intro lay hm G hG a w hs
  let J : Act → World → Nat → Prop := fun a w n => ∃ s, I n s ∧ SR G s a w
  have hJ : ∀ (a : Act) (w : World), (∃ n, J a w n) → ∃ n, J a w n ∧ ∀ k, J a w k → n ≤ k := by
    intro a w h
    have key : ∀ n, J a w n → ∃ k, J a w k ∧ ∀ i, J a w i → k ≤ i := by
      intro n
      induction n using Nat.strongRecOn with
      | _ n ih =>
        intro hn
        by_cases hex : ∃ k, k < n ∧ J a w k
        · obtain ⟨k, hk, hjk⟩ := hex
          exact ih k hk hjk
        · exact ⟨n, hn, fun k hk => Nat.le_of_not_lt fun hlt => hex ⟨k, hlt, hk⟩⟩
    obtain ⟨n, hn⟩ := h
    exact key n hn
  let μ : Act → World → Nat := fun a w => if h : ∃ n, J a w n then Classical.choose (hJ a w h) else 0
  have hμ : ∀ a w, (∃ n, J a w n) → J a w (μ a w) ∧ ∀ k, J a w k → μ a w ≤ k := by
    intro a w h
    have e : μ a w = Classical.choose (hJ a w h) := by simp only [μ]; rw [dif_pos h]
    rw [e]
    exact Classical.choose_spec (hJ a w h)
  refine wp_loop (fun a w => ∃ n, J a w n) μ ⟨m, s, h0, hs⟩ fun a w hI => ?_
  obtain ⟨⟨s1, hI1, hs1⟩, hmin⟩ := hμ a w hI
  refine wp_mono (round _ s1 hI1 lay hm G hG a w hs1) fun e a' w' ⟨t, q, r⟩ => ?_
  cases e with
  | normal =>
    obtain ⟨n', hlt, hI'⟩ := q
    have hJ' : ∃ n, J a' w' n := ⟨n', t, hI', r⟩
    exact ⟨hJ', Nat.lt_of_le_of_lt ((hμ a' w' hJ').2 n' ⟨t, hI', r⟩) hlt⟩
  | _ => exact ⟨t, q, r⟩

/-! ### Regions in the order of their text -/
theorem Awp.region {id : Nat} {l : List Oper} (h : Wl P l.toArray Q l s) : Awp P (.region id l.toArray false) Q s :=
  fun lay hm G hG a w hs => wp_region_lit (h lay hm G hG a w hs)

theorem Wl.nil {ops : Array Oper} (h : Q .normal s) : Wl P ops Q [] s := fun _ _ _ _ _ _ hs => ⟨s, h, hs⟩

end
end Go.Apl
