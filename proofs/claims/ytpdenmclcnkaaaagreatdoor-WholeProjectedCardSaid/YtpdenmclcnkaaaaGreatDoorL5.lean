/- Part of a proof: the texts A18, A19, A20, A21, A22, A23 of a library of data trees, abstract stores and contracts, joined. -/
import Derived.Test.YtpdenmclcnkaaaaGreatDoorL4
import Derived.Lib.SliceRun
/- APL, part 18: regions that draw their order: the walk. Over any program. -/
namespace Go.Apl
open Go
open Go.RowKit (Below)
set_option linter.unusedSimpArgs false
set_option linter.unusedVariables false

def D.ids : D → List Nat
  | .ptr id _ => [id]
  | .own id _ _ => [id]
  | _ => []
def idsV : List (Nat × D) → List Nat
  | [] => []
  | (_, d) :: l => d.ids ++ idsV l

theorem idsV_mem {l : List (Nat × D)} {t : Nat} {d : D} {id : Nat} (h : getT t l = some d) (hi : id ∈ d.ids) : id ∈ idsV l := by
  induction l with
  | nil => cases h
  | cons x l ih =>
    obtain ⟨j, e⟩ := x
    simp only [getT] at h
    simp only [idsV, List.mem_append]
    by_cases hj : j = t
    · rw [if_pos hj] at h; cases h; exact .inl hi
    · rw [if_neg hj] at h; exact .inr (ih h)

/-- What an effect may change. -/
def chg (s : St) (o : Op) : List Nat :=
  match o with
  | .alloc _ | .box .. | .buildSlice .. => [s.nx]
  | .store _ x _ => (s.ev1 x).ids
  | .call c => match c.callee, c.args.toList with
    | .builtin .append, x :: _ => s.nx :: (s.ev1 x).ids
    | .builtin .copy, x :: _ => (s.ev1 x).ids
    | _, _ => []
  | _ => []

section
variable {P : Program} {s : St}

theorem ev1_ids {x : Operand} {id : Nat} {n : Nat} {nd : List (Nat × D)} {σ : Sg} {nx : Nat} (h : id ∈ ((St.mk n nd σ nx).ev1 x).ids) : id ∈ idsV nd := by
  cases x with
  | tmp t =>
    simp only [St.ev1, St.ev] at h
    cases hg : getT t nd with
    | none => simp [hg, D.one, D.ids] at h
    | some d =>
      simp only [hg] at h
      refine idsV_mem hg ?_
      cases d <;> simp [D.one, D.ids] at h ⊢ <;> exact h
  | const v =>
    simp only [St.ev1, St.ev, cstD] at h
    split at h
    · simp [D.one, D.ids] at h
    · split at h <;> simp [D.one, D.ids] at h
  | global g => simp [St.ev1, St.ev, D.one, D.ids] at h
  | func f => simp [St.ev1, St.ev, D.one, D.ids] at h

theorem aload_frame {T : TypeId} {x : D} {σ σ' : Sg} (h : ∀ id ∈ x.ids, getT id σ' = getT id σ) : aload P σ' T x = aload P σ T x := by
  cases x <;> simp only [aload]
  rename_i id p
  rw [h id (by simp [D.ids])]
theorem isSt_frame {id : Nat} {p : List Nat} {T : TypeId} {σ σ' : Sg} (h : getT id σ' = getT id σ) : isSt σ' id p T = isSt σ id p T := by
  unfold isSt; rw [h]
theorem afaddr_frame {T : TypeId} {x : D} {i : Nat} {σ σ' : Sg} (h : ∀ id ∈ x.ids, getT id σ' = getT id σ) : afaddr P σ' T x i = afaddr P σ T x i := by
  unfold afaddr
  cases x <;> try rfl
  rename_i id p
  simp only [isSt_frame (h id (by simp [D.ids]))]
theorem aiaddr_frame {T : TypeId} {x y : D} {σ σ' : Sg} (h : ∀ id ∈ x.ids, getT id σ' = getT id σ) : aiaddr P σ' T x y = aiaddr P σ T x y := by
  unfold aiaddr
  cases x <;> try rfl
  · rename_i id p
    simp only [isSt_frame (h id (by simp [D.ids]))]
  · rename_i id a b
    simp only [h id (by simp [D.ids])]

theorem aslice_frame {T : TypeId} {x : D} {lo hi mx : Option D} {σ σ' : Sg} (h : ∀ id ∈ x.ids, getT id σ' = getT id σ) : aslice P σ' T x lo hi mx = aslice P σ T x lo hi mx := by
  unfold aslice
  cases x
  case own id a b =>
    have e : arrOf σ' id = arrOf σ id := by funext E; simp only [arrOf, h id (by simp [D.ids])]
    have e2 : capOf σ' id = capOf σ id := by funext x y; simp only [capOf, h id (by simp [D.ids])]
    simp only [e, e2]
  case v b => cases b <;> rfl
  all_goals rfl
theorem abytes_frame {S T : TypeId} {x : D} {σ σ' : Sg} (h : ∀ id ∈ x.ids, getT id σ' = getT id σ) : abytes P σ' S T x = abytes P σ S T x := by
  have e : ∀ E, srcD P σ' E x = srcD P σ E x := by
    intro E
    cases x
    case own id a b => simp only [srcD, h id (by simp [D.ids])]
    case v b => cases b <;> rfl
    all_goals rfl
  unfold abytes
  simp only [e]

/-- A pure operation looks only at what its operands name. -/
theorem aop_frame {n : Nat} {nd : List (Nat × D)} {σ σ' : Sg} {nx nx' : Nat} {o : Op} {r : D} {σ1 : Sg} {nx1 : Nat} (hp : isPure o = true) (h : ∀ id ∈ idsV nd, getT id σ' = getT id σ)
    (hr : aop P ⟨n, nd, σ, nx⟩ o = some (r, σ1, nx1)) : aop P ⟨n, nd, σ', nx'⟩ o = some (r, σ', nx') := by
  have hev : ∀ x, (St.mk n nd σ' nx').ev x = (St.mk n nd σ nx).ev x := fun x => by cases x <;> rfl
  have hev1 : ∀ x, (St.mk n nd σ' nx').ev1 x = (St.mk n nd σ nx).ev1 x := fun x => by unfold St.ev1; rw [hev]
  have hid : ∀ x, ∀ id ∈ ((St.mk n nd σ nx).ev1 x).ids, getT id σ' = getT id σ := fun x id hi => h id (ev1_ids hi)
  unfold aop at hr ⊢
  cases o <;> simp [isPure] at hp <;> simp only [hev, hev1, aload_frame (hid _), afaddr_frame (hid _), aiaddr_frame (hid _), aslice_frame (hid _), abytes_frame (hid _)] at hr ⊢
  case slice T x lo hi mx =>
    have hf : (St.mk n nd σ' nx').ev1 = (St.mk n nd σ nx).ev1 := funext hev1
    rw [hf]
    generalize aslice P σ T _ _ _ _ = z at hr ⊢
    cases z <;> cases hr
    rfl
  all_goals try (split at hr <;> first | (cases hr; rfl) | (split at hr <;> first | (cases hr; rfl) | cases hr) | cases hr)
  all_goals try (cases hr; rfl)
  rename_i c
  obtain ⟨callee, args, ats⟩ := c
  cases callee <;> simp at hp hr ⊢
  rename_i b
  unfold abi at hr ⊢
  cases b <;> simp at hp <;> simp only [hev1] at hr ⊢ <;> (split at hr <;> first | (split at hr <;> first | (cases hr; rfl) | cases hr) | cases hr | skip)
  all_goals contradiction

/-- Operations that do not look at the store. -/
def stillOp (o : Op) : Bool :=
  match o with
  | .move _ | .assign _ | .nilCheck _ | .extract .. | .unOp .. | .binOp .. | .build .. | .field .. => true
  | _ => false
def rdI (o : Op) (l : List Nat) : List Nat := if stillOp o then [] else l
theorem aop_still {n : Nat} {nd : List (Nat × D)} {σ σ' : Sg} {nx nx' : Nat} {o : Op} {r : D} {σ1 : Sg} {nx1 : Nat} (hp : stillOp o = true)
    (hr : aop P ⟨n, nd, σ, nx⟩ o = some (r, σ1, nx1)) : aop P ⟨n, nd, σ', nx'⟩ o = some (r, σ', nx') := by
  have hev : ∀ x, (St.mk n nd σ' nx').ev x = (St.mk n nd σ nx).ev x := fun x => by cases x <;> rfl
  have hev1 : ∀ x, (St.mk n nd σ' nx').ev1 x = (St.mk n nd σ nx).ev1 x := fun x => by unfold St.ev1; rw [hev]
  unfold aop at hr ⊢
  cases o <;> simp [stillOp] at hp <;> simp only [hev, hev1] at hr ⊢
  all_goals try (split at hr <;> first | (cases hr; rfl) | (split at hr <;> first | (cases hr; rfl) | cases hr) | cases hr)
  all_goals try (cases hr; rfl)
theorem aop_look {n : Nat} {nd : List (Nat × D)} {σ σ' : Sg} {nx nx' : Nat} {o : Op} {r : D} {σ1 : Sg} {nx1 : Nat} (hp : isPure o = true) (h : ∀ id ∈ rdI o (idsV nd), getT id σ' = getT id σ)
    (hr : aop P ⟨n, nd, σ, nx⟩ o = some (r, σ1, nx1)) : aop P ⟨n, nd, σ', nx'⟩ o = some (r, σ', nx') := by
  unfold rdI at h
  split at h
  · rename_i hs; exact aop_still hs hr
  · exact aop_frame hp h hr

theorem getT_setT_ne {α : Type} {k j : Nat} {x : α} {l : List (Nat × α)} (h : j ≠ k) : getT j (setT k x l) = getT j l := by
  rw [getT_setT, if_neg h]
theorem getT_delT_ne {α : Type} {k j : Nat} (h : j ≠ k) : ∀ (l : List (Nat × α)), getT j (delT k l) = getT j l
  | [] => rfl
  | (i, y) :: l => by
    simp only [delT]
    by_cases hi : i = k
    · rw [if_pos hi]
      simp only [getT]
      rw [if_neg (by omega)]
      exact getT_delT_ne h l
    · rw [if_neg hi]
      simp only [getT]
      rw [getT_delT_ne h l]

theorem baseD_ids {σ : Sg} {E : TypeId} {x : D} {did : Nat} {ds : List D} (h : baseD σ E x = some (some did, ds)) : did ∈ x.ids := by
  unfold baseD at h
  split at h
  · split at h <;> simp at h
  · split at h
    · split at h
      · simp at h; simp [D.ids, h.1]
      · cases h
    · cases h
  · cases h

theorem chg_ok {o : Op} {r : D} {σ : Sg} {nx : Nat} (hr : aop P s o = some (r, σ, nx)) : ∀ id, id ∉ chg s o → getT id σ = getT id s.σ := by
  intro id hid
  by_cases hp : isPure o = true
  · rw [(isPure_same hp hr).1]
  unfold aop at hr
  cases o <;> simp [isPure] at hp <;> simp only [] at hr
  case pick => split at hr <;> cases hr; rfl
  case alloc =>
    split at hr <;> cases hr
    simp [chg] at hid
    simp only [getT]; rw [if_neg (fun e => hid e.symm)]
  case box =>
    split at hr <;> cases hr
    simp [chg] at hid
    simp only [getT]; rw [if_neg (fun e => hid e.symm)]
  case buildSlice =>
    split at hr <;> cases hr
    simp [chg] at hid
    simp only [getT]; rw [if_neg (fun e => hid e.symm)]
  case store T x y =>
    split at hr
    · rename_i σ2 hb
      cases hr
      cases hx : s.ev1 x <;> rw [hx] at hb <;> simp only [astore] at hb <;> try cases hb
      rename_i id' p
      simp [chg, hx, D.ids] at hid
      split at hb
      · split at hb
        · split at hb
          · split at hb
            · cases hb; exact getT_setT_ne hid
            · cases hb
          · cases hb
        · cases hb
      · cases hb
    · cases hr
  case call c =>
    obtain ⟨callee, args, ats⟩ := c
    cases callee <;> simp at hp hr
    rename_i b
    unfold abi at hr
    split at hr
    · split at hr <;> cases hr; rfl
    · split at hr <;> cases hr; rfl
    · split at hr <;> cases hr; rfl
    · rename_i x y T U e1 e2
      have ha : args.toList = [x, y] := e1
      simp [chg, ha] at hid
      have hr' : aappend P s.σ s.nx T U (s.ev1 x) (s.ev1 y) = some (r, σ, nx) ∨ aappz P s.σ s.nx T U (s.ev1 x) (s.ev1 y) = some (r, σ, nx) := by
        split at hr
        · rename_i e; rw [e]; exact .inl hr
        · exact .inr hr
      clear hr
      rcases hr' with hr | hr
      rotate_left
      · unfold aappz at hr
        split at hr
        · split at hr
          · split at hr
            · simp only [Option.some.injEq, Prod.mk.injEq] at hr
              obtain ⟨_, rfl, _⟩ := hr
              simp only [getT]
              rw [if_neg (fun e => hid.1 e.symm)]
            · cases hr
          · cases hr
        · cases hr
      unfold aappend at hr
      split at hr
      all_goals try cases hr
      all_goals
        split at hr
        all_goals try cases hr
        rename_i del ds es hb hs
        split at hr
        all_goals try cases hr
        simp only [getT]
        rw [if_neg (fun e => hid.1 e.symm)]
        cases del with
        | none => rfl
        | some did =>
          simp only
          refine getT_delT_ne (fun e => hid.2 ?_) _
          rw [e]; exact baseD_ids hb
    · rename_i x y T U e1 e2
      have ha : args.toList = [x, y] := e1
      simp [chg, ha] at hid
      split at hr
      · rename_i r1 σ1 hb
        simp only [Option.some.injEq, Prod.mk.injEq] at hr
        obtain ⟨_, rfl, _⟩ := hr
        unfold acopy at hb
        split at hb
        · rename_i id' off len E n hx hu hln
          rw [hx] at hid
          simp [D.ids] at hid
          split at hb
          · split at hb <;> cases hb; rfl
          · split at hb
            · split at hb
              · simp only [Option.some.injEq, Prod.mk.injEq] at hb
                obtain ⟨_, rfl⟩ := hb
                exact getT_setT_ne hid
              · cases hb
            · cases hb
        · cases hb
      · cases hr
    · cases hr
  all_goals cases hr
end
end Go.Apl

/- APL, part 19: the walk over a region that draws its order. Over any program. -/
namespace Go.Apl
open Go
open Go.RowKit (Below)
set_option linter.unusedSimpArgs false
set_option linter.unusedVariables false

abbrev Rd := List (Nat × List Nat)
/-- A reader and the effects before it. -/
def farR (A : List (List Nat)) (i : Nat) (R : List Nat) : Rd → Bool
  | [] => true
  | (e, c) :: cg => ((A.getD i []).contains e || R.all fun id => !c.contains id) && farR A i R cg
/-- An effect and the readers before it. -/
def farE (A : List (List Nat)) (i : Nat) (c : List Nat) : Rd → Bool
  | [] => true
  | (k, R) :: rd => ((A.getD i []).contains k || R.all fun id => !c.contains id) && farE A i c rd

theorem farR_ok {A : List (List Nat)} {i : Nat} {R : List Nat} : ∀ {cg : Rd}, farR A i R cg = true → ∀ e c, (e, c) ∈ cg → e ∈ A.getD i [] ∨ ∀ id ∈ R, id ∉ c
  | [], _, _, _, h => by cases h
  | (e0, c0) :: cg, h, e, c, hm => by
    simp only [farR, Bool.and_eq_true, Bool.or_eq_true, List.all_eq_true] at h
    rcases List.mem_cons.1 hm with he | hm
    · cases he
      rcases h.1 with h1 | h1
      · exact .inl (by simpa using h1)
      · exact .inr fun id hid => by simpa using h1 id hid
    · exact farR_ok h.2 e c hm
theorem farE_ok {A : List (List Nat)} {i : Nat} {c : List Nat} : ∀ {rd : Rd}, farE A i c rd = true → ∀ k R, (k, R) ∈ rd → k ∈ A.getD i [] ∨ ∀ id ∈ R, id ∉ c
  | [], _, _, _, h => by cases h
  | (e0, c0) :: cg, h, e, R, hm => by
    simp only [farE, Bool.and_eq_true, Bool.or_eq_true, List.all_eq_true] at h
    rcases List.mem_cons.1 hm with he | hm
    · cases he
      rcases h.1 with h1 | h1
      · exact .inl (by simpa using h1)
      · exact .inr fun id hid => by simpa using h1 id hid
    · exact farE_ok h.2 e R hm

def Tr.ext (T : Tr) (i : Nat) (nd : List (Nat × D)) (cd : Nat → Prop) (r : D) (c : Prop) (gb : Bool) (R : List Nat) (σ : Sg) (nx : Nat) : Tr where
  nd := fun k => if k = i then nd else T.nd k
  cd := fun k => if k = i then cd else T.cd k
  r := fun k => if k = i then r else T.r k
  c := fun k => if k = i then c else T.c k
  σ := fun k => if k = i + 1 then σ else T.σ k
  nx := fun k => if k = i + 1 then nx else T.nx k
  gb := fun k => if k = i then gb else T.gb k
  R := fun k => if k = i then R else T.R k

section
variable {P : Program} {gs : List (Option Tmp)} {A : List (List Nat)} {K : St → Prop}

/-- What is known before operation i of the walk. -/
structure DLink (P : Program) (ops : Array Oper) (A : List (List Nat)) (gs : List (Option Tmp)) (tm0 : List (Nat × D)) (sz : Nat) (T : Tr) (i : Nat) (s : St) (fr : Fr) (rd cg : Rd) : Prop where
  tv : ∀ k o, k < i → ops[k]? = some o → TV P ops A gs tm0 T k o
  far : Far ops A T i
  dst : ∀ (k t : Nat), k < i → gs[k]? = some (some t) → t < sz
  n : s.n = sz
  σ : T.σ i = s.σ
  nx : T.nx i = s.nx
  tm : ∀ t d, getT t s.tm = some d → Jt gs tm0 T i t d True
  fr : ∀ j w ov, ((j, w), ov) ∈ fr → j < i ∧ ∃ b, T.r j = .v (.bool b) ∧ T.c j ∧ ∀ t d, getT t ov = some d → ∃ k, k < i ∧ gs[k]? = some (some t) ∧ T.r k = d ∧ (b = w → T.c k)
  rd : ∀ (k : Nat) (o : Oper), k < i → ops[k]? = some o → isEffQ A ops.size k o.op = false → T.R k = [] ∨ (k, T.R k) ∈ rd
  cg : ∀ (e : Nat) (p : Oper), e < i → ops[e]? = some p → isEffQ A ops.size e p.op = true → (∀ id, getT id (T.σ (e + 1)) = getT id (T.σ e)) ∨ ∃ c, (e, c) ∈ cg ∧ ∀ id, id ∉ c → getT id (T.σ (e + 1)) = getT id (T.σ e)

structure DEnd (P : Program) (ops : Array Oper) (A : List (List Nat)) (gs : List (Option Tmp)) (tm0 : List (Nat × D)) (sz : Nat) (σ0 : Sg) (nx0 : Nat) (K : St → Prop) (T : Tr) (s : St) : Prop where
  K : K s
  tv : ∀ k o, ops[k]? = some o → TV P ops A gs tm0 T k o
  far : Far ops A T ops.size
  dst : ∀ (k t : Nat), gs[k]? = some (some t) → t < sz
  n : s.n = sz
  σ0 : T.σ 0 = σ0
  nx0 : T.nx 0 = nx0
  σ : T.σ ops.size = s.σ
  nx : T.nx ops.size = s.nx
  tm : ∀ t d, getT t s.tm = some d → Jt gs tm0 T ops.size t d True

/-- From here on the walk of the text's order comes to its end. -/
def DL (P : Program) (gs : List (Option Tmp)) (A : List (List Nat)) (K : St → Prop) (sl : List Sop) (i : Nat) (s : St) (fr : Fr) (rd cg : Rd) : Prop :=
  ∀ (ops : Array Oper) (l : List Oper) (tm0 : List (Nat × D)) (sz : Nat) (T : Tr), ops.toList.map (·.dst) = gs → DrawOK ops A → (∀ k, l[k]? = ops[i + k]?) → i + l.length = ops.size → l.map slim = sl →
    DLink P ops A gs tm0 sz T i s fr rd cg → ∃ T' s', DEnd P ops A gs tm0 sz (T.σ 0) (T.nx 0) K T' s'

theorem Jt.mono {tm0 : List (Nat × D)} {T T' : Tr} {i : Nat} {t : Nat} {d : D} {c c' : Prop} (h : Jt gs tm0 T i t d c) (hr : ∀ k, k < i → T'.r k = T.r k ∧ T'.c k = T.c k) (hc : c' → c) : Jt gs tm0 T' i t d c' := by
  rcases h with h | h | ⟨k, h1, h2, h3, h4⟩
  · exact .inl h
  · exact .inr (.inl h)
  · exact .inr (.inr ⟨k, h1, h2, by rw [(hr k h1).1, h3], fun x => by rw [(hr k h1).2]; exact h4 (hc x)⟩)

theorem Jt.up {tm0 : List (Nat × D)} {T : Tr} {i : Nat} {t : Nat} {d : D} {c : Prop} (h : Jt gs tm0 T i t d c) (hne : gs[i]? ≠ some (some t)) : Jt gs tm0 T (i + 1) t d c := by
  rcases h with h | ⟨h1, h2⟩ | ⟨k, h1, h2, h3, h4⟩
  · exact .inl h
  · refine .inr (.inl ⟨h1, fun k hk => ?_⟩)
    rcases Nat.lt_or_ge k i with h | h
    · exact h2 k h
    · have : k = i := by omega
      rw [this]; exact hne
  · exact .inr (.inr ⟨k, by omega, h2, h3, h4⟩)

theorem TV.agree {ops : Array Oper} {tm0 : List (Nat × D)} {T T' : Tr} {k : Nat} {o : Oper} (h : TV P ops A gs tm0 T k o) (hr : ∀ j, j ≤ k → T'.nd j = T.nd j ∧ T'.cd j = T.cd j ∧ T'.r j = T.r j ∧ T'.c j = T.c j ∧ T'.gb j = T.gb j ∧ T'.R j = T.R j ∧ T'.σ j = T.σ j ∧ T'.nx j = T.nx j)
    (h1 : T'.σ (k + 1) = T.σ (k + 1)) (h2 : T'.nx (k + 1) = T.nx (k + 1)) : TV P ops A gs tm0 T' k o := by
  obtain ⟨e1, e2, e3, e4, e5, e6, e7, e8⟩ := hr k (Nat.le_refl _)
  have hj : ∀ j, j < k → T'.r j = T.r j ∧ T'.c j = T.c j := fun j hj => ⟨(hr j (by omega)).2.2.1, (hr j (by omega)).2.2.2.1⟩
  constructor
  · rw [e4]; exact h.g0
  · intro j w hg
    obtain ⟨a, t, b, c⟩ := h.g1 j w hg
    rw [e4, e5]
    exact ⟨a, t, b, c.mono hj id⟩
  · intro t d hd
    rw [e1] at hd
    obtain ⟨a, b⟩ := h.view t d hd
    exact ⟨a, b.mono hj fun hh => by rw [e4, e2] at hh; exact hh⟩
  · rw [e4, e1, e2, e3, e7, e8, h1, h2]; exact h.effS
  · rw [e4, e7, e8, h1, h2]; exact h.effN
  · rw [e4, e1, e2, e3, e6, e7]; exact h.rdS
  · rw [e7, e8, h1, h2]; exact h.rdN

/-- One operation more. -/
theorem DLink.step {ops : Array Oper} {tm0 : List (Nat × D)} {sz : Nat} {T : Tr} {i : Nat} {s : St} {fr : Fr} {rd cg : Rd} (hgs : ops.toList.map (·.dst) = gs) (ok : DrawOK ops A) (hl : DLink P ops A gs tm0 sz T i s fr rd cg) {o : Oper} (ho : ops[i]? = some o)
    {nd : List (Nat × D)} {cd : Nat → Prop} {r : D} {c : Prop} {gb : Bool} {R : List Nat} {σ : Sg} {nx : Nat} {b : D} {fr' : Fr} {rd' cg' : Rd}
    (g0 : o.guard = none → c) (g1 : ∀ j w, o.guard = some (j, w) → (c ↔ gb = w) ∧ ∃ t, gs[j]? = some (some t) ∧ Jt gs tm0 T i t (.v (.bool gb)) True)
    (view : ∀ t d, getT t nd = some d → t ∈ tms o.op ∧ Jt gs tm0 T i t d (c ∧ cd t))
    (effS : isEffQ A ops.size i o.op = true → c → SemStep P o nd cd s.σ s.nx r σ nx) (effN : isEffQ A ops.size i o.op = true → ¬ c → σ = s.σ ∧ nx = s.nx)
    (rdS : isEffQ A ops.size i o.op = false → c → ∀ σ nx, (∀ id ∈ R, getT id σ = getT id s.σ) → SemStep P o nd cd σ nx r σ nx) (rdN : isEffQ A ops.size i o.op = false → σ = s.σ ∧ nx = s.nx)
    (hd : dstOk s o.dst) (hb : b = .undef ∨ (b = r ∧ c))
    (hfr : ∀ j w ov, ((j, w), ov) ∈ fr' → ((j, w), ov) ∈ fr ∨ (∃ (t0 : Nat) (ov0 : List (Nat × D)), o.dst = some t0 ∧ ov = (t0, r) :: ov0 ∧ (∀ t d, getT t ov0 = some d → ∃ (k : Nat), k < i ∧ gs[k]? = some (some t) ∧ T.r k = d ∧ (gb = w → T.c k)) ∧ o.guard = some (j, w) ∧ j < i))
    (hrd : isEffQ A ops.size i o.op = false → farR A i R cg = true ∧ (R = [] ∨ (i, R) ∈ rd')) (hrd2 : ∀ x ∈ rd, x ∈ rd')
    (hcg : isEffQ A ops.size i o.op = true → (∀ id, getT id σ = getT id s.σ) ∨ ∃ ch, farE A i ch rd = true ∧ (i, ch) ∈ cg' ∧ ∀ id, id ∉ ch → getT id σ = getT id s.σ) (hcg2 : ∀ x ∈ cg, x ∈ cg') :
    DLink P ops A gs tm0 sz (T.ext i nd cd r c gb R σ nx) (i + 1) (s.put o.dst b σ nx) fr' rd' cg' := by
  have hgi := gs_to hgs ho
  have ag : ∀ k, k < i → ∀ j, j ≤ k → (T.ext i nd cd r c gb R σ nx).nd j = T.nd j ∧ (T.ext i nd cd r c gb R σ nx).cd j = T.cd j ∧ (T.ext i nd cd r c gb R σ nx).r j = T.r j ∧ (T.ext i nd cd r c gb R σ nx).c j = T.c j ∧ (T.ext i nd cd r c gb R σ nx).gb j = T.gb j ∧ (T.ext i nd cd r c gb R σ nx).R j = T.R j ∧ (T.ext i nd cd r c gb R σ nx).σ j = T.σ j ∧ (T.ext i nd cd r c gb R σ nx).nx j = T.nx j := by
    intro k hk j hj
    have h1 : ¬ j = i := by omega
    have h2 : ¬ j = i + 1 := by omega
    simp [Tr.ext, h1, h2]
  have agr : ∀ k, k < i → (T.ext i nd cd r c gb R σ nx).r k = T.r k ∧ (T.ext i nd cd r c gb R σ nx).c k = T.c k := fun k hk => ⟨(ag k hk k (Nat.le_refl _)).2.2.1, (ag k hk k (Nat.le_refl _)).2.2.2.1⟩
  have hσ : ∀ k, k ≤ i → (T.ext i nd cd r c gb R σ nx).σ k = T.σ k := fun k hk => by
    have : ¬ k = i + 1 := by omega
    simp [Tr.ext, this]
  have hnx : ∀ k, k ≤ i → (T.ext i nd cd r c gb R σ nx).nx k = T.nx k := fun k hk => by
    have : ¬ k = i + 1 := by omega
    simp [Tr.ext, this]
  have hσi : (T.ext i nd cd r c gb R σ nx).σ (i + 1) = σ := by simp [Tr.ext]
  have hnxi : (T.ext i nd cd r c gb R σ nx).nx (i + 1) = nx := by simp [Tr.ext]
  have hself : (T.ext i nd cd r c gb R σ nx).nd i = nd ∧ (T.ext i nd cd r c gb R σ nx).cd i = cd ∧ (T.ext i nd cd r c gb R σ nx).r i = r ∧ (T.ext i nd cd r c gb R σ nx).c i = c ∧ (T.ext i nd cd r c gb R σ nx).gb i = gb ∧ (T.ext i nd cd r c gb R σ nx).R i = R := by simp [Tr.ext]
  obtain ⟨s1, s2, s3, s4, s5, s6⟩ := hself
  have nowrite : ∀ k t, k < i → gs[k]? = some (some t) → o.dst ≠ some t := fun k t hk hg he => by
    obtain ⟨p, hp, hpd⟩ := gs_of hgs hg
    have := ok.once k i p o t hp ho hpd he
    omega
  have jup : ∀ t d cond, o.dst ≠ some t → Jt gs tm0 T i t d cond → Jt gs tm0 (T.ext i nd cd r c gb R σ nx) (i + 1) t d cond := fun t d cond hne h =>
    (h.mono (T' := T.ext i nd cd r c gb R σ nx) agr id).up (by rw [hgi]; intro e; exact hne (Option.some.inj e))
  constructor
  · intro k o' hk ho'
    rcases Nat.lt_or_ge k i with h | h
    · exact (hl.tv k o' h ho').agree (ag k h) (hσ _ (by omega)) (hnx _ (by omega))
    · have : k = i := by omega
      subst this
      rw [ho] at ho'; cases ho'
      constructor
      · rw [s4]; exact g0
      · intro j w hg
        obtain ⟨a, t, h1, h2⟩ := g1 j w hg
        rw [s4, s5]
        exact ⟨a, t, h1, h2.mono agr id⟩
      · intro t d hd
        rw [s1] at hd
        obtain ⟨a, h2⟩ := view t d hd
        exact ⟨a, h2.mono agr fun hh => by rw [s4, s2] at hh; exact hh⟩
      · rw [s4, s1, s2, s3, hσi, hnxi, hσ k (Nat.le_refl _), hnx k (Nat.le_refl _), hl.σ, hl.nx]; exact effS
      · rw [s4, hσi, hnxi, hσ k (Nat.le_refl _), hnx k (Nat.le_refl _), hl.σ, hl.nx]; exact effN
      · rw [s4, s1, s2, s3, s6, hσ k (Nat.le_refl _), hl.σ]; exact rdS
      · rw [hσi, hnxi, hσ k (Nat.le_refl _), hnx k (Nat.le_refl _), hl.σ, hl.nx]; exact rdN
  · intro k e o' p hk he ho' hp hno hye
    have Rk : ∀ k, k < i → (T.ext i nd cd r c gb R σ nx).R k = T.R k := fun k hk => (ag k hk k (Nat.le_refl _)).2.2.2.2.2.1
    rcases Nat.lt_or_ge k i with h | h <;> rcases Nat.lt_or_ge e i with h' | h'
    · rw [hσ _ (by omega), hσ _ (by omega), Rk k h]
      exact hl.far k e o' p h h' ho' hp hno hye
    · have : e = i := by omega
      subst this
      rw [ho] at hp; cases hp
      rw [hσi, hσ _ (Nat.le_refl _), hl.σ, Rk k h]
      rcases hcg hye with h1 | ⟨ch, h1, h2, h3⟩
      · exact .inr (.inr fun id _ => h1 id)
      · rcases hl.rd k o' h ho' hno with h4 | h4
        · rw [h4]; exact .inr (.inr fun id hid => by cases hid)
        · rcases farE_ok h1 k _ h4 with h5 | h5
          · exact .inl h5
          · exact .inr (.inr fun id hid => h3 id (h5 id hid))
    · have : k = i := by omega
      subst this
      rw [ho] at ho'; cases ho'
      rw [hσ _ (by omega), hσ _ (by omega), s6]
      rcases hl.cg e p h' hp hye with h1 | ⟨ch, h1, h2⟩
      · exact .inr (.inr fun id _ => h1 id)
      · rcases farR_ok (hrd hno).1 e ch h1 with h3 | h3
        · exact .inr (.inl h3)
        · exact .inr (.inr fun id hid => h2 id (h3 id hid))
    · have h1 : k = i := by omega
      have h2 : e = i := by omega
      subst h1; subst h2
      rw [ho] at ho' hp; cases ho'; cases hp
      rw [hno] at hye; cases hye
  · intro k t hk hg
    rcases Nat.lt_or_ge k i with h | h
    · exact hl.dst k t h hg
    · have : k = i := by omega
      subst this
      rw [hgi] at hg
      have := Option.some.inj hg
      rw [this] at hd
      have hd : t < s.n := hd
      rw [hl.n] at hd
      exact hd
  · cases o.dst <;> exact hl.n
  · rw [hσi]; cases o.dst <;> rfl
  · rw [hnxi]; cases o.dst <;> rfl
  · intro t d hg
    cases hdd : o.dst with
    | none =>
      rw [hdd] at hg
      exact jup t d True (by rw [hdd]; simp) (hl.tm t d hg)
    | some u =>
      rw [hdd] at hg
      simp only [St.put, getT] at hg
      by_cases hu : u = t
      · subst hu
        rw [if_pos rfl] at hg
        cases hg
        rcases hb with rfl | ⟨rfl, hc⟩
        · exact .inl rfl
        · exact .inr (.inr ⟨i, by omega, by rw [hgi, hdd], s3, fun _ => by rw [s4]; exact hc⟩)
      · rw [if_neg hu] at hg
        exact jup t d True (by rw [hdd]; simpa using hu) (hl.tm t d hg)
  · intro j w ov hm
    rcases hfr j w ov hm with h | ⟨t0, ov0, h1, h2, h3, h4, h5⟩
    · obtain ⟨q1, b', q2, q3, q4⟩ := hl.fr j w ov h
      refine ⟨by omega, b', by rw [(agr j q1).1, q2], by rw [(agr j q1).2]; exact q3, fun t d hg => ?_⟩
      obtain ⟨k, k1, k2, k3, k4⟩ := q4 t d hg
      exact ⟨k, by omega, k2, by rw [(agr k k1).1, k3], fun x => by rw [(agr k k1).2]; exact k4 x⟩
    · obtain ⟨hc, tg, q1, q2⟩ := g1 j w h4
      have q3 : T.r j = .v (.bool gb) ∧ T.c j := by
        rcases q2 with q | ⟨q, qn⟩ | ⟨k, k1, k2, k3, k4⟩
        · cases q
        · exact absurd q1 (qn j h5)
        · obtain ⟨p, hp, hpd⟩ := gs_of hgs q1
          obtain ⟨p', hp', hpd'⟩ := gs_of hgs k2
          have := ok.once j k p p' tg hp hp' hpd hpd'
          subst this
          exact ⟨k3, k4 trivial⟩
      refine ⟨by omega, gb, by rw [(agr j h5).1, q3.1], by rw [(agr j h5).2]; exact q3.2, fun t d hg => ?_⟩
      subst h2
      simp only [getT] at hg
      by_cases ht : t0 = t
      · subst ht
        rw [if_pos rfl] at hg
        cases hg
        exact ⟨i, by omega, by rw [hgi, h1], s3, fun x => by rw [s4]; exact hc.2 x⟩
      · rw [if_neg ht] at hg
        obtain ⟨k, k1, k2, k3, k4⟩ := h3 t d hg
        exact ⟨k, by omega, k2, by rw [(agr k k1).1, k3], fun x => by rw [(agr k k1).2]; exact k4 x⟩
  · intro k o' hk ho' hno
    rcases Nat.lt_or_ge k i with h | h
    · rw [(ag k h k (Nat.le_refl _)).2.2.2.2.2.1]
      exact (hl.rd k o' h ho' hno).imp id (hrd2 _)
    · have : k = i := by omega
      subst this
      rw [ho] at ho'; cases ho'
      rw [s6]
      exact (hrd hno).2
  · intro e p he hp hye
    rcases Nat.lt_or_ge e i with h | h
    · rw [hσ _ (by omega), hσ _ (by omega)]
      exact (hl.cg e p h hp hye).imp id fun ⟨c, h1, h2⟩ => ⟨c, hcg2 _ h1, h2⟩
    · have : e = i := by omega
      subst this
      rw [ho] at hp; cases hp
      rw [hσi, hσ _ (Nat.le_refl _), hl.σ]
      exact (hcg hye).imp id fun ⟨c, _, h1, h2⟩ => ⟨c, h1, h2⟩
end
end Go.Apl

/- APL, part 20: the walk over a region that draws its order, run. Over any program. -/
namespace Go.Apl
open Go
open Go.RowKit (Below)
set_option linter.unusedSimpArgs false
set_option linter.unusedVariables false

def addR (i : Nat) (R : List Nat) (rd : Rd) : Rd :=
  match R with
  | [] => rd
  | _ => (i, R) :: rd
def sameT : Operand → Operand → Bool
  | .tmp t, .tmp u => t == u
  | _, _ => false

section
variable {P : Program}

def doD (P : Program) (A : List (List Nat)) (m i : Nat) (o : Sop) (v s : St) (rd cg : Rd) (k : St → Rd → Rd → Prop) : Prop :=
  match aop P v o.op with
  | some (r, σ, nx) => dstOk s o.dst ∧
    if isPure o.op then farR A i (rdI o.op (idsV v.tm)) cg = true ∧ k (s.put o.dst r σ nx) (addR i (rdI o.op (idsV v.tm)) rd) cg
    else quiet A m i = false ∧ farE A i (chg v o.op) rd = true ∧ k (s.put o.dst r σ nx) rd (addR i (chg v o.op) cg)
  | none => False

def doPickD (gs : List (Option Tmp)) (fr : Fr) (dst : Option Tmp) (c x y : Operand) (s : St) (k : St → Prop) : Prop :=
  match c with
  | .tmp tc => (!sameT c x && !sameT c y && !sameT x y) = true ∧ match s.ev1 (.tmp tc) with
    | .v (.bool t) => dstOk s dst ∧ k (s.put dst (apick t ((s.over (ovOf gs tc true fr)).ev1 x) ((s.over (ovOf gs tc false fr)).ev1 y)) s.σ s.nx)
    | _ => False
  | _ => False

def doAheadD (P : Program) (gs : List (Option Tmp)) (A : List (List Nat)) (i : Nat) (o : Sop) (j : Nat) (want b : Bool) (s : St) (fr : Fr) (rd cg : Rd) (k : St → Fr → Rd → Rd → Prop) : Prop :=
  match o.dst with
  | some t => t < s.n ∧ j < i ∧
    match aop P ((s.over (getF j want fr)).keep (tms o.op)) o.op with
    | some (r, _, _) => farR A i (rdI o.op (idsV ((s.over (getF j want fr)).keep (tms o.op)).tm)) cg = true ∧
        k (s.put o.dst .undef s.σ s.nx) (((j, want), (t, r) :: getF j want fr) :: delF j want fr) (addR i (rdI o.op (idsV ((s.over (getF j want fr)).keep (tms o.op)).tm)) rd) cg
    | none => b ≠ want ∧ k (s.put o.dst .undef s.σ s.nx) fr rd cg
  | none => False

def runD (P : Program) (gs : List (Option Tmp)) (A : List (List Nat)) (K : St → Prop) : List Sop → Nat → St → Fr → Rd → Rd → Prop
  | [], _, s, _, _, _ => K s
  | o :: rest, i, s, fr, rd, cg =>
    match o.guard with
    | none => match isPick o.op with
      | some (c, x, y) => doPickD gs fr o.dst c x y s (fun s' => runD P gs A K rest (i + 1) s' fr rd cg)
      | none => if isCall o.op || quiet A gs.length i then DL P gs A K (o :: rest) i s fr rd cg
        else doD P A gs.length i o (s.keep (tms o.op)) s rd cg (fun s' rd' cg' => runD P gs A K rest (i + 1) s' fr rd' cg')
    | some (j, want) => match s.gd gs j with
      | some b => if isCall o.op || quiet A gs.length i then DL P gs A K (o :: rest) i s fr rd cg
        else if isPure o.op then doAheadD P gs A i o j want b s fr rd cg (fun s' fr' rd' cg' => runD P gs A K rest (i + 1) s' fr' rd' cg')
        else j < i ∧ (isPick o.op).isNone = true ∧ quiet A gs.length i = false ∧ (if b = want then doD P A gs.length i o ((s.over (getF j want fr)).keep (tms o.op)) s rd cg (fun s' rd' cg' => runD P gs A K rest (i + 1) s' fr rd' cg')
          else dstOk s o.dst ∧ runD P gs A K rest (i + 1) (s.put o.dst .undef s.σ s.nx) fr rd cg)
      | none => False

theorem SemStep.of_aop {o : Oper} {n : Nat} {nd : List (Nat × D)} {cd : Nat → Prop} (hcd : ∀ t d, getT t nd = some d → cd t) {σ σ' : Sg} {nx nx' : Nat} {r : D} (h : aop P ⟨n, nd, σ, nx⟩ o.op = some (r, σ', nx')) : SemStep P o nd cd σ nx r σ' nx' := by
  intro lay hm G hG a w N ι hr hdef hv K Q hK
  subst hG
  have hf : FrR (G.cx N ι) ⟨a.tmps.size, nd, σ, nx⟩ a := ⟨rfl, hdef, fun t d hd => hv t d hd (hcd t d hd)⟩
  have h' : aop G.P ⟨a.tmps.size, nd, σ, nx⟩ o.op = some (r, σ', nx') := h
  obtain ⟨nv, w', ι', q1, q2, q3, q4⟩ := aop_ok (s := ⟨a.tmps.size, nd, σ, nx⟩) lay hr hf h'
  unfold Oper.wp
  rw [q1]
  rcases q4 with ⟨v, rfl, hv⟩ | ⟨rfl, rfl⟩
  · exact hK v w' N ι' q2 q3 hv
  · exact hK Go.undef w' N ι' q2 q3 (VR.undef _ _)

theorem farR_nil {A : List (List Nat)} {i : Nat} : ∀ (cg : Rd), farR A i [] cg = true
  | [] => rfl
  | (e, c) :: cg => by simp [farR, farR_nil cg]

theorem VR.one {C : Cx} {d : D} {v : Value} (h : VR C d v) : VR C d.one v := by
  cases d <;> first | exact h | trivial

theorem ev1_at {C : Cx} {s1 : St} {a : Act} {z : Operand} (hz : ∀ u d, z = .tmp u → getT u s1.tm = some d → VR C d (a.tmps.getD u Go.undef)) : VR C (s1.ev1 z) (a.eval z) := by
  cases z with
  | tmp u =>
    simp only [St.ev1, St.ev, Act.eval]
    cases hg : getT u s1.tm with
    | none => exact VR.undef _ _
    | some d => exact (hz u d rfl hg).one
  | const v =>
    have hf : FrR C ⟨a.tmps.size, [], [], 0⟩ { a with defers := [] } := ⟨rfl, rfl, fun u d h => by cases h⟩
    exact VR.of1 (ev1_ok hf (.const v))
  | global g => exact VR.undef _ _
  | func f =>
    have hf : FrR C ⟨a.tmps.size, [], [], 0⟩ { a with defers := [] } := ⟨rfl, rfl, fun u d h => by cases h⟩
    exact VR.of1 (ev1_ok hf (.func f))

theorem mem_addR {i : Nat} {R : List Nat} {rd : Rd} : (∀ x ∈ rd, x ∈ addR i R rd) ∧ (R = [] ∨ (i, R) ∈ addR i R rd) := by
  cases R with
  | nil => exact ⟨fun x h => h, .inl rfl⟩
  | cons y R => exact ⟨fun x h => List.mem_cons_of_mem _ h, .inr (List.mem_cons_self ..)⟩

section
variable {gs : List (Option Tmp)} {A : List (List Nat)} {K : St → Prop} {ops : Array Oper} {tm0 : List (Nat × D)} {sz : Nat} {T : Tr} {i : Nat} {s : St} {fr : Fr} {rd cg : Rd} {o : Oper}

/-- Seen over a guard's held values: as long as the guard holds. -/
theorem DLink.over (hl : DLink P ops A gs tm0 sz T i s fr rd cg) {j : Nat} {want gb : Bool} {tg : Tmp} (hgs : ops.toList.map (·.dst) = gs) (ok : DrawOK ops A) (hji : j < i) (hg : gs[j]? = some (some tg)) (hjt : Jt gs tm0 T i tg (.v (.bool gb)) True) :
    ∀ t d, getT t (s.over (getF j want fr)).tm = some d → Jt gs tm0 T i t d (gb = want) := by
  have hf : ∀ t d, getT t (getF j want fr) = some d → ∃ k, k < i ∧ gs[k]? = some (some t) ∧ T.r k = d ∧ (gb = want → T.c k) := by
    intro t d hd
    have hmem : ∀ fr : Fr, getT t (getF j want fr) = some d → ((j, want), getF j want fr) ∈ fr := by
      intro fr
      induction fr with
      | nil => intro h; cases h
      | cons x fr ih =>
        obtain ⟨⟨i', c'⟩, ov⟩ := x
        intro h
        simp only [getF] at h ⊢
        split
        · rename_i he; obtain ⟨rfl, rfl⟩ := he; simp
        · rename_i he; rw [if_neg he] at h; exact List.mem_cons_of_mem _ (ih h)
    obtain ⟨_, b, q2, q3, q4⟩ := hl.fr j want _ (hmem fr hd)
    have : T.r j = .v (.bool gb) := by
      rcases hjt with q | ⟨q, qn⟩ | ⟨k, k1, k2, k3, k4⟩
      · cases q
      · exact absurd hg (qn j hji)
      · obtain ⟨p, hp, hpd⟩ := gs_of hgs hg
        obtain ⟨p', hp', hpd'⟩ := gs_of hgs k2
        have := ok.once j k p p' tg hp hp' hpd hpd'
        subst this
        exact k3
    rw [q2] at this
    cases this
    exact q4 t d hd
  intro t d hd
  simp only [St.over, getT_append] at hd
  split at hd
  · rename_i x hx
    cases hd
    exact .inr (.inr (hf t _ hx))
  · exact (hl.tm t d hd).mono (fun _ _ => ⟨rfl, rfl⟩) fun _ => trivial

theorem gd_tmp {j : Nat} {b : Bool} (h : s.gd gs j = some b) : ∃ t, gs[j]? = some (some t) ∧ getT t s.tm = some (.v (.bool b)) := by
  unfold St.gd at h
  split at h
  · rename_i t ht
    refine ⟨t, ht, ?_⟩
    split at h
    · rename_i b' hb
      cases h
      simp only [St.ev1, St.ev] at hb
      cases hg : getT t s.tm with
      | none => simp [hg, D.one] at hb
      | some d =>
        simp only [hg] at hb
        cases d <;> simp [D.one] at hb
        rw [hb]
    · cases h
  · cases h

theorem slim_op {so : Sop} (h : slim o = so) : o.dst = so.dst ∧ o.op = so.op ∧ o.guard = so.guard := by subst h; exact ⟨rfl, rfl, rfl⟩

/-- One operation that is carried out. -/
theorem DLink.op (hgs : ops.toList.map (·.dst) = gs) (ok : DrawOK ops A) (hl : DLink P ops A gs tm0 sz T i s fr rd cg) (ho : ops[i]? = some o) {v : St} (hσ : v.σ = s.σ) (hnx : v.nx = s.nx)
    (hv : ∀ t d, getT t v.tm = some d → t ∈ tms o.op ∧ Jt gs tm0 T i t d True) {gb : Bool} (hg : ∀ j w, o.guard = some (j, w) → gb = w ∧ ∃ t, gs[j]? = some (some t) ∧ Jt gs tm0 T i t (.v (.bool gb)) True)
    (hpk : (isPick o.op).isNone = true) {k : St → Rd → Rd → Prop} (h : doD P A gs.length i (slim o) v s rd cg k) :
    ∃ T' s' rd' cg', T'.σ 0 = T.σ 0 ∧ T'.nx 0 = T.nx 0 ∧ DLink P ops A gs tm0 sz T' (i + 1) s' fr rd' cg' ∧ k s' rd' cg' := by
  obtain ⟨vn, vt, vσ, vnx⟩ := v
  simp only at hσ hnx
  subst hσ; subst hnx
  unfold doD at h
  split at h
  · rename_i r σ nx hr
    have hr : aop P ⟨vn, vt, s.σ, s.nx⟩ o.op = some (r, σ, nx) := hr
    obtain ⟨hd, h⟩ := h
    by_cases hp : isPure o.op = true
    · have hp' : isPure (slim o).op = true := hp
      rw [if_pos hp'] at h
      obtain ⟨hfar, hk⟩ := h
      have hne : isEffQ A ops.size i o.op = false := by simp [isEffQ, isEff, hp]
      refine ⟨_, _, _, _, ?_, ?_, DLink.step (cd := fun _ => True) (c := True) (b := r) (r := r) (gb := gb) (R := rdI o.op (idsV vt)) (σ := σ) (nx := nx) (fr' := fr) (rd' := addR i (rdI o.op (idsV vt)) rd) (cg' := cg) hgs ok hl ho (nd := vt)
      (fun _ => trivial) (fun j w hgd => by obtain ⟨h1, t, h2, h3⟩ := hg j w hgd; exact ⟨⟨fun _ => h1, fun _ => trivial⟩, t, h2, h3⟩)
      (fun t d hd => ⟨(hv t d hd).1, (hv t d hd).2.mono (fun _ _ => ⟨rfl, rfl⟩) fun _ => trivial⟩)
      (fun _ _ => SemStep.of_aop (fun _ _ _ => trivial) hr) (fun _ hc => absurd trivial hc) (fun _ hc σ1 nx1 hag => SemStep.of_aop (n := vn) (fun _ _ _ => trivial) (aop_look hp hag hr)) (fun _ => isPure_same (s := ⟨vn, vt, s.σ, s.nx⟩) hp hr) hd (.inr ⟨rfl, trivial⟩) (fun j w ov hm => .inl hm) (fun _ => ⟨hfar, mem_addR.2⟩) (mem_addR.1) (fun he => by rw [hne] at he; cases he) (fun x hx => hx), hk⟩ <;> simp [Tr.ext]
    · have hp' : ¬ isPure (slim o).op = true := hp
      rw [if_neg hp'] at h
      obtain ⟨hq, hfar, hk⟩ := h
      have hgl : gs.length = ops.size := by rw [← hgs]; simp
      rw [hgl] at hq
      have hne : isEffQ A ops.size i o.op = true := by simp [isEffQ, isEff, hp, hpk, hq]
      refine ⟨_, _, _, _, ?_, ?_, DLink.step (cd := fun _ => True) (c := True) (b := r) (r := r) (gb := gb) (R := []) (σ := σ) (nx := nx) (fr' := fr) (rd' := rd) (cg' := addR i (chg ⟨vn, vt, s.σ, s.nx⟩ o.op) cg) hgs ok hl ho (nd := vt)
      (fun _ => trivial) (fun j w hgd => by obtain ⟨h1, t, h2, h3⟩ := hg j w hgd; exact ⟨⟨fun _ => h1, fun _ => trivial⟩, t, h2, h3⟩)
      (fun t d hd => ⟨(hv t d hd).1, (hv t d hd).2.mono (fun _ _ => ⟨rfl, rfl⟩) fun _ => trivial⟩)
      (fun _ _ => SemStep.of_aop (fun _ _ _ => trivial) hr) (fun _ hc => absurd trivial hc) (fun he => by rw [hne] at he; cases he) (fun he => by rw [hne] at he; cases he) hd (.inr ⟨rfl, trivial⟩) (fun j w ov hm => .inl hm) (fun he => by rw [hne] at he; cases he) (fun x hx => hx) (fun _ => ?_) (mem_addR.1), hk⟩
      · simp [Tr.ext]
      · simp [Tr.ext]
      · rcases (mem_addR (i := i) (R := chg ⟨vn, vt, s.σ, s.nx⟩ o.op) (rd := cg)).2 with h | h
        · exact .inl fun id => chg_ok hr id (by rw [h]; simp)
        · exact .inr ⟨_, hfar, h, fun id hid => chg_ok hr id hid⟩
  · exact h.elim

theorem Jt_one {t : Nat} {d : D} {c : Prop} (h : Jt gs tm0 T i t d c) : True := trivial

theorem DL.of_run : ∀ {sl : List Sop} {i : Nat} {s : St} {fr : Fr} {rd cg : Rd}, runD P gs A K sl i s fr rd cg → DL P gs A K sl i s fr rd cg
  | [], i, s, fr, rd, cg, h => by
    intro ops l tm0 sz T hgs ok hl hn hsl link
    have : l = [] := by simpa using hsl
    subst this
    simp at hn
    subst hn
    exact ⟨T, s, h, fun k o ho => link.tv k o (Array.getElem?_eq_some_iff.1 ho).1 ho, link.far, fun k t hg => by
      obtain ⟨p, hp, _⟩ := gs_of hgs hg
      exact link.dst k t (Array.getElem?_eq_some_iff.1 hp).1 hg, link.n, rfl, rfl, link.σ, link.nx, link.tm⟩
  | so :: rest, i, s, fr, rd, cg, h => by
    intro ops l tm0 sz T hgs ok hl hn hsl link
    cases l with
    | nil => simp at hsl
    | cons o l =>
      simp at hsl
      obtain ⟨rfl, rfl⟩ := hsl
      have ho : ops[i]? = some o := by simpa using (hl 0).symm
      have hl' : ∀ k, l[k]? = ops[i + 1 + k]? := fun k => by have := hl (k + 1); simpa [Nat.add_assoc, Nat.add_comm 1 k] using this
      have hn' : i + 1 + l.length = ops.size := by simp at hn; omega
      have whole : DL P gs A K (slim o :: l.map slim) i s fr rd cg → ∃ T' s', DEnd P ops A gs tm0 sz (T.σ 0) (T.nx 0) K T' s' :=
        fun h => h ops (o :: l) tm0 sz T hgs ok hl hn (by simp) link
      have goOn : ∀ {s' fr' rd' cg' T'}, T'.σ 0 = T.σ 0 → T'.nx 0 = T.nx 0 → DLink P ops A gs tm0 sz T' (i + 1) s' fr' rd' cg' → runD P gs A K (l.map slim) (i + 1) s' fr' rd' cg' → ∃ T' s', DEnd P ops A gs tm0 sz (T.σ 0) (T.nx 0) K T' s' := by
        intro s' fr' rd' cg' T' e1 e2 hlk hr
        have := DL.of_run hr ops l tm0 sz T' hgs ok hl' hn' rfl hlk
        rwa [e1, e2] at this
      simp only [runD] at h
      split at h
      · rename_i hg
        have hg : o.guard = none := hg
        split at h
        · -- pick
          rename_i c x y hp
          have hop : o.op = .pick c x y := by
            have hp : isPick o.op = some (c, x, y) := hp
            unfold isPick at hp
            split at hp
            · rename_i he; cases hp; exact he
            · cases hp
          unfold doPickD at h
          split at h
          · rename_i tc
            obtain ⟨hsame, h⟩ := h
            split at h
            · rename_i t ht
              obtain ⟨hd, hk⟩ := h
              have hd : dstOk s o.dst := hd
              simp only [Bool.and_eq_true, Bool.not_eq_true'] at hsame
              obtain ⟨⟨hcx, hcy⟩, hxy⟩ := hsame
              have hgt : getT tc s.tm = some (.v (.bool t)) := by
                simp only [St.ev1, St.ev] at ht
                cases hgg : getT tc s.tm with
                | none => simp [hgg, D.one] at ht
                | some d =>
                  simp only [hgg] at ht
                  cases d <;> simp [D.one] at ht
                  rw [ht]
              have hjc := link.tm tc _ hgt
              -- held values over the choice's temporary
              have hov : ∀ (b : Bool) (fr0 : Fr), (∀ x ∈ fr0, x ∈ fr) → ∀ u d, getT u (ovOf gs tc b fr0) = some d → ∃ k, k < i ∧ gs[k]? = some (some u) ∧ T.r k = d ∧ (t = b → T.c k) := by
                intro b fr0
                induction fr0 with
                | nil => intro _ u d h; cases h
                | cons z fr0 ih =>
                  obtain ⟨⟨j', c'⟩, ov⟩ := z
                  intro hsub u d hu
                  have ih' := ih (fun x hx => hsub x (List.mem_cons_of_mem _ hx)) u d
                  simp only [ovOf] at hu
                  split at hu
                  · rename_i hh
                    obtain ⟨rfl, hh⟩ := hh
                    rw [getT_append] at hu
                    split at hu
                    · rename_i z hz
                      cases hu
                      obtain ⟨q1, b', q2, q3, q4⟩ := link.fr j' c' ov (hsub _ (List.mem_cons_self ..))
                      have : T.r j' = .v (.bool t) := by
                        rcases hjc with q | ⟨q, qn⟩ | ⟨k, k1, k2, k3, k4⟩
                        · cases q
                        · exact absurd hh (qn j' q1)
                        · obtain ⟨p, hp, hpd⟩ := gs_of hgs hh
                          obtain ⟨p', hp', hpd'⟩ := gs_of hgs k2
                          have := ok.once j' k p p' tc hp hp' hpd hpd'
                          subst this
                          exact k3
                      rw [q2] at this
                      cases this
                      exact q4 u _ hz
                    · exact ih' hu
                  · exact ih' hu
              have hover : ∀ (b : Bool) u d, getT u (s.over (ovOf gs tc b fr)).tm = some d → Jt gs tm0 T i u d (t = b) := by
                intro b u d hu
                simp only [St.over, getT_append] at hu
                split at hu
                · rename_i z hz; cases hu; exact .inr (.inr (hov b fr (fun x hx => hx) u _ hz))
                · exact (link.tm u d hu).mono (fun _ _ => ⟨rfl, rfl⟩) fun _ => trivial
              let nd : List (Nat × D) := (tc, .v (.bool t)) :: (keepT (opT x) (s.over (ovOf gs tc true fr)).tm ++ keepT (opT y) (s.over (ovOf gs tc false fr)).tm)
              let cd : Nat → Prop := fun u => u = tc ∨ (u ∈ opT x ∧ t = true) ∨ (u ∈ opT y ∧ t = false)
              have hnd : ∀ u d, getT u nd = some d → u ∈ tms o.op ∧ Jt gs tm0 T i u d (True ∧ cd u) := by
                intro u d hu
                simp only [nd, getT] at hu
                rw [hop]
                by_cases hut : tc = u
                · subst hut
                  rw [if_pos rfl] at hu
                  cases hu
                  exact ⟨by simp [tms, opT], hjc.mono (fun _ _ => ⟨rfl, rfl⟩) fun _ => trivial⟩
                · rw [if_neg hut, getT_append] at hu
                  split at hu
                  · rename_i z hz
                    cases hu
                    obtain ⟨h1, h2⟩ := getT_keepT hz
                    refine ⟨by simp [tms, h1], (hover true u _ h2).mono (fun _ _ => ⟨rfl, rfl⟩) fun hh => ?_⟩
                    rcases hh.2 with h3 | h3 | h3
                    · exact absurd h3.symm hut
                    · exact h3.2
                    · exfalso
                      cases x <;> simp [opT] at h1
                      cases y <;> simp [opT] at h3
                      rw [h1] at h3
                      simp [sameT, h3.1] at hxy
                  · obtain ⟨h1, h2⟩ := getT_keepT hu
                    refine ⟨by simp [tms, h1], (hover false u _ h2).mono (fun _ _ => ⟨rfl, rfl⟩) fun hh => ?_⟩
                    rcases hh.2 with h3 | h3 | h3
                    · exact absurd h3.symm hut
                    · exfalso
                      cases y <;> simp [opT] at h1
                      cases x <;> simp [opT] at h3
                      rw [h1] at h3
                      simp [sameT, h3.1] at hxy
                    · exact h3.2
              have hsem : ∀ σ nx, SemStep P o nd cd σ nx (apick t ((s.over (ovOf gs tc true fr)).ev1 x) ((s.over (ovOf gs tc false fr)).ev1 y)) σ nx := by
                intro σ nx lay hm G hG a w N ι hr hdef hv K0 Q0 hK0
                have hcv : a.eval (.tmp tc) = .bool t := by
                  have := hv tc (.v (.bool t)) (by simp [nd, getT]) (.inl rfl)
                  simp only [Act.eval]
                  generalize a.tmps.getD tc undef = z at this
                  cases this; rfl
                have hrun : (execOp a.eval o).run P w = .ok (.value (if t = true then a.eval x else a.eval y)) w := by
                  simp only [execOp, hop, hcv, asBool, Sem.run_bind, Sem.run_pure, Result.andThen_ok]
                unfold Oper.wp
                rw [hrun]
                refine hK0 _ w N ι hr (Cx.le.refl _) ?_
                have hone : ∀ (s1 : St) (z : Operand), (∀ u d, z = .tmp u → getT u s1.tm = some d → VR (G.cx N ι) d (a.tmps.getD u undef)) → VR (G.cx N ι) (s1.ev1 z) (a.eval z) := fun s1 z hz => ev1_at hz
                have hkeep : ∀ (l : List (Nat × D)) u d, getT u l = some d → getT u (keepT [u] l) = some d := by
                  intro l
                  induction l with
                  | nil => intro u d h; cases h
                  | cons z l ih =>
                    obtain ⟨j', e⟩ := z
                    intro u d h
                    simp only [getT] at h
                    simp only [keepT]
                    by_cases hj' : j' = u
                    · subst hj'; rw [if_pos rfl] at h; simp [getT, h]
                    · rw [if_neg hj'] at h; simp [hj']; exact ih u d h
                cases t with
                | true =>
                  simp only [apick, if_true]
                  refine hone _ _ fun u d hz hd => hv u d ?_ ?_
                  · subst hz
                    have hne : ¬ tc = u := by simp [sameT] at hcx; exact hcx
                    show getT u ((tc, _) :: (keepT [u] _ ++ _)) = _
                    rw [getT, if_neg hne, getT_append, hkeep _ u d hd]
                  · subst hz; exact .inr (.inl ⟨by simp [opT], rfl⟩)
                | false =>
                  simp only [apick]
                  refine hone _ _ fun u d hz hd => hv u d ?_ ?_
                  · subst hz
                    have hne : ¬ tc = u := by simp [sameT] at hcy; exact hcy
                    have hnx : getT u (keepT (opT x) (s.over (ovOf gs tc true fr)).tm) = none := by
                      cases hh : getT u (keepT (opT x) (s.over (ovOf gs tc true fr)).tm) with
                      | none => rfl
                      | some z =>
                        have := (getT_keepT hh).1
                        cases x <;> simp [opT] at this
                        subst this
                        simp [sameT] at hxy
                    show getT u ((tc, _) :: (_ ++ keepT [u] _)) = _
                    rw [getT, if_neg hne, getT_append, hnx]
                    exact hkeep _ u d hd
                  · subst hz; exact .inr (.inr ⟨by simp [opT], rfl⟩)
              have hne : isEffQ A ops.size i o.op = false := by simp [isEffQ, isEff, hop, isPick]
              have hlk := DLink.step (cd := cd) (c := True) (b := apick t ((s.over (ovOf gs tc true fr)).ev1 x) ((s.over (ovOf gs tc false fr)).ev1 y)) (r := apick t ((s.over (ovOf gs tc true fr)).ev1 x) ((s.over (ovOf gs tc false fr)).ev1 y)) (gb := true) (R := []) (σ := s.σ) (nx := s.nx) (fr' := fr) (rd' := rd) (cg' := cg) hgs ok link ho (nd := nd)
                (fun _ => trivial) (fun j w hgd => by rw [hg] at hgd; cases hgd) hnd (fun he => by rw [hne] at he; cases he) (fun he => by rw [hne] at he; cases he) (fun _ _ σ nx _ => hsem σ nx) (fun _ => ⟨rfl, rfl⟩) hd (.inr ⟨rfl, trivial⟩) (fun j w ov hm => .inl hm)
                (fun _ => ⟨farR_nil cg, .inl rfl⟩) (fun x hx => hx) (fun he => by rw [hne] at he; cases he) (fun x hx => hx)
              exact goOn (by simp [Tr.ext]) (by simp [Tr.ext]) hlk hk
            · exact h.elim
          · exact h.elim
        · rename_i hpk
          have hpk : isPick o.op = none := hpk
          split at h
          · exact whole h
          · obtain ⟨T', s', rd', cg', e1, e2, hlk, hk⟩ := DLink.op (v := s.keep (tms o.op)) (gb := true) hgs ok link ho rfl rfl (fun t d hd => ⟨(getT_keepT hd).1, link.tm t d (getT_keepT hd).2⟩) (fun j w hgd => by rw [hg] at hgd; cases hgd) (by rw [hpk]; rfl) h
            exact goOn e1 e2 hlk hk
      · rename_i j want hg
        have hg : o.guard = some (j, want) := hg
        split at h
        · rename_i b hb
          obtain ⟨tg, htg, htv⟩ := gd_tmp hb
          have hjt := link.tm tg _ htv
          split at h
          · exact whole h
          · split at h
            · -- ahead
              rename_i hpure
              have hpure : isPure o.op = true := hpure
              have hne : isEffQ A ops.size i o.op = false := by simp [isEffQ, isEff, hpure]
              unfold doAheadD at h
              split at h
              · rename_i t hdst
                have hdst : o.dst = some t := hdst
                obtain ⟨hlt, hji, h⟩ := h
                have hov := link.over (want := want) hgs ok hji htg hjt
                have hdO : dstOk s o.dst := by rw [hdst]; exact hlt
                split at h
                · rename_i r σ1 nx1 hr
                  have hr : aop P ((s.over (getF j want fr)).keep (tms o.op)) o.op = some (r, σ1, nx1) := hr
                  obtain ⟨hfar, hk⟩ := h
                  have hlk := DLink.step (cd := fun _ => True) (c := b = want) (b := .undef) (r := r) (gb := b) (R := rdI o.op (idsV ((s.over (getF j want fr)).keep (tms o.op)).tm)) (σ := s.σ) (nx := s.nx) (fr' := ((j, want), (t, r) :: getF j want fr) :: delF j want fr) (rd' := addR i (rdI o.op (idsV ((s.over (getF j want fr)).keep (tms o.op)).tm)) rd) (cg' := cg) hgs ok link ho (nd := ((s.over (getF j want fr)).keep (tms o.op)).tm)
                    (fun h0 => by rw [hg] at h0; cases h0) (fun j' w' hgd => by rw [hg] at hgd; cases hgd; exact ⟨Iff.rfl, tg, htg, hjt⟩)
                    (fun t d hd => ⟨(getT_keepT hd).1, (hov t d (getT_keepT hd).2).mono (fun _ _ => ⟨rfl, rfl⟩) fun hh => hh.1⟩)
                    (fun he => by rw [hne] at he; cases he) (fun he => by rw [hne] at he; cases he)
                    (fun _ hc σ1 nx1 hag => SemStep.of_aop (n := s.n) (fun _ _ _ => trivial) (aop_look hpure hag hr)) (fun _ => ⟨rfl, rfl⟩) hdO (.inl rfl)
                    (fun j' w' ov hm => by
                      rcases List.mem_cons.1 hm with e | hm
                      · cases e
                        refine .inr ⟨t, getF j want fr, hdst, rfl, fun u d hu => ?_, hg, hji⟩
                        have hmem : ((j, want), getF j want fr) ∈ fr := by
                          have : ∀ fr : Fr, getT u (getF j want fr) = some d → ((j, want), getF j want fr) ∈ fr := by
                            intro fr
                            induction fr with
                            | nil => intro h; cases h
                            | cons z fr ih =>
                              obtain ⟨⟨i', c'⟩, ov⟩ := z
                              intro h
                              simp only [getF] at h ⊢
                              split
                              · rename_i he; obtain ⟨rfl, rfl⟩ := he; simp
                              · rename_i he; rw [if_neg he] at h; exact List.mem_cons_of_mem _ (ih h)
                          exact this fr hu
                        obtain ⟨_, b', q2, q3, q4⟩ := link.fr j want _ hmem
                        have hb' : b' = b := by
                          rcases hjt with q | ⟨q, qn⟩ | ⟨k, k1, k2, k3, k4⟩
                          · cases q
                          · exact absurd htg (qn j hji)
                          · obtain ⟨p, hp, hpd⟩ := gs_of hgs htg
                            obtain ⟨p', hp', hpd'⟩ := gs_of hgs k2
                            have := ok.once j k p p' tg hp hp' hpd hpd'
                            subst this
                            rw [q2] at k3; cases k3; rfl
                        subst hb'
                        exact q4 u d hu
                      · exact .inl (delF_mem hm))
                    (fun _ => ⟨hfar, mem_addR.2⟩) (mem_addR.1) (fun he => by rw [hne] at he; cases he) (fun x hx => hx)
                  exact goOn (by simp [Tr.ext]) (by simp [Tr.ext]) hlk hk
                · obtain ⟨hbw, hk⟩ := h
                  have hlk := DLink.step (cd := fun _ => True) (c := False) (b := .undef) (r := .undef) (gb := b) (R := []) (σ := s.σ) (nx := s.nx) (fr' := fr) (rd' := rd) (cg' := cg) hgs ok link ho (nd := [])
                    (fun h0 => by rw [hg] at h0; cases h0) (fun j' w' hgd => by rw [hg] at hgd; cases hgd; exact ⟨⟨fun h => h.elim, fun h => hbw h⟩, tg, htg, hjt⟩)
                    (fun t d hd => by cases hd) (fun he => by rw [hne] at he; cases he) (fun he => by rw [hne] at he; cases he) (fun _ hc => hc.elim) (fun _ => ⟨rfl, rfl⟩) hdO (.inl rfl) (fun j w ov hm => .inl hm)
                    (fun _ => ⟨farR_nil cg, .inl rfl⟩) (fun x hx => hx) (fun he => by rw [hne] at he; cases he) (fun x hx => hx)
                  exact goOn (by simp [Tr.ext]) (by simp [Tr.ext]) hlk hk
              · exact h.elim
            · rename_i hnp
              have hnp : ¬ isPure o.op = true := hnp
              obtain ⟨hji, hpk, hq, h⟩ := h
              have hpk : (isPick o.op).isNone = true := hpk
              have hgl : gs.length = ops.size := by rw [← hgs]; simp
              rw [hgl] at hq
              have hne : isEffQ A ops.size i o.op = true := by simp [isEffQ, isEff, hnp, hpk, hq]
              have hov := link.over (want := want) hgs ok hji htg hjt
              split at h
              · rename_i hbw
                obtain ⟨T', s', rd', cg', e1, e2, hlk, hk⟩ := DLink.op (v := (s.over (getF j want fr)).keep (tms o.op)) (gb := b) hgs ok link ho rfl rfl (fun t d hd => ⟨(getT_keepT hd).1, (hov t d (getT_keepT hd).2).mono (fun _ _ => ⟨rfl, rfl⟩) fun _ => hbw⟩)
                  (fun j' w' hgd => by rw [hg] at hgd; cases hgd; exact ⟨hbw, tg, htg, hjt⟩) hpk h
                exact goOn e1 e2 hlk hk
              · rename_i hbw
                obtain ⟨hd, hk⟩ := h
                have hd : dstOk s o.dst := hd
                have hlk := DLink.step (cd := fun _ => True) (c := False) (b := .undef) (r := .undef) (gb := b) (R := []) (σ := s.σ) (nx := s.nx) (fr' := fr) (rd' := rd) (cg' := cg) hgs ok link ho (nd := [])
                  (fun h0 => by rw [hg] at h0; cases h0) (fun j' w' hgd => by rw [hg] at hgd; cases hgd; exact ⟨⟨fun h => h.elim, fun h => hbw h⟩, tg, htg, hjt⟩)
                  (fun t d hd => by cases hd) (fun _ hc => hc.elim) (fun _ _ => ⟨rfl, rfl⟩) (fun he => by rw [hne] at he; cases he) (fun he => by rw [hne] at he; cases he) hd (.inl rfl) (fun j w ov hm => .inl hm)
                  (fun he => by rw [hne] at he; cases he) (fun x hx => hx) (fun _ => .inl fun _ => rfl) (fun x hx => hx)
                exact goOn (by simp [Tr.ext]) (by simp [Tr.ext]) hlk hk
        · exact h.elim

end
end
end Go.Apl

/- APL, part 21: drawn regions in code; calls in them. Over any program. -/
namespace Go.Apl
open Go
open Go.RowKit (Below)
set_option linter.unusedSimpArgs false
set_option linter.unusedVariables false

section
variable {P : Program} {Q : Exit → St → Prop} {s : St}

theorem Tr0 (s : St) : ∃ T : Tr, T.σ 0 = s.σ ∧ T.nx 0 = s.nx := ⟨⟨fun _ => [], fun _ _ => True, fun _ => .undef, fun _ => True, fun _ => s.σ, fun _ => s.nx, fun _ => true, fun _ => []⟩, rfl, rfl⟩

theorem draw_wp {id : Nat} {l : List Oper} {A : List (List Nat)} (hA : drawB l.toArray A = true) {K : St → Prop} (h : DL P (l.map (·.dst)) A K (l.map slim) 0 s [] [] []) {Q' : Exit → St → Prop} (hK : ∀ s', K s' → Q' .normal s') : Awp P (.region id l.toArray true) Q' s := by
  intro lay hm G hG a w ⟨N, ι, h1, h2⟩
  obtain ⟨T, t1, t2⟩ := Tr0 s
  have link : DLink P l.toArray A (l.map (·.dst)) s.tm s.n T 0 s [] [] [] := by
    constructor
    · intro k o hk; omega
    · intro i e o p hi; omega
    · intro k t hk; omega
    · rfl
    · exact t1
    · exact t2
    · exact fun t d hd => .inr (.inl ⟨hd, fun k hk => by omega⟩)
    · intro j w ov hm; cases hm
    · intro k o hk; omega
    · intro e p he; omega
  obtain ⟨T', s', he⟩ := h l.toArray l s.tm s.n T (by simp) (drawB_ok hA) (by simp) (by simp) rfl link
  refine wp_region_any hm ?_
  have hfalse : ∀ j, (Array.replicate l.toArray.size false).getD j false = false := fun j => by
    simp [Array.getD_eq_getD_getElem?, Array.getElem?_replicate]
    split <;> simp
  have fin : ∀ (a : Act) (w : World), a.tmps.size = s.n → a.defers = [] → (∃ N ι, HR G w N ι (T'.σ l.toArray.size) (T'.nx l.toArray.size) ∧ ∀ t d, Jt (l.map (·.dst)) s.tm T' l.toArray.size t d True → VR (G.cx N ι) d (a.tmps.getD t undef)) → lift G Q' .normal a w := by
    intro a w hs hd ⟨N, ι, q1, q2⟩
    exact ⟨s', hK s' he.K, N, ι, by rw [← he.σ, ← he.nx]; exact q1, by rw [hs, he.n], hd, fun t d hd => q2 t d (he.tm t d hd)⟩
  have inv : DInv G l.toArray A (l.map (·.dst)) s.tm s.n T' (Array.replicate l.toArray.size false) a { w with drawn := w.drawn + 1 } := by
    constructor
    · simp
    · intro j hj; rw [hfalse] at hj; cases hj
    · exact h2.size
    · exact h2.defers
    · refine ⟨0, Nat.zero_le _, fun e p _ _ => by rw [hfalse]; simp, N, ι, by rw [he.σ0, he.nx0, t1, t2]; exact h1.drew, fun t d hd _ => h2.get t d hd, fun i hi => by rw [hfalse] at hi; cases hi⟩
  exact DInv.any hG lay hm (by simp) (drawB_ok hA) he.tv he.far he.dst fin _ _ _ _ (by simp) inv

/-- A region that draws, then the rest. -/
theorem Awp.rgD (ks : List Nat) (A : List (List Nat)) {id : Nat} {l : List Oper} {y : Code} (hA : drawB l.toArray A = true) (h : ∀ K : St → Prop, (∀ s', Awp P y Q s' → K s') → runD P (l.map (·.dst)) A (fun s => K (s.keep ks)) (l.map slim) 0 s [] [] []) :
    Awp P (.seq (.region id l.toArray true) y) Q s :=
  Awp.seq (draw_wp hA (DL.of_run (h (fun s => Awp P y Q s) fun _ h => h)) fun s' h => Awp.keep ks h)
theorem Awp.rgDE (A : List (List Nat)) {id : Nat} {l : List Oper} (hA : drawB l.toArray A = true) (h : ∀ K : St → Prop, (∀ s', Q .normal s' → K s') → runD P (l.map (·.dst)) A K (l.map slim) 0 s [] [] []) :
    Awp P (.region id l.toArray true) Q s :=
  draw_wp hA (DL.of_run (h (fun s => Q .normal s) fun _ h => h)) fun s' h => h

variable {gs : List (Option Tmp)} {A : List (List Nat)} {K : St → Prop} {i : Nat} {fr : Fr} {rd cg : Rd}

theorem SemStep.call {o : Oper} {nd : List (Nat × D)} {cd : Nat → Prop} (hcd : ∀ t d, getT t nd = some d → cd t) {σ : Sg} {nx : Nat} {f : FuncId} {args : List Operand} {ats : Array TypeId} {dargs : List D} {r : D} (hc : PureF P f dargs r)
    (hop : o.op = .call ⟨.value (.func f), args.toArray, ats⟩) {n : Nat} (hargs : mapO (vw 9 σ) (args.map (St.mk n nd σ nx).ev1) = some dargs) (hfr : r.fresh = true) : SemStep P o nd cd σ nx r σ nx := by
  intro lay hm G hG a w N ι hr hdef hv K Q hK
  subst hG
  have hf : FrR (G.cx N ι) ⟨a.tmps.size, nd, σ, nx⟩ a := ⟨rfl, hdef, fun t d hd => hv t d hd (hcd t d hd)⟩
  exact run_goCall (s := ⟨a.tmps.size, nd, σ, nx⟩) hc lay hm hop hr hf hargs hfr fun v w' N' q1 q2 q3 => hK v w' N' ι q1 q2 q3

/-- A call of a function by its contract, in a region that draws. -/
theorem DL.callF {rest : List Sop} {dst : Option Tmp} {f : FuncId} {args : List Operand} {ats : Array TypeId}
    {dargs : List D} {r : D} (hc : PureF P f dargs r) (hargs : mapO (vw 9 s.σ) (args.map (s.keep (opsT args)).ev1) = some dargs) (hfr : r.fresh = true) (hd : dstOk s dst) (hq : quiet A gs.length i = false)
    (hK : runD P gs A K rest (i + 1) (s.put dst r s.σ s.nx) fr rd cg) : DL P gs A K (⟨dst, .call ⟨.value (.func f), args.toArray, ats⟩, none⟩ :: rest) i s fr rd cg := by
  intro ops l tm0 sz T hgs ok hl hn hsl link
  cases l with
  | nil => simp at hsl
  | cons o l =>
    simp only [List.map_cons, List.cons.injEq] at hsl
    obtain ⟨hso, rfl⟩ := hsl
    obtain ⟨e1, e2, e3⟩ := slim_op hso
    simp only at e1 e2 e3
    have ho : ops[i]? = some o := by simpa using (hl 0).symm
    have hl' : ∀ k, l[k]? = ops[i + 1 + k]? := fun k => by have := hl (k + 1); simpa [Nat.add_assoc, Nat.add_comm 1 k] using this
    have hn' : i + 1 + l.length = ops.size := by simp at hn; omega
    have hgl : gs.length = ops.size := by rw [← hgs]; simp
    rw [hgl] at hq
    have hne : isEffQ A ops.size i o.op = true := by rw [e2]; simp only [isEffQ, hq]; rfl
    have htm : tms o.op = opsT args := by rw [e2]; simp [tms, opT]
    have hlk := DLink.step (cd := fun _ => True) (c := True) (b := r) (r := r) (gb := true) (R := []) (σ := s.σ) (nx := s.nx) (fr' := fr) (rd' := rd) (cg' := cg) hgs ok link ho (nd := (s.keep (opsT args)).tm)
      (fun _ => trivial) (fun j w hgd => by rw [e3] at hgd; cases hgd)
      (fun t d hd => ⟨by rw [htm]; exact (getT_keepT hd).1, (link.tm t d (getT_keepT hd).2).mono (fun _ _ => ⟨rfl, rfl⟩) fun _ => trivial⟩)
      (fun _ _ => SemStep.call (n := s.n) (fun _ _ _ => trivial) hc e2 hargs hfr) (fun _ hc => absurd trivial hc)
      (fun he => by rw [hne] at he; cases he) (fun he => by rw [hne] at he; cases he) (by rw [e1]; exact hd) (.inr ⟨rfl, trivial⟩) (fun j w ov hm => .inl hm)
      (fun he => by rw [hne] at he; cases he) (fun x hx => hx) (fun _ => .inl fun _ => rfl) (fun x hx => hx)
    rw [← e1] at hK
    have := DL.of_run hK ops l tm0 sz _ hgs ok hl' hn' rfl hlk
    simpa [Tr.ext] using this

/-- A call under a guard, ahead, in a region that draws. -/
theorem DL.callG {rest : List Sop} {t : Tmp} {f : FuncId} {args : List Operand} {ats : Array TypeId} {j : Nat} {want b : Bool}
    {dargs : List D} {r : D} (hc : PureF P f dargs r) (hgd : s.gd gs j = some b) (hargs : mapO (vw 9 s.σ) (args.map ((s.over (getF j want fr)).keep (opsT args)).ev1) = some dargs) (hfr : r.fresh = true) (hd : t < s.n ∧ j < i) (hq : quiet A gs.length i = false)
    (hK : runD P gs A K rest (i + 1) (s.put (some t) .undef s.σ s.nx) (((j, want), (t, r) :: getF j want fr) :: delF j want fr) rd cg) : DL P gs A K (⟨some t, .call ⟨.value (.func f), args.toArray, ats⟩, some (j, want)⟩ :: rest) i s fr rd cg := by
  intro ops l tm0 sz T hgs ok hl hn hsl link
  cases l with
  | nil => simp at hsl
  | cons o l =>
    simp only [List.map_cons, List.cons.injEq] at hsl
    obtain ⟨hso, rfl⟩ := hsl
    obtain ⟨e1, e2, e3⟩ := slim_op hso
    simp only at e1 e2 e3
    have ho : ops[i]? = some o := by simpa using (hl 0).symm
    have hl' : ∀ k, l[k]? = ops[i + 1 + k]? := fun k => by have := hl (k + 1); simpa [Nat.add_assoc, Nat.add_comm 1 k] using this
    have hn' : i + 1 + l.length = ops.size := by simp at hn; omega
    have hgl : gs.length = ops.size := by rw [← hgs]; simp
    rw [hgl] at hq
    have hne : isEffQ A ops.size i o.op = true := by rw [e2]; simp only [isEffQ, hq]; rfl
    have htm : tms o.op = opsT args := by rw [e2]; simp [tms, opT]
    obtain ⟨tg, htg, htv⟩ := gd_tmp hgd
    have hjt := link.tm tg _ htv
    have hov := link.over (want := want) hgs ok hd.2 htg hjt
    have hlk := DLink.step (cd := fun _ => True) (c := b = want) (b := .undef) (r := r) (gb := b) (R := []) (σ := s.σ) (nx := s.nx) (fr' := ((j, want), (t, r) :: getF j want fr) :: delF j want fr) (rd' := rd) (cg' := cg) hgs ok link ho (nd := ((s.over (getF j want fr)).keep (opsT args)).tm)
      (fun h0 => by rw [e3] at h0; cases h0) (fun j' w' hgd => by rw [e3] at hgd; cases hgd; exact ⟨Iff.rfl, tg, htg, hjt⟩)
      (fun t d hd => ⟨by rw [htm]; exact (getT_keepT hd).1, (hov t d (getT_keepT hd).2).mono (fun _ _ => ⟨rfl, rfl⟩) fun hh => hh.1⟩)
      (fun _ _ => SemStep.call (n := s.n) (fun _ _ _ => trivial) hc e2 hargs hfr) (fun _ _ => ⟨rfl, rfl⟩)
      (fun he => by rw [hne] at he; cases he) (fun he => by rw [hne] at he; cases he) (by rw [e1]; exact hd.1) (.inl rfl)
      (fun j' w' ov hm => by
        rcases List.mem_cons.1 hm with e | hm
        · cases e
          refine .inr ⟨t, getF j want fr, e1, rfl, fun u d hu => ?_, e3, hd.2⟩
          have hmem : ((j, want), getF j want fr) ∈ fr := by
            have : ∀ fr : Fr, getT u (getF j want fr) = some d → ((j, want), getF j want fr) ∈ fr := by
              intro fr
              induction fr with
              | nil => intro h; cases h
              | cons z fr ih =>
                obtain ⟨⟨i', c'⟩, ov⟩ := z
                intro h
                simp only [getF] at h ⊢
                split
                · rename_i he; obtain ⟨rfl, rfl⟩ := he; simp
                · rename_i he; rw [if_neg he] at h; exact List.mem_cons_of_mem _ (ih h)
            exact this fr hu
          obtain ⟨_, b', q2, q3, q4⟩ := link.fr j want _ hmem
          have hb' : b' = b := by
            rcases hjt with q | ⟨q, qn⟩ | ⟨k, k1, k2, k3, k4⟩
            · cases q
            · exact absurd htg (qn j hd.2)
            · obtain ⟨p, hp, hpd⟩ := gs_of hgs htg
              obtain ⟨p', hp', hpd'⟩ := gs_of hgs k2
              have := ok.once j k p p' tg hp hp' hpd hpd'
              subst this
              rw [q2] at k3; cases k3; rfl
          subst hb'
          exact q4 u d hu
        · exact .inl (delF_mem hm))
      (fun he => by rw [hne] at he; cases he) (fun x hx => hx) (fun _ => .inl fun _ => rfl) (fun x hx => hx)
    rw [e1] at hlk
    have := DL.of_run hK ops l tm0 sz _ hgs ok hl' hn' rfl hlk
    simpa [Tr.ext] using this
end
end Go.Apl

/- APL, part 22: calls, as the walk asks for them. Over any program. -/
namespace Go.Apl
open Go
section
variable {P : Program} {s : St} {gs : List (Option Tmp)} {A : List (List Nat)} {K : St → Prop} {i : Nat} {fr : Fr} {rd cg : Rd} {rest : List Sop} {f : FuncId} {args : Array Operand} {ats : Array TypeId}

theorem RL.cF {dst : Option Tmp} (h : ∃ dargs, mapO (vw 9 s.σ) (args.toList.map s.ev1) = some dargs ∧ (freeF gs dst fr = true ∧ dstOk s dst) ∧ ∃ r, PureF P f dargs r ∧ r.fresh = true ∧ runL P gs K rest (s.put dst r s.σ s.nx) fr) :
    RL P gs (⟨dst, .call ⟨.value (.func f), args, ats⟩, none⟩ :: rest) s fr K := by
  obtain ⟨da, h1, h2, r, h3, h4, h5⟩ := h
  have := RL.callF (ats := ats) h3 h1 h4 h2 h5
  simpa using this
theorem RL.cG {t : Tmp} {j : Nat} {want : Bool} (h : ∃ b, s.gd gs j = some b ∧ ∃ dargs, mapO (vw 9 s.σ) (args.toList.map (s.over (getF j want fr)).ev1) = some dargs ∧ (freeF gs (some t) fr = true ∧ gs[j]? ≠ some (some t) ∧ t < s.n) ∧
    ∃ r, PureF P f dargs r ∧ r.fresh = true ∧ runL P gs K rest (s.put (some t) .undef s.σ s.nx) (((j, want), (t, r) :: getF j want fr) :: delF j want fr)) :
    RL P gs (⟨some t, .call ⟨.value (.func f), args, ats⟩, some (j, want)⟩ :: rest) s fr K := by
  obtain ⟨b, h0, da, h1, h2, r, h3, h4, h5⟩ := h
  have := RL.callG (ats := ats) h3 h0 h1 h4 h2 h5
  simpa using this
theorem DL.cF {dst : Option Tmp} (h : ∃ dargs, mapO (vw 9 s.σ) (args.toList.map (s.keep (opsT args.toList)).ev1) = some dargs ∧ dstOk s dst ∧ quiet A gs.length i = false ∧ ∃ r, PureF P f dargs r ∧ r.fresh = true ∧ runD P gs A K rest (i + 1) (s.put dst r s.σ s.nx) fr rd cg) :
    DL P gs A K (⟨dst, .call ⟨.value (.func f), args, ats⟩, none⟩ :: rest) i s fr rd cg := by
  obtain ⟨da, h1, h2, hq, r, h3, h4, h5⟩ := h
  have := DL.callF (ats := ats) h3 h1 h4 h2 hq h5
  simpa using this
theorem DL.cG {t : Tmp} {j : Nat} {want : Bool} (h : ∃ b, s.gd gs j = some b ∧ ∃ dargs, mapO (vw 9 s.σ) (args.toList.map ((s.over (getF j want fr)).keep (opsT args.toList)).ev1) = some dargs ∧ (t < s.n ∧ j < i) ∧ quiet A gs.length i = false ∧
    ∃ r, PureF P f dargs r ∧ r.fresh = true ∧ runD P gs A K rest (i + 1) (s.put (some t) .undef s.σ s.nx) (((j, want), (t, r) :: getF j want fr) :: delF j want fr) rd cg) :
    DL P gs A K (⟨some t, .call ⟨.value (.func f), args, ats⟩, some (j, want)⟩ :: rest) i s fr rd cg := by
  obtain ⟨b, h0, da, h1, h2, hq, r, h3, h4, h5⟩ := h
  have := DL.callG (ats := ats) h3 h0 h1 h4 h2 hq h5
  simpa using this

/-- Whether a slice is nil: an empty one may be. -/
def nilOK (d : D) (b : Bool) : Prop :=
  match d with
  | .lst _ _ _ ds => b = true → ds = []
  | .own _ _ n => b = true → n = 0
  | _ => False
def nilRes (op : BinOp) (b : Bool) : Bool := match op with | .eql => b | _ => !b
def isLst (d : D) : Bool :=
  match d with
  | .lst .. | .own .. => true
  | _ => false

theorem nil_val {C : Cx} {d : D} {v : Value} (h : VR1 C d v) (hl : isLst d = true) : ∃ A n c, v = .slice A n c ∧ nilOK d A.isNone := by
  cases d <;> simp [isLst] at hl
  · cases h with
    | lst0 A cap hx => exact ⟨A, 0, cap, rfl, fun _ => rfl⟩
    | lst b o cap ccs E' fr cs hne hb hs hc hcap hx => exact ⟨_, _, _, rfl, fun h => by simp at h⟩
  · cases h with
    | own l A cap hi ha hl hcap hA =>
      refine ⟨A, _, cap, rfl, fun h => ?_⟩
      rcases Nat.eq_zero_or_pos cap with h0 | h0
      · omega
      · obtain ⟨b, _, hb⟩ := hA h0
        rw [hb] at h; simp at h

/-- A comparison of a slice with nil: an empty slice may be nil or not. -/
theorem RL.nilC {dst : Option Tmp} {op : BinOp} {T : TypeId} {x : Operand} {yT : TypeId} (h : isLst (s.ev1 x) = true ∧ (∃ E, P.underlying T = some (.slice E)) ∧ (op = .eql ∨ op = .neq) ∧ (freeF gs dst fr = true ∧ dstOk s dst) ∧
    ∀ b : Bool, nilOK (s.ev1 x) b → runL P gs K rest (s.put dst (.v (.bool (nilRes op b))) s.σ s.nx) fr) :
    RL P gs (⟨dst, .binOp op T x (.const (.slice none 0 0)) yT, none⟩ :: rest) s fr K := by
  obtain ⟨hl, ⟨E, hu⟩, hop, hd, hK⟩ := h
  intro ops l Q hgs hll hKQ lay hm G hG a w N ι h1 h2 h3
  cases l with
  | nil => simp at hll
  | cons o l =>
    simp only [List.map_cons, List.cons.injEq] at hll
    obtain ⟨ho, rfl⟩ := hll
    obtain ⟨e1, e2, e3⟩ := slim_op ho
    simp only at e1 e2 e3
    simp only [wpList]
    rw [if_pos (by simp [Region.wanted, e3])]
    refine .inl ?_
    subst hG
    obtain ⟨A, n, c, hv, hb⟩ := nil_val (ev1_ok h2 x) hl
    have hrun : (execOp a.eval o).run G.P w = .ok (.value (.bool (nilRes op A.isNone))) w := by
      simp only [execOp, e2]
      have he : a.eval (.const (.slice none 0 0)) = .slice none 0 0 := rfl
      rw [hv, he]
      have hg : (eqGuard op T x (.const (.slice none 0 0)) (.slice A n c) (.slice none 0 0)).run G.P w = .ok () w := by
        unfold eqGuard
        rcases hop with rfl | rfl <;> simp
      rcases hop with rfl | rfl
      · rw [Sem.run_bind, Sem.run_bind, hg]
        simp only [Result.andThen_ok, Lib.run_eql_slice_nil w T E A n c 0 0 hu]
        rfl
      · rw [Sem.run_bind, Sem.run_bind, hg]
        simp only [Result.andThen_ok, binOp]
        simp [Op.equal, Op.maxDepth, Lib.run_equalIn_slice_nil w 9999 T E A n c 0 0 hu, nilRes]
    unfold Oper.wp
    rw [hrun]
    refine RL.run (hK _ hb) ops l Q hgs rfl hKQ lay hm G rfl _ _ N ι (by rw [St.over_put_σ (ov := []).1, (St.over_put_σ (ov := [])).2]; exact h1) (e1 ▸ h2.put (Cx.le.refl _) dst (VR.of1 (C := G.cx N ι) (d := .v (.bool (nilRes op A.isNone))) (FR.v rfl)) hd.2 _ _) (h3.put hgs (by rw [e1]; exact hd.1))

def retL (r : D) : List D := match r with | .tup l => l | d => [d]
/-- What a return asks, by equations. -/
def retE (P : Program) (rs : List ResultVar) (r : D) (s : St) : Prop :=
  match rets s P rs with
  | some ds => match mapO (frz 9 s.σ) ds with
    | some ds' => ds' = retL r
    | none => False
  | none => False
theorem retQ.of {rs : List ResultVar} {r : D} {e : Exit} {s : St} (he : e = .normal ∨ e = .ret) (h : retE P rs r s) : retQ P rs r e s := by
  unfold retE at h
  split at h
  · rename_i ds h1
    split at h
    · rename_i ds' h2
      subst h
      exact ⟨he, ds, _, h1, h2, by cases r <;> exact Dles.refl _⟩
    · exact h.elim
  · exact h.elim
end
end Go.Apl

/- APL, part 23: other names; contracts of functions that write. Over any program. -/
namespace Go.Apl
open Go
open Go.RowKit (Below)
set_option linter.unusedSimpArgs false
set_option linter.unusedVariables false

mutual
/-- A tree in other names. -/
def D.ren (f : Nat → Nat) : D → D
  | .ptr id p => .ptr (f id) p
  | .own id a b => .own (f id) a b
  | .st T ds => .st T (rens f ds)
  | .tup ds => .tup (rens f ds)
  | .fn g c => .fn g (rens f c)
  | .v x => .v x
  | .fptr T d => .fptr T d
  | .lst k x E ds => .lst k x E ds
  | .undef => .undef
def rens (f : Nat → Nat) : List D → List D
  | [] => []
  | d :: ds => d.ren f :: rens f ds
end
mutual
def D.ltN (n : Nat) : D → Bool
  | .ptr id _ => decide (id < n)
  | .own id _ _ => decide (id < n)
  | .st _ ds => ltNs n ds
  | .tup ds => ltNs n ds
  | .fn _ c => ltNs n c
  | _ => true
def ltNs (n : Nat) : List D → Bool
  | [] => true
  | d :: ds => d.ltN n && ltNs n ds
end

def renI (f : Nat → Nat) (n : Nat) (ι : Nat → Option Loc) : Nat → Option Loc := fun id => if id < n then ι (f id) else none
@[reducible] def Cx.ren (C : Cx) (f : Nat → Nat) (n : Nat) : Cx := ⟨C.P, C.I, C.N, renI f n C.ι⟩

theorem lab_ren {P : Program} {f : Nat → Nat} {d : D} {t : TypeId} : lab P (d.ren f) t ↔ lab P d t := by cases d <;> simp [D.ren, lab]

theorem renI_lt {f : Nat → Nat} {n id : Nat} {ι : Nat → Option Loc} {l : Loc} (h : ι (f id) = some l) (hn : id < n) : renI f n ι id = some l := by
  simp [renI, hn, h]

mutual
theorem FR.ren {C : Cx} {f : Nat → Nat} {n : Nat} : ∀ {d : D} {cs : List Value}, FR C (d.ren f) cs → d.ltN n = true → FR (C.ren f n) d cs
  | .v x, _, h, _ => by simp only [D.ren] at h; cases h with | v hx => exact .v hx
  | .st T ds, _, h, hb => by
    simp only [D.ren] at h
    cases h with | st ts hp hs => exact .st ts hp (FRs.ren hs (by simpa [D.ltN] using hb))
  | .tup ds, _, h, _ => by simp only [D.ren] at h; cases h
  | .ptr id p, _, h, hb => by
    simp only [D.ren] at h
    cases h with | ptr l b o T h1 h2 h3 => exact .ptr l b o T (renI_lt h1 (by simpa [D.ltN] using hb)) h2 h3
  | .fptr T d, _, h, _ => by
    simp only [D.ren] at h
    cases h with | fptr b o ccs E fr cs hb hd hl hz hc => exact .fptr b o ccs E fr cs hb hd hl hz hc
  | .lst k x E ds, _, h, _ => by
    simp only [D.ren] at h
    cases h with
    | lst0 A cap hx => exact .lst0 A cap hx
    | lst b o cap ccs E' fr cs hne hb hs hc hcap hx => exact .lst b o cap ccs E' fr cs hne hb hs hc hcap hx
  | .own id a b, _, h, hb => by
    simp only [D.ren] at h
    cases h with | own l A cap hi ha hl hcap hA => exact .own l A cap (renI_lt hi (by simpa [D.ltN] using hb)) ha hl hcap hA
  | .fn g c, _, h, hb => by
    simp only [D.ren] at h
    cases h with | fn vs hs => exact .fn vs (FR1.ren hs (by simpa [D.ltN] using hb))
  | .undef, _, h, _ => by simp only [D.ren] at h; cases h with | undef x hx => exact .undef x hx
theorem FRs.ren {C : Cx} {f : Nat → Nat} {n : Nat} : ∀ {ds : List D} {ts : List TypeId} {cs : List Value}, FRs C (rens f ds) ts cs → ltNs n ds = true → FRs (C.ren f n) ds ts cs
  | [], _, _, h, _ => by simp only [rens] at h; cases h; exact .nil
  | d :: ds, _, _, h, hb => by
    simp only [rens] at h
    simp [ltNs] at hb
    cases h with | cons hd hz hl hs => exact .cons (FR.ren hd hb.1) hz (lab_ren.1 hl) (FRs.ren hs hb.2)
theorem FR1.ren {C : Cx} {f : Nat → Nat} {n : Nat} : ∀ {ds : List D} {vs : List Value}, FR1 C (rens f ds) vs → ltNs n ds = true → FR1 (C.ren f n) ds vs
  | [], _, h, _ => by simp only [rens] at h; cases h; exact .nil
  | d :: ds, _, h, hb => by
    simp only [rens] at h
    simp [ltNs] at hb
    cases h with | cons hd hs => exact .cons (FR.ren hd hb.1) (FR1.ren hs hb.2)
end

theorem VR1.ren {C : Cx} {f : Nat → Nat} {n : Nat} {d : D} {v : Value} (h : VR1 C (d.ren f) v) (hb : d.ltN n = true) : VR1 (C.ren f n) d v := by
  cases d with
  | st T ds =>
    simp only [D.ren] at h
    obtain ⟨cs, e, hf⟩ := h
    exact ⟨cs, e, FR.ren (d := .st T ds) (by simpa only [D.ren] using hf) hb⟩
  | undef => trivial
  | v x => exact FR.ren (d := .v x) (show FR C ((D.v x).ren f) [v] from h) hb
  | tup ds => simp only [D.ren] at h; cases h
  | ptr id p => exact FR.ren (d := .ptr id p) (show FR C ((D.ptr id p).ren f) [v] from h) hb
  | fptr T d => exact FR.ren (d := .fptr T d) (show FR C ((D.fptr T d).ren f) [v] from h) hb
  | lst k x E ds => exact FR.ren (d := .lst k x E ds) (show FR C ((D.lst k x E ds).ren f) [v] from h) hb
  | own a b c => exact FR.ren (d := .own a b c) (show FR C ((D.own a b c).ren f) [v] from h) hb
  | fn g c => exact FR.ren (d := .fn g c) (show FR C ((D.fn g c).ren f) [v] from h) hb

theorem VRs.ren {C : Cx} {f : Nat → Nat} {n : Nat} : ∀ {ds : List D} {vs : List Value}, VRs C (rens f ds) vs → ltNs n ds = true → VRs (C.ren f n) ds vs
  | [], _, h, _ => by simp only [rens] at h; cases h; exact .nil
  | d :: ds, _, h, hb => by
    simp only [rens] at h
    simp [ltNs] at hb
    cases h with | cons hd hs => exact .cons (hd.ren hb.1) (VRs.ren hs hb.2)

theorem VR.ren {C : Cx} {f : Nat → Nat} {n : Nat} {d : D} {v : Value} (h : VR C (d.ren f) v) (hb : d.ltN n = true) : VR (C.ren f n) d v := by
  cases d with
  | tup ds =>
    simp only [D.ren] at h
    obtain ⟨vs, e, hv⟩ := h
    exact ⟨vs, e, VRs.ren hv (by simpa [D.ltN] using hb)⟩
  | undef => trivial
  | v x => exact VR1.ren (d := .v x) h hb
  | st T ds => exact VR1.ren (d := .st T ds) h hb
  | ptr id p => exact VR1.ren (d := .ptr id p) h hb
  | fptr T d => exact VR1.ren (d := .fptr T d) h hb
  | lst k x E ds => exact VR1.ren (d := .lst k x E ds) h hb
  | own a b c => exact VR1.ren (d := .own a b c) h hb
  | fn g c => exact VR1.ren (d := .fn g c) h hb

def AO.ren (f : Nat → Nat) : AO → AO
  | .box T d => .box T (d.ren f)
  | .arr E ds => .arr E (rens f ds)
  | .full E ds c => .full E (rens f ds) c
def AO.ltN (n : Nat) : AO → Bool
  | .box _ d => d.ltN n
  | .arr _ ds => ltNs n ds
  | .full _ ds _ => ltNs n ds

theorem rens_length {f : Nat → Nat} : ∀ {ds : List D}, (rens f ds).length = ds.length
  | [] => rfl
  | d :: ds => by simp [rens, rens_length (ds := ds)]

theorem ArrR.ren {C : Cx} {f : Nat → Nat} {n : Nat} {w : World} {E : TypeId} {ds : List D} {l : Loc} (h : ArrR C w E (rens f ds) l) (hb : ltNs n ds = true) : ArrR (C.ren f n) w E ds l := by
  obtain ⟨h1, h2, h3, h4⟩ := h
  refine ⟨h1, h2, h3, ?_⟩
  cases hlb : l.b with
  | none =>
    rw [hlb] at h4
    obtain ⟨h5, h6⟩ := h4
    refine ⟨List.eq_nil_of_length_eq_zero ?_, h6⟩
    rw [← rens_length (f := f), h5]; rfl
  | some b =>
    rw [hlb] at h4
    obtain ⟨cs, E', g1, g2, g3, g4⟩ := h4
    rw [rens_length] at g3 g4
    exact ⟨cs, E', g1, g2, g3, FRs.ren g4 hb⟩
theorem ObjR.ren {C : Cx} {f : Nat → Nat} {n : Nat} {w : World} {o : AO} {l : Loc} (h : ObjR C w (o.ren f) l) (hb : o.ltN n = true) : ObjR (C.ren f n) w o l := by
  cases o with
  | box T d =>
    simp only [AO.ren] at h
    obtain ⟨h1, h2, h3, h4, b, cs, E, h5, h6, h7, h8⟩ := h
    exact ⟨h1, h2, h3, lab_ren.1 h4, b, cs, E, h5, h6, h7.ren hb, h8⟩
  | arr E ds => exact ArrR.ren h hb
  | full E ds c => exact ⟨ArrR.ren h.1 hb, h.2⟩

/-- One store seen under other names. -/
structure RenS (f : Nat → Nat) (n : Nat) (σ σ' : Sg) : Prop where
  get : ∀ id o, getT id σ' = some o → id < n ∧ o.ltN n = true ∧ getT (f id) σ = some (o.ren f)
  inj : ∀ id id' o o', getT id σ' = some o → getT id' σ' = some o' → f id = f id' → id = id'

theorem HR.ren {G : Gh} {w : World} {N : Hp} {ι : Nat → Option Loc} {σ σ' : Sg} {nx n : Nat} {f : Nat → Nat} (h : HR G w N ι σ nx) (hr : RenS f n σ σ') (hp : ∀ id l, G.pin id = some l → id < n ∧ f id = id) : HR G w N (renI f n ι) σ' n := by
  refine ⟨h.I_le, h.N_le, h.N_new, h.os, h.tape, h.output, h.size, h.keep, ?_, ?_, ?_, ?_, ?_⟩
  · intro id o ho
    obtain ⟨h1, h2, h3⟩ := hr.get id o ho
    obtain ⟨l, hl, hob⟩ := h.obj _ _ h3
    exact ⟨l, renI_lt hl h1, hob.ren h2⟩
  · intro id id' o o' l l' b h1 h2 h3 h4 h5 h6
    obtain ⟨a1, a2, a3⟩ := hr.get id o h1
    obtain ⟨b1, b2, b3⟩ := hr.get id' o' h2
    simp [renI, a1] at h3
    simp [renI, b1] at h4
    exact hr.inj id id' o o' h1 h2 (h.sep _ _ _ _ _ _ _ a3 b3 h3 h4 h5 h6)
  · intro id o l b h1 h2 h3
    obtain ⟨a1, a2, a3⟩ := hr.get id o h1
    simp [renI, a1] at h2
    exact h.excl _ _ _ _ a3 h2 h3
  · intro id l hl
    simp only [renI] at hl
    split at hl
    · assumption
    · cases hl
  · intro id l hl
    obtain ⟨p1, p2⟩ := hp id l hl
    obtain ⟨p3, p4⟩ := h.pin id l hl
    exact ⟨p3, by simp [renI, p1, p2, p4]⟩

def renL (f : Nat → Nat) (n : Nat) (σ : Sg) : Sg → Prop
  | [] => True
  | (id, o) :: l => (id < n ∧ o.ltN n = true ∧ getT (f id) σ = some (o.ren f)) ∧ renL f n σ l
def renT (f : Nat → Nat) (n : Nat) (tm : List (Nat × D)) : List (Nat × D) → Prop
  | [] => True
  | (t, d) :: l => (d.ltN n = true ∧ getT t tm = some (d.ren f)) ∧ renT f n tm l

theorem getT_mem {α : Type} {k : Nat} {x : α} : ∀ {l : List (Nat × α)}, getT k l = some x → (k, x) ∈ l
  | (j, y) :: l, h => by
    simp only [getT] at h
    by_cases hj : j = k
    · rw [if_pos hj] at h; cases h; subst hj; simp
    · rw [if_neg hj] at h; exact List.mem_cons_of_mem _ (getT_mem h)
theorem renL_get {f : Nat → Nat} {n : Nat} {σ : Sg} {id : Nat} {o : AO} : ∀ {l : Sg}, renL f n σ l → (id, o) ∈ l → id < n ∧ o.ltN n = true ∧ getT (f id) σ = some (o.ren f)
  | (j, y) :: l, h, hm => by
    rcases List.mem_cons.1 hm with e | hm
    · cases e; exact h.1
    · exact renL_get h.2 hm
theorem renT_get {f : Nat → Nat} {n : Nat} {tm : List (Nat × D)} {t : Nat} {d : D} : ∀ {l : List (Nat × D)}, renT f n tm l → (t, d) ∈ l → d.ltN n = true ∧ getT t tm = some (d.ren f)
  | (j, y) :: l, h, hm => by
    rcases List.mem_cons.1 hm with e | hm
    · cases e; exact h.1
    · exact renT_get h.2 hm
theorem inj_of_nodup {f : Nat → Nat} : ∀ {l : Sg}, (l.map fun x => f x.1).Nodup → ∀ id id' o o', (id, o) ∈ l → (id', o') ∈ l → f id = f id' → id = id'
  | x :: l, h, id, id', o, o', h1, h2, he => by
    simp only [List.map_cons, List.nodup_cons, List.mem_map, not_exists, not_and] at h
    rcases List.mem_cons.1 h1 with e1 | h1 <;> rcases List.mem_cons.1 h2 with e2 | h2
    · rw [← e1] at e2; cases e2; rfl
    · exact absurd (by rw [← e1]; exact he.symm) (h.1 _ h2)
    · exact absurd (by rw [← e2]; exact he) (h.1 _ h1)
    · exact inj_of_nodup h.2 id id' o o' h1 h2 he

theorem RenS.of {f : Nat → Nat} {n : Nat} {σ σ' : Sg} (h : renL f n σ σ') (hn : (σ'.map fun x => f x.1).Nodup) : RenS f n σ σ' :=
  ⟨fun id o ho => renL_get h (getT_mem ho), fun id id' o o' h1 h2 => inj_of_nodup hn id id' o o' (getT_mem h1) (getT_mem h2)⟩

/-- A state in other names. -/
def St.renOK (f : Nat → Nat) (s s' : St) : Prop := s'.n = s.n ∧ renT f s'.nx s.tm s'.tm ∧ renL f s'.nx s.σ s'.σ ∧ (s'.σ.map fun x => f x.1).Nodup ∧ 8 ≤ s'.nx ∧ ([0, 1, 2, 3, 4, 5, 6, 7].map f) = [0, 1, 2, 3, 4, 5, 6, 7]
theorem SR.ren {G : Gh} {s s' : St} {a : Act} {w : World} {f : Nat → Nat} (h : SR G s a w) (hr : St.renOK f s s') : SR G s' a w := by
  obtain ⟨N, ι, h1, h2⟩ := h
  obtain ⟨r1, r2, r3, r4, r5, r6⟩ := hr
  have hpin : ∀ id l, G.pin id = some l → id < s'.nx ∧ f id = id := fun id l hl => by
    have := (h1.pin id l hl).1
    refine ⟨by omega, ?_⟩
    simp at r6
    obtain ⟨a0, a1, a2, a3, a4, a5, a6, a7⟩ := r6
    have : id = 0 ∨ id = 1 ∨ id = 2 ∨ id = 3 ∨ id = 4 ∨ id = 5 ∨ id = 6 ∨ id = 7 := by omega
    rcases this with h | h | h | h | h | h | h | h <;> subst h <;> assumption
  refine ⟨N, _, h1.ren (RenS.of r3 r4) hpin, by rw [r1]; exact h2.size, h2.defers, fun t d hd => ?_⟩
  obtain ⟨b1, b2⟩ := renT_get r2 (getT_mem hd)
  exact VR.ren (h2.get t _ b2) b1
theorem Awp.ren {P : Program} {c : Code} {Q : Exit → St → Prop} {s : St} (f : Nat → Nat) (s' : St) (hr : St.renOK f s s') (h : Awp P c Q s') : Awp P c Q s :=
  fun lay hm G hG a w hs => h lay hm G hG a w (hs.ren hr)

/-! ### Contracts -/
theorem HR.unpin {P : Program} {w0 w : World} {I : Hp} {F : Nat → Prop} {p : Nat → Option Loc} {N : Hp} {ι : Nat → Option Loc} {σ : Sg} {nx : Nat} (h : HR ⟨P, w0, I, F, p⟩ w N ι σ nx) : HR ⟨P, w0, I, F, fun _ => none⟩ w N ι σ nx :=
  ⟨h.I_le, h.N_le, h.N_new, h.os, h.tape, h.output, h.size, h.keep, h.obj, h.sep, h.excl, h.names, fun _ _ h => by cases h⟩

/-- A function that gets some objects in canonical names and changes them; those of kp stay where they were. -/
structure MutF (P : Program) (f : FuncId) (σ1 : Sg) (nx1 : Nat) (args : List D) (σ2 : Sg) (nx2 : Nat) (kp : List Nat) (r : D) : Prop where
  go : goF P f = true
  run : LayOK P → P.follows .mixedOrders = true → ∀ (w : World) (I : Hp) (F : Nat → Prop) (ι : Nat → Option Loc) (vals : List Value), HR ⟨P, w, I, F, fun _ => none⟩ w Hp.none ι σ1 nx1 → VRs ⟨P, I, Hp.none, ι⟩ args vals →
    Calls P f vals.toArray w fun e w' => ∃ v N' ι', e = .returned v ∧ HR ⟨P, w, I, F, fun _ => none⟩ w' N' ι' σ2 nx2 ∧ VR ⟨P, I, N', ι'⟩ r v ∧ ∀ c ∈ kp, ∀ l, ι c = some l → ι' c = some l

def retM (P : Program) (rs : List ResultVar) (σ2 : Sg) (nx2 : Nat) (kp : List Nat) (r : D) : Exit → St → Prop := fun e s =>
  (e = .normal ∨ e = .ret) ∧ ∃ (g : Nat → Nat) (ds : List D), rets s P rs = some ds ∧ ds = rens g (retL r) ∧ ltNs nx2 (retL r) = true ∧ renL g nx2 s.σ σ2 ∧ (σ2.map fun x => g x.1).Nodup ∧ ∀ c ∈ kp, c < nx2 ∧ g c = c

theorem MutF.intro {P : Program} {f : FuncId} {fn : Func} {c : Code} {σ1 : Sg} {nx1 : Nat} {args : List D} {σ2 : Sg} {nx2 : Nat} {kp : List Nat} {r : D} (hf : P.funcs[f]? = some fn) (hb : fn.body = some c) (hgo : goF P f = true) (hn : args.length ≤ fn.ntmps)
    (hkp : ∀ c ∈ kp, c < 8)
    (hr : match r with | .tup l => fn.results.size = l.length ∧ l.length ≠ 1 | _ => fn.results.size = 1)
    (h : Awp P c (retM P fn.results.toList σ2 nx2 kp r) ⟨fn.ntmps, argTm args, σ1, nx1⟩) : MutF P f σ1 nx1 args σ2 nx2 kp r := by
  refine ⟨hgo, fun lay hm w I F ι vals h0 hv => ?_⟩
  have hlen := hv.length
  refine calls_of_wp hf hb ?_
  let p : Nat → Option Loc := fun c => if c ∈ kp then ι c else none
  have h0' : HR ⟨P, w, I, F, p⟩ w Hp.none ι σ1 nx1 := ⟨h0.I_le, h0.N_le, h0.N_new, h0.os, h0.tape, h0.output, h0.size, h0.keep, h0.obj, h0.sep, h0.excl, h0.names, fun id l hl => by
    simp only [p] at hl
    split at hl
    · rename_i hk; exact ⟨hkp id hk, hl⟩
    · cases hl⟩
  have hsr : SR ⟨P, w, I, F, p⟩ ⟨fn.ntmps, argTm args, σ1, nx1⟩ { tmps := vals.toArray ++ Array.replicate (fn.ntmps - vals.toArray.size) undef, defers := [] } w := by
    refine ⟨Hp.none, ι, h0', by simp; omega, rfl, fun t d hd => ?_⟩
    have hd := getT_argTm hd
    obtain ⟨v, q1, q2⟩ := hv.get t d hd
    have ht : t < vals.length := (List.getElem?_eq_some_iff.1 q1).1
    have e : (vals.toArray ++ Array.replicate (fn.ntmps - vals.toArray.size) undef).getD t undef = v := by
      rw [Array.getD_eq_getD_getElem?, Array.getElem?_append_left (by simpa using ht)]
      simp [q1]
    rw [e]
    exact VR.of1 q2
  refine wp_mono (h lay hm _ rfl _ w hsr) fun e a w' ⟨t, q, hs⟩ => ?_
  obtain ⟨he, g, ds, q1, q2, q3, q4, q5, q6⟩ := q
  obtain ⟨N, ι', h1, h2⟩ := hs
  obtain ⟨vs, r1, r2⟩ := run_rets (G := ⟨P, w, I, F, p⟩) lay h1 h2 _ _ q1
  have hren := h1.unpin.ren (RenS.of q4 q5) (fun _ _ h => by cases h)
  have hkeep : ∀ c ∈ kp, ∀ l, ι c = some l → renI g nx2 ι' c = some l := fun c hc l hl => by
    have := (h1.pin c l (by simp only [p]; rw [if_pos hc]; exact hl)).2
    obtain ⟨k1, k2⟩ := q6 c hc
    simp [renI, k1, k2, this]
  rw [q2] at r2
  have hres0 := VRs.ren r2 q3
  have hrun : (results fn a.tmps).run P w' = .ok (if h : vs.toArray.size = 1 then vs.toArray[0] else .tuple vs.toArray) w' := by
    show ((fn.results.mapM (resOne a)) >>= fun vs => (pure (if h : vs.size = 1 then vs[0] else .tuple vs) : Sem Value)).run P w' = _
    rw [Sem.run_bind, Array.mapM_eq_mapM_toList, Sem.run_map, r1]
    rfl
  have hres : VR ⟨P, I, N, renI g nx2 ι'⟩ r (if h : vs.toArray.size = 1 then vs.toArray[0] else .tuple vs.toArray) := by
    cases r with
    | tup l =>
      replace hres0 : VRs _ l vs := hres0
      have hvl := hres0.length
      replace hr : fn.results.size = l.length ∧ l.length ≠ 1 := hr
      have hne : ¬ vs.toArray.size = 1 := by simp; omega
      rw [dif_neg hne]
      exact ⟨vs.toArray, rfl, by simpa using hres0⟩
    | _ =>
      all_goals
        cases hres0 with
        | cons hd hs =>
          cases hs
          rw [dif_pos (by simp)]
          exact VR.of1 (by simpa using hd)
  rcases he with rfl | rfl
  · exact ⟨h2.defers, _, hrun, _, N, _, rfl, hren, hres, hkeep⟩
  · exact ⟨h2.defers, _, hrun, _, N, _, rfl, hren, hres, hkeep⟩
end Go.Apl
