/- Part of a proof: the texts T13, T14, T15, T16, T17, T18, T19, T20, T21 of a library of data trees, abstract stores and contracts, joined. -/
import Derived.Test.YtpdenmclcnkaaaaGreatDoorL9
/- Contracts: an errand's command, what commands make, equal versions. -/
namespace Go.Apl
open Go Go.Proofs
set_option maxRecDepth 100000
set_option linter.unusedSimpArgs false
set_option linter.unusedVariables false

structure Errand where
  What : Nat
  Client : Nat
  User : Nat
  Key : Nat
def Errand.enc (e : Errand) : D := .st 33 [.v (.int .u8 e.What), .v (.int .u8 e.Client), .v (.int .u8 e.User), .v (.int .u8 e.Key)]
attribute [simp] Errand.enc
def userS : Nat → ByteArray
  | 0 => { data := #[97] }
  | 1 => { data := #[98] }
  | 2 => { data := #[99, 99] }
  | _ => { data := #[117, 0] }
def keyS (k : Nat) : ByteArray := mkBytes [(k : Int), 107]
def cmdS (e : Errand) : Command × Bool :=
  if e.What % 8 = 0 ∨ e.What % 8 = 1 then (⟨1, 0, 0, userS (e.User % 4), keyS e.Key, 0⟩, true)
  else if e.What % 8 = 2 then (⟨2, 0, 0, userS (e.User % 4), keyS e.Key, 0⟩, true)
  else if e.What % 8 = 3 then (⟨3, 0, 0, userS (e.User % 4), noStr, 0⟩, true)
  else (⟨0, 0, 0, noStr, noStr, 0⟩, false)
mutual
theorem dle1_self : ∀ {d : D}, d.plain = true → dle1 d d
  | .v _, _ => rfl
  | .st T ds, h => ⟨rfl, dles1_self (by simpa [D.plain] using h)⟩
  | .tup _, _ => rfl
  | .ptr .., _ => rfl
  | .fptr .., _ => rfl
  | .lst .., h | .own .., h | .fn .., h | .undef, h => by simp [D.plain] at h
theorem dles1_self : ∀ {ds : List D}, plains ds = true → dles1 ds ds
  | [], _ => trivial
  | d :: ds, h => by simp [plains] at h; exact ⟨dle1_self h.1, dles1_self h.2⟩
end
@[simp] theorem zDig_dle : dle1 zDig zDig := dle1_self zDig_plain
theorem tmodN (a b : Nat) : ((a : Int).tmod (b : Int)) = ((a % b : Nat) : Int) := rfl
theorem command_c (e : Errand) : PureF Tryz.prog 5 [e.enc] (.tup [(cmdS e).1.enc, .v (.bool (cmdS e).2)]) := by
  obtain ⟨w, cl, u, k⟩ := e
  obtain ⟨q, hq⟩ : ∃ q, q = u % 4 := ⟨_, rfl⟩
  obtain ⟨r, hr⟩ : ∃ r, r = w % 8 := ⟨_, rfl⟩
  have hq4 : q < 4 := by omega
  have h1 : (u : Int).tmod 4 = (q : Int) := by rw [hq]; exact tmodN u 4
  have h2 : (w : Int).tmod 8 = (r : Int) := by rw [hr]; exact tmodN w 8
  have hix : [D.v (.string { data := #[97] }), .v (.string { data := #[98] }), .v (.string { data := #[99, 99] }), .v (.string { data := #[117, 0] })][q]? = some (.v (.string (userS q))) := by
    have : q = 0 ∨ q = 1 ∨ q = 2 ∨ q = 3 := by omega
    rcases this with h | h | h | h <;> subst h <;> rfl
  refine PureF.intro (c := _) Tryz.func5 rfl (by kernel_rfl) (by rw [Tryz.ntmps5]; simp) (by simp [Tryz.results5]) ?_
  refine Awp.rg [1, 2] fun K hK => ?_
  simp
  refine hK _ ?_; clear hK K
  refine Awp.rg [1, 2, 4] fun K hK => ?_
  simp [h1, hix]
  repeat (rw [if_pos (by omega)]; simp [h1, hix])
  refine hK _ ?_; clear hK K
  refine Awp.rg [1, 2, 4, 5] fun K hK => ?_
  simp
  refine hK _ ?_; clear hK K
  refine Awp.seq ?_
  refine Awp.rg [2, 4, 5, 18] fun K hK => ?_
  simp [h2]
  refine hK _ ?_; clear hK K
  refine Awp.block ?_
  refine Awp.seq ?_
  refine Awp.rg [2, 4, 5, 18, 19] fun K hK => ?_
  simp
  refine hK _ ?_; clear hK K
  refine Awp.cond _ rfl (fun h => ?_) (fun h => ?_)  -- C0
  · try simp at h
    all_goals try (exfalso; omega)
    all_goals
      have n0 : r = 0 := by omega
      refine Awp.skip ?_
      try simp only [thenQ, inBlk, ↓reduceIte]
      refine Awp.cond _ rfl (fun h => ?_) (fun h => ?_)  -- C1
      · try simp at h
        all_goals try (exfalso; omega)
        all_goals
          refine Awp.rg [2, 3] fun K hK => ?_
          simp
          refine hK _ ?_; clear hK K
          refine Awp.ret ?_
          try simp only [thenQ, inBlk, ↓reduceIte]
          -- RET 0
          refine retQ.of2 (by simp) ?_
          simp [Tryz.results5]
          simp only [cmdS, ← hq, ← hr]; clear hq hr; simp [keyS, noStr, *]
      · try simp at h
        all_goals try (exfalso; omega)
        all_goals
          refine Awp.rg [2, 4, 5, 18, 25] fun K hK => ?_
          simp
          refine hK _ ?_; clear hK K
          refine Awp.cond _ rfl (fun h => ?_) (fun h => ?_)  -- C2
          · try simp at h
            all_goals try (exfalso; omega)
            all_goals
              refine Awp.rg [2, 3] fun K hK => ?_
              simp
              refine hK _ ?_; clear hK K
              refine Awp.ret ?_
              try simp only [thenQ, inBlk, ↓reduceIte]
              -- RET 1
              refine retQ.of2 (by simp) ?_
              simp [Tryz.results5]
              simp only [cmdS, ← hq, ← hr]; clear hq hr; simp [keyS, noStr, *]
          · try simp at h
            all_goals try (exfalso; omega)
            all_goals
              refine Awp.rg [2, 4, 30] fun K hK => ?_
              simp
              refine hK _ ?_; clear hK K
              refine Awp.cond _ rfl (fun h => ?_) (fun h => ?_)  -- C3
              · try simp at h
                all_goals try (exfalso; omega)
                all_goals
                  refine Awp.rg [2, 3] fun K hK => ?_
                  simp
                  refine hK _ ?_; clear hK K
                  refine Awp.ret ?_
                  try simp only [thenQ, inBlk, ↓reduceIte]
                  -- RET 2
                  refine retQ.of2 (by simp) ?_
                  simp [Tryz.results5]
                  simp only [cmdS, ← hq, ← hr]; clear hq hr; simp [keyS, noStr, *]
              · try simp at h
                all_goals try (exfalso; omega)
                all_goals
                  refine Awp.skip ?_
                  try simp only [thenQ, inBlk, ↓reduceIte]
                  refine Awp.rg [2, 3] fun K hK => ?_
                  simp
                  refine hK _ ?_; clear hK K
                  refine Awp.ret ?_
                  try simp only [thenQ, inBlk, ↓reduceIte]
                  -- RET 3
                  refine retQ.of2 (by simp) ?_
                  simp [Tryz.results5]
                  simp only [cmdS, ← hq, ← hr]; clear hq hr; simp [keyS, noStr, *]
  · try simp at h
    all_goals try (exfalso; omega)
    all_goals
      have n0 : ¬ r = 0 := by omega
      refine Awp.rgE fun K hK => ?_
      simp
      refine hK _ ?_; clear hK K
      try simp only [thenQ, inBlk, ↓reduceIte]
      refine Awp.cond _ rfl (fun h => ?_) (fun h => ?_)  -- C4
      · try simp at h
        all_goals try (exfalso; omega)
        all_goals
          have n1 : r = 1 := by omega
          refine Awp.rg [2, 3] fun K hK => ?_
          simp
          refine hK _ ?_; clear hK K
          refine Awp.ret ?_
          try simp only [thenQ, inBlk, ↓reduceIte]
          -- RET 4
          refine retQ.of2 (by simp) ?_
          simp [Tryz.results5]
          simp only [cmdS, ← hq, ← hr]; clear hq hr; simp [keyS, noStr, *]
      · try simp at h
        all_goals try (exfalso; omega)
        all_goals
          have n1 : ¬ r = 1 := by omega
          refine Awp.rg [2, 4, 5, 18, 25] fun K hK => ?_
          simp
          refine hK _ ?_; clear hK K
          refine Awp.cond _ rfl (fun h => ?_) (fun h => ?_)  -- C5
          · try simp at h
            all_goals try (exfalso; omega)
            all_goals
              have n2 : r = 2 := by omega
              refine Awp.rg [2, 3] fun K hK => ?_
              simp
              refine hK _ ?_; clear hK K
              refine Awp.ret ?_
              try simp only [thenQ, inBlk, ↓reduceIte]
              -- RET 5
              refine retQ.of2 (by simp) ?_
              simp [Tryz.results5]
              simp only [cmdS, ← hq, ← hr]; clear hq hr; simp [keyS, noStr, *]
          · try simp at h
            all_goals try (exfalso; omega)
            all_goals
              have n2 : ¬ r = 2 := by omega
              refine Awp.rg [2, 4, 30] fun K hK => ?_
              simp
              refine hK _ ?_; clear hK K
              refine Awp.cond _ rfl (fun h => ?_) (fun h => ?_)  -- C6
              · try simp at h
                all_goals try (exfalso; omega)
                all_goals
                  have n3 : r = 3 := by omega
                  refine Awp.rg [2, 3] fun K hK => ?_
                  simp
                  refine hK _ ?_; clear hK K
                  refine Awp.ret ?_
                  try simp only [thenQ, inBlk, ↓reduceIte]
                  -- RET 6
                  refine retQ.of2 (by simp) ?_
                  simp [Tryz.results5]
                  simp only [cmdS, ← hq, ← hr]; clear hq hr; simp [keyS, noStr, *]
              · try simp at h
                all_goals try (exfalso; omega)
                all_goals
                  have n3 : ¬ r = 3 := by omega
                  refine Awp.skip ?_
                  try simp only [thenQ, inBlk, ↓reduceIte]
                  refine Awp.rg [2, 3] fun K hK => ?_
                  simp
                  refine hK _ ?_; clear hK K
                  refine Awp.ret ?_
                  try simp only [thenQ, inBlk, ↓reduceIte]
                  -- RET 7
                  refine retQ.of2 (by simp) ?_
                  simp [Tryz.results5]
                  simp only [cmdS, ← hq, ← hr]; clear hq hr; simp [keyS, noStr, *]
end Go.Apl

/- Order of names; what commands make; the contract of made. -/
namespace Go.Apl
open Go Go.Proofs
set_option maxRecDepth 100000
set_option linter.unusedSimpArgs false
set_option linter.unusedVariables false

/-! ### The order of byte rows -/
theorem less_iff : ∀ (a b : List UInt8), Op.bytesLess a b = decide (Lib.compareBytes a b < 0)
  | [], [] => rfl
  | [], _ :: _ => rfl
  | _ :: _, [] => rfl
  | a :: x, b :: y => by
    have ih := less_iff x y
    simp only [Op.bytesLess, Lib.compareBytes]
    by_cases h : a < b
    · simp [h]
    · by_cases h2 : b < a
      · have : ¬ a = b := by rintro rfl; exact h h2
        simp [h, h2, this]
      · have : a = b := UInt8.le_antisymm (UInt8.not_lt.1 h2) (UInt8.not_lt.1 h)
        subst this
        simp [h, ih]
theorem cmp_zero : ∀ (a b : List UInt8), Lib.compareBytes a b = 0 ↔ a = b
  | [], [] => by simp [Lib.compareBytes]
  | [], _ :: _ => by simp [Lib.compareBytes]
  | _ :: _, [] => by simp [Lib.compareBytes]
  | a :: x, b :: y => by
    have ih := cmp_zero x y
    simp only [Lib.compareBytes]
    by_cases h : a < b
    · have : ¬ a = b := by rintro rfl; exact UInt8.lt_irrefl _ h
      simp [h, this]
    · by_cases h2 : b < a
      · have : ¬ a = b := by rintro rfl; exact h h2
        simp [h, h2, this]
      · have : a = b := UInt8.le_antisymm (UInt8.not_lt.1 h2) (UInt8.not_lt.1 h)
        subst this
        simp [h, ih]
theorem cmp_flip : ∀ (a b : List UInt8), Lib.compareBytes b a = - Lib.compareBytes a b
  | [], [] => rfl
  | [], _ :: _ => rfl
  | _ :: _, [] => rfl
  | a :: x, b :: y => by
    have ih := cmp_flip x y
    simp only [Lib.compareBytes]
    by_cases h : a < b
    · have : ¬ b < a := UInt8.not_lt.2 (UInt8.le_of_lt h)
      simp [h, this]
    · by_cases h2 : b < a
      · simp [h, h2]
      · simp [h, h2, ih]
theorem cmp_trans : ∀ (a b c : List UInt8), Lib.compareBytes a b < 0 → Lib.compareBytes b c < 0 → Lib.compareBytes a c < 0
  | [], [], _, h, _ => by simp [Lib.compareBytes] at h
  | [], _ :: _, [], _, h => by simp [Lib.compareBytes] at h
  | [], _ :: _, _ :: _, _, _ => by simp [Lib.compareBytes]
  | _ :: _, [], _, h, _ => by simp [Lib.compareBytes] at h
  | _ :: _, _ :: _, [], _, h => by simp [Lib.compareBytes] at h
  | a :: x, b :: y, c :: z, h1, h2 => by
    have ih := cmp_trans x y z
    simp only [Lib.compareBytes] at h1 h2 ⊢
    by_cases hab : a < b
    · by_cases hbc : b < c
      · simp [UInt8.lt_trans hab hbc]
      · by_cases hcb : c < b
        · simp [hbc, hcb] at h2
        · have : b = c := UInt8.le_antisymm (UInt8.not_lt.1 hcb) (UInt8.not_lt.1 hbc)
          subst this; simp [hab]
    · by_cases hba : b < a
      · simp [hab, hba] at h1
      · have : a = b := UInt8.le_antisymm (UInt8.not_lt.1 hba) (UInt8.not_lt.1 hab)
        subst this
        simp [hab] at h1
        by_cases hbc : a < c
        · simp [hbc]
        · by_cases hcb : c < a
          · simp [hbc, hcb] at h2
          · simp [hbc, hcb] at h2 ⊢
            exact ih h1 h2
theorem toList_eq (a : ByteArray) : a.toList = a.data.toList := ByteArray.toList_eq a
theorem strLt_iff (a b : ByteArray) : strLt a b = decide (strCmp a b < 0) := by simp only [strLt, strCmp, toList_eq, less_iff]; congr
theorem strCmp_zero (a b : ByteArray) : strCmp a b = 0 ↔ a = b := by
  simp only [strCmp, cmp_zero]
  constructor
  · intro h; exact ByteArray.ext (Array.toList_inj.1 h)
  · rintro rfl; rfl
theorem strCmp_flip (a b : ByteArray) : strCmp b a = - strCmp a b := cmp_flip _ _
theorem strCmp_trans {a b c : ByteArray} (h1 : strCmp a b < 0) (h2 : strCmp b c < 0) : strCmp a c < 0 := cmp_trans _ _ _ h1 h2
theorem strEq_iff2 (a b : ByteArray) : strEq a b = decide (a = b) := by
  by_cases h : a = b
  · subst h; simp [strEq]
  · have : ¬ a.toList = b.toList := fun e => h ((strCmp_zero a b).1 (by simp only [strCmp, cmp_zero]; rw [← toList_eq, ← toList_eq]; exact e))
    simp [strEq, h, this]
theorem not_le {a b : ByteArray} (h : (strLt a b || strEq a b) = false) : strCmp b a < 0 := by
  simp [strLt_iff, strEq_iff2] at h
  have h0 : ¬ strCmp a b = 0 := fun e => h.2 ((strCmp_zero a b).1 e)
  have := strCmp_flip a b
  omega

/-! ### Places in the users and the sessions -/
theorem uOKs_lt : ∀ {e : Int} {l : List User} {was : ByteArray}, uOKs e was l = true → ∀ u ∈ l, strCmp was u.Name < 0
  | _, [], _, _, _, h => by simp at h
  | e, u :: l, was, h, v, hv => by
    simp [uOKs, uOK] at h
    obtain ⟨⟨⟨⟨⟨⟨h1, h2⟩, _⟩, _⟩, _⟩, _⟩, h3⟩ := h
    have h0 : strCmp was u.Name < 0 := not_le (by simp [h1, h2])
    rcases List.mem_cons.1 hv with rfl | hv
    · exact h0
    · exact strCmp_trans h0 (uOKs_lt h3 v hv)
theorem sOKs_lt : ∀ {e : Int} {l : List Session} {last : Int}, sOKs e last l = true → ∀ s ∈ l, last < s.Client
  | _, [], _, _, _, h => by simp at h
  | e, s :: l, last, h, v, hv => by
    simp [sOKs, sOK] at h
    obtain ⟨⟨⟨⟨⟨h1, _⟩, _⟩, _⟩, _⟩, h3⟩ := h
    rcases List.mem_cons.1 hv with rfl | hv
    · exact h1
    · have := sOKs_lt h3 v hv; omega
theorem splitU (n : ByteArray) : ∀ {e : Int} {l : List User} {was : ByteArray}, uOKs e was l = true → ∃ A C, (∀ a ∈ A, strCmp a.Name n < 0) ∧ (∀ c ∈ C, 0 < strCmp c.Name n) ∧ (l = A ++ C ∨ ∃ v, l = A ++ ⟨n, v⟩ :: C)
  | _, [], _, _ => ⟨[], [], by simp, by simp, .inl rfl⟩
  | e, u :: l, was, h => by
    have h3 : uOKs e u.Name l = true := by simp [uOKs] at h; exact h.2
    have hlt := uOKs_lt h3
    rcases Int.lt_trichotomy (strCmp u.Name n) 0 with hc | hc | hc
    · obtain ⟨A, C, hA, hC, hl⟩ := splitU n h3
      refine ⟨u :: A, C, ?_, hC, ?_⟩
      · intro a ha
        rcases List.mem_cons.1 ha with rfl | ha
        · exact hc
        · exact hA a ha
      · rcases hl with rfl | ⟨v, rfl⟩
        · exact .inl rfl
        · exact .inr ⟨v, rfl⟩
    · have hn := (strCmp_zero _ _).1 hc
      refine ⟨[], l, by simp, fun c hm => ?_, .inr ⟨u.Versions, by simp [← hn]⟩⟩
      have := hlt c hm
      rw [hn] at this
      have := strCmp_flip n c.Name
      omega
    · refine ⟨[], u :: l, by simp, fun c hm => ?_, .inl rfl⟩
      rcases List.mem_cons.1 hm with rfl | hm
      · exact hc
      · have h1 := strCmp_flip u.Name n
        have h2 : strCmp n c.Name < 0 := strCmp_trans (by omega) (hlt c hm)
        have := strCmp_flip n c.Name
        omega
theorem splitS (n : Int) : ∀ {e : Int} {l : List Session} {last : Int}, sOKs e last l = true → ∃ A C, (∀ a ∈ A, a.Client < n) ∧ (∀ c ∈ C, n < c.Client) ∧ (l = A ++ C ∨ ∃ s : Session, s.Client = n ∧ l = A ++ s :: C)
  | _, [], _, _ => ⟨[], [], by simp, by simp, .inl rfl⟩
  | e, u :: l, last, h => by
    have h3 : sOKs e u.Client l = true := by simp [sOKs] at h; exact h.2
    have hlt := sOKs_lt h3
    rcases Int.lt_trichotomy u.Client n with hc | hc | hc
    · obtain ⟨A, C, hA, hC, hl⟩ := splitS n h3
      refine ⟨u :: A, C, ?_, hC, ?_⟩
      · intro a ha
        rcases List.mem_cons.1 ha with rfl | ha
        · exact hc
        · exact hA a ha
      · rcases hl with rfl | ⟨v, hv, rfl⟩
        · exact .inl rfl
        · exact .inr ⟨v, hv, rfl⟩
    · refine ⟨[], l, by simp, fun c hm => ?_, .inr ⟨u, hc, rfl⟩⟩
      have := hlt c hm
      omega
    · refine ⟨[], u :: l, by simp, fun c hm => ?_, .inl rfl⟩
      rcases List.mem_cons.1 hm with rfl | hm
      · exact hc
      · have := hlt c hm; omega
def posU (n : ByteArray) (l : List User) : Nat := (l.takeWhile (fun u => decide (strCmp u.Name n < 0))).length
def posS (n : Int) (l : List Session) : Nat := (l.takeWhile (fun s => decide (s.Client < n))).length
theorem takeWhile_all {α : Type} {p : α → Bool} : ∀ {A C : List α}, (∀ a ∈ A, p a = true) → (∀ c ∈ C.head?, p c = false) → (A ++ C).takeWhile p = A
  | [], [], _, _ => rfl
  | [], c :: C, _, h => by simp [h c (by simp)]
  | a :: A, C, h, h' => by simp [h a (by simp), takeWhile_all (A := A) (fun x hx => h x (by simp [hx])) h']
theorem posU_split {n : ByteArray} {A C : List User} (hA : ∀ a ∈ A, strCmp a.Name n < 0) (hC : ∀ c ∈ C, 0 ≤ strCmp c.Name n) : posU n (A ++ C) = A.length := by
  rw [posU, takeWhile_all]
  · intro a ha; simpa using hA a ha
  · intro c hc
    have := hC c (List.mem_of_mem_head? hc)
    simpa using this
theorem posS_split {n : Int} {A C : List Session} (hA : ∀ a ∈ A, a.Client < n) (hC : ∀ c ∈ C, n ≤ c.Client) : posS n (A ++ C) = A.length := by
  rw [posS, takeWhile_all]
  · intro a ha; simpa using hA a ha
  · intro c hc
    have := hC c (List.mem_of_mem_head? hc)
    simpa using this
theorem At.split {α : Type} {c : α → Int} {A C : List α} (hA : ∀ a ∈ A, c a < 0) (hC : ∀ x ∈ C, 0 ≤ c x) : At c (A ++ C) A.length := by
  refine ⟨by simp, fun k h hk => ?_, fun k h hk => ?_⟩
  · rw [List.getElem_append_left hk]; exact hA _ (List.getElem_mem _)
  · rw [List.getElem_append_right hk]; exact hC _ (List.getElem_mem _)
theorem posU_at {e : Int} {l : List User} {was n : ByteArray} (h : uOKs e was l = true) : At (fun u : User => strCmp u.Name n) l (posU n l) := by
  obtain ⟨A, C, hA, hC, hl⟩ := splitU n h
  rcases hl with rfl | ⟨v, rfl⟩
  · rw [posU_split hA (fun c hc => Int.le_of_lt (hC c hc))]
    exact At.split hA (fun c hc => Int.le_of_lt (hC c hc))
  · have h0 : ∀ c ∈ (⟨n, v⟩ : User) :: C, 0 ≤ strCmp c.Name n := fun c hc => by
      rcases List.mem_cons.1 hc with rfl | hc
      · exact Int.le_of_eq ((strCmp_zero _ _).2 rfl).symm
      · exact Int.le_of_lt (hC c hc)
    rw [posU_split hA h0]
    exact At.split hA h0
theorem cmpS_lt {a b : Int} : cmpS a b < 0 ↔ a < b := by unfold cmpS; split <;> (try split) <;> omega
theorem cmpS_ge {a b : Int} : 0 ≤ cmpS a b ↔ b ≤ a := by unfold cmpS; split <;> (try split) <;> omega
theorem posS_at {e : Int} {l : List Session} {last n : Int} (h : sOKs e last l = true) : At (fun s : Session => cmpS s.Client n) l (posS n l) := by
  obtain ⟨A, C, hA, hC, hl⟩ := splitS n h
  rcases hl with rfl | ⟨v, hv, rfl⟩
  · rw [posS_split hA (fun c hc => Int.le_of_lt (hC c hc))]
    exact At.split (fun a ha => cmpS_lt.2 (hA a ha)) (fun c hc => cmpS_ge.2 (Int.le_of_lt (hC c hc)))
  · have h0 : ∀ c ∈ v :: C, n ≤ c.Client := fun c hc => by
      rcases List.mem_cons.1 hc with rfl | hc
      · omega
      · exact Int.le_of_lt (hC c hc)
    rw [posS_split hA h0]
    exact At.split (fun a ha => cmpS_lt.2 (hA a ha)) (fun c hc => cmpS_ge.2 (h0 c hc))
end Go.Apl

/- What commands make: the contract of made. -/
namespace Go.Apl
open Go Go.Proofs
set_option maxRecDepth 100000
set_option linter.unusedSimpArgs false
set_option linter.unusedVariables false

/-- A box, seen as less. -/
theorem Awp.loosenB {P : Program} {Q : Exit → St → Prop} {s : St} {c : Code} {id : Nat} {T : TypeId} {d d' : D} (hg : getT id s.σ = some (.box T d)) (hd : Dle d d') (h : Awp P c Q ⟨s.n, s.tm, setT id (.box T d') s.σ, s.nx⟩) : Awp P c Q s := by
  intro lay hm G hG a w ⟨N, ι, h1, h2⟩
  refine h lay hm G hG a w ⟨N, ι, ?_, h2.size, h2.defers, fun t d hd => h2.get t d hd⟩
  obtain ⟨l, hl, ho⟩ := h1.obj id _ hg
  refine h1.again hg hl ?_
  obtain ⟨q1, q2, q3, q4, b, cs, E, q5, q6, q7, q8⟩ := ho
  exact ⟨q1, q2, q3, hd.lab q4, b, cs, E, q5, q6, q7.le hd, q8⟩

def stepS (d : Directory) (c : Command) : Directory :=
  if (applyS d c (posS c.Client d.Sessions) (posU c.User d.Users)).2 = 0 then (applyS d c (posS c.Client d.Sessions) (posU c.User d.Users)).1 else d
def madeS (l : List Command) : Directory := l.foldl stepS zDir
theorem madeS_snoc (l : List Command) {i : Nat} (h : i < l.length) : madeS (l.take (i + 1)) = stepS (madeS (l.take i)) l[i] := by
  rw [madeS, List.take_succ_eq_append_getElem h, List.foldl_append]; rfl

def vlen (d : Directory) : Prop := ∀ u ∈ d.Users, u.Versions.length ≤ 100000
theorem nextS_len (l : List Version) (v : Version) : (nextS l v).1.length ≤ 17 := by
  unfold nextS
  split
  · rename_i h
    have h1 := h.1
    simp [versOK] at h1
    split
    · simp
    · split
      · simp
      · split
        · simp
        · simp; omega
  · simp
theorem addS_vlen {d : Directory} {c : Command} {p : Nat} (h : vlen d) : ∀ u ∈ (addS d c p).1, u.Versions.length ≤ 100000 := by
  have hn := nextS_len (histS c.User d.Users p) ⟨d.Epoch + 1, c.Kind, c.Key⟩
  intro u hu
  unfold addS at hu
  split at hu
  · exact h u hu
  · simp only at hu
    split at hu
    · exact h u hu
    · split at hu
      · rcases List.mem_or_eq_of_mem_set hu with hu | rfl
        · exact h u hu
        · simp only; omega
      · split at hu
        · exact h u hu
        · rcases List.mem_append.1 hu with hu | hu
          · exact h u (List.mem_of_mem_take hu)
          · rcases List.mem_cons.1 hu with rfl | hu
            · simp only; omega
            · exact h u (List.mem_of_mem_drop hu)
theorem reqS_vlen {d : Directory} {c : Command} {q p : Nat} (h : vlen d) : vlen (reqS d c q p).1 := by
  unfold reqS
  simp only
  split
  · exact h
  · split
    · exact h
    · exact addS_vlen h
theorem zDir_vlen : vlen zDir := fun u hu => by simp [zDir] at hu
theorem applyS_vlen {d : Directory} {c : Command} {q p : Nat} (h : vlen d) : vlen (applyS d c q p).1 := by
  unfold applyS
  split
  · split
    · split
      · exact h
      · exact zDir_vlen
    · split
      · exact reqS_vlen h
      · exact zDir_vlen
  · exact zDir_vlen
theorem stepS_vlen {d : Directory} {c : Command} (h : vlen d) : vlen (stepS d c) := by
  unfold stepS
  split
  · exact applyS_vlen h
  · exact h
theorem madeS_vlen : ∀ (l : List Command) {d : Directory}, vlen d → vlen (l.foldl stepS d)
  | [], _, h => h
  | c :: l, _, h => madeS_vlen l (stepS_vlen h)

theorem step_c (d : Directory) (c : Command) (h5 : c.Kind ≠ 5) (hv : vlen d) :
    PureF Tryz.prog 8 [d.enc true, c.enc] (.tup [(applyS d c (posS c.Client d.Sessions) (posU c.User d.Users)).1.enc false, .v (.int .i64 (applyS d c (posS c.Client d.Sessions) (posU c.User d.Users)).2)]) :=
  apply_c d c _ _ h5 hv (fun h => posS_at (by simp [dirOK] at h; exact h.2)) (fun h => posU_at (by simp [dirOK] at h; exact h.1.2))

theorem made_c {ds : List D} (l : List Command) (hds : ds = l.map Command.enc) (hl : l.length ≤ 1000000) (h5 : ∀ c ∈ l, c.Kind ≠ 5) :
    PureF Tryz.prog 6 [.lst true false 30 ds] ((madeS l).enc false) := by
  subst hds
  refine PureF.intro (c := _) Tryz.func6 rfl (by kernel_rfl) (by rw [Tryz.ntmps6]; simp) rfl ?_
  refine Awp.rg [0, 2] fun K hK => ?_
  simp
  refine hK _ ?_; clear hK K
  refine Awp.rg [0, 2, 3] fun K hK => ?_
  simp
  refine hK _ ?_; clear hK K
  refine Awp.seq ?_
  refine Awp.loosenB (id := 0) (d' := zDir.enc false) rfl (dle1_ok (by simp [zDir])) ?_
  refine Awp.loosenB (id := 1) (d' := zDir.enc false) rfl (dle1_ok (by simp [zDir])) ?_
  simp only [setT, ↓reduceIte]
  refine Awp.rg [0, 2, 3, 4] fun K hK => ?_
  simp
  refine hK _ ?_; clear hK K
  refine Awp.block ?_
  -- LOOP 0 live [0, 2, 3, 4]
  refine Awp.loopS (f := fun (a : Nat × Nat) => ⟨27, [(0, .lst true false 30 (l.map Command.enc)), (2, .ptr 0 []), (3, .ptr 1 []), (4, .v (.int .i64 a.1))], [(0, .box 39 (zDir.enc false)), (1, .box 39 ((madeS (l.take a.1)).enc false))], a.2 + 2⟩) (I := fun a => a.1 ≤ l.length) (μ := fun a => l.length - a.1) (0, 0) ?_ ?_ ?_
  · simp
  · simp [madeS]
  rintro ⟨i, m⟩ hi
  simp only at hi
  refine Awp.seq ?_
  refine Awp.rg [0, 2, 3, 4, 11] fun K hK => ?_
  simp
  refine hK _ ?_; clear hK K
  refine Awp.cond _ rfl (fun h => ?_) (fun h => ?_)  -- C0
  · try simp at h
    all_goals
      have hlt : i < l.length := by omega
      have hv : l[i]? = some l[i] := List.getElem?_eq_getElem hlt
      have h5i := h5 _ (List.getElem_mem hlt)
      have hvi : vlen (madeS (l.take i)) := madeS_vlen _ zDir_vlen
      refine Awp.skip ?_
      try simp only [thenQ, inBlk, ↓reduceIte]
      refine Awp.seq ?_
      refine Awp.block ?_
      refine Awp.rgD [0, 2, 3, 4, 5, 6] [[], [], [], [1, 2], [1, 2, 3], [0, 1, 2, 3, 4], [0, 1, 2, 3, 4, 5], [0, 1, 2, 3, 4, 5, 6], [0, 1, 2, 3, 4, 5, 6], [], [0, 1, 2, 3, 4, 5, 6, 7, 9], [0, 1, 2, 3, 4, 5, 6, 7, 8, 9, 10], [5]] (by kernel_rfl) fun K hK => ?_
      simp [hv, hlt]
      refine DL.cQ ?_  -- directory.Apply
      simp [hv, hlt]
      refine ⟨_, step_c (madeS (l.take i)) l[i] h5i hvi, by simp, ?_⟩
      try simp [hv, hlt]
      refine hK _ ?_; clear hK K
      refine Awp.rg [0, 2, 3, 4, 5, 24] fun K hK => ?_
      simp
      refine hK _ ?_; clear hK K
      refine Awp.cond _ rfl (fun h => ?_) (fun h => ?_)  -- C1
      · try simp at h
        all_goals
          have e : madeS (l.take (i + 1)) = (applyS (madeS (l.take i)) l[i] (posS l[i].Client (madeS (l.take i)).Sessions) (posU l[i].User (madeS (l.take i)).Users)).1 := by rw [madeS_snoc l hlt, stepS, if_pos h]
          refine Awp.rgE fun K hK => ?_
          simp
          refine hK _ ?_; clear hK K
          try simp only [thenQ, inBlk, ↓reduceIte]
          refine Awp.rgE fun K hK => ?_
          simp
          refine hK _ ?_; clear hK K
          try simp only [thenQ, inBlk, ↓reduceIte]
          refine ⟨(i + 1, m + 1), by simp only; omega, by simp only; omega, rfl, ⟨rfl, rfl, rfl, by simp (disch := omega) [wrap_id, getT], trivial⟩, ⟨rfl, ?_, trivial⟩, by simp only; omega⟩
          simp [e]
      · try simp at h
        all_goals
          have e : madeS (l.take (i + 1)) = madeS (l.take i) := by rw [madeS_snoc l hlt, stepS, if_neg h]
          refine Awp.skip ?_
          try simp only [thenQ, inBlk, ↓reduceIte]
          refine Awp.rgE fun K hK => ?_
          simp
          refine hK _ ?_; clear hK K
          try simp only [thenQ, inBlk, ↓reduceIte]
          refine ⟨(i + 1, m + 1), by simp only; omega, by simp only; omega, rfl, ⟨rfl, rfl, rfl, by simp (disch := omega) [wrap_id, getT], trivial⟩, ⟨rfl, ?_, trivial⟩, by simp only; omega⟩
          simp [e]
  · try simp at h
    all_goals
      have e : l.take i = l := List.take_of_length_le (by omega)
      refine Awp.exit ?_
      try simp only [thenQ, inBlk, ↓reduceIte]
      refine Awp.rg [2] fun K hK => ?_
      simp
      refine hK _ ?_; clear hK K
      refine Awp.ret ?_
      try simp only [thenQ, inBlk, ↓reduceIte]
      -- RET 0
      refine retQ.of2 (by simp) ?_
      simp [Tryz.results6]
      simp [e]
end Go.Apl

/- The contract of SameVersions at equal lists. -/
namespace Go.Apl
open Go Go.Proofs
set_option maxRecDepth 100000
set_option linter.unusedSimpArgs false
set_option linter.unusedVariables false

theorem same_c {ds : List D} (l : List Version) (hds : ds = l.map Version.enc) (hl : l.length ≤ 1000000) :
    PureF Tryz.prog 7 [.lst true false 53 ds, .lst true false 53 ds] (.v (.bool true)) := by
  subst hds
  refine PureF.intro (c := _) Tryz.func7 rfl (by kernel_rfl) (by rw [Tryz.ntmps7]; simp) rfl ?_
  refine Awp.rg [0, 1] fun K hK => ?_
  simp
  refine hK _ ?_; clear hK K
  refine Awp.seq ?_
  refine Awp.rg [0, 1, 10] fun K hK => ?_
  simp
  refine hK _ ?_; clear hK K
  refine Awp.cond _ rfl (fun h => ?_) (fun h => ?_)  -- C0
  · try simp at h
    all_goals try (exfalso; omega)
    all_goals
      refine Awp.rg [4] fun K hK => ?_
      simp
      refine hK _ ?_; clear hK K
      refine Awp.ret ?_
      try simp only [thenQ, inBlk, ↓reduceIte]
      -- RET 0
      refine retQ.of2 (by simp) ?_
      simp [Tryz.results7]
      skip
  · try simp at h
    all_goals try (exfalso; omega)
    all_goals
      refine Awp.skip ?_
      try simp only [thenQ, inBlk, ↓reduceIte]
      refine Awp.seq ?_
      refine Awp.rg [0, 1, 5] fun K hK => ?_
      simp
      refine hK _ ?_; clear hK K
      refine Awp.block ?_
      -- LOOP 0 live [0, 1, 5]
      refine Awp.loopS (f := fun (a : Nat × Nat) => ⟨26, [(0, .lst true false 53 (l.map Version.enc)), (1, .lst true false 53 (l.map Version.enc)), (5, .v (.int .i64 a.1))], [], a.2⟩) (I := fun a => a.1 ≤ l.length) (μ := fun a => l.length - a.1) (0, 0) ?_ ?_ ?_
      · simp
      · simp
      rintro ⟨i, m⟩ hi
      simp only at hi
      refine Awp.seq ?_
      refine Awp.rg [0, 1, 5, 14] fun K hK => ?_
      simp
      refine hK _ ?_; clear hK K
      refine Awp.cond _ rfl (fun h => ?_) (fun h => ?_)  -- C1
      · try simp at h
        all_goals try (exfalso; omega)
        all_goals
          have hlt : i < l.length := by omega
          have hv : l[i]? = some l[i] := List.getElem?_eq_getElem hlt
          refine Awp.skip ?_
          try simp only [thenQ, inBlk, ↓reduceIte]
          refine Awp.seq ?_
          refine Awp.block ?_
          refine Awp.rgD [0, 1, 5, 25] [[], [], [0, 1], [0, 1, 2], [], [], [4, 5], [4, 5, 6], [0, 1, 2, 3, 4, 5, 6, 7]] (by kernel_rfl) fun K hK => ?_
          simp [hv, hlt]
          refine hK _ ?_; clear hK K
          refine Awp.cond _ rfl (fun h => ?_) (fun h => ?_)  -- C2
          · try simp at h
            all_goals try (exfalso; omega)
            all_goals
              refine Awp.rg [4] fun K hK => ?_
              simp
              refine hK _ ?_; clear hK K
              refine Awp.ret ?_
              try simp only [thenQ, inBlk, ↓reduceIte]
              -- RET 1
              refine retQ.of2 (by simp) ?_
              simp [Tryz.results7]
              skip
          · try simp at h
            all_goals try (exfalso; omega)
            all_goals
              refine Awp.skip ?_
              try simp only [thenQ, inBlk, ↓reduceIte]
              refine Awp.rgE fun K hK => ?_
              simp
              refine hK _ ?_; clear hK K
              try simp only [thenQ, inBlk, ↓reduceIte]
              refine ⟨(i + 1, m + 1), by simp only; omega, by simp only; omega, rfl, ⟨rfl, rfl, by simp (disch := omega) [wrap_id, getT], trivial⟩, trivial, by simp only; omega⟩
      · try simp at h
        all_goals try (exfalso; omega)
        all_goals
          refine Awp.exit ?_
          try simp only [thenQ, inBlk, ↓reduceIte]
          refine Awp.rg [4] fun K hK => ?_
          simp
          refine hK _ ?_; clear hK K
          refine Awp.ret ?_
          try simp only [thenQ, inBlk, ↓reduceIte]
          -- RET 2
          refine retQ.of2 (by simp) ?_
          simp [Tryz.results7]
          skip
end Go.Apl

/- Two rules: a slice in a box held as an own array; a loop with renaming. -/
namespace Go.Apl
open Go
open Go.RowKit (Below)
set_option linter.unusedSimpArgs false
set_option linter.unusedVariables false

theorem SR.adoptIn {G : Gh} {s : St} {a : Act} {w : World} {id : Nat} {T : TypeId} {d d2 : D} {p : List Nat} {k : Bool} {E E' : TypeId} (h : SR G s a w) (hg : getT id s.σ = some (.box T d)) (hp : D.get p d = some (.lst k true E' [])) (hs : D.set p d (.own s.nx 0 0) = some d2) (hE : 0 < G.P.cellsOf E) :
    SR G ⟨s.n, s.tm, (s.nx, .arr E []) :: setT id (.box T d2) s.σ, s.nx + 1⟩ a w := by
  obtain ⟨N, ι, h1, h2⟩ := h
  have hob : ObjR (G.cx N ι) w (.arr E []) ⟨none, 0, 0, E, true⟩ := ⟨rfl, rfl, hE, rfl, rfl⟩
  obtain ⟨q1, q2⟩ := h1.new w (.arr E []) ⟨none, 0, 0, E, true⟩ (.inl ⟨rfl, rfl⟩) hob
  obtain ⟨l, hl, ho⟩ := h1.obj id _ hg
  have hlt := h1.names id l hl
  have hne : s.nx ≠ id := by omega
  have hg' : getT id ((s.nx, AO.arr E []) :: s.σ) = some (.box T d) := by simp only [getT]; rw [if_neg hne]; exact hg
  have e : setT id (.box T d2) ((s.nx, AO.arr E []) :: s.σ) = (s.nx, AO.arr E []) :: setT id (.box T d2) s.σ := by simp only [setT]; rw [if_neg hne]
  have hob2 : ObjR (G.cx N (withLoc ι s.nx ⟨none, 0, 0, E, true⟩)) w (.box T d2) l := by
    obtain ⟨g1, g2, g3, g4, b, cs, E2, g5, g6, g7, g8⟩ := ho
    have hz : cs.toList.length = G.P.cellsOf T := by simpa using g8
    obtain ⟨o, T', r1, r2, r3, r4⟩ := FR.get p g7 g4 hz hp
    have hv : ∃ A, (cs.toList.drop o).take (G.P.cellsOf T') = [.slice A 0 0] := by
      generalize hq : (cs.toList.drop o).take (G.P.cellsOf T') = seg at r3
      cases r3 with
      | lst0 A cap hx =>
        have := hx rfl
        subst this
        exact ⟨A, rfl⟩
      | lst b o cap ccs E' fr cs hne => exact absurd rfl hne
    obtain ⟨A, hA⟩ := hv
    have hc1 : G.P.cellsOf T' = 1 := by
      have := congrArg List.length hA
      simp at this
      simp at r4
      omega
    have hown : FR (G.cx N (withLoc ι s.nx ⟨none, 0, 0, E, true⟩)) (.own s.nx 0 0) [.slice A 0 0] :=
      FR.own ⟨none, 0, 0, E, true⟩ A 0 (by simp [withLoc]) rfl (Nat.le_refl _) rfl (fun h => absurd h (Nat.lt_irrefl _))
    obtain ⟨z1, z2⟩ := FR.set p (g7.mono q2) g4 hz r1 hown (by simp [hc1]) r2 hs
    have hback : cs.toList.take o ++ [Value.slice A 0 0] ++ cs.toList.drop (o + 1) = cs.toList := by
      rw [← hA, hc1, ← List.drop_drop, List.append_assoc, List.take_append_drop, List.take_append_drop]
    refine ⟨g1, g2, g3, z2, b, cs, E2, g5, g6, ?_, g8⟩
    rw [← hback]
    exact z1
  have q3 := q1.again hg' (by simp only [withLoc]; rw [if_neg hne.symm]; exact hl) hob2
  rw [e] at q3
  exact ⟨N, _, q3, h2.size, h2.defers, fun u d hd => (h2.get u d hd).mono q2⟩
theorem Awp.adoptIn {P : Program} {Q : Exit → St → Prop} {s : St} {c : Code} (id : Nat) (p : List Nat) {T : TypeId} {d d2 : D} {k : Bool} {E' : TypeId} (E : TypeId) (hg : getT id s.σ = some (.box T d)) (hp : D.get p d = some (.lst k true E' [])) (hs : D.set p d (.own s.nx 0 0) = some d2) (hE : 0 < P.cellsOf E)
    (h : Awp P c Q ⟨s.n, s.tm, (s.nx, .arr E []) :: setT id (.box T d2) s.σ, s.nx + 1⟩) : Awp P c Q s :=
  fun lay hm G hG a w hs' => h lay hm G hG a w (hs'.adoptIn hg hp hs (by rw [hG]; exact hE))

/-- A loop with a state for each round, in other names. -/
theorem Awp.loopR {P : Program} {Q : Exit → St → Prop} {s : St} {α : Type} {c : Code} (f : α → St) (I : α → Prop) (μ : α → Nat) (a0 : α) (g0 : Nat → Nat) (hI : I a0) (h0 : St.renOK g0 s (f a0))
    (round : ∀ a, I a → Awp P c (thenQ (fun s' => ∃ a' g, I a' ∧ μ a' < μ a ∧ St.renOK g s' (f a')) Q) (f a)) : Awp P (.loop c) Q s := by
  refine Awp.ren g0 (f a0) h0 (Awp.loop (fun n s => ∃ a g, μ a = n ∧ I a ∧ (s = f a ∨ St.renOK g s (f a))) (μ a0) ⟨a0, id, rfl, hI, .inl rfl⟩ ?_)
  rintro n s ⟨a, g, rfl, ha, hle⟩
  have hw : ∀ {Q'}, Awp P c Q' (f a) → Awp P c Q' s := fun hh => by
    rcases hle with rfl | hle
    · exact hh
    · exact Awp.ren g (f a) hle hh
  refine hw (Awp.mono (round a ha) fun e s' q => ?_)
  cases e with
  | normal =>
    obtain ⟨a', g', h1, h2, h3⟩ := q
    exact ⟨μ a', h2, a', g', rfl, h1, .inr h3⟩
  | _ => exact q
end Go.Apl

/- The plain law of the directory: what an errand and a seal turn. -/
namespace Go.Apl
open Go Go.Proofs
set_option maxRecDepth 100000
set_option linter.unusedSimpArgs false
set_option linter.unusedVariables false

/-! ### Versions -/
theorem vOKs_snoc (nv : Version) : ∀ (l : List Version) (was : Version), vOKs was (l ++ [nv]) = (vOKs was l && (version_may nv && decide ((l.getLastD was).Epoch ≤ nv.Epoch) && (openS (l.getLastD was) == (nv.Kind == 1))))
  | [], was => by simp [vOKs]
  | v :: l, was => by
    simp only [List.cons_append, vOKs, vOKs_snoc nv l v, Bool.and_assoc]
    rw [show (v :: l).getLastD was = l.getLastD v from by cases l <;> rfl]
theorem lastS_eq (l : List Version) : lastS l = l.getLastD zVer := by
  rw [List.getLastD_eq_getLast?, List.getLast?_eq_getElem?, lastS]
theorem nextS_ok {l : List Version} {v : Version} (h : (nextS l v).2 = 0) : (nextS l v).1 = l ++ [v] ∧ versOK (l ++ [v]) = true := by
  unfold nextS at h ⊢
  split at h
  · rename_i h0
    obtain ⟨g1, g2, g3⟩ := h0
    split at h
    · cases h
    · split at h
      · cases h
      · split at h
        · cases h
        · rename_i a1 a2 a3
          rw [if_pos ⟨g1, g2, g3⟩, if_neg a1, if_neg a2, if_neg a3]
          refine ⟨rfl, ?_⟩
          simp only [versOK, Bool.and_eq_true, decide_eq_true_eq] at g1 ⊢
          refine ⟨by simp; omega, ?_⟩
          rw [vOKs_snoc, ← lastS_eq]
          simp only [g1.2, g2, Bool.true_and, Bool.and_eq_true, decide_eq_true_eq, beq_iff_eq]
          refine ⟨g3, ?_⟩
          by_cases hk : v.Kind = 1
          · have : openS (lastS l) = true := by
              cases ho : openS (lastS l) with
              | true => rfl
              | false => exact absurd ⟨hk, ho⟩ a1
            simp [hk, this]
          · have : openS (lastS l) = false := by
              cases ho : openS (lastS l) with
              | false => rfl
              | true => exact absurd ⟨hk, ho⟩ a2
            simp [hk, this]
  · cases h
theorem nextS_code (l : List Version) (v : Version) : 0 ≤ (nextS l v).2 ∧ (nextS l v).2 ≤ 52 := by
  unfold nextS
  repeat' split
  all_goals simp

/-! ### Users -/
theorem uOK_was {e : Int} {was n : ByteArray} {u : User} (h : uOK e was u = true) (hn : strCmp n u.Name < 0) : uOK e n u = true := by
  have h1 : (strLt u.Name n || strEq u.Name n) = false := by
    have := strCmp_flip n u.Name
    have h2 : u.Name ≠ n := fun e => by rw [e, (strCmp_zero n n).2 rfl] at hn; omega
    simp [strLt_iff, strEq_iff2, h2]; omega
  simp only [uOK] at h ⊢
  simp only [h1, Bool.not_false, Bool.true_and]
  simp only [Bool.and_eq_true] at h ⊢
  exact ⟨⟨⟨h.1.1.1.2, h.1.1.2⟩, h.1.2⟩, h.2⟩
theorem uOK_new {e : Int} {was n : ByteArray} {r : List Version} (hw : strCmp was n < 0) (hn : nameS n = true) (h0 : r ≠ []) (hv : versOK r = true) (he : (lastS r).Epoch ≤ e + 1) : uOK e was ⟨n, r⟩ = true := by
  have h1 : (strLt n was || strEq n was) = false := by
    have := strCmp_flip was n
    have h2 : n ≠ was := fun e => by rw [e, (strCmp_zero was was).2 rfl] at hw; omega
    simp [strLt_iff, strEq_iff2, h2]; omega
  have : 0 < r.length := List.length_pos_iff.2 h0
  simp [uOK, h1, hn, hv, he, this]
theorem uOKs_mono {e e' : Int} (h : e ≤ e') : ∀ {l : List User} {was : ByteArray}, uOKs e was l = true → uOKs e' was l = true
  | [], _, _ => rfl
  | u :: l, was, hu => by
    simp only [uOKs, Bool.and_eq_true] at hu ⊢
    refine ⟨?_, uOKs_mono h hu.2⟩
    have := hu.1
    simp only [uOK, Bool.and_eq_true, decide_eq_true_eq] at this ⊢
    exact ⟨this.1, by omega⟩
theorem sOKs_mono {e e' : Int} (h : e ≤ e') : ∀ {l : List Session} {last : Int}, sOKs e last l = true → sOKs e' last l = true
  | [], _, _ => rfl
  | u :: l, was, hu => by
    simp only [sOKs, Bool.and_eq_true] at hu ⊢
    refine ⟨?_, sOKs_mono h hu.2⟩
    have := hu.1
    simp only [sOK, withinS, Bool.and_eq_true, decide_eq_true_eq] at this ⊢
    exact ⟨this.1, this.2.1, by omega⟩
theorem uOKs_ins {e : Int} {n : ByteArray} {r : List Version} (hn : nameS n = true) (h0 : r ≠ []) (hv : versOK r = true) (he : (lastS r).Epoch ≤ e + 1) {C : List User} (hC : ∀ c ∈ C, 0 < strCmp c.Name n) :
    ∀ {A : List User} {was : ByteArray}, (∀ a ∈ A, strCmp a.Name n < 0) → strCmp was n < 0 → uOKs e was (A ++ C) = true → uOKs e was (A ++ ⟨n, r⟩ :: C) = true
  | [], was, _, hw, h => by
    simp only [List.nil_append, uOKs, Bool.and_eq_true]
    refine ⟨uOK_new hw hn h0 hv he, ?_⟩
    cases C with
    | nil => rfl
    | cons c C =>
      simp only [List.nil_append, uOKs, Bool.and_eq_true] at h ⊢
      have h1 := hC c (by simp)
      have h2 := strCmp_flip c.Name n
      exact ⟨uOK_was h.1 (by omega), h.2⟩
  | a :: A, was, hA, hw, h => by
    simp only [List.cons_append, uOKs, Bool.and_eq_true] at h ⊢
    exact ⟨h.1, uOKs_ins hn h0 hv he hC (fun x hx => hA x (by simp [hx])) (hA a (by simp)) h.2⟩
theorem uOKs_set {e : Int} {n : ByteArray} {v r : List Version} (h0 : r ≠ []) (hv : versOK r = true) (he : (lastS r).Epoch ≤ e + 1) {C : List User} :
    ∀ {A : List User} {was : ByteArray}, uOKs e was (A ++ ⟨n, v⟩ :: C) = true → uOKs e was (A ++ ⟨n, r⟩ :: C) = true
  | [], was, h => by
    simp only [List.nil_append, uOKs, Bool.and_eq_true] at h ⊢
    refine ⟨?_, h.2⟩
    have h1 := h.1
    have : 0 < r.length := List.length_pos_iff.2 h0
    simp only [uOK, Bool.and_eq_true, decide_eq_true_eq] at h1 ⊢
    exact ⟨⟨⟨h1.1.1.1, this⟩, hv⟩, he⟩
  | a :: A, was, h => by
    simp only [List.cons_append, uOKs, Bool.and_eq_true] at h ⊢
    exact ⟨h.1, uOKs_set h0 hv he h.2⟩

/-! ### Sessions -/
theorem sOKs_len {e : Int} : ∀ {l : List Session} {last : Int}, last ≤ 4 → sOKs e last l = true → (l.length : Int) ≤ 4 - last
  | [], _, h, _ => by simp; omega
  | s :: l, last, hl, h => by
    simp only [sOKs, sOK, Bool.and_eq_true, decide_eq_true_eq] at h
    have := sOKs_len h.1.1.1.1.2 h.2
    simp only [List.length_cons]
    omega
theorem sOKs_ins {e : Int} {s : Session} (hs : s.Client ≤ 4 ∧ (withinS s.Seq 1 1000000 = true ∧ withinS s.Code 0 65535 = true) ∧ withinS s.Epoch 0 e = true) {C : List Session} (hC : ∀ c ∈ C, s.Client < c.Client) :
    ∀ {A : List Session} {last : Int}, (∀ a ∈ A, a.Client < s.Client) → last < s.Client → sOKs e last (A ++ C) = true → sOKs e last (A ++ s :: C) = true
  | [], last, _, hw, h => by
    simp only [List.nil_append, sOKs, sOK, Bool.and_eq_true, decide_eq_true_eq]
    refine ⟨⟨⟨⟨⟨hw, hs.1⟩, hs.2.1.1⟩, hs.2.1.2⟩, hs.2.2⟩, ?_⟩
    cases C with
    | nil => rfl
    | cons c C =>
      simp only [List.nil_append, sOKs, sOK, Bool.and_eq_true, decide_eq_true_eq] at h ⊢
      exact ⟨⟨⟨⟨⟨hC c (by simp), h.1.1.1.1.2⟩, h.1.1.1.2⟩, h.1.1.2⟩, h.1.2⟩, h.2⟩
  | a :: A, last, hA, hw, h => by
    simp only [List.cons_append, sOKs, Bool.and_eq_true] at h ⊢
    exact ⟨h.1, sOKs_ins hs hC (fun x hx => hA x (by simp [hx])) (hA a (by simp)) h.2⟩
theorem sOKs_set {e : Int} {s s0 : Session} (hs : (withinS s.Seq 1 1000000 = true ∧ withinS s.Code 0 65535 = true) ∧ withinS s.Epoch 0 e = true) (he : s.Client = s0.Client) {C : List Session} :
    ∀ {A : List Session} {last : Int}, sOKs e last (A ++ s0 :: C) = true → sOKs e last (A ++ s :: C) = true
  | [], last, h => by
    simp only [List.nil_append, sOKs, sOK, Bool.and_eq_true, decide_eq_true_eq] at h ⊢
    rw [he]
    exact ⟨⟨⟨⟨h.1.1.1.1, hs.1.1⟩, hs.1.2⟩, hs.2⟩, h.2⟩
  | a :: A, last, h => by
    simp only [List.cons_append, sOKs, Bool.and_eq_true] at h ⊢
    exact ⟨h.1, sOKs_set hs he h.2⟩

/-! ### The four names -/
theorem userS_cmp0 : ∀ a : Nat, a < 4 → ∀ b : Nat, b < 4 → (strCmp (userS a) (userS b) < 0 ↔ a < b) := by decide
theorem userS_cmp (a b : Nat) (ha : a < 4) (hb : b < 4) : strCmp (userS a) (userS b) < 0 ↔ a < b := userS_cmp0 a ha b hb
theorem userS_name : ∀ a : Nat, a < 4 → nameS (userS a) = true ∧ strCmp noStr (userS a) < 0 := by decide
theorem userS_inj {a b : Nat} (ha : a < 4) (hb : b < 4) (h : userS a = userS b) : a = b := by
  have h1 := userS_cmp a b ha hb
  have h2 := userS_cmp b a hb ha
  rw [h, (strCmp_zero _ _).2 rfl] at h1 h2
  omega
theorem names_len {e : Int} : ∀ {l : List User} {was : ByteArray} {j : Nat}, (∀ u ∈ l, ∃ k, j ≤ k ∧ k < 4 ∧ u.Name = userS k) → j ≤ 4 → uOKs e was l = true → l.length ≤ 4 - j
  | [], _, _, _, _, _ => by simp
  | u :: l, was, j, hn, hj, h => by
    obtain ⟨k, k1, k2, k3⟩ := hn u (by simp)
    simp only [uOKs, Bool.and_eq_true] at h
    have hlt := uOKs_lt h.2
    have := names_len (l := l) (was := u.Name) (j := k + 1) (fun v hv => by
      obtain ⟨m, m1, m2, m3⟩ := hn v (by simp [hv])
      have hc := hlt v hv
      rw [k3, m3] at hc
      exact ⟨m, (userS_cmp k m k2 m2).1 hc, m2, m3⟩) (by omega) h.2
    simp only [List.length_cons]
    omega
theorem one_len {e : Int} {n : ByteArray} {l : List User} {was : ByteArray} (hn : ∀ u ∈ l, u.Name = n) (h : uOKs e was l = true) : l.length ≤ 1 := by
  cases l with
  | nil => simp
  | cons u l =>
    cases l with
    | nil => simp
    | cons v l =>
      exfalso
      simp only [uOKs, Bool.and_eq_true] at h
      have := uOKs_lt (e := e) (l := v :: l) (was := u.Name) (by simp only [uOKs, Bool.and_eq_true]; exact h.2) v (by simp)
      rw [hn u (by simp), hn v (by simp), (strCmp_zero n n).2 rfl] at this
      omega
end Go.Apl

/- The plain law of the directory: steps. -/
namespace Go.Apl
open Go Go.Proofs
set_option maxRecDepth 100000
set_option linter.unusedSimpArgs false
set_option linter.unusedVariables false

def versF (n : ByteArray) (l : List User) (x : List Version) : List Version := l.foldl (fun a u => if strEq u.Name n then u.Versions else a) x
def versL (n : ByteArray) (l : List User) : List Version := versF n l []
theorem versF_none {n : ByteArray} : ∀ {l : List User} {x : List Version}, (∀ u ∈ l, u.Name ≠ n) → versF n l x = x
  | [], _, _ => rfl
  | u :: l, x, h => by
    have h1 : strEq u.Name n = false := by rw [strEq_iff2]; simpa using h u (by simp)
    show versF n l (if strEq u.Name n = true then u.Versions else x) = x
    rw [h1]
    exact versF_none (fun v hv => h v (by simp [hv]))
theorem versF_app (n : ByteArray) (A B : List User) (x : List Version) : versF n (A ++ B) x = versF n B (versF n A x) := by simp [versF]
theorem versF_cons (n : ByteArray) (u : User) (B : List User) (x : List Version) : versF n (u :: B) x = versF n B (if u.Name = n then u.Versions else x) := by simp [versF, strEq_iff2]
theorem ne_of_lt {u n : ByteArray} (h : strCmp u n < 0) : u ≠ n := fun e => by rw [e, (strCmp_zero n n).2 rfl] at h; omega
theorem ne_of_gt {u n : ByteArray} (h : 0 < strCmp u n) : u ≠ n := fun e => by rw [e, (strCmp_zero n n).2 rfl] at h; omega
theorem versL_in {n : ByteArray} {A C : List User} {v : List Version} (hA : ∀ a ∈ A, strCmp a.Name n < 0) (hC : ∀ c ∈ C, 0 < strCmp c.Name n) : versL n (A ++ ⟨n, v⟩ :: C) = v := by
  rw [versL, versF_app, versF_cons, if_pos rfl, versF_none (fun c hc => ne_of_gt (hC c hc))]
theorem versL_no {n : ByteArray} {A C : List User} (hA : ∀ a ∈ A, strCmp a.Name n < 0) (hC : ∀ c ∈ C, 0 < strCmp c.Name n) : versL n (A ++ C) = [] := by
  rw [versL, versF_app, versF_none (fun c hc => ne_of_lt (hA c hc)), versF_none (fun c hc => ne_of_gt (hC c hc))]
theorem versL_other {n m : ByteArray} {A C : List User} {v : List Version} (h : n ≠ m) : versL m (A ++ ⟨n, v⟩ :: C) = versL m (A ++ C) := by
  rw [versL, versL, versF_app, versF_cons, if_neg h, versF_app]

theorem found_no {α : Type} {c : α → Int} {A C : List α} (hC : ∀ x ∈ C, 0 < c x) : foundAt c (A ++ C) A.length = false := by
  unfold foundAt
  rw [List.getElem?_append_right (Nat.le_refl _), Nat.sub_self]
  cases C with
  | nil => rfl
  | cons x C =>
    have := hC x (by simp)
    simp; omega
theorem found_in {α : Type} {c : α → Int} {A C : List α} {x : α} (hx : c x = 0) : foundAt c (A ++ x :: C) A.length = true := by
  unfold foundAt
  rw [List.getElem?_append_right (Nat.le_refl _), Nat.sub_self]
  simp [hx]

def grow (ep : Int) (v : List Version) (c : Command) : List Version :=
  if ep = 200 then v else if (nextS v ⟨ep + 1, c.Kind, c.Key⟩).2 ≠ 0 then v else (nextS v ⟨ep + 1, c.Kind, c.Key⟩).1

structure DirI (i ep : Nat) (K : Nat → Prop) (d : Directory) : Prop where
  ok : dirOK d = true
  ep : d.Epoch = ep
  seq : ∀ s ∈ d.Sessions, s.Seq ≤ i
  nm : ∀ u ∈ d.Users, ∃ k, k < 4 ∧ K k ∧ u.Name = userS k
structure DirT (ep : Nat) (K : Nat → Prop) (k : Nat) (c : Command) (U U' : List User) : Prop where
  ok : uOKs ep noStr U' = true
  nm : ∀ u ∈ U', ∃ k, k < 4 ∧ K k ∧ u.Name = userS k
  own : versL (userS k) U' = grow ep (versL (userS k) U) c
  other : ∀ m, m < 4 → m ≠ k → versL (userS m) U' = versL (userS m) U

theorem DirI.parts {i ep : Nat} {K : Nat → Prop} {d : Directory} (h : DirI i ep K d) : uOKs ep noStr d.Users = true ∧ sOKs ep 0 d.Sessions = true ∧ (ep : Int) ≤ 200 := by
  have h1 := h.ok
  simp only [dirOK, preOK, withinS, Bool.and_eq_true, decide_eq_true_eq, h.ep] at h1
  exact ⟨h1.1.2, h1.2, h1.1.1.1.1.1.2⟩
theorem DirI.mk' {i ep : Nat} {K : Nat → Prop} {U : List User} {S : List Session} (h1 : uOKs ep noStr U = true) (h2 : sOKs ep 0 S = true) (h3 : (ep : Int) ≤ 200) (h4 : ∀ s ∈ S, s.Seq ≤ i) (h5 : ∀ u ∈ U, ∃ k, k < 4 ∧ K k ∧ u.Name = userS k) : DirI i ep K ⟨ep, U, S⟩ := by
  refine ⟨?_, rfl, h4, h5⟩
  have hs := sOKs_len (by omega) h2
  have hu := names_len (j := 0) (fun u hu => by obtain ⟨k, k1, k2, k3⟩ := h5 u hu; exact ⟨k, by omega, k1, k3⟩) (by omega) h1
  simp only [dirOK, preOK, withinS, Bool.and_eq_true, decide_eq_true_eq]
  exact ⟨⟨⟨⟨⟨⟨by omega, h3⟩, by omega⟩, by omega⟩, by omega⟩, h1⟩, h2⟩

theorem add_law {i ep : Nat} {K : Nat → Prop} {d : Directory} (h : DirI i ep K d) {c : Command} {k : Nat} (hk : k < 4) (hK : K k) (hc : c.User = userS k) :
    DirT ep K k c d.Users (addS d c (posU c.User d.Users)).1 ∧ 0 ≤ (addS d c (posU c.User d.Users)).2 ∧ (addS d c (posU c.User d.Users)).2 ≤ 52 := by
  obtain ⟨hU, hS, hep⟩ := h.parts
  have hnm := userS_name k hk
  have hlen : d.Users.length ≤ 4 := names_len (j := 0) (fun u hu => by obtain ⟨k, k1, k2, k3⟩ := h.nm u hu; exact ⟨k, by omega, k1, k3⟩) (by omega) hU
  have hdne : ∀ m, m < 4 → m ≠ k → userS k ≠ userS m := fun m hm hne e => hne (userS_inj hm hk e.symm)
  rw [hc]
  obtain ⟨A, C, hA, hC, hl⟩ := splitU (userS k) hU
  have h0 : strCmp (userS k) (userS k) = 0 := (strCmp_zero _ _).2 rfl
  unfold addS
  rw [hc, h.ep]
  by_cases he : (ep : Int) = 200
  · rw [if_pos he]
    exact ⟨⟨hU, h.nm, by rw [grow, if_pos he], fun m _ _ => rfl⟩, by simp, by simp⟩
  · rw [if_neg he]
    simp only
    rcases hl with hl | ⟨v, hl⟩
    · have hp : posU (userS k) d.Users = A.length := by rw [hl]; exact posU_split hA (fun c hc => Int.le_of_lt (hC c hc))
      have hf : foundAt (fun u : User => strCmp u.Name (userS k)) d.Users A.length = false := by rw [hl]; exact found_no hC
      have hh : histS (userS k) d.Users A.length = [] := by simp [histS, hf]
      have hv : versL (userS k) d.Users = [] := by rw [hl]; exact versL_no hA hC
      rw [hp, hh, hf]
      have hcd := nextS_code [] ⟨(ep : Int) + 1, c.Kind, c.Key⟩
      by_cases hr : (nextS [] ⟨(ep : Int) + 1, c.Kind, c.Key⟩).2 ≠ 0
      · rw [if_pos hr]
        exact ⟨⟨hU, h.nm, by rw [grow, if_neg he, hv, if_pos hr], fun m _ _ => rfl⟩, hcd⟩
      · rw [if_neg hr]
        have hr0 := hr
        simp only [ne_eq, Decidable.not_not] at hr
        obtain ⟨n1, n2⟩ := nextS_ok hr
        rw [if_neg (by simp), if_neg (by omega), n1]
        have e1 : d.Users.take A.length = A := by rw [hl]; simp
        have e2 : d.Users.drop A.length = C := by rw [hl]; simp
        rw [e1, e2]
        refine ⟨⟨?_, ?_, ?_, ?_⟩, by simp, by simp⟩
        · exact uOKs_ins hnm.1 (by simp) n2 (by simp [lastS]) hC hA hnm.2 (hl ▸ hU)
        · intro u hu
          rcases List.mem_append.1 hu with hu | hu
          · exact h.nm u (by rw [hl]; simp [hu])
          · rcases List.mem_cons.1 hu with rfl | hu
            · exact ⟨k, hk, hK, rfl⟩
            · exact h.nm u (by rw [hl]; simp [hu])
        · rw [versL_in hA hC, hv, grow, if_neg he, if_neg hr0, n1]
        · intro m hm hne
          rw [versL_other (hdne m hm hne), hl]
    · have hC0 : ∀ c ∈ (⟨userS k, v⟩ : User) :: C, 0 ≤ strCmp c.Name (userS k) := fun c hc => by
        rcases List.mem_cons.1 hc with rfl | hc
        · exact Int.le_of_eq h0.symm
        · exact Int.le_of_lt (hC c hc)
      have hp : posU (userS k) d.Users = A.length := by rw [hl]; exact posU_split hA hC0
      have hf : foundAt (fun u : User => strCmp u.Name (userS k)) d.Users A.length = true := by rw [hl]; exact found_in h0
      have hg : d.Users[A.length]? = some ⟨userS k, v⟩ := by rw [hl]; simp
      have hh : histS (userS k) d.Users A.length = v := by simp [histS, hf, hg]
      have hv : versL (userS k) d.Users = v := by rw [hl]; exact versL_in hA hC
      rw [hp, hh, hf]
      have hcd := nextS_code v ⟨(ep : Int) + 1, c.Kind, c.Key⟩
      by_cases hr : (nextS v ⟨(ep : Int) + 1, c.Kind, c.Key⟩).2 ≠ 0
      · rw [if_pos hr]
        exact ⟨⟨hU, h.nm, by rw [grow, if_neg he, hv, if_pos hr], fun m _ _ => rfl⟩, hcd⟩
      · rw [if_neg hr]
        have hr0 := hr
        simp only [ne_eq, Decidable.not_not] at hr
        obtain ⟨n1, n2⟩ := nextS_ok hr
        rw [if_pos rfl, n1, hg]
        have e1 : d.Users.set A.length ⟨userS k, v ++ [⟨(ep : Int) + 1, c.Kind, c.Key⟩]⟩ = A ++ ⟨userS k, v ++ [⟨(ep : Int) + 1, c.Kind, c.Key⟩]⟩ :: C := by rw [hl]; simp
        show DirT ep K k c d.Users (d.Users.set A.length ⟨userS k, v ++ [⟨(ep : Int) + 1, c.Kind, c.Key⟩]⟩) ∧ _
        rw [e1]
        refine ⟨⟨?_, ?_, ?_, ?_⟩, by simp, by simp⟩
        · exact uOKs_set (v := v) (by simp) n2 (by simp [lastS]) (hl ▸ hU)
        · intro u hu
          rcases List.mem_append.1 hu with hu | hu
          · exact h.nm u (by rw [hl]; simp [hu])
          · rcases List.mem_cons.1 hu with rfl | hu
            · exact ⟨k, hk, hK, rfl⟩
            · exact h.nm u (by rw [hl]; simp [hu])
        · rw [versL_in hA hC, hv, grow, if_neg he, if_neg hr0, n1]
        · intro m hm hne
          rw [versL_other (hdne m hm hne), hl, versL_other (hdne m hm hne)]

theorem step_law {i ep : Nat} {K : Nat → Prop} {d : Directory} (h : DirI i ep K d) {c : Command} {k : Nat} (hk : k < 4) (hK : K k) (hc : c.User = userS k) (hm : mayS c = true) (h4 : c.Kind ≠ 4) (hs : c.Seq = (i : Int) + 1) (hi : i < 200) (hcl : 1 ≤ c.Client ∧ c.Client ≤ 4) :
    DirI (i + 1) ep K (stepS d c) ∧ DirT ep K k c d.Users (stepS d c).Users := by
  obtain ⟨hU, hS, hep⟩ := h.parts
  obtain ⟨ha, hcode⟩ := add_law h hk hK hc
  generalize hP : posU c.User d.Users = p at ha hcode
  obtain ⟨A, C, hA, hC, hl⟩ := splitS c.Client hS
  have hnew : (withinS c.Seq 1 1000000 = true ∧ withinS (addS d c p).2 0 65535 = true) ∧ withinS (ep : Int) 0 ep = true := by
    simp only [withinS, Bool.and_eq_true, decide_eq_true_eq]; omega
  have key : ∃ S', reqS d c (posS c.Client d.Sessions) p = ({ d with Users := (addS d c p).1, Sessions := S' }, 0) ∧ sOKs ep 0 S' = true ∧ ∀ s ∈ S', s.Seq ≤ ((i + 1 : Nat) : Int) := by
    rcases hl with hl | ⟨s0, hs0, hl⟩
    · have hp : posS c.Client d.Sessions = A.length := by rw [hl]; exact posS_split hA (fun c hc => Int.le_of_lt (hC c hc))
      have hf : foundAt (fun s : Session => cmpS s.Client c.Client) d.Sessions A.length = false := by
        rw [hl]; exact found_no (fun x hx => by have := hC x hx; unfold cmpS; rw [if_neg (by omega), if_pos this]; omega)
      have e1 : d.Sessions.take A.length = A := by rw [hl]; simp
      have e2 : d.Sessions.drop A.length = C := by rw [hl]; simp
      refine ⟨A ++ ⟨c.Client, c.Seq, (addS d c p).2, d.Epoch⟩ :: C, ?_, ?_, ?_⟩
      · unfold reqS
        simp only [hp, hf, e1, e2]
        simp
      · rw [h.ep]
        exact sOKs_ins (s := ⟨c.Client, c.Seq, (addS d c p).2, ep⟩) ⟨hcl.2, hnew⟩ hC hA (by simp only; omega) (hl ▸ hS)
      · intro s hs'
        rcases List.mem_append.1 hs' with hs' | hs'
        · have := h.seq s (by rw [hl]; simp [hs']); omega
        · rcases List.mem_cons.1 hs' with rfl | hs'
          · simp only; omega
          · have := h.seq s (by rw [hl]; simp [hs']); omega
    · have hC0 : ∀ x ∈ s0 :: C, c.Client ≤ x.Client := fun x hx => by
        rcases List.mem_cons.1 hx with rfl | hx
        · omega
        · exact Int.le_of_lt (hC x hx)
      have hp : posS c.Client d.Sessions = A.length := by rw [hl]; exact posS_split hA hC0
      have hf : foundAt (fun s : Session => cmpS s.Client c.Client) d.Sessions A.length = true := by
        rw [hl]; exact found_in (by unfold cmpS; rw [if_neg (by omega), if_neg (by omega)])
      have hg : d.Sessions[A.length]? = some s0 := by rw [hl]; simp
      have hq := h.seq s0 (by rw [hl]; simp)
      refine ⟨A ++ ⟨s0.Client, c.Seq, (addS d c p).2, d.Epoch⟩ :: C, ?_, ?_, ?_⟩
      · unfold reqS
        simp only [hp, hf, hg, Option.getD_some, if_true, true_and]
        rw [if_neg (by omega), if_neg (by omega)]
        have e1 : ∀ x, d.Sessions.set A.length x = A ++ x :: C := fun x => by rw [hl]; simp
        rw [e1]
      · rw [h.ep]
        exact sOKs_set (s := ⟨s0.Client, c.Seq, (addS d c p).2, ep⟩) (s0 := s0) hnew rfl (hl ▸ hS)
      · intro s hs'
        rcases List.mem_append.1 hs' with hs' | hs'
        · have := h.seq s (by rw [hl]; simp [hs']); omega
        · rcases List.mem_cons.1 hs' with rfl | hs'
          · simp only; omega
          · have := h.seq s (by rw [hl]; simp [hs']); omega
  obtain ⟨S', k1, k2, k3⟩ := key
  have hst : stepS d c = ⟨ep, (addS d c p).1, S'⟩ := by
    have : applyS d c (posS c.Client d.Sessions) p = (⟨ep, (addS d c p).1, S'⟩, 0) := by
      unfold applyS
      rw [if_pos ⟨h.ok, hm⟩, if_neg h4, k1]
      simp [h.ep]
    unfold stepS
    rw [hP, this]
    simp
  rw [hst]
  exact ⟨DirI.mk' ha.ok k2 hep k3 ha.nm, ha⟩

theorem seal_law {i ep : Nat} {K : Nat → Prop} {d : Directory} (h : DirI i ep K d) (hi : ep < 200) :
    DirI (i + 1) (ep + 1) K (stepS d ⟨4, 0, 0, noStr, noStr, (ep : Int) + 1⟩) ∧ (stepS d ⟨4, 0, 0, noStr, noStr, (ep : Int) + 1⟩).Users = d.Users := by
  obtain ⟨hU, hS, hep⟩ := h.parts
  have hm : mayS ⟨4, 0, 0, noStr, noStr, (ep : Int) + 1⟩ = true := by
    have h1 : strEq noStr noStr = true := by simp [strEq_iff2]
    simp [mayS, h1, withinS]; omega
  have hst : stepS d ⟨4, 0, 0, noStr, noStr, (ep : Int) + 1⟩ = ⟨((ep + 1 : Nat) : Int), d.Users, d.Sessions⟩ := by
    unfold stepS applyS
    simp [h.ok, hm, h.ep]
  rw [hst]
  refine ⟨DirI.mk' (uOKs_mono (by omega) hU) (sOKs_mono (by omega) hS) (by omega) (fun s hs => ?_) h.nm, rfl⟩
  have := h.seq s hs
  omega
theorem zero_law (K : Nat → Prop) : DirI 0 0 K zDir := DirI.mk' (ep := 0) rfl rfl (by decide) (by simp) (by simp)
end Go.Apl

/- The plain law of WholeProjected. -/
namespace Go.Apl
open Go Go.Proofs
set_option maxRecDepth 100000
set_option linter.unusedSimpArgs false
set_option linter.unusedVariables false

def cAt (i ep : Nat) (e : Errand) : Command :=
  if (cmdS e).2 = true then { (cmdS e).1 with Client := 1 + ((e.Client % 4 : Nat) : Int), Seq := (i : Int) + 1 } else ⟨4, 0, 0, noStr, noStr, (ep : Int) + 1⟩
def runE (l : List Errand) : Nat → Nat
  | 0 => 0
  | i + 1 => match l[i]? with
    | some e => if (cmdS e).2 = true then runE l i else runE l i + 1
    | none => runE l i
def runA (l : List Errand) : Nat → List Command
  | 0 => []
  | i + 1 => match l[i]? with
    | some e => runA l i ++ [cAt i (runE l i) e]
    | none => runA l i
def goes (e : Errand) (u : Nat) : Bool := !(cmdS e).2 || e.User % 4 == u
def runO (l : List Errand) (u : Nat) : Nat → List Command
  | 0 => []
  | i + 1 => match l[i]? with
    | some e => if goes e u = true then runO l u i ++ [cAt i (runE l i) e] else runO l u i
    | none => runO l u i

theorem runE_le (l : List Errand) : ∀ i, runE l i ≤ i
  | 0 => Nat.le_refl _
  | i + 1 => by
    have := runE_le l i
    simp only [runE]
    split
    · split <;> omega
    · omega
theorem runA_len (l : List Errand) : ∀ i, (runA l i).length ≤ i
  | 0 => Nat.le_refl _
  | i + 1 => by
    have := runA_len l i
    simp only [runA]
    split
    · simp; omega
    · omega
theorem runO_len (l : List Errand) (u : Nat) : ∀ i, (runO l u i).length ≤ i
  | 0 => Nat.le_refl _
  | i + 1 => by
    have := runO_len l u i
    simp only [runO]
    split
    · split
      · simp; omega
      · omega
    · omega
theorem cmdS_kind {e : Errand} (h : (cmdS e).2 = true) : ((cmdS e).1.Kind = 1 ∨ (cmdS e).1.Kind = 2 ∨ (cmdS e).1.Kind = 3) ∧ (cmdS e).1.User = userS (e.User % 4) ∧ (cmdS e).1.Epoch = 0 ∧ (if (cmdS e).1.Kind = 3 then strEq (cmdS e).1.Key noStr else withinS (cmdS e).1.Key.size 1 64) = true := by
  have hk : withinS (keyS e.Key).size 1 64 = true := rfl
  unfold cmdS at h ⊢
  split
  · simp [hk]
  · split
    · simp [hk]
    · split
      · simp [strEq_iff2]
      · rename_i h1 h2 h3
        rw [if_neg h1, if_neg h2, if_neg h3] at h
        cases h
theorem cAt_may {i ep : Nat} {e : Errand} (h : (cmdS e).2 = true) (hi : i < 200) : mayS (cAt i ep e) = true := by
  obtain ⟨h1, h2, h3, h4⟩ := cmdS_kind h
  rw [cAt, if_pos h]
  have hn := (userS_name (e.User % 4) (Nat.mod_lt _ (by decide))).1
  have hb : (if (cmdS e).1.Kind = 1 ∨ (cmdS e).1.Kind = 2 ∨ (cmdS e).1.Kind = 3 then true else false) = true := by simp [h1]
  unfold mayS
  rw [if_pos h1]
  simp only [h2, h3, h4, hn, withinS]
  simp
  refine ⟨⟨?_, by omega⟩, by omega⟩
  split at h4
  · rename_i h5; rw [if_pos h5]; exact h4
  · rename_i h5; rw [if_neg h5]; simpa [withinS] using h4
theorem cAt_kind {i ep : Nat} {e : Errand} : (cAt i ep e).Kind ≠ 5 ∧ ((cmdS e).2 = true → (cAt i ep e).Kind ≠ 4 ∧ (cAt i ep e).User = userS (e.User % 4) ∧ (cAt i ep e).Seq = (i : Int) + 1 ∧ 1 ≤ (cAt i ep e).Client ∧ (cAt i ep e).Client ≤ 4) := by
  by_cases h : (cmdS e).2 = true
  · obtain ⟨h1, h2, h3, h4⟩ := cmdS_kind h
    rw [cAt, if_pos h]
    simp only
    refine ⟨by omega, fun _ => ⟨by omega, h2, by simp, by omega, by omega⟩⟩
  · rw [cAt, if_neg h]
    exact ⟨by show (4 : Int) ≠ 5; decide, fun h' => absurd h' h⟩
theorem runA_kind (l : List Errand) : ∀ i, ∀ c ∈ runA l i, c.Kind ≠ 5
  | 0 => by simp [runA]
  | i + 1 => by
    have := runA_kind l i
    simp only [runA]
    split
    · intro c hc
      rcases List.mem_append.1 hc with hc | hc
      · exact this c hc
      · rw [List.mem_singleton.1 hc]; exact cAt_kind.1
    · exact this
theorem runO_kind (l : List Errand) (u : Nat) : ∀ i, ∀ c ∈ runO l u i, c.Kind ≠ 5
  | 0 => by simp [runO]
  | i + 1 => by
    have := runO_kind l u i
    simp only [runO]
    split
    · split
      · intro c hc
        rcases List.mem_append.1 hc with hc | hc
        · exact this c hc
        · rw [List.mem_singleton.1 hc]; exact cAt_kind.1
      · exact this
    · exact this
theorem DirI.next {i ep : Nat} {K : Nat → Prop} {d : Directory} (h : DirI i ep K d) : DirI (i + 1) ep K d := ⟨h.ok, h.ep, fun s hs => by have := h.seq s hs; omega, h.nm⟩
theorem madeS_app (l : List Command) (c : Command) : madeS (l ++ [c]) = stepS (madeS l) c := by rw [madeS, List.foldl_append]; rfl

theorem law (l : List Errand) (hl : l.length ≤ 200) : ∀ i, i ≤ l.length → DirI i (runE l i) (fun _ => True) (madeS (runA l i)) ∧
    ∀ u, u < 4 → DirI i (runE l i) (fun k => k = u) (madeS (runO l u i)) ∧ versL (userS u) (madeS (runA l i)).Users = versL (userS u) (madeS (runO l u i)).Users
  | 0, _ => ⟨zero_law _, fun u _ => ⟨zero_law _, rfl⟩⟩
  | i + 1, hi => by
    obtain ⟨h1, h2⟩ := law l hl i (by omega)
    have he : l[i]? = some l[i] := List.getElem?_eq_getElem (by omega)
    generalize l[i] = e at he
    have hep := runE_le l i
    have hu4 : e.User % 4 < 4 := Nat.mod_lt _ (by decide)
    simp only [runE, runA, runO, he]
    by_cases hc : (cmdS e).2 = true
    · obtain ⟨k1, k2, k3, k4⟩ := (cAt_kind (i := i) (ep := runE l i) (e := e)).2 hc
      have hm := cAt_may (i := i) (ep := runE l i) hc (by omega)
      rw [if_pos hc, madeS_app]
      obtain ⟨a1, a2⟩ := step_law h1 hu4 trivial k2 hm k1 k3 (by omega) k4
      refine ⟨a1, fun u hu => ?_⟩
      obtain ⟨b1, b2⟩ := h2 u hu
      by_cases hg : e.User % 4 = u
      · have : goes e u = true := by simp [goes, hg]
        rw [if_pos this, madeS_app]
        obtain ⟨c1, c2⟩ := step_law b1 hu4 hg k2 hm k1 k3 (by omega) k4
        refine ⟨c1, ?_⟩
        have q1 := a2.own
        have q2 := c2.own
        rw [hg] at q1 q2
        rw [q1, q2, b2]
      · have : ¬ goes e u = true := by simp [goes, hg, hc]
        rw [if_neg this]
        exact ⟨b1.next, by rw [a2.other u hu (fun e => hg e.symm), b2]⟩
    · have e0 : cAt i (runE l i) e = ⟨4, 0, 0, noStr, noStr, (runE l i : Int) + 1⟩ := by rw [cAt, if_neg hc]
      rw [if_neg hc, madeS_app, e0]
      obtain ⟨a1, a2⟩ := seal_law h1 (by omega)
      refine ⟨a1, fun u hu => ?_⟩
      obtain ⟨b1, b2⟩ := h2 u hu
      have : goes e u = true := by simp [goes, hc]
      rw [if_pos this, madeS_app]
      obtain ⟨c1, c2⟩ := seal_law b1 (by omega)
      exact ⟨c1, by rw [a2, c2, b2]⟩

def lastV (l : List User) : List Version := l.foldl (fun _ u => u.Versions) []
theorem lastV_eq {l : List User} {n : ByteArray} (h : ∀ u ∈ l, u.Name = n) (h1 : l.length ≤ 1) : lastV l = versL n l := by
  match l, h, h1 with
  | [], _, _ => rfl
  | [u], h, _ => simp [lastV, versL, versF, strEq_iff2, h u (by simp)]
  | _ :: _ :: _, _, h1 => simp at h1
/-- What WholeProjected asks for. -/
theorem answer (l : List Errand) (hl : l.length ≤ 200) {u : Nat} (hu : u < 4) :
    (madeS (runO l u l.length)).Epoch = (madeS (runA l l.length)).Epoch ∧ (madeS (runO l u l.length)).Users.length ≤ 1 ∧ (madeS (runA l l.length)).Epoch = runE l l.length ∧ runE l l.length ≤ 200 ∧
    lastV (madeS (runO l u l.length)).Users = versL (userS u) (madeS (runA l l.length)).Users ∧ (madeS (runA l l.length)).Users.length ≤ 4 := by
  obtain ⟨h1, h2⟩ := law l hl l.length (Nat.le_refl _)
  obtain ⟨b1, b2⟩ := h2 u hu
  have hn : ∀ x ∈ (madeS (runO l u l.length)).Users, x.Name = userS u := fun x hx => by
    obtain ⟨k, k1, k2, k3⟩ := b1.nm x hx
    rw [k3, k2]
  have hone := one_len hn b1.parts.1
  have := runE_le l l.length
  refine ⟨by rw [b1.ep, h1.ep], hone, h1.ep, by omega, by rw [lastV_eq hn hone, b2], ?_⟩
  exact names_len (j := 0) (fun u hu => by obtain ⟨k, k1, k2, k3⟩ := h1.nm u hu; exact ⟨k, by omega, k1, k3⟩) (by omega) h1.parts.1
end Go.Apl

/- The contract of works. -/
namespace Go.Apl
open Go Go.Proofs
set_option maxRecDepth 100000
set_option linter.unusedSimpArgs false
set_option linter.unusedVariables false

def uStr : ByteArray := { data := #[117] }
def kStr : ByteArray := { data := #[107] }
def wCmds : List Command := [⟨1, 1, 1, uStr, kStr, 0⟩, ⟨4, 0, 0, noStr, noStr, 1⟩]
theorem wMade : madeS wCmds = ⟨1, [⟨uStr, [⟨1, 1, kStr⟩]⟩], [⟨1, 1, 0, 0⟩]⟩ := by kernel_rfl
theorem works_c : PureF Tryz.prog 4 [] (.v (.bool true)) := by
  refine PureF.intro (c := _) Tryz.func4 rfl (by kernel_rfl) (by rw [Tryz.ntmps4]; simp) rfl ?_
  refine Awp.rg [] fun K hK => ?_
  simp
  refine hK _ ?_; clear hK K
  refine Awp.rg [1] fun K hK => ?_
  simp
  refine RL.cF ?_  -- tabelliontop.made
  simp
  refine ⟨_, made_c wCmds rfl (by decide) (by decide), by simp, ?_⟩
  try simp
  refine hK _ ?_; clear hK K
  refine Awp.rg [0] fun K hK => ?_
  simp [wMade]
  refine hK _ ?_; clear hK K
  refine Awp.ret ?_
  try simp only [thenQ, inBlk, ↓reduceIte]
  -- RET 0
  refine retQ.of2 (by simp) ?_
  simp [Tryz.results4]
  skip
end Go.Apl
