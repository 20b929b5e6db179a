/- Part of a proof: the texts T22, T23 of a library of data trees, abstract stores and contracts, joined. -/
import Derived.Test.YtpdenmclcnkaaaaGreatDoorL10
import Derived.ProofKit
import Derived.Deep.Slices
/- The contract of WholeProjected. -/
namespace Go.Apl
open Go Go.Proofs
set_option maxRecDepth 100000
set_option linter.unusedSimpArgs false
set_option linter.unusedVariables false

@[simp] theorem cmd_bare (l : List Command) : bares (l.map Command.enc) = true := bares_map (fun c => by simp [D.bare, bares, zDig_bare]) l
@[simp] theorem cmd_ren {f : Nat → Nat} (l : List Command) : rens f (l.map Command.enc) = l.map Command.enc := bares_ren (cmd_bare l)
@[simp] theorem cmd_lt {n : Nat} (l : List Command) : ltNs n (l.map Command.enc) = true := bares_lt (cmd_bare l)

def midO (l : List Errand) (i k u : Nat) : List Command := if u < k then runO l u (i + 1) else runO l u i
theorem Awp.seen {P : Program} {Q : Exit → St → Prop} {s : St} {c : Code} (t : Nat) {d : D} (d' : D) (ht : getT t s.tm = some d) (hd : Dle d d') (h : Awp P c Q ⟨s.n, (t, d') :: s.tm, s.σ, s.nx⟩) : Awp P c Q s := by
  refine Awp.weak (s' := ⟨s.n, (t, d') :: s.tm, s.σ, s.nx⟩) ⟨rfl, fun u e he => ?_, fun _ _ h => h, Nat.le_refl _⟩ h
  simp only [getT] at he
  by_cases hu : t = u
  · rw [if_pos hu] at he; cases he; subst hu; exact .inr (.inr ⟨d, ht, hd⟩)
  · rw [if_neg hu] at he; exact .inr (.inl he)
theorem versL_len {N : Nat} (n : ByteArray) : ∀ {l : List User} {x : List Version}, x.length ≤ N → (∀ u ∈ l, u.Versions.length ≤ N) → (versF n l x).length ≤ N
  | [], _, h, _ => h
  | u :: l, x, h, hu => by
    rw [versF_cons]
    refine versL_len n ?_ (fun v hv => hu v (by simp [hv]))
    split
    · exact hu u (by simp)
    · exact h
theorem versL_snoc (n : ByteArray) (l : List User) {j : Nat} (h : j < l.length) : versL n (l.take (j + 1)) = if strEq l[j].Name n = true then l[j].Versions else versL n (l.take j) := by
  rw [List.take_succ_eq_append_getElem h, versL, versL, versF_app, versF_cons, strEq_iff2]; simp [versF]
theorem lastV_snoc (l : List User) {j : Nat} (h : j < l.length) : lastV (l.take (j + 1)) = l[j].Versions := by
  rw [List.take_succ_eq_append_getElem h, lastV, List.foldl_append]; rfl
@[simp] theorem tk_map {α : Type} {f : α → D} (l : List α) : (l.map f).take l.length = l.map f := List.take_of_length_le (by simp)
theorem cmdU (u : Nat) (h : u < 4) : cmdS ⟨0, 0, u, 0⟩ = (⟨1, 0, 0, userS u, keyS 0, 0⟩, true) := by
  simp [cmdS, Nat.mod_eq_of_lt h]
theorem midq0 (l : List Errand) (i u : Nat) : midO l i u u = runO l u i := by simp [midO]
def stA (l : List Errand) (i : Nat) : St :=
  ⟨161, [(0, .lst true false 33 (l.map Errand.enc)), (3, .own 8 0 (runA l i).length), (4, .ptr 0 []), (5, .v (.int .i64 (runE l i))), (6, .v (.int .i64 i))],
    [(0, .box 25 (.st 25 [.own 9 0 (runO l 0 i).length, .own 10 0 (runO l 1 i).length, .own 11 0 (runO l 2 i).length, .own 12 0 (runO l 3 i).length])),
      (8, .arr 30 ((runA l i).map Command.enc)), (9, .arr 30 ((runO l 0 i).map Command.enc)), (10, .arr 30 ((runO l 1 i).map Command.enc)), (11, .arr 30 ((runO l 2 i).map Command.enc)), (12, .arr 30 ((runO l 3 i).map Command.enc))], 14⟩
def stB (l : List Errand) (i : Nat) (b : Bool) (c : Command) (k : Nat) : St :=
  ⟨161, [(0, .lst true false 33 (l.map Errand.enc)), (3, .own 8 0 (runA l (i + 1)).length), (4, .ptr 0 []), (5, .v (.int .i64 (runE l (i + 1)))), (6, .v (.int .i64 i)), (7, .ptr 13 []), (8, .v (.bool b)), (9, .v (.int .i64 k))],
    [(0, .box 25 (.st 25 [.own 9 0 (midO l i k 0).length, .own 10 0 (midO l i k 1).length, .own 11 0 (midO l i k 2).length, .own 12 0 (midO l i k 3).length])),
      (8, .arr 30 ((runA l (i + 1)).map Command.enc)), (9, .arr 30 ((midO l i k 0).map Command.enc)), (10, .arr 30 ((midO l i k 1).map Command.enc)), (11, .arr 30 ((midO l i k 2).map Command.enc)), (12, .arr 30 ((midO l i k 3).map Command.enc)), (13, .box 30 c.enc)], 14⟩

def stC (l : List Errand) (a : Nat × Nat) : St :=
  ⟨161, [(4, .ptr 0 []), (5, .v (.int .i64 (runE l l.length))), (10, .ptr 14 []), (11, .v (.int .i64 a.1))],
    [(0, .box 25 (.st 25 [.own 9 0 (runO l 0 l.length).length, .own 10 0 (runO l 1 l.length).length, .own 11 0 (runO l 2 l.length).length, .own 12 0 (runO l 3 l.length).length])), (9, .arr 30 ((runO l 0 l.length).map Command.enc)), (10, .arr 30 ((runO l 1 l.length).map Command.enc)), (11, .arr 30 ((runO l 2 l.length).map Command.enc)), (12, .arr 30 ((runO l 3 l.length).map Command.enc)), (14, .box 39 ((madeS (runA l l.length)).enc false))], a.2 + 15⟩
abbrev cnil : D := cstD (.slice none 0 0)
def stD (l : List Errand) (u m : Nat) (O : Directory) (z : D) (a : Nat × Nat) : St :=
  ⟨161, [(4, .ptr 0 []), (5, .v (.int .i64 (runE l l.length))), (10, .ptr 14 []), (11, .v (.int .i64 u)), (13, .ptr (m + 16) []), (15, .ptr (m + 17) []), (16, .lst false false 53 ((versL (userS u) ((madeS (runA l l.length)).Users.take a.1)).map Version.enc)), (17, z), (18, .v (.int .i64 a.1))],
    [(0, .box 25 (.st 25 [.own 9 0 (runO l 0 l.length).length, .own 10 0 (runO l 1 l.length).length, .own 11 0 (runO l 2 l.length).length, .own 12 0 (runO l 3 l.length).length])), (9, .arr 30 ((runO l 0 l.length).map Command.enc)), (10, .arr 30 ((runO l 1 l.length).map Command.enc)), (11, .arr 30 ((runO l 2 l.length).map Command.enc)), (12, .arr 30 ((runO l 3 l.length).map Command.enc)), (14, .box 39 ((madeS (runA l l.length)).enc false)), (m + 16, .box 30 (Command.enc ⟨1, 0, 0, userS u, keyS 0, 0⟩)), (m + 17, .box 39 (O.enc false))], a.2 + m + 18⟩
def stE (l : List Errand) (u m : Nat) (O : Directory) (h : D) (a : Nat × Nat) : St :=
  ⟨161, [(4, .ptr 0 []), (5, .v (.int .i64 (runE l l.length))), (10, .ptr 14 []), (11, .v (.int .i64 u)), (15, .ptr (m + 17) []), (16, h), (17, .lst false false 53 ((lastV (O.Users.take a.1)).map Version.enc)), (19, .v (.int .i64 a.1))],
    [(0, .box 25 (.st 25 [.own 9 0 (runO l 0 l.length).length, .own 10 0 (runO l 1 l.length).length, .own 11 0 (runO l 2 l.length).length, .own 12 0 (runO l 3 l.length).length])), (9, .arr 30 ((runO l 0 l.length).map Command.enc)), (10, .arr 30 ((runO l 1 l.length).map Command.enc)), (11, .arr 30 ((runO l 2 l.length).map Command.enc)), (12, .arr 30 ((runO l 3 l.length).map Command.enc)), (14, .box 39 ((madeS (runA l l.length)).enc false)), (m + 17, .box 39 (O.enc false))], a.2 + m + 18⟩

set_option maxHeartbeats 2000000 in
theorem whole_c (l : List Errand) (hb : ∀ e ∈ l, e.Client ≤ 255 ∧ e.User ≤ 255) : PureF Tryz.prog 3 [.lst true false 33 (l.map Errand.enc)] (.v (.bool true)) := by
  refine PureF.intro (c := _) Tryz.func3 rfl (by kernel_rfl) (by rw [Tryz.ntmps3]; simp) rfl ?_
  refine Awp.rg [0] fun K hK => ?_
  simp
  refine hK _ ?_; clear hK K
  refine Awp.seq ?_
  refine Awp.rg [0, 22] fun K hK => ?_
  simp
  refine hK _ ?_; clear hK K
  refine Awp.cond _ rfl (fun h => ?_) (fun h => ?_)  -- C0
  · try simp at h
    all_goals try (exfalso; omega)
    all_goals
      refine Awp.rg [2] fun K hK => ?_
      simp
      refine RL.cF ?_  -- tabelliontop.works
      simp
      refine ⟨_, works_c, by simp, ?_⟩
      try simp
      refine hK _ ?_; clear hK K
      refine Awp.ret ?_
      try simp only [thenQ, inBlk, ↓reduceIte]
      -- RET 0
      refine retQ.of2 (by simp) ?_
      simp [Tryz.results3]
      try simp [*]
  · try simp at h
    all_goals try (exfalso; omega)
    all_goals
      have hl : l.length ≤ 200 := by omega
      refine Awp.skip ?_
      try simp only [thenQ, inBlk, ↓reduceIte]
      refine Awp.rg [0, 3] fun K hK => ?_
      simp
      refine hK _ ?_; clear hK K
      refine Awp.rg [0, 3, 4] fun K hK => ?_
      simp
      refine hK _ ?_; clear hK K
      refine Awp.rg [0, 3, 4, 5] fun K hK => ?_
      simp
      refine hK _ ?_; clear hK K
      refine Awp.seq ?_
      refine Awp.rg [0, 3, 4, 5, 6] fun K hK => ?_
      simp
      refine hK _ ?_; clear hK K
      refine Awp.block ?_
      -- LOOP 0 live [0, 3, 4, 5, 6]
      refine Awp.adopt (E := 30) (t := 3) rfl (by simp) ?_
      refine Awp.adoptIn 0 [0] 30 rfl rfl rfl (by simp) ?_
      refine Awp.adoptIn 0 [1] 30 rfl rfl rfl (by simp) ?_
      refine Awp.adoptIn 0 [2] 30 rfl rfl rfl (by simp) ?_
      refine Awp.adoptIn 0 [3] 30 rfl rfl rfl (by simp) ?_
      refine Awp.loopR (f := stA l) (I := fun i => i ≤ l.length) (μ := fun i => l.length - i) 0 (fun x => if 8 ≤ x then x - 7 else x) ?_ ?_ ?_
      · exact Nat.zero_le _
      · simp [St.renOK, renT, renL, stA, runA, runO, runE]
      intro i hi
      simp only [stA]
      refine Awp.seq ?_
      refine Awp.rg [0, 3, 4, 5, 6, 27] fun K hK => ?_
      simp
      refine hK _ ?_; clear hK K
      refine Awp.cond _ rfl (fun h => ?_) (fun h => ?_)  -- C1
      · try simp at h
        all_goals try (exfalso; omega)
        all_goals
          have hlt : i < l.length := by omega
          obtain ⟨e, he⟩ : ∃ e, e = l[i] := ⟨_, rfl⟩
          have hv : l[i]? = some e := by rw [he]; exact List.getElem?_eq_getElem hlt
          have hbe := hb e (he ▸ List.getElem_mem hlt)
          have hep := runE_le l i
          have hal := runA_len l i
          have h1c : (e.Client : Int).tmod 4 = ((e.Client % 4 : Nat) : Int) := tmodN _ 4
          have hA : runA l (i + 1) = runA l i ++ [cAt i (runE l i) e] := by simp only [runA, hv]
          have hg : l[i] = e := he.symm
          have ho0 := runO_len l 0 i
          have ho1 := runO_len l 1 i
          have ho2 := runO_len l 2 i
          have ho3 := runO_len l 3 i
          have h1u : (e.User : Int).tmod 4 = ((e.User % 4 : Nat) : Int) := tmodN _ 4
          have wU : IntKind.i64.wrap (e.User : Int) = (e.User : Int) := wrap_id (by omega)
          refine Awp.skip ?_
          try simp only [thenQ, inBlk, ↓reduceIte]
          refine Awp.seq ?_
          refine Awp.block ?_
          refine Awp.rg [0, 3, 4, 5, 6, 7, 8] fun K hK => ?_
          simp [hg, hlt]
          refine RL.cF ?_  -- (tabelliontop.Errand).command
          simp [hg, hlt]
          refine ⟨_, command_c e, by simp, ?_⟩
          try simp [hg, hlt]
          refine hK _ ?_; clear hK K
          refine Awp.rg [0, 3, 4, 5, 6, 7, 8] fun K hK => ?_
          simp (disch := omega) [wrap_id, hg, hlt, h1c]
          refine hK _ ?_; clear hK K
          refine Awp.rg [0, 3, 4, 5, 6, 7, 8] fun K hK => ?_
          simp (disch := omega) [wrap_id]
          refine hK _ ?_; clear hK K
          refine Awp.seq ?_
          refine Awp.rg [0, 3, 4, 5, 6, 7, 8, 51] fun K hK => ?_
          simp
          refine hK _ ?_; clear hK K
          refine Awp.cond _ rfl (fun h => ?_) (fun h => ?_)  -- C2
          · try simp at h
            all_goals try (exfalso; omega)
            all_goals
              have hc : cAt i (runE l i) e = ⟨4, 0, 0, noStr, noStr, (runE l i : Int) + 1⟩ := by rw [cAt, if_neg (by simp [h])]
              have hE : runE l (i + 1) = runE l i + 1 := by simp only [runE, hv]; rw [if_neg (by simp [h])]
              have hbq := h
              have hO : ∀ u, runO l u (i + 1) = runO l u i ++ [cAt i (runE l i) e] := fun u => by simp only [runO, hv]; rw [if_pos (by simp [goes, h])]
              refine Awp.rg [0, 3, 4, 5, 6, 7, 8] fun K hK => ?_
              simp (disch := omega) [wrap_id]
              refine hK _ ?_; clear hK K
              refine Awp.rgE fun K hK => ?_
              simp
              refine hK _ ?_; clear hK K
              try simp only [thenQ, inBlk, ↓reduceIte]
              refine Awp.rg [0, 3, 4, 5, 6, 7, 8] fun K hK => ?_
              simp
              repeat (rw [if_pos (by omega)]; simp)
              refine hK _ ?_; clear hK K
              refine Awp.rg [0, 3, 4, 5, 6, 7, 8, 9] fun K hK => ?_
              simp
              refine hK _ ?_; clear hK K
              refine Awp.block ?_
              -- LOOP 1 live [0, 3, 4, 5, 6, 7, 8, 9]
              refine Awp.loopR (f := stB l i false (cAt i (runE l i) e)) (I := fun k => k ≤ 4) (μ := fun k => 4 - k) 0 (fun x => if x = 8 then 16 else if x = 13 then 14 else x) ?_ ?_ ?_
              · exact Nat.zero_le _
              · simp [St.renOK, renT, renL, stB, midO, hA, hE, hc, hbq, ltNs_append, rens_append, noStr]
              intro k hk
              simp only [stB]
              refine Awp.seq ?_
              refine Awp.rg [0, 3, 4, 5, 6, 7, 8, 9, 61] fun K hK => ?_
              simp
              refine hK _ ?_; clear hK K
              refine Awp.cond _ rfl (fun h => ?_) (fun h => ?_)  -- C3
              · try simp at h
                all_goals try (exfalso; omega)
                all_goals
                  obtain ⟨kk, hkk⟩ : ∃ kk, kk = k := ⟨_, rfl⟩
                  have hk3 : k = 0 ∨ k = 1 ∨ k = 2 ∨ k = 3 := by omega
                  rcases hk3 with rfl | rfl | rfl | rfl
                  all_goals
                    refine Awp.skip ?_
                    try simp only [thenQ, inBlk, ↓reduceIte]
                    refine Awp.seq ?_
                    refine Awp.block ?_
                    refine Awp.rg [0, 3, 4, 5, 6, 7, 8, 9, 76] fun K hK => ?_
                    simp [hg, hlt, h1u, wU]
                    refine hK _ ?_; clear hK K
                    refine Awp.cond _ rfl (fun h => ?_) (fun h => ?_)  -- C4
                    · try simp at h
                      all_goals try (exfalso; omega)
                      all_goals
                        refine Awp.rgDE [[], [], [1], [1, 2], [], [4], [1, 2, 3, 4, 5], [0, 1, 2, 3, 4, 5, 6], [0, 1, 2, 3, 4, 5, 6, 7]] (by kernel_rfl) fun K hK => ?_
                        simp [midq0]
                        repeat (rw [if_pos (by omega)]; simp [midq0])
                        refine hK _ ?_; clear hK K
                        try simp only [thenQ, inBlk, ↓reduceIte]
                        refine Awp.rgE fun K hK => ?_
                        simp
                        refine hK _ ?_; clear hK K
                        try simp only [thenQ, inBlk, ↓reduceIte]
                        refine ⟨kk + 1, fun x => if x = 9 + kk then 15 else x, by omega, by omega, ?_⟩
                        subst hkk
                        simp [St.renOK, renT, renL, stB, midO, hO, hc, ltNs_append, rens_append, noStr]
                        all_goals first | rfl | trace_state
                    · try simp at h
                      all_goals try (exfalso; omega)
                      all_goals
                        refine Awp.skip ?_
                        try simp only [thenQ, inBlk, ↓reduceIte]
                        refine Awp.rgE fun K hK => ?_
                        simp
                        refine hK _ ?_; clear hK K
                        try simp only [thenQ, inBlk, ↓reduceIte]
                        refine ⟨kk + 1, fun x => if x = 9 + kk then 15 else x, by omega, by omega, ?_⟩
                        subst hkk
                        simp [St.renOK, renT, renL, stB, midO, hO, hc, ltNs_append, rens_append, noStr]
                        all_goals first | rfl | trace_state
              · try simp at h
                all_goals try (exfalso; omega)
                all_goals
                  have hk4 : k = 4 := by omega
                  subst hk4
                  refine Awp.exit ?_
                  try simp only [thenQ, inBlk, ↓reduceIte]
                  refine Awp.rgE fun K hK => ?_
                  simp (disch := omega) [wrap_id]
                  refine hK _ ?_; clear hK K
                  try simp only [thenQ, inBlk, ↓reduceIte]
                  refine ⟨i + 1, fun x => x, by omega, by omega, ?_⟩
                  simp [St.renOK, renT, renL, stA, midO]
          · try simp at h
            all_goals try (exfalso; omega)
            all_goals
              have hbq : (cmdS e).2 = true := by simpa using h
              have hc : cAt i (runE l i) e = { (cmdS e).1 with Client := 1 + ((e.Client % 4 : Nat) : Int), Seq := (i : Int) + 1 } := by rw [cAt, if_pos hbq]
              have hE : runE l (i + 1) = runE l i := by simp only [runE, hv]; rw [if_pos hbq]
              refine Awp.skip ?_
              try simp only [thenQ, inBlk, ↓reduceIte]
              refine Awp.rg [0, 3, 4, 5, 6, 7, 8] fun K hK => ?_
              simp
              repeat (rw [if_pos (by omega)]; simp)
              refine hK _ ?_; clear hK K
              refine Awp.rg [0, 3, 4, 5, 6, 7, 8, 9] fun K hK => ?_
              simp
              refine hK _ ?_; clear hK K
              refine Awp.block ?_
              -- LOOP 2 live [0, 3, 4, 5, 6, 7, 8, 9]
              refine Awp.loopR (f := stB l i true (cAt i (runE l i) e)) (I := fun k => k ≤ 4) (μ := fun k => 4 - k) 0 (fun x => if x = 8 then 16 else if x = 13 then 14 else x) ?_ ?_ ?_
              · exact Nat.zero_le _
              · simp [St.renOK, renT, renL, stB, midO, hA, hE, hc, hbq, h1c, ltNs_append, rens_append, noStr]
              intro k hk
              simp only [stB]
              refine Awp.seq ?_
              refine Awp.rg [0, 3, 4, 5, 6, 7, 8, 9, 61] fun K hK => ?_
              simp
              refine hK _ ?_; clear hK K
              refine Awp.cond _ rfl (fun h => ?_) (fun h => ?_)  -- C5
              · try simp at h
                all_goals try (exfalso; omega)
                all_goals
                  obtain ⟨kk, hkk⟩ : ∃ kk, kk = k := ⟨_, rfl⟩
                  have hk3 : k = 0 ∨ k = 1 ∨ k = 2 ∨ k = 3 := by omega
                  rcases hk3 with rfl | rfl | rfl | rfl
                  all_goals
                    refine Awp.skip ?_
                    try simp only [thenQ, inBlk, ↓reduceIte]
                    refine Awp.seq ?_
                    refine Awp.block ?_
                    refine Awp.rg [0, 3, 4, 5, 6, 7, 8, 9, 76] fun K hK => ?_
                    simp [hg, hlt, h1u, wU]
                    refine hK _ ?_; clear hK K
                    refine Awp.cond _ rfl (fun h => ?_) (fun h => ?_)  -- C6
                    · try simp at h
                      all_goals try (exfalso; omega)
                      all_goals
                        have hO : runO l kk (i + 1) = runO l kk i ++ [cAt i (runE l i) e] := by simp only [runO, hv]; rw [if_pos (by simp [goes, hbq]; omega)]
                        refine Awp.rgDE [[], [], [1], [1, 2], [], [4], [1, 2, 3, 4, 5], [0, 1, 2, 3, 4, 5, 6], [0, 1, 2, 3, 4, 5, 6, 7]] (by kernel_rfl) fun K hK => ?_
                        simp [midq0]
                        repeat (rw [if_pos (by omega)]; simp [midq0])
                        refine hK _ ?_; clear hK K
                        try simp only [thenQ, inBlk, ↓reduceIte]
                        refine Awp.rgE fun K hK => ?_
                        simp
                        refine hK _ ?_; clear hK K
                        try simp only [thenQ, inBlk, ↓reduceIte]
                        first | (refine ⟨kk + 1, fun x => if x = 9 + kk then 15 else x, by omega, by omega, ?_⟩; subst hkk; simp [St.renOK, renT, renL, stB, midO, hO, hc, ltNs_append, rens_append, noStr]; rfl) | (refine ⟨kk + 1, fun x => x, by omega, by omega, ?_⟩; subst hkk; simp [St.renOK, renT, renL, stB, midO, hO, hc, ltNs_append, rens_append, noStr]; rfl)
                    · try simp at h
                      all_goals try (exfalso; omega)
                      all_goals
                        have hO : runO l kk (i + 1) = runO l kk i := by simp only [runO, hv]; rw [if_neg (by simp [goes, hbq]; omega)]
                        refine Awp.skip ?_
                        try simp only [thenQ, inBlk, ↓reduceIte]
                        refine Awp.rgE fun K hK => ?_
                        simp
                        refine hK _ ?_; clear hK K
                        try simp only [thenQ, inBlk, ↓reduceIte]
                        first | (refine ⟨kk + 1, fun x => if x = 9 + kk then 15 else x, by omega, by omega, ?_⟩; subst hkk; simp [St.renOK, renT, renL, stB, midO, hO, hc, ltNs_append, rens_append, noStr]; rfl) | (refine ⟨kk + 1, fun x => x, by omega, by omega, ?_⟩; subst hkk; simp [St.renOK, renT, renL, stB, midO, hO, hc, ltNs_append, rens_append, noStr]; rfl)
              · try simp at h
                all_goals try (exfalso; omega)
                all_goals
                  have hk4 : k = 4 := by omega
                  subst hk4
                  refine Awp.exit ?_
                  try simp only [thenQ, inBlk, ↓reduceIte]
                  refine Awp.rgE fun K hK => ?_
                  simp (disch := omega) [wrap_id]
                  refine hK _ ?_; clear hK K
                  try simp only [thenQ, inBlk, ↓reduceIte]
                  refine ⟨i + 1, fun x => x, by omega, by omega, ?_⟩
                  simp [St.renOK, renT, renL, stA, midO]
      · try simp at h
        all_goals try (exfalso; omega)
        all_goals
          have hi2 : i = l.length := by omega
          subst hi2
          have hal := runA_len l l.length
          refine Awp.exit ?_
          try simp only [thenQ, inBlk, ↓reduceIte]
          refine Awp.rg [4, 5, 10] fun K hK => ?_
          simp
          refine RL.cF ?_  -- tabelliontop.made
          simp
          refine ⟨_, made_c (runA l l.length) rfl (by omega) (runA_kind l _), by simp, ?_⟩
          try simp
          refine hK _ ?_; clear hK K
          refine Awp.seq ?_
          refine Awp.rg [4, 5, 10, 11] fun K hK => ?_
          simp
          refine hK _ ?_; clear hK K
          refine Awp.block ?_
          -- LOOP 3 live [4, 5, 10, 11]
          refine Awp.loopS (f := stC l) (I := fun a => a.1 ≤ 4) (μ := fun a => 4 - a.1) (0, 0) ?_ ?_ ?_
          · exact Nat.zero_le _
          · simp [stC]
          rintro ⟨u, m⟩ hu
          simp only at hu
          simp only [stC]
          refine Awp.seq ?_
          refine Awp.rg [4, 5, 10, 11, 88] fun K hK => ?_
          simp
          refine hK _ ?_; clear hK K
          refine Awp.cond _ rfl (fun h => ?_) (fun h => ?_)  -- C7
          · try simp at h
            all_goals try (exfalso; omega)
            all_goals
              have hu4 : u < 4 := by omega
              have wu8 : IntKind.u8.wrap (u : Int) = (u : Int) := by simp [IntKind.wrap, IntKind.bits, IntKind.signed]; omega
              refine Awp.skip ?_
              try simp only [thenQ, inBlk, ↓reduceIte]
              refine Awp.seq ?_
              refine Awp.block ?_
              refine Awp.rg [4, 5, 10, 11, 12] fun K hK => ?_
              simp [wu8]
              refine hK _ ?_; clear hK K
              refine Awp.rg [4, 5, 10, 11, 13] fun K hK => ?_
              simp [cmdU u hu4]
              refine RL.cF ?_  -- (tabelliontop.Errand).command
              simp [cmdU u hu4]
              refine ⟨_, command_c ⟨0, 0, u, 0⟩, by simp, ?_⟩
              try simp [cmdU u hu4]
              refine hK _ ?_; clear hK K
              obtain ⟨a1, a2, a3, a4, a5, a6⟩ := answer l hl hu4
              have hvl : vlen (madeS (runA l l.length)) := madeS_vlen _ zDir_vlen
              have a2' : ¬ (1 : Int) < (madeS (runO l u l.length)).Users.length := by omega
              have a4' : ¬ (200 : Int) < (runE l l.length : Int) := by omega
              obtain ⟨uu, huu⟩ : ∃ uu, uu = u := ⟨_, rfl⟩
              rcases (by omega : u = 0 ∨ u = 1 ∨ u = 2 ∨ u = 3) with rfl | rfl | rfl | rfl
              all_goals
                refine Awp.rg [4, 5, 10, 11, 13, 15] fun K hK => ?_
                simp
                refine RL.cF ?_  -- tabelliontop.made
                simp
                refine ⟨_, made_c _ rfl (Nat.le_trans (runO_len l _ _) (by omega)) (runO_kind l _ _), by simp, ?_⟩
                try simp
                refine hK _ ?_; clear hK K
                refine Awp.seq ?_
                refine Awp.rg [4, 5, 10, 11, 13, 15, 120] fun K hK => ?_
                simp [a1, a2', a3, a4']
                refine hK _ ?_; clear hK K
                refine Awp.cond _ rfl (fun h => ?_) (fun h => ?_)  -- C8
                · try simp at h
                  all_goals try (exfalso; omega)
                  all_goals
                    refine Awp.rg [2] fun K hK => ?_
                    simp
                    refine hK _ ?_; clear hK K
                    refine Awp.ret ?_
                    try simp only [thenQ, inBlk, ↓reduceIte]
                    -- RET 1
                    refine retQ.of2 (by simp) ?_
                    simp [Tryz.results3]
                    try simp [*]
                · try simp at h
                  all_goals try (exfalso; omega)
                  all_goals
                    refine Awp.skip ?_
                    try simp only [thenQ, inBlk, ↓reduceIte]
                    refine Awp.rg [4, 5, 10, 11, 13, 15, 16, 17] fun K hK => ?_
                    simp
                    refine hK _ ?_; clear hK K
                    refine Awp.seq ?_
                    refine Awp.rg [4, 5, 10, 11, 13, 15, 16, 17, 18] fun K hK => ?_
                    simp
                    refine hK _ ?_; clear hK K
                    refine Awp.block ?_
                    -- LOOP 4 live [4, 5, 10, 11, 13, 15, 16, 17, 18]
                    refine Awp.seen 16 (.lst false false 53 []) rfl (dle1_ok (by simp)) ?_
                    refine Awp.loopS (f := stD l uu m (madeS (runO l uu l.length)) cnil) (I := fun a => a.1 ≤ (madeS (runA l l.length)).Users.length) (μ := fun a => (madeS (runA l l.length)).Users.length - a.1) (0, 0) ?_ ?_ ?_
                    · exact Nat.zero_le _
                    · simp [stD, versL, versF, cnil, huu, a1, a3]
                    rintro ⟨j, n⟩ hj
                    simp only at hj
                    simp only [stD, huu]
                    refine Awp.seq ?_
                    refine Awp.rg [4, 5, 10, 11, 13, 15, 16, 17, 18, 125] fun K hK => ?_
                    simp
                    refine hK _ ?_; clear hK K
                    refine Awp.cond _ rfl (fun h => ?_) (fun h => ?_)  -- C9
                    · try simp at h
                      all_goals try (exfalso; omega)
                      all_goals
                        have hjl : j < (madeS (runA l l.length)).Users.length := by omega
                        have hjv : (madeS (runA l l.length)).Users[j]? = some (madeS (runA l l.length)).Users[j] := List.getElem?_eq_getElem hjl
                        have hs := versL_snoc (userS uu) (madeS (runA l l.length)).Users hjl
                        rw [huu] at hs
                        refine Awp.skip ?_
                        try simp only [thenQ, inBlk, ↓reduceIte]
                        refine Awp.seq ?_
                        refine Awp.block ?_
                        refine Awp.rgD [4, 5, 10, 11, 13, 15, 16, 17, 18, 136] [[], [0], [], [0, 1, 2], [0, 1, 2, 3], [0, 1, 2, 3, 4], [], [6], [0, 1, 2, 3, 4, 5, 6, 7]] (by kernel_rfl) fun K hK => ?_
                        simp [hjl, hjv]
                        refine hK _ ?_; clear hK K
                        refine Awp.cond _ rfl (fun h => ?_) (fun h => ?_)  -- C10
                        · try simp at h
                          all_goals try (exfalso; omega)
                          all_goals
                            refine Awp.rgE fun K hK => ?_
                            simp [hjl, hjv]
                            refine hK _ ?_; clear hK K
                            try simp only [thenQ, inBlk, ↓reduceIte]
                            refine Awp.rgE fun K hK => ?_
                            simp (disch := omega) [wrap_id]
                            refine hK _ ?_; clear hK K
                            try simp only [thenQ, inBlk, ↓reduceIte]
                            refine ⟨(j + 1, n), by simp only; omega, by simp only; omega, ?_⟩
                            simp (disch := omega) [wrap_id, hs, h, a1, a3]
                        · try simp at h
                          all_goals try (exfalso; omega)
                          all_goals
                            refine Awp.skip ?_
                            try simp only [thenQ, inBlk, ↓reduceIte]
                            refine Awp.rgE fun K hK => ?_
                            simp (disch := omega) [wrap_id]
                            refine hK _ ?_; clear hK K
                            try simp only [thenQ, inBlk, ↓reduceIte]
                            refine ⟨(j + 1, n), by simp only; omega, by simp only; omega, ?_⟩
                            simp (disch := omega) [wrap_id, hs, h, a1, a3]
                    · try simp at h
                      all_goals try (exfalso; omega)
                      all_goals
                        have e9 : (madeS (runA l l.length)).Users.take j = (madeS (runA l l.length)).Users := List.take_of_length_le (by omega)
                        refine Awp.exit ?_
                        try simp only [thenQ, inBlk, ↓reduceIte]
                        refine Awp.seq ?_
                        refine Awp.rg [4, 5, 10, 11, 15, 16, 17, 19] fun K hK => ?_
                        simp
                        refine hK _ ?_; clear hK K
                        refine Awp.block ?_
                        -- LOOP 5 live [4, 5, 10, 11, 15, 16, 17, 19]
                        refine Awp.seen 17 (.lst false false 53 []) rfl (dle1_ok (by simp)) ?_
                        refine Awp.loopS (f := stE l uu m (madeS (runO l uu l.length)) (.lst false false 53 ((versL (userS uu) (madeS (runA l l.length)).Users).map Version.enc))) (I := fun a => a.1 ≤ (madeS (runO l uu l.length)).Users.length) (μ := fun a => (madeS (runO l uu l.length)).Users.length - a.1) (0, n) ?_ ?_ ?_
                        · exact Nat.zero_le _
                        · simp [stE, lastV, e9, huu, a1, a3]
                        rintro ⟨k, n2⟩ hk
                        simp only at hk
                        simp only [stE, huu]
                        rw [huu] at hk
                        refine Awp.seq ?_
                        refine Awp.rg [4, 5, 10, 11, 15, 16, 17, 19, 147] fun K hK => ?_
                        simp
                        refine hK _ ?_; clear hK K
                        refine Awp.cond _ rfl (fun h => ?_) (fun h => ?_)  -- C11
                        · try simp at h
                          all_goals try (exfalso; omega)
                          all_goals
                            have hkl : k < (madeS (runO l uu l.length)).Users.length := by rw [huu]; omega
                            have hkv : (madeS (runO l uu l.length)).Users[k]? = some (madeS (runO l uu l.length)).Users[k] := List.getElem?_eq_getElem hkl
                            have hs5 := lastV_snoc (madeS (runO l uu l.length)).Users hkl
                            subst huu
                            refine Awp.skip ?_
                            try simp only [thenQ, inBlk, ↓reduceIte]
                            refine Awp.seq ?_
                            refine Awp.block ?_
                            refine Awp.rgE fun K hK => ?_
                            simp [hkl, hkv]
                            refine hK _ ?_; clear hK K
                            try simp only [thenQ, inBlk, ↓reduceIte]
                            refine Awp.rgE fun K hK => ?_
                            simp (disch := omega) [wrap_id]
                            refine hK _ ?_; clear hK K
                            try simp only [thenQ, inBlk, ↓reduceIte]
                            refine ⟨(k + 1, n2), by simp only; omega, by simp only; omega, ?_⟩
                            simp (disch := omega) [wrap_id, hs5, a1, a3]
                        · try simp at h
                          all_goals try (exfalso; omega)
                          all_goals
                            have e11 : (madeS (runO l uu l.length)).Users.take k = (madeS (runO l uu l.length)).Users := List.take_of_length_le (by rw [huu]; omega)
                            rw [huu] at e11
                            refine Awp.exit ?_
                            try simp only [thenQ, inBlk, ↓reduceIte]
                            refine Awp.rg [4, 5, 10, 11, 159] fun K hK => ?_
                            simp [e11, a5]
                            refine RL.cF ?_  -- tabellionref08.SameVersions
                            simp [e11, a5]
                            refine ⟨_, same_c _ rfl (Nat.le_trans (versL_len (N := 100000) _ (by simp) hvl) (by omega)), by simp, ?_⟩
                            try simp [e11, a5]
                            refine hK _ ?_; clear hK K
                            refine Awp.cond _ rfl (fun h => ?_) (fun h => ?_)  -- C12
                            · try simp at h
                              all_goals try (exfalso; omega)
                              all_goals
                                refine Awp.rg [2] fun K hK => ?_
                                simp
                                refine hK _ ?_; clear hK K
                                refine Awp.ret ?_
                                try simp only [thenQ, inBlk, ↓reduceIte]
                                -- RET 2
                                refine retQ.of2 (by simp) ?_
                                simp [Tryz.results3]
                                try simp [*]
                            · try simp at h
                              all_goals try (exfalso; omega)
                              all_goals
                                refine Awp.skip ?_
                                try simp only [thenQ, inBlk, ↓reduceIte]
                                refine Awp.rgE fun K hK => ?_
                                simp (disch := omega) [wrap_id]
                                refine hK _ ?_; clear hK K
                                try simp only [thenQ, inBlk, ↓reduceIte]
                                refine ⟨(uu + 1, n2 + m + 3), by simp only; omega, by simp only; omega, ?_⟩
                                simp [huu, a1, a3]
          · try simp at h
            all_goals try (exfalso; omega)
            all_goals
              refine Awp.exit ?_
              try simp only [thenQ, inBlk, ↓reduceIte]
              refine Awp.rg [2] fun K hK => ?_
              simp
              refine RL.cF ?_  -- tabelliontop.works
              simp
              refine ⟨_, works_c, by simp, ?_⟩
              try simp
              refine hK _ ?_; clear hK K
              refine Awp.ret ?_
              try simp only [thenQ, inBlk, ↓reduceIte]
              -- RET 3
              refine retQ.of2 (by simp) ?_
              simp [Tryz.results3]
              try simp [*]
end Go.Apl

/- The slice of errands that comes in, as a list. -/
namespace Go.Apl
open Go Go.Proofs
set_option maxRecDepth 100000
set_option linter.unusedSimpArgs false
set_option linter.unusedVariables false

def eCells (e : Errand) : List Value := [.int .u8 e.What, .int .u8 e.Client, .int .u8 e.User, .int .u8 e.Key]
theorem list_of {α : Type} {p : Nat → α → Prop} : ∀ n : Nat, (∀ i, i < n → ∃ x, p i x) → ∃ l : List α, l.length = n ∧ ∀ i x, l[i]? = some x → p i x
  | 0, _ => ⟨[], rfl, by simp⟩
  | n + 1, h => by
    obtain ⟨x, hx⟩ := h 0 (by omega)
    obtain ⟨l, hl, hp⟩ := list_of (p := fun i => p (i + 1)) n (fun i hi => h (i + 1) (by omega))
    refine ⟨x :: l, by simp [hl], fun i y hy => ?_⟩
    cases i with
    | zero => simp at hy; subst hy; exact hx
    | succ i => exact hp i y (by simpa using hy)
theorem u8_nat {n : Int} (h : (Lit.int .u8 n).wf = true) : ∃ k : Nat, n = (k : Int) ∧ k ≤ 255 := by
  have h2 : 0 ≤ n ∧ n ≤ 255 := by
    simp [Lit.wf, IntKind.min, IntKind.max, IntKind.bits, IntKind.signed] at h
    omega
  exact ⟨n.toNat, by omega, by omega⟩
theorem errs_frs (C : Cx) (hP : C.P = Tryz.prog) : ∀ l : List Errand, FRs C (l.map Errand.enc) (List.replicate l.length 33) (l.flatMap eCells)
  | [] => .nil
  | e :: l => by
    have h1 : FR C e.enc (eCells e) := by
      refine FR.st [5, 5, 5, 5] (by rw [hP]; exact Tryz.parts33) ?_
      have one : ∀ (x : Int) (ds : List D) (ts : List TypeId) (cs : List Value), FRs C ds ts cs → FRs C (.v (.int .u8 x) :: ds) (5 :: ts) ([.int .u8 x] ++ cs) := fun x ds ts cs hs =>
        FRs.cons (FR.v rfl) (by rw [hP]; exact (Tryz.cells5).symm) (show parts C.P 5 = none by rw [hP]; exact Tryz.parts5) hs
      exact one _ _ _ _ (one _ _ _ _ (one _ _ _ _ (one _ _ _ _ .nil)))
    exact FRs.cons h1 (by rw [hP]; exact (Tryz.cells33).symm) rfl (errs_frs C hP l)
theorem errs_sub {ccs : Array Value} : ∀ (l : List Errand) (o : Nat), (∀ i e, l[i]? = some e → ∀ r v, (eCells e)[r]? = some v → ccs[o + i * 4 + r]? = some v) → Sub (l.flatMap eCells) ccs o
  | [], _, _ => fun j v h => by simp at h
  | e :: l, o, h => by
    intro j v hj
    rw [List.flatMap_cons] at hj
    by_cases hlt : j < 4
    · rw [List.getElem?_append_left (by simpa [eCells] using hlt)] at hj
      have := h 0 e rfl j v hj
      simpa using this
    · rw [List.getElem?_append_right (by simp [eCells]; omega)] at hj
      have ih := errs_sub (ccs := ccs) l (o + 4) (fun i x hx r v hv => by
        have := h (i + 1) x (by simpa using hx) r v hv
        rw [show o + (i + 1) * 4 + r = o + 4 + i * 4 + r from by omega] at this
        exact this)
      have := ih (j - 4) v (by simpa [eCells] using hj)
      rw [show o + 4 + (j - 4) = o + j from by omega] at this
      exact this
theorem cells4 {W : World} {a : Addr} {cs : List Value} (h : W.cells? 0 a 4 = some cs) : ∃ v0 v1 v2 v3, cs = [v0, v1, v2, v3] ∧ W.cell? (a.add 0) = some v0 ∧ W.cell? (a.add 1) = some v1 ∧ W.cell? (a.add 2) = some v2 ∧ W.cell? (a.add 3) = some v3 := by
  have e : List.range 4 = [0, 1, 2, 3] := rfl
  simp only [World.cells?, Nat.zero_le, if_true, e, List.mapM_cons, List.mapM_nil, Option.pure_def, Option.bind_eq_bind, Option.bind_eq_some_iff, Option.some.injEq] at h
  obtain ⟨v0, h0, _, ⟨v1, h1, _, ⟨v2, h2, _, ⟨v3, h3, _, rfl, rfl⟩, rfl⟩, rfl⟩, rfl⟩ := h
  exact ⟨v0, v1, v2, v3, rfl, h0, h1, h2, h3⟩

theorem addr_addN (b o k : Nat) : (⟨b, o, none⟩ : Addr).add k = ⟨b, o + k, none⟩ := by
  unfold Addr.add
  split <;> simp_all
theorem open_errs {H : Type} {enc : TypeId × Value → H} {W : World} {a : Option Addr} {len cap fuel : Nat} {x : DataW H × List MemPlace}
    (hf : DataW.trod enc Tryz.prog W 0 (fun _ => true) true fuel 22 [.slice a len cap] = some x) :
    ∃ l : List Errand, (∀ e ∈ l, e.Client ≤ 255 ∧ e.User ≤ 255) ∧ VR1 ⟨Tryz.prog, hpOf W, Hp.none, fun _ => none⟩ (.lst true false 33 (l.map Errand.enc)) (.slice a len cap) := by
  rcases Go.Deep.open_slice Go.Proofs.Tryz.underlying22 hf with ⟨hcs, hx⟩ | ⟨b, len', cap', m, n, D0, Pl, hcs, _, hl, hm, hmm, hx, hel⟩
  · simp at hcs
    obtain ⟨rfl, rfl, rfl⟩ := hcs
    exact ⟨[], by simp, FR.lst0 none 0 (fun h => by cases h)⟩
  · simp at hcs
    obtain ⟨rfl, rfl, rfl⟩ := hcs
    simp only [if_true] at hmm
    subst hmm
    rw [Tryz.cells33] at hel
    have key : ∀ i, i < len → ∃ e : Errand, (e.Client ≤ 255 ∧ e.User ≤ 255) ∧ ∀ r v, (eCells e)[r]? = some v → W.cell? ((b.add (i * 4)).add r) = some v := by
      intro i hi
      obtain ⟨cs', h1, h2⟩ := hel i (by omega)
      obtain ⟨v0, v1, v2, v3, rfl, c0, c1, c2, c3⟩ := cells4 h1
      obtain ⟨xs, k, _, _, _, hxs, hfl⟩ := DataW.trod_struct Go.Proofs.Tryz.underlying33 h2
      have hx4 : xs.length = 4 := hxs
      have get : ∀ j, j < 4 → ∃ y, xs[j]? = some y := fun j hj => ⟨xs[j], List.getElem?_eq_getElem (by omega)⟩
      have fld : ∀ (j : Nat) (v : Value) (hj : j < 4), DataW.trod enc Tryz.prog W 0 (fun _ => true) true k 5 [v] = xs[j]? → ∃ z : Nat, v = .int .u8 z ∧ z ≤ 255 := by
        intro j v hj ht
        obtain ⟨y, hy⟩ := get j hj
        rw [hy] at ht
        obtain ⟨z, hz, _, hw⟩ := DataW.trod_int Go.Proofs.Tryz.underlying5 ht
        obtain ⟨z', rfl, hb⟩ := u8_nat hw
        simp at hz
        exact ⟨z', hz, hb⟩
      obtain ⟨z0, rfl, b0⟩ := fld 0 v0 (by omega) (hfl 0 _ rfl)
      obtain ⟨z1, rfl, b1⟩ := fld 1 v1 (by omega) (hfl 1 _ rfl)
      obtain ⟨z2, rfl, b2⟩ := fld 2 v2 (by omega) (hfl 2 _ rfl)
      obtain ⟨z3, rfl, b3⟩ := fld 3 v3 (by omega) (hfl 3 _ rfl)
      refine ⟨⟨z0, z1, z2, z3⟩, ⟨b1, b2⟩, fun r v hv => ?_⟩
      have hr : r < 4 := by have := (List.getElem?_eq_some_iff.1 hv).1; simpa [eCells] using this
      have : r = 0 ∨ r = 1 ∨ r = 2 ∨ r = 3 := by omega
      rcases this with rfl | rfl | rfl | rfl <;> (simp [eCells] at hv; subst hv; assumption)
    obtain ⟨l, hll, hp⟩ := list_of len key
    refine ⟨l, fun e he => ?_, ?_⟩
    · obtain ⟨i, hi⟩ := List.mem_iff_getElem?.1 he
      exact (hp i e hi).1
    · obtain ⟨blk, off, spot⟩ := b
      cases hl0 : l with
      | nil =>
        rw [hl0] at hll
        simp at hll
        subst hll
        exact FR.lst0 _ _ (fun h => by cases h)
      | cons e0 l0 =>
        have h00 := (hp 0 e0 (by rw [hl0]; rfl)).2 0 (.int .u8 e0.What) rfl
        have hspot : spot = none := by simpa [Addr.add] using World.cell?_spot h00
        subst hspot
        have hblk : ∃ ccs E fr, W.heap[blk]? = some (.cells ccs E fr) := by
          rw [addr_addN, addr_addN] at h00
          unfold World.cell? at h00
          split at h00
          · rename_i c E fr hc; exact ⟨c, E, fr, hc⟩
          · cases h00
        obtain ⟨ccs, E, fr, hcc⟩ := hblk
        have hsub : Sub (l.flatMap eCells) ccs off := errs_sub l off (fun i e he r v hv => by
          have := (hp i e he).2 r v hv
          unfold World.cell? at this
          rw [addr_addN, addr_addN] at this
          simpa [hcc] using this)
        have hfr := errs_frs (Cx.shut ⟨Tryz.prog, hpOf W, Hp.none, fun _ => none⟩) rfl l
        have hfin : FR ⟨Tryz.prog, hpOf W, Hp.none, fun _ => none⟩ (.lst true false 33 (l.map Errand.enc)) [  .slice (some ⟨blk, off, none⟩) len m] := by
          have := FR.lst (C := ⟨Tryz.prog, hpOf W, Hp.none, fun _ => none⟩) (k := true) (x := false) (E := 33) (ds := l.map Errand.enc) blk off _ ccs E fr (l.flatMap eCells) (by rw [hl0]; simp) (by simp [Cx.hp, Hp.none, hpOf, hcc]) (by simpa using hfr) hsub (by simpa [hll] using hl) (fun h => by cases h)
          simpa [hll] using this
        rw [← hl0]
        exact hfin
end Go.Apl
