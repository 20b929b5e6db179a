/- Part of a proof: the texts T5, T6, T7 of a library of data trees, abstract stores and contracts, joined. -/
import Derived.Test.YtpdenmclcnkaaaaGreatDoorL7
/- Contracts: an element put in. -/
namespace Go.Apl
open Go Go.Proofs
set_option maxRecDepth 100000
set_option linter.unusedSimpArgs false
set_option linter.unusedVariables false

theorem ltNs_append {n : Nat} : ∀ {a b : List D}, ltNs n (a ++ b) = (ltNs n a && ltNs n b)
  | [], b => by simp
  | d :: a, b => by simp [ltNs_append (a := a), Bool.and_assoc]
theorem rens_append {f : Nat → Nat} : ∀ {a b : List D}, rens f (a ++ b) = rens f a ++ rens f b
  | [], b => by simp
  | d :: a, b => by simp [rens_append (a := a)]

theorem tk1 (a : List D) (x : D) (c : List D) : (a ++ x :: c).take (a.length + 1) = a ++ [x] := by
  rw [List.take_append, List.take_of_length_le (by simp)]; simp
theorem dr1 (a : List D) (x : D) (c : List D) (n : Nat) (h : c.length ≤ n) : (a ++ x :: c).drop (a.length + 1 + n) = [] := by
  apply List.drop_eq_nil_of_le; simp; omega

theorem insS_m0 (a : List D) (x : D) (hl : a.length ≤ 1000000) (ha : bares a = true) (hx : x.bare = true) :
    MutF Tryz.prog 24 [(0, .arr 68 a), (1, .arr 68 [x])] 2 [.own 0 0 a.length, .v (.int .i64 a.length), .own 1 0 1] [(0, .arr 68 (a ++ [x]))] 1 [] (.own 0 0 (a.length + 1)) := by
  have hb : bares [] = true := rfl
  refine MutF.intro (c := _) Tryz.func24 rfl (by kernel_rfl) (by rw [Tryz.ntmps24]; simp) (by simp) rfl ?_
  refine Awp.rg [0, 1, 2] fun K hK => ?_
  simp
  refine hK _ ?_; clear hK K
  refine Awp.rg [0, 1, 2] fun K hK => ?_
  simp (disch := omega) [wrap_id]
  repeat (rw [if_pos (by omega)]; simp (disch := omega) [wrap_id])
  refine hK _ ?_; clear hK K
  refine Awp.rg [0, 1, 2, 7] fun K hK => ?_
  simp
  refine hK _ ?_; clear hK K
  refine Awp.seq ?_
  refine Awp.rg [0, 1, 2, 7, 16] fun K hK => ?_
  simp
  refine hK _ ?_; clear hK K
  refine Awp.cond _ rfl (fun h => ?_) (fun h => ?_)  -- C0
  · try simp at h
    all_goals try (exfalso; omega)
    all_goals
      refine Awp.rg [6] fun K hK => ?_
      simp
      refine hK _ ?_; clear hK K
      refine Awp.ret ?_
      try simp only [thenQ, inBlk, ↓reduceIte]
      -- RET 0
      refine retM.of (fun _ => 2) (by simp) ?_
      simp [Tryz.results24]
      simp [ltNs_append, rens_append, bares_lt ha, bares_lt hb, D.bare_lt hx, bares_ren ha, bares_ren hb, D.bare_ren hx]
  · try simp at h
    all_goals try (exfalso; omega)
    all_goals
      refine Awp.skip ?_
      try simp only [thenQ, inBlk, ↓reduceIte]
      refine Awp.rg [0, 1, 2, 7, 8] fun K hK => ?_
      simp
      refine hK _ ?_; clear hK K
      refine Awp.seq ?_
      refine Awp.rg [0, 1, 2, 7, 8, 22] fun K hK => ?_
      simp
      refine hK _ ?_; clear hK K
      refine Awp.cond _ rfl (fun h => ?_) (fun h => ?_)  -- C1
      · try simp at h
        all_goals try (exfalso; omega)
        all_goals
          refine Awp.rg [6] fun K hK => ?_
          simp
          repeat (rw [if_pos (by omega)]; simp)
          refine hK _ ?_; clear hK K
          refine Awp.ret ?_
          try simp only [thenQ, inBlk, ↓reduceIte]
          -- RET 1
          refine retM.of (fun _ => 2) (by simp) ?_
          simp [Tryz.results24]
          simp [ltNs_append, rens_append, bares_lt ha, bares_lt hb, D.bare_lt hx, bares_ren ha, bares_ren hb, D.bare_ren hx]
      · try simp at h
        all_goals try (exfalso; omega)
        all_goals
          refine Awp.skip ?_
          try simp only [thenQ, inBlk, ↓reduceIte]
          refine Awp.seq ?_
          refine Awp.rg [0, 1, 2, 7, 8, 31] fun K hK => ?_
          simp (disch := omega) [wrap_id]
          refine RL.capC ?_
          simp (disch := omega) [wrap_id]
          refine ⟨_, _, _, ⟨rfl, rfl, rfl⟩, _, _, rfl, by simp, ?_⟩
          intro room hroom
          try simp (disch := omega) [wrap_id]
          refine hK _ ?_; clear hK K
          refine Awp.cond _ rfl (fun h => ?_) (fun h => ?_)  -- C2
          · try simp at h
            all_goals try (exfalso; omega)
            all_goals
              have hroom2 : room = a.length + (b.length + 1) := by simp at hroom; omega
              subst hroom2
              refine Awp.rg [0, 1, 2, 7, 9] fun K hK => ?_
              simp (disch := omega) [wrap_id]
              repeat (rw [if_pos (by omega)]; simp (disch := omega) [wrap_id])
              refine hK _ ?_; clear hK K
              refine Awp.rg [0, 1, 7, 9] fun K hK => ?_
              simp (disch := omega) [wrap_id]
              repeat (rw [if_pos (by omega)]; simp (disch := omega) [wrap_id])
              refine hK _ ?_; clear hK K
              refine Awp.rgD [9] [[], [], [], [1, 2], [0, 1, 2, 3], [], [], [5, 6], [0, 1, 2, 3, 4, 5, 6, 7]] (by kernel_rfl) fun K hK => ?_
              simp (disch := omega) [wrap_id]
              repeat (rw [if_pos (by omega)]; simp (disch := omega) [wrap_id])
              refine hK _ ?_; clear hK K
              refine Awp.rg [6] fun K hK => ?_
              simp
              refine hK _ ?_; clear hK K
              refine Awp.ret ?_
              try simp only [thenQ, inBlk, ↓reduceIte]
              -- RET 2
              refine retM.of (fun _ => 2) (by simp) ?_
              simp [Tryz.results24]
              simp [ltNs_append, rens_append, bares_lt ha, bares_lt hb, D.bare_lt hx, bares_ren ha, bares_ren hb, D.bare_ren hx]
          · try simp at h
            all_goals try (exfalso; omega)
            all_goals
              refine Awp.skip ?_
              try simp only [thenQ, inBlk, ↓reduceIte]
              refine Awp.rg [0, 1, 2, 7, 8] fun K hK => ?_
              simp
              refine hK _ ?_; clear hK K
              refine Awp.seq ?_
              refine Awp.rg [0, 1, 2, 7, 8, 68] fun K hK => ?_
              simp
              refine RL.ext ?_
              simp
              refine ⟨_, ExtH.overlaps (T := 37) (tR := 4) (E := 68) Tryz.func35 (by kernel_rfl) (by kernel_rfl) (by kernel_rfl) (by kernel_rfl) rfl (by simp) (by simp) (by decide) (by simp) (by simp) (by omega) (by omega), ?_⟩
              try simp
              refine hK _ ?_; clear hK K
              refine Awp.cond _ rfl (fun h => ?_) (fun h => ?_)  -- C3
              · try simp at h
                all_goals try (exfalso; omega)
                all_goals
                  refine Awp.rgD [0, 1, 2] [[], [], [], [1, 2], [0, 1, 2, 3], [], [], [5, 6], [0, 1, 2, 3, 4, 5, 6, 7]] (by kernel_rfl) fun K hK => ?_
                  simp
                  refine hK _ ?_; clear hK K
                  refine Awp.rg [0] fun K hK => ?_
                  simp
                  refine hK _ ?_; clear hK K
                  refine Awp.rg [6] fun K hK => ?_
                  simp
                  refine hK _ ?_; clear hK K
                  refine Awp.ret ?_
                  try simp only [thenQ, inBlk, ↓reduceIte]
                  -- RET 3
                  refine retM.of (fun _ => 2) (by simp) ?_
                  simp [Tryz.results24]
                  simp [ltNs_append, rens_append, bares_lt ha, bares_lt hb, D.bare_lt hx, bares_ren ha, bares_ren hb, D.bare_ren hx]
              · try simp at h
                all_goals try (exfalso; omega)
                all_goals
                  refine Awp.skip ?_
                  try simp only [thenQ, inBlk, ↓reduceIte]
                  refine Awp.rg [0, 1, 7] fun K hK => ?_
                  simp
                  refine hK _ ?_; clear hK K
                  refine Awp.rg [0] fun K hK => ?_
                  simp
                  refine RL.cF ?_  -- slices.rotateRight[api.Session]
                  simp
                  refine ⟨_, SPEC, by simp, ?_⟩
                  try simp
                  refine hK _ ?_; clear hK K
                  refine Awp.rg [6] fun K hK => ?_
                  simp
                  refine hK _ ?_; clear hK K
                  refine Awp.ret ?_
                  try simp only [thenQ, inBlk, ↓reduceIte]
                  -- RET 4
                  refine retM.of (fun _ => 2) (by simp) ?_
                  simp [Tryz.results24]
                  simp [ltNs_append, rens_append, bares_lt ha, bares_lt hb, D.bare_lt hx, bares_ren ha, bares_ren hb, D.bare_ren hx]
theorem insS_m1 (a : List D) (x y : D) (b : List D) (hl : a.length + b.length + 1 ≤ 1000000) (ha : bares a = true) (hy : y.bare = true) (hb : bares b = true) (hx : x.bare = true) :
    MutF Tryz.prog 24 [(0, .arr 68 (a ++ y :: b)), (1, .arr 68 [x])] 2 [.own 0 0 (a.length + (b.length + 1)), .v (.int .i64 a.length), .own 1 0 1] [(0, .arr 68 (a ++ x :: y :: b))] 1 [] (.own 0 0 (a.length + (b.length + 1) + 1)) := by
  have w1 : IntKind.i64.wrap ((a.length : Int) + 1) = (a.length : Int) + 1 := wrap_id (by omega)
  have t2 : a.length + (b.length + 2) - (a.length + 1) = b.length + 1 := by omega
  have t1 : ((a.length : Int) + ((b.length : Int) + 1) + 1).toNat = a.length + (b.length + 2) := by omega
  refine MutF.intro (c := _) Tryz.func24 rfl (by kernel_rfl) (by rw [Tryz.ntmps24]; simp) (by simp) rfl ?_
  refine Awp.rg [0, 1, 2] fun K hK => ?_
  simp
  refine hK _ ?_; clear hK K
  refine Awp.rg [0, 1, 2] fun K hK => ?_
  simp (disch := omega) [wrap_id]
  repeat (rw [if_pos (by omega)]; simp (disch := omega) [wrap_id])
  refine hK _ ?_; clear hK K
  refine Awp.rg [0, 1, 2, 7] fun K hK => ?_
  simp
  refine hK _ ?_; clear hK K
  refine Awp.seq ?_
  refine Awp.rg [0, 1, 2, 7, 16] fun K hK => ?_
  simp
  refine hK _ ?_; clear hK K
  refine Awp.cond _ rfl (fun h => ?_) (fun h => ?_)  -- C0
  · try simp at h
    all_goals try (exfalso; omega)
    all_goals
      refine Awp.rg [6] fun K hK => ?_
      simp
      refine hK _ ?_; clear hK K
      refine Awp.ret ?_
      try simp only [thenQ, inBlk, ↓reduceIte]
      -- RET 0
      refine retM.of (fun _ => 2) (by simp) ?_
      simp [Tryz.results24]
      simp [ltNs_append, rens_append, bares_lt ha, bares_lt hb, D.bare_lt hx, bares_ren ha, bares_ren hb, D.bare_ren hx, D.bare_lt hy, D.bare_ren hy]
      all_goals omega
  · try simp at h
    all_goals try (exfalso; omega)
    all_goals
      refine Awp.skip ?_
      try simp only [thenQ, inBlk, ↓reduceIte]
      refine Awp.rg [0, 1, 2, 7, 8] fun K hK => ?_
      simp
      refine hK _ ?_; clear hK K
      refine Awp.seq ?_
      refine Awp.rg [0, 1, 2, 7, 8, 22] fun K hK => ?_
      simp
      refine hK _ ?_; clear hK K
      refine Awp.cond _ rfl (fun h => ?_) (fun h => ?_)  -- C1
      · try simp at h
        all_goals try (exfalso; omega)
        all_goals
          refine Awp.rg [6] fun K hK => ?_
          simp
          repeat (rw [if_pos (by omega)]; simp)
          refine hK _ ?_; clear hK K
          refine Awp.ret ?_
          try simp only [thenQ, inBlk, ↓reduceIte]
          -- RET 1
          refine retM.of (fun _ => 2) (by simp) ?_
          simp [Tryz.results24]
          simp [ltNs_append, rens_append, bares_lt ha, bares_lt hb, D.bare_lt hx, bares_ren ha, bares_ren hb, D.bare_ren hx, D.bare_lt hy, D.bare_ren hy]
          all_goals omega
      · try simp at h
        all_goals try (exfalso; omega)
        all_goals
          refine Awp.skip ?_
          try simp only [thenQ, inBlk, ↓reduceIte]
          refine Awp.seq ?_
          refine Awp.rg [0, 1, 2, 7, 8, 31] fun K hK => ?_
          simp (disch := omega) [wrap_id]
          refine RL.capC ?_
          simp (disch := omega) [wrap_id]
          refine ⟨_, _, _, ⟨rfl, rfl, rfl⟩, _, _, rfl, by simp, ?_⟩
          intro room hroom
          try simp (disch := omega) [wrap_id]
          refine hK _ ?_; clear hK K
          refine Awp.cond _ rfl (fun h => ?_) (fun h => ?_)  -- C2
          · try simp at h
            all_goals try (exfalso; omega)
            all_goals
              have hroom2 : room = a.length + (b.length + 1) := by simp at hroom; omega
              subst hroom2
              refine Awp.rg [0, 1, 2, 7, 9] fun K hK => ?_
              simp (disch := omega) [wrap_id, t1]
              repeat (rw [if_pos (by omega)]; simp (disch := omega) [wrap_id, t1])
              refine hK _ ?_; clear hK K
              refine Awp.rg [0, 1, 7, 9] fun K hK => ?_
              simp (disch := omega) [wrap_id, t1]
              repeat (rw [if_pos (by omega)]; simp (disch := omega) [wrap_id, t1])
              refine hK _ ?_; clear hK K
              refine Awp.rgD [9] [[], [], [], [1, 2], [0, 1, 2, 3], [], [], [5, 6], [0, 1, 2, 3, 4, 5, 6, 7]] (by kernel_rfl) fun K hK => ?_
              simp [t1, t2, w1, tk1, dr1]
              repeat (rw [if_pos (by omega)]; simp [t1, t2, w1, tk1, dr1])
              refine hK _ ?_; clear hK K
              refine Awp.rg [6] fun K hK => ?_
              simp
              refine hK _ ?_; clear hK K
              refine Awp.ret ?_
              try simp only [thenQ, inBlk, ↓reduceIte]
              -- RET 2
              refine retM.of (fun _ => 2) (by simp) ?_
              simp [Tryz.results24]
              simp [ltNs_append, rens_append, bares_lt ha, bares_lt hb, D.bare_lt hx, bares_ren ha, bares_ren hb, D.bare_ren hx, D.bare_lt hy, D.bare_ren hy]
              all_goals omega
          · try simp at h
            all_goals try (exfalso; omega)
            all_goals
              refine Awp.skip ?_
              try simp only [thenQ, inBlk, ↓reduceIte]
              refine Awp.rg [0, 1, 2, 7, 8] fun K hK => ?_
              simp (disch := omega) [wrap_id, t1, t2]
              repeat (rw [if_pos (by omega)]; simp (disch := omega) [wrap_id, t1, t2])
              refine hK _ ?_; clear hK K
              refine Awp.seq ?_
              refine Awp.rg [0, 1, 2, 7, 8, 68] fun K hK => ?_
              simp (disch := omega) [wrap_id, t1, t2]
              repeat (rw [if_pos (by omega)]; simp (disch := omega) [wrap_id, t1, t2])
              refine RL.ext ?_
              simp (disch := omega) [wrap_id, t1, t2]
              refine ⟨_, ExtH.overlaps (T := 37) (tR := 4) (E := 68) Tryz.func35 (by kernel_rfl) (by kernel_rfl) (by kernel_rfl) (by kernel_rfl) rfl (by simp) (by simp) (by decide) (by simp) (by simp) (by omega) (by omega), ?_⟩
              try simp (disch := omega) [wrap_id, t1, t2]
              repeat (rw [if_pos (by omega)]; simp (disch := omega) [wrap_id, t1, t2])
              refine hK _ ?_; clear hK K
              refine Awp.cond _ rfl (fun h => ?_) (fun h => ?_)  -- C3
              · try simp at h
                all_goals try (exfalso; omega)
                all_goals
                  refine Awp.rgD [0, 1, 2] [[], [], [], [1, 2], [0, 1, 2, 3], [], [], [5, 6], [0, 1, 2, 3, 4, 5, 6, 7]] (by kernel_rfl) fun K hK => ?_
                  simp [t1, t2, w1, tk1, dr1]
                  repeat (rw [if_pos (by omega)]; simp [t1, t2, w1, tk1, dr1])
                  refine hK _ ?_; clear hK K
                  refine Awp.rg [0] fun K hK => ?_
                  simp (disch := omega) [wrap_id, t1, t2]
                  repeat (rw [if_pos (by omega)]; simp (disch := omega) [wrap_id, t1, t2])
                  refine hK _ ?_; clear hK K
                  refine Awp.close (id := 0) rfl ?_
                  refine Awp.rg [6] fun K hK => ?_
                  simp
                  refine hK _ ?_; clear hK K
                  refine Awp.ret ?_
                  try simp only [thenQ, inBlk, ↓reduceIte]
                  -- RET 3
                  refine retM.of (fun _ => 0) (by simp) ?_
                  simp [Tryz.results24]
                  simp [ltNs_append, rens_append, bares_lt ha, bares_lt hb, D.bare_lt hx, bares_ren ha, bares_ren hb, D.bare_ren hx, D.bare_lt hy, D.bare_ren hy]
                  all_goals omega
              · try simp at h
                all_goals try (exfalso; omega)
                all_goals
                  refine Awp.skip ?_
                  try simp only [thenQ, inBlk, ↓reduceIte]
                  refine Awp.rg [0, 1, 7] fun K hK => ?_
                  simp
                  refine hK _ ?_; clear hK K
                  refine Awp.rg [0] fun K hK => ?_
                  simp
                  refine RL.cF ?_  -- slices.rotateRight[api.Session]
                  simp
                  refine ⟨_, SPEC, by simp, ?_⟩
                  try simp
                  refine hK _ ?_; clear hK K
                  refine Awp.rg [6] fun K hK => ?_
                  simp
                  refine hK _ ?_; clear hK K
                  refine Awp.ret ?_
                  try simp only [thenQ, inBlk, ↓reduceIte]
                  -- RET 4
                  refine retM.of (fun _ => 2) (by simp) ?_
                  simp [Tryz.results24]
                  simp [ltNs_append, rens_append, bares_lt ha, bares_lt hb, D.bare_lt hx, bares_ren ha, bares_ren hb, D.bare_ren hx, D.bare_lt hy, D.bare_ren hy]
                  all_goals omega
theorem insU_m0 (a : List D) (x : D) (hl : a.length ≤ 1000000) (ha : bares a = true) (hx : x.bare = true) :
    MutF Tryz.prog 40 [(0, .arr 43 a), (1, .arr 43 [x])] 2 [.own 0 0 a.length, .v (.int .i64 a.length), .own 1 0 1] [(0, .arr 43 (a ++ [x]))] 1 [] (.own 0 0 (a.length + 1)) := by
  have hb : bares [] = true := rfl
  refine MutF.intro (c := _) Tryz.func40 rfl (by kernel_rfl) (by rw [Tryz.ntmps40]; simp) (by simp) rfl ?_
  refine Awp.rg [0, 1, 2] fun K hK => ?_
  simp
  refine hK _ ?_; clear hK K
  refine Awp.rg [0, 1, 2] fun K hK => ?_
  simp (disch := omega) [wrap_id]
  repeat (rw [if_pos (by omega)]; simp (disch := omega) [wrap_id])
  refine hK _ ?_; clear hK K
  refine Awp.rg [0, 1, 2, 7] fun K hK => ?_
  simp
  refine hK _ ?_; clear hK K
  refine Awp.seq ?_
  refine Awp.rg [0, 1, 2, 7, 16] fun K hK => ?_
  simp
  refine hK _ ?_; clear hK K
  refine Awp.cond _ rfl (fun h => ?_) (fun h => ?_)  -- C0
  · try simp at h
    all_goals try (exfalso; omega)
    all_goals
      refine Awp.rg [6] fun K hK => ?_
      simp
      refine hK _ ?_; clear hK K
      refine Awp.ret ?_
      try simp only [thenQ, inBlk, ↓reduceIte]
      -- RET 0
      refine retM.of (fun _ => 2) (by simp) ?_
      simp [Tryz.results40]
      simp [ltNs_append, rens_append, bares_lt ha, bares_lt hb, D.bare_lt hx, bares_ren ha, bares_ren hb, D.bare_ren hx]
  · try simp at h
    all_goals try (exfalso; omega)
    all_goals
      refine Awp.skip ?_
      try simp only [thenQ, inBlk, ↓reduceIte]
      refine Awp.rg [0, 1, 2, 7, 8] fun K hK => ?_
      simp
      refine hK _ ?_; clear hK K
      refine Awp.seq ?_
      refine Awp.rg [0, 1, 2, 7, 8, 22] fun K hK => ?_
      simp
      refine hK _ ?_; clear hK K
      refine Awp.cond _ rfl (fun h => ?_) (fun h => ?_)  -- C1
      · try simp at h
        all_goals try (exfalso; omega)
        all_goals
          refine Awp.rg [6] fun K hK => ?_
          simp
          repeat (rw [if_pos (by omega)]; simp)
          refine hK _ ?_; clear hK K
          refine Awp.ret ?_
          try simp only [thenQ, inBlk, ↓reduceIte]
          -- RET 1
          refine retM.of (fun _ => 2) (by simp) ?_
          simp [Tryz.results40]
          simp [ltNs_append, rens_append, bares_lt ha, bares_lt hb, D.bare_lt hx, bares_ren ha, bares_ren hb, D.bare_ren hx]
      · try simp at h
        all_goals try (exfalso; omega)
        all_goals
          refine Awp.skip ?_
          try simp only [thenQ, inBlk, ↓reduceIte]
          refine Awp.seq ?_
          refine Awp.rg [0, 1, 2, 7, 8, 31] fun K hK => ?_
          simp (disch := omega) [wrap_id]
          refine RL.capC ?_
          simp (disch := omega) [wrap_id]
          refine ⟨_, _, _, ⟨rfl, rfl, rfl⟩, _, _, rfl, by simp, ?_⟩
          intro room hroom
          try simp (disch := omega) [wrap_id]
          refine hK _ ?_; clear hK K
          refine Awp.cond _ rfl (fun h => ?_) (fun h => ?_)  -- C2
          · try simp at h
            all_goals try (exfalso; omega)
            all_goals
              have hroom2 : room = a.length + (b.length + 1) := by simp at hroom; omega
              subst hroom2
              refine Awp.rg [0, 1, 2, 7, 9] fun K hK => ?_
              simp (disch := omega) [wrap_id]
              repeat (rw [if_pos (by omega)]; simp (disch := omega) [wrap_id])
              refine hK _ ?_; clear hK K
              refine Awp.rg [0, 1, 7, 9] fun K hK => ?_
              simp (disch := omega) [wrap_id]
              repeat (rw [if_pos (by omega)]; simp (disch := omega) [wrap_id])
              refine hK _ ?_; clear hK K
              refine Awp.rgD [9] [[], [], [], [1, 2], [0, 1, 2, 3], [], [], [5, 6], [0, 1, 2, 3, 4, 5, 6, 7]] (by kernel_rfl) fun K hK => ?_
              simp (disch := omega) [wrap_id]
              repeat (rw [if_pos (by omega)]; simp (disch := omega) [wrap_id])
              refine hK _ ?_; clear hK K
              refine Awp.rg [6] fun K hK => ?_
              simp
              refine hK _ ?_; clear hK K
              refine Awp.ret ?_
              try simp only [thenQ, inBlk, ↓reduceIte]
              -- RET 2
              refine retM.of (fun _ => 2) (by simp) ?_
              simp [Tryz.results40]
              simp [ltNs_append, rens_append, bares_lt ha, bares_lt hb, D.bare_lt hx, bares_ren ha, bares_ren hb, D.bare_ren hx]
          · try simp at h
            all_goals try (exfalso; omega)
            all_goals
              refine Awp.skip ?_
              try simp only [thenQ, inBlk, ↓reduceIte]
              refine Awp.rg [0, 1, 2, 7, 8] fun K hK => ?_
              simp
              refine hK _ ?_; clear hK K
              refine Awp.seq ?_
              refine Awp.rg [0, 1, 2, 7, 8, 68] fun K hK => ?_
              simp
              refine RL.ext ?_
              simp
              refine ⟨_, ExtH.overlaps (T := 35) (tR := 4) (E := 43) Tryz.func54 (by kernel_rfl) (by kernel_rfl) (by kernel_rfl) (by kernel_rfl) rfl (by simp) (by simp) (by decide) (by simp) (by simp) (by omega) (by omega), ?_⟩
              try simp
              refine hK _ ?_; clear hK K
              refine Awp.cond _ rfl (fun h => ?_) (fun h => ?_)  -- C3
              · try simp at h
                all_goals try (exfalso; omega)
                all_goals
                  refine Awp.rgD [0, 1, 2] [[], [], [], [1, 2], [0, 1, 2, 3], [], [], [5, 6], [0, 1, 2, 3, 4, 5, 6, 7]] (by kernel_rfl) fun K hK => ?_
                  simp
                  refine hK _ ?_; clear hK K
                  refine Awp.rg [0] fun K hK => ?_
                  simp
                  refine hK _ ?_; clear hK K
                  refine Awp.rg [6] fun K hK => ?_
                  simp
                  refine hK _ ?_; clear hK K
                  refine Awp.ret ?_
                  try simp only [thenQ, inBlk, ↓reduceIte]
                  -- RET 3
                  refine retM.of (fun _ => 2) (by simp) ?_
                  simp [Tryz.results40]
                  simp [ltNs_append, rens_append, bares_lt ha, bares_lt hb, D.bare_lt hx, bares_ren ha, bares_ren hb, D.bare_ren hx]
              · try simp at h
                all_goals try (exfalso; omega)
                all_goals
                  refine Awp.skip ?_
                  try simp only [thenQ, inBlk, ↓reduceIte]
                  refine Awp.rg [0, 1, 7] fun K hK => ?_
                  simp
                  refine hK _ ?_; clear hK K
                  refine Awp.rg [0] fun K hK => ?_
                  simp
                  refine RL.cF ?_  -- slices.rotateRight[api.User]
                  simp
                  refine ⟨_, SPEC, by simp, ?_⟩
                  try simp
                  refine hK _ ?_; clear hK K
                  refine Awp.rg [6] fun K hK => ?_
                  simp
                  refine hK _ ?_; clear hK K
                  refine Awp.ret ?_
                  try simp only [thenQ, inBlk, ↓reduceIte]
                  -- RET 4
                  refine retM.of (fun _ => 2) (by simp) ?_
                  simp [Tryz.results40]
                  simp [ltNs_append, rens_append, bares_lt ha, bares_lt hb, D.bare_lt hx, bares_ren ha, bares_ren hb, D.bare_ren hx]
theorem insU_m1 (a : List D) (x y : D) (b : List D) (hl : a.length + b.length + 1 ≤ 1000000) (ha : bares a = true) (hy : y.bare = true) (hb : bares b = true) (hx : x.bare = true) :
    MutF Tryz.prog 40 [(0, .arr 43 (a ++ y :: b)), (1, .arr 43 [x])] 2 [.own 0 0 (a.length + (b.length + 1)), .v (.int .i64 a.length), .own 1 0 1] [(0, .arr 43 (a ++ x :: y :: b))] 1 [] (.own 0 0 (a.length + (b.length + 1) + 1)) := by
  have w1 : IntKind.i64.wrap ((a.length : Int) + 1) = (a.length : Int) + 1 := wrap_id (by omega)
  have t2 : a.length + (b.length + 2) - (a.length + 1) = b.length + 1 := by omega
  have t1 : ((a.length : Int) + ((b.length : Int) + 1) + 1).toNat = a.length + (b.length + 2) := by omega
  refine MutF.intro (c := _) Tryz.func40 rfl (by kernel_rfl) (by rw [Tryz.ntmps40]; simp) (by simp) rfl ?_
  refine Awp.rg [0, 1, 2] fun K hK => ?_
  simp
  refine hK _ ?_; clear hK K
  refine Awp.rg [0, 1, 2] fun K hK => ?_
  simp (disch := omega) [wrap_id]
  repeat (rw [if_pos (by omega)]; simp (disch := omega) [wrap_id])
  refine hK _ ?_; clear hK K
  refine Awp.rg [0, 1, 2, 7] fun K hK => ?_
  simp
  refine hK _ ?_; clear hK K
  refine Awp.seq ?_
  refine Awp.rg [0, 1, 2, 7, 16] fun K hK => ?_
  simp
  refine hK _ ?_; clear hK K
  refine Awp.cond _ rfl (fun h => ?_) (fun h => ?_)  -- C0
  · try simp at h
    all_goals try (exfalso; omega)
    all_goals
      refine Awp.rg [6] fun K hK => ?_
      simp
      refine hK _ ?_; clear hK K
      refine Awp.ret ?_
      try simp only [thenQ, inBlk, ↓reduceIte]
      -- RET 0
      refine retM.of (fun _ => 2) (by simp) ?_
      simp [Tryz.results40]
      simp [ltNs_append, rens_append, bares_lt ha, bares_lt hb, D.bare_lt hx, bares_ren ha, bares_ren hb, D.bare_ren hx, D.bare_lt hy, D.bare_ren hy]
      all_goals omega
  · try simp at h
    all_goals try (exfalso; omega)
    all_goals
      refine Awp.skip ?_
      try simp only [thenQ, inBlk, ↓reduceIte]
      refine Awp.rg [0, 1, 2, 7, 8] fun K hK => ?_
      simp
      refine hK _ ?_; clear hK K
      refine Awp.seq ?_
      refine Awp.rg [0, 1, 2, 7, 8, 22] fun K hK => ?_
      simp
      refine hK _ ?_; clear hK K
      refine Awp.cond _ rfl (fun h => ?_) (fun h => ?_)  -- C1
      · try simp at h
        all_goals try (exfalso; omega)
        all_goals
          refine Awp.rg [6] fun K hK => ?_
          simp
          repeat (rw [if_pos (by omega)]; simp)
          refine hK _ ?_; clear hK K
          refine Awp.ret ?_
          try simp only [thenQ, inBlk, ↓reduceIte]
          -- RET 1
          refine retM.of (fun _ => 2) (by simp) ?_
          simp [Tryz.results40]
          simp [ltNs_append, rens_append, bares_lt ha, bares_lt hb, D.bare_lt hx, bares_ren ha, bares_ren hb, D.bare_ren hx, D.bare_lt hy, D.bare_ren hy]
          all_goals omega
      · try simp at h
        all_goals try (exfalso; omega)
        all_goals
          refine Awp.skip ?_
          try simp only [thenQ, inBlk, ↓reduceIte]
          refine Awp.seq ?_
          refine Awp.rg [0, 1, 2, 7, 8, 31] fun K hK => ?_
          simp (disch := omega) [wrap_id]
          refine RL.capC ?_
          simp (disch := omega) [wrap_id]
          refine ⟨_, _, _, ⟨rfl, rfl, rfl⟩, _, _, rfl, by simp, ?_⟩
          intro room hroom
          try simp (disch := omega) [wrap_id]
          refine hK _ ?_; clear hK K
          refine Awp.cond _ rfl (fun h => ?_) (fun h => ?_)  -- C2
          · try simp at h
            all_goals try (exfalso; omega)
            all_goals
              have hroom2 : room = a.length + (b.length + 1) := by simp at hroom; omega
              subst hroom2
              refine Awp.rg [0, 1, 2, 7, 9] fun K hK => ?_
              simp (disch := omega) [wrap_id, t1]
              repeat (rw [if_pos (by omega)]; simp (disch := omega) [wrap_id, t1])
              refine hK _ ?_; clear hK K
              refine Awp.rg [0, 1, 7, 9] fun K hK => ?_
              simp (disch := omega) [wrap_id, t1]
              repeat (rw [if_pos (by omega)]; simp (disch := omega) [wrap_id, t1])
              refine hK _ ?_; clear hK K
              refine Awp.rgD [9] [[], [], [], [1, 2], [0, 1, 2, 3], [], [], [5, 6], [0, 1, 2, 3, 4, 5, 6, 7]] (by kernel_rfl) fun K hK => ?_
              simp [t1, t2, w1, tk1, dr1]
              repeat (rw [if_pos (by omega)]; simp [t1, t2, w1, tk1, dr1])
              refine hK _ ?_; clear hK K
              refine Awp.rg [6] fun K hK => ?_
              simp
              refine hK _ ?_; clear hK K
              refine Awp.ret ?_
              try simp only [thenQ, inBlk, ↓reduceIte]
              -- RET 2
              refine retM.of (fun _ => 2) (by simp) ?_
              simp [Tryz.results40]
              simp [ltNs_append, rens_append, bares_lt ha, bares_lt hb, D.bare_lt hx, bares_ren ha, bares_ren hb, D.bare_ren hx, D.bare_lt hy, D.bare_ren hy]
              all_goals omega
          · try simp at h
            all_goals try (exfalso; omega)
            all_goals
              refine Awp.skip ?_
              try simp only [thenQ, inBlk, ↓reduceIte]
              refine Awp.rg [0, 1, 2, 7, 8] fun K hK => ?_
              simp (disch := omega) [wrap_id, t1, t2]
              repeat (rw [if_pos (by omega)]; simp (disch := omega) [wrap_id, t1, t2])
              refine hK _ ?_; clear hK K
              refine Awp.seq ?_
              refine Awp.rg [0, 1, 2, 7, 8, 68] fun K hK => ?_
              simp (disch := omega) [wrap_id, t1, t2]
              repeat (rw [if_pos (by omega)]; simp (disch := omega) [wrap_id, t1, t2])
              refine RL.ext ?_
              simp (disch := omega) [wrap_id, t1, t2]
              refine ⟨_, ExtH.overlaps (T := 35) (tR := 4) (E := 43) Tryz.func54 (by kernel_rfl) (by kernel_rfl) (by kernel_rfl) (by kernel_rfl) rfl (by simp) (by simp) (by decide) (by simp) (by simp) (by omega) (by omega), ?_⟩
              try simp (disch := omega) [wrap_id, t1, t2]
              repeat (rw [if_pos (by omega)]; simp (disch := omega) [wrap_id, t1, t2])
              refine hK _ ?_; clear hK K
              refine Awp.cond _ rfl (fun h => ?_) (fun h => ?_)  -- C3
              · try simp at h
                all_goals try (exfalso; omega)
                all_goals
                  refine Awp.rgD [0, 1, 2] [[], [], [], [1, 2], [0, 1, 2, 3], [], [], [5, 6], [0, 1, 2, 3, 4, 5, 6, 7]] (by kernel_rfl) fun K hK => ?_
                  simp [t1, t2, w1, tk1, dr1]
                  repeat (rw [if_pos (by omega)]; simp [t1, t2, w1, tk1, dr1])
                  refine hK _ ?_; clear hK K
                  refine Awp.rg [0] fun K hK => ?_
                  simp (disch := omega) [wrap_id, t1, t2]
                  repeat (rw [if_pos (by omega)]; simp (disch := omega) [wrap_id, t1, t2])
                  refine hK _ ?_; clear hK K
                  refine Awp.close (id := 0) rfl ?_
                  refine Awp.rg [6] fun K hK => ?_
                  simp
                  refine hK _ ?_; clear hK K
                  refine Awp.ret ?_
                  try simp only [thenQ, inBlk, ↓reduceIte]
                  -- RET 3
                  refine retM.of (fun _ => 0) (by simp) ?_
                  simp [Tryz.results40]
                  simp [ltNs_append, rens_append, bares_lt ha, bares_lt hb, D.bare_lt hx, bares_ren ha, bares_ren hb, D.bare_ren hx, D.bare_lt hy, D.bare_ren hy]
                  all_goals omega
              · try simp at h
                all_goals try (exfalso; omega)
                all_goals
                  refine Awp.skip ?_
                  try simp only [thenQ, inBlk, ↓reduceIte]
                  refine Awp.rg [0, 1, 7] fun K hK => ?_
                  simp
                  refine hK _ ?_; clear hK K
                  refine Awp.rg [0] fun K hK => ?_
                  simp
                  refine RL.cF ?_  -- slices.rotateRight[api.User]
                  simp
                  refine ⟨_, SPEC, by simp, ?_⟩
                  try simp
                  refine hK _ ?_; clear hK K
                  refine Awp.rg [6] fun K hK => ?_
                  simp
                  refine hK _ ?_; clear hK K
                  refine Awp.ret ?_
                  try simp only [thenQ, inBlk, ↓reduceIte]
                  -- RET 4
                  refine retM.of (fun _ => 2) (by simp) ?_
                  simp [Tryz.results40]
                  simp [ltNs_append, rens_append, bares_lt ha, bares_lt hb, D.bare_lt hx, bares_ren ha, bares_ren hb, D.bare_ren hx, D.bare_lt hy, D.bare_ren hy]
                  all_goals omega
end Go.Apl

/- Contracts: who is there. -/
namespace Go.Apl
open Go Go.Proofs
set_option maxRecDepth 100000
set_option linter.unusedSimpArgs false
set_option linter.unusedVariables false

/-- A temporary, seen as less. -/
theorem Awp.loosenT {P : Program} {Q : Exit → St → Prop} {s : St} {c : Code} {t : Nat} {d d' : D} (hg : getT t s.tm = some d) (hd : dle1 d d') (h : Awp P c Q ⟨s.n, (t, d') :: s.tm, s.σ, s.nx⟩) : Awp P c Q s := by
  refine Awp.weak (s' := ⟨s.n, (t, d') :: s.tm, s.σ, s.nx⟩) ⟨rfl, fun u e he => ?_, fun _ _ h => h, Nat.le_refl _⟩ h
  have he : getT u ((t, d') :: s.tm) = some e := he
  simp only [getT] at he
  by_cases hu : t = u
  · subst hu; rw [if_pos rfl] at he; cases he; exact .inr (.inr ⟨d, hg, dle1_ok hd⟩)
  · rw [if_neg hu] at he; exact .inr (.inl he)

def wk (k : Bool) (e : Int) (nU nS : Nat) : D := .st 59 [.st 39 [.v (.int .i64 e), .own 1 0 nU, .lst k false 65 [], .own 2 0 nS]]
def wS (k : Bool) (d : Directory) : Sg := [(0, .box 59 (wk k d.Epoch d.Users.length d.Sessions.length)), (1, .arr 43 (d.Users.map (User.enc k))), (2, .arr 68 (d.Sessions.map Session.enc))]
attribute [simp] wk wS

theorem session_m (d : Directory) (n : Int) (p : Nat) (hl : d.Sessions.length ≤ 1000000) (hp : At (fun s : Session => cmpS s.Client n) d.Sessions p) :
    MutF Tryz.prog 23 (wS true d) 3 [.ptr 0 [], .v (.int .i64 n)] (wS true d) 3 [0, 1, 2] (.tup [.v (.int .i64 p), .v (.bool (foundAt (fun s : Session => cmpS s.Client n) d.Sessions p))]) := by
  refine MutF.intro (c := _) Tryz.func23 rfl (by kernel_rfl) (by rw [Tryz.ntmps23]; simp) (by simp) (by simp [Tryz.results23]) ?_
  refine Awp.rg [0, 1] fun K hK => ?_
  simp
  refine hK _ ?_; clear hK K
  refine Awp.rg [4, 5] fun K hK => ?_
  simp
  refine RL.cF ?_  -- slices.BinarySearchFunc[[]api.Session,api.Session,int]
  simp
  refine ⟨_, bsS_c d.Sessions n p (by simp) hl hp, by simp, ?_⟩
  try simp
  refine hK _ ?_; clear hK K
  refine Awp.ret ?_
  try simp only [thenQ, inBlk, ↓reduceIte]
  -- RET 0
  refine retM.of (fun x => x) (by simp) ?_
  simp [Tryz.results23]
  try simp [*]

theorem user_m (d : Directory) (n : ByteArray) (p : Nat) (hl : d.Users.length ≤ 1000000) (hp : At (fun u : User => strCmp u.Name n) d.Users p) :
    MutF Tryz.prog 39 (wS true d) 3 [.ptr 0 [], .v (.string n)] (wS true d) 3 [0, 1, 2] (.tup [.v (.int .i64 p), .v (.bool (foundAt (fun u : User => strCmp u.Name n) d.Users p))]) := by
  refine MutF.intro (c := _) Tryz.func39 rfl (by kernel_rfl) (by rw [Tryz.ntmps39]; simp) (by simp) (by simp [Tryz.results39]) ?_
  refine Awp.rg [0, 1] fun K hK => ?_
  simp
  refine hK _ ?_; clear hK K
  refine Awp.rg [4, 5] fun K hK => ?_
  simp
  refine RL.cF ?_  -- slices.BinarySearchFunc[[]api.User,api.User,string]
  simp
  refine ⟨_, bsU_c d.Users n p (by simp) hl hp, by simp, ?_⟩
  try simp
  refine hK _ ?_; clear hK K
  refine Awp.ret ?_
  try simp only [thenQ, inBlk, ↓reduceIte]
  -- RET 0
  refine retM.of (fun x => x) (by simp) ?_
  simp [Tryz.results39]
  try simp [*]

/-- A user's versions. -/
def histS (n : ByteArray) (l : List User) (p : Nat) : List Version := if foundAt (fun u : User => strCmp u.Name n) l p then ((l[p]?).map User.Versions).getD [] else []
theorem foundAt_lt {α : Type} {c : α → Int} {l : List α} {p : Nat} (h : foundAt c l p = true) : p < l.length := by
  unfold foundAt at h
  split at h
  · rename_i x hx; exact (List.getElem?_eq_some_iff.1 hx).1
  · cases h
theorem history_m (d : Directory) (n : ByteArray) (p : Nat) (hl : d.Users.length ≤ 1000000) (hp : At (fun u : User => strCmp u.Name n) d.Users p) :
    MutF Tryz.prog 38 (wS true d) 3 [.ptr 0 [], .v (.string n)] (wS true d) 3 [0, 1, 2] (.lst true false 53 ((histS n d.Users p).map Version.enc)) := by
  refine MutF.intro (c := _) Tryz.func38 rfl (by kernel_rfl) (by rw [Tryz.ntmps38]; simp) (by simp) rfl ?_
  refine Awp.rg [0, 1] fun K hK => ?_
  simp
  refine hK _ ?_; clear hK K
  refine Awp.seq ?_
  refine Awp.rg [0, 5, 6] fun K hK => ?_
  simp
  refine RL.cM false [(0, 0), (1, 1), (2, 2)] ?_
  simp
  refine ⟨_, _, _, _, _, user_m d n p hl hp, by decide, ?_⟩
  try simp
  refine hK _ ?_; clear hK K
  refine Awp.rg [0, 5, 13] fun K hK => ?_
  simp
  refine hK _ ?_; clear hK K
  refine Awp.cond _ rfl (fun h => ?_) (fun h => ?_)  -- C0
  · try simp at h
    all_goals
      have hlt := foundAt_lt h
      have hv : d.Users[p]? = some d.Users[p] := List.getElem?_eq_getElem hlt
      refine Awp.rg [4] fun K hK => ?_
      simp [hlt, hv]
      refine hK _ ?_; clear hK K
      refine Awp.ret ?_
      try simp only [thenQ, inBlk, ↓reduceIte]
      -- RET 0
      refine retM.of (fun x => x) (by simp) ?_
      simp [Tryz.results38]
      simp [histS, *]
  · try simp at h
    all_goals
      refine Awp.skip ?_
      try simp only [thenQ, inBlk, ↓reduceIte]
      refine Awp.rg [4] fun K hK => ?_
      simp
      refine hK _ ?_; clear hK K
      refine Awp.loosenT (t := 4) (d' := .lst true false 53 []) rfl (by simp) ?_
      refine Awp.ret ?_
      try simp only [thenQ, inBlk, ↓reduceIte]
      -- RET 1
      refine retM.of (fun x => x) (by simp) ?_
      simp [Tryz.results38]
      simp [histS, *]
end Go.Apl

/- Contracts: a version more of a user. -/
namespace Go.Apl
open Go Go.Proofs
set_option maxRecDepth 100000
set_option linter.unusedSimpArgs false
set_option linter.unusedVariables false

theorem bares_split {a b : List D} (h : bares (a ++ b) = true) : bares a = true ∧ bares b = true := by
  induction a with
  | nil => exact ⟨rfl, h⟩
  | cons d a ih => simp [bares] at h ⊢; exact ⟨⟨h.1, (ih h.2).1⟩, (ih h.2).2⟩
theorem insU_m (ds : List D) (x : D) (p n : Nat) (hn : n = ds.length) (hl : ds.length ≤ 1000000) (hp : p ≤ ds.length) (hb : bares ds = true) (hx : x.bare = true) :
    MutF Tryz.prog 40 [(0, .arr 43 ds), (1, .arr 43 [x])] 2 [.own 0 0 n, .v (.int .i64 p), .own 1 0 1] [(0, .arr 43 (ds.take p ++ x :: ds.drop p))] 1 [] (.own 0 0 (n + 1)) := by
  subst hn
  have hsp := List.take_append_drop p ds
  have hb' := hb
  rw [← hsp] at hb'
  obtain ⟨h1, h2⟩ := bares_split hb'
  have htl : (ds.take p).length = p := by simp; omega
  cases hd : ds.drop p with
  | nil =>
    have hpl : p = ds.length := by
      have := congrArg List.length hd
      simp at this; omega
    have hds : ds.take p = ds := by rw [hpl]; simp
    have := insU_m0 ds x hl hb hx
    rw [hds, hpl]
    exact this
  | cons y b =>
    have hlen : ds.length = p + (b.length + 1) := by
      have := congrArg List.length hsp
      rw [hd] at this
      simp at this; omega
    rw [hd] at h2
    simp [bares] at h2
    have := insU_m1 (ds.take p) x y b (by rw [htl]; omega) h1 h2.1 h2.2 hx
    rw [htl, ← hd, hsp, ← hlen] at this
    rw [← hd]
    exact this
theorem insS_m (ds : List D) (x : D) (p n : Nat) (hn : n = ds.length) (hl : ds.length ≤ 1000000) (hp : p ≤ ds.length) (hb : bares ds = true) (hx : x.bare = true) :
    MutF Tryz.prog 24 [(0, .arr 68 ds), (1, .arr 68 [x])] 2 [.own 0 0 n, .v (.int .i64 p), .own 1 0 1] [(0, .arr 68 (ds.take p ++ x :: ds.drop p))] 1 [] (.own 0 0 (n + 1)) := by
  subst hn
  have hsp := List.take_append_drop p ds
  have hb' := hb
  rw [← hsp] at hb'
  obtain ⟨h1, h2⟩ := bares_split hb'
  have htl : (ds.take p).length = p := by simp; omega
  cases hd : ds.drop p with
  | nil =>
    have hpl : p = ds.length := by
      have := congrArg List.length hd
      simp at this; omega
    have hds : ds.take p = ds := by rw [hpl]; simp
    have := insS_m0 ds x hl hb hx
    rw [hds, hpl]
    exact this
  | cons y b =>
    have hlen : ds.length = p + (b.length + 1) := by
      have := congrArg List.length hsp
      rw [hd] at this
      simp at this; omega
    rw [hd] at h2
    simp [bares] at h2
    have := insS_m1 (ds.take p) x y b (by rw [htl]; omega) h1 h2.1 h2.2 hx
    rw [htl, ← hd, hsp, ← hlen] at this
    rw [← hd]
    exact this

theorem Dles_set {x y : D} : ∀ {ds : List D} (p : Nat), Dle x y → Dles (ds.set p x) (ds.set p y)
  | [], _, _ => .nil
  | d :: ds, 0, h => .cons h (Dles.refl _)
  | d :: ds, p + 1, h => .cons (.refl _) (Dles_set p h)
theorem rens_take {f : Nat → Nat} : ∀ (n : Nat) (ds : List D), rens f (ds.take n) = (rens f ds).take n
  | 0, _ => by simp
  | n + 1, [] => by simp
  | n + 1, d :: ds => by simp [rens_take n ds]
theorem rens_drop {f : Nat → Nat} : ∀ (n : Nat) (ds : List D), rens f (ds.drop n) = (rens f ds).drop n
  | 0, _ => by simp
  | n + 1, [] => by simp
  | n + 1, d :: ds => by simp [rens_drop n ds]
def kindS (k : Int) : Int := IntKind.i64.wrap (IntKind.i64.wrap (k - 1) + 1)
/-- What add makes of the users, and what it answers. -/
def addS (d : Directory) (c : Command) (p : Nat) : List User × Int :=
  if d.Epoch = 200 then (d.Users, 2) else
  let r := nextS (histS c.User d.Users p) ⟨d.Epoch + 1, c.Kind, c.Key⟩
  if r.2 ≠ 0 then (d.Users, r.2)
  else if foundAt (fun u : User => strCmp u.Name c.User) d.Users p then (d.Users.set p ⟨((d.Users[p]?).map User.Name).getD noStr, r.1⟩, 0)
  else if d.Users.length = 64 then (d.Users, 2)
  else (d.Users.take p ++ ⟨c.User, r.1⟩ :: d.Users.drop p, 0)

theorem add_m (d : Directory) (c : Command) (p : Nat) (hl : d.Users.length ≤ 1000000) (hp : At (fun u : User => strCmp u.Name c.User) d.Users p) (he : 0 ≤ d.Epoch ∧ d.Epoch ≤ 200) (hk : 1 ≤ c.Kind ∧ c.Kind ≤ 3) (hh : (histS c.User d.Users p).length ≤ 1000000) :
    MutF Tryz.prog 25 (wS true d) 3 [.ptr 0 [], c.enc] (wS true { d with Users := (addS d c p).1 }) 3 [0, 2] (.v (.int .i64 (addS d c p).2)) := by
  have hw1 : IntKind.i64.wrap (IntKind.i64.wrap (c.Kind - 1) + 1) = c.Kind := by rw [wrap_id (x := c.Kind - 1) (by omega), wrap_id (by omega)]; omega
  have hw2 : IntKind.i64.wrap (d.Epoch + 1) = d.Epoch + 1 := wrap_id (by omega)
  refine MutF.intro (c := _) Tryz.func25 rfl (by kernel_rfl) (by rw [Tryz.ntmps25]; simp) (by simp) rfl ?_
  refine Awp.rg [0, 3] fun K hK => ?_
  simp
  refine hK _ ?_; clear hK K
  refine Awp.seq ?_
  refine Awp.rg [0, 3, 15] fun K hK => ?_
  simp
  refine hK _ ?_; clear hK K
  refine Awp.cond _ rfl (fun h => ?_) (fun h => ?_)  -- C0
  · try simp at h
    all_goals
      refine Awp.rg [4] fun K hK => ?_
      simp
      refine hK _ ?_; clear hK K
      refine Awp.ret ?_
      try simp only [thenQ, inBlk, ↓reduceIte]
      -- RET 0
      refine retM.of (fun x => x) (by simp) ?_
      simp [Tryz.results25]
      simp [addS, rens_append, rens_take, rens_drop, *]
      all_goals (have := hp.le; omega)
  · try simp at h
    all_goals
      refine Awp.skip ?_
      try simp only [thenQ, inBlk, ↓reduceIte]
      refine Awp.rg [0, 3, 5] fun K hK => ?_
      simp [hw1]
      refine hK _ ?_; clear hK K
      refine Awp.rgD [0, 3, 6, 7] [[], [], [1], [0, 1, 2], [], [4], [4, 5], [4, 5, 6], [4, 5, 6, 7], [4, 5, 6, 7, 8], [], [], [11], [4, 5, 6, 7, 8, 9, 10, 11, 12], [0, 1, 2, 3, 4, 5, 6, 7, 8, 9, 10, 11, 12, 13], [0, 1, 2, 3, 4, 5, 6, 7, 8, 9, 10, 11, 12, 13, 14], [0, 1, 2, 3, 4, 5, 6, 7, 8, 9, 10, 11, 12, 13, 14, 15], [0, 1, 2, 3, 4, 5, 6, 7, 8, 9, 10, 11, 12, 13, 14, 15], [0, 1, 2, 3, 4, 5, 6, 7, 8, 9, 10, 11, 12, 13, 14, 15, 16], [0, 1, 2, 3, 4, 5, 6, 7, 8, 9, 10, 11, 12, 13, 14, 15, 16, 17, 18]] (by kernel_rfl) fun K hK => ?_
      simp [hw2]
      refine DL.cMR false [(0, 0), (1, 1), (2, 2)] ?_
      simp [hw2]
      refine ⟨_, _, _, _, _, history_m d c.User p hl hp, by decide, ?_⟩
      try simp [hw2]
      refine DL.cF ?_  -- version.Next
      simp [hw2]
      refine ⟨_, next_c (histS c.User d.Users p) ⟨d.Epoch + 1, c.Kind, c.Key⟩ rfl hh, by simp, ?_⟩
      try simp [hw2]
      refine hK _ ?_; clear hK K
      refine Awp.rg [0, 3, 6, 7, 8, 9] fun K hK => ?_
      simp
      refine RL.cM false [(0, 0), (1, 1), (2, 2)] ?_
      simp
      refine ⟨_, _, _, _, _, user_m d c.User p hl hp, by decide, ?_⟩
      try simp
      refine hK _ ?_; clear hK K
      refine Awp.seq ?_
      refine Awp.block ?_
      refine Awp.rg [0, 3, 6, 7, 8, 9, 61] fun K hK => ?_
      simp
      refine hK _ ?_; clear hK K
      refine Awp.cond _ rfl (fun h => ?_) (fun h => ?_)  -- C1
      · try simp at h
        all_goals
          refine Awp.rg [4] fun K hK => ?_
          simp
          refine hK _ ?_; clear hK K
          refine Awp.ret ?_
          try simp only [thenQ, inBlk, ↓reduceIte]
          -- RET 1
          refine retM.of (fun x => x) (by simp) ?_
          simp [Tryz.results25]
          simp [addS, rens_append, rens_take, rens_drop, *]
          all_goals (have := hp.le; omega)
      · try simp at h
        all_goals
          refine Awp.rg [0, 3, 6, 8, 65] fun K hK => ?_
          simp
          refine hK _ ?_; clear hK K
          refine Awp.cond _ rfl (fun h => ?_) (fun h => ?_)  -- C2
          · try simp at h
            all_goals
              have hlt := foundAt_lt h
              have hv : d.Users[p]? = some d.Users[p] := List.getElem?_eq_getElem hlt
              refine Awp.rgE fun K hK => ?_
              simp [hlt, hv]
              refine hK _ ?_; clear hK K
              try simp only [thenQ, inBlk, ↓reduceIte]
              refine Awp.rg [4] fun K hK => ?_
              simp
              refine hK _ ?_; clear hK K
              refine Awp.loosen (id := 1) (ds' := (d.Users.set p ⟨d.Users[p].Name, (nextS (histS c.User d.Users p) ⟨d.Epoch + 1, c.Kind, c.Key⟩).1⟩).map (User.enc true)) rfl (by rw [List.map_set]; exact Dles_set _ (dle1_ok (by simp))) ?_
              refine Awp.ret ?_
              try simp only [thenQ, inBlk, ↓reduceIte]
              -- RET 2
              refine retM.of (fun x => x) (by simp) ?_
              simp [Tryz.results25]
              simp [addS, rens_append, rens_take, rens_drop, *]
              all_goals (have := hp.le; omega)
          · try simp at h
            all_goals
              refine Awp.rg [0, 3, 6, 8, 76] fun K hK => ?_
              simp
              refine hK _ ?_; clear hK K
              refine Awp.cond _ rfl (fun h => ?_) (fun h => ?_)  -- C3
              · try simp at h
                all_goals
                  have h64 : d.Users.length = 64 := by omega
                  refine Awp.rg [4] fun K hK => ?_
                  simp
                  refine hK _ ?_; clear hK K
                  refine Awp.ret ?_
                  try simp only [thenQ, inBlk, ↓reduceIte]
                  -- RET 3
                  refine retM.of (fun x => x) (by simp) ?_
                  simp [Tryz.results25]
                  simp [addS, rens_append, rens_take, rens_drop, *]
                  all_goals (have := hp.le; omega)
              · try simp at h
                all_goals
                  have h64 : ¬ d.Users.length = 64 := by omega
                  refine Awp.rgDE [[], [], [1], [1, 2], [1, 2, 3], [1, 2, 3, 4], [], [], [7], [], [7, 8, 9], [7, 8, 9, 10], [1, 2, 3, 4, 5, 6, 7, 8, 9, 10, 11], [0, 1, 2, 3, 4, 5, 6, 7, 8, 9, 10, 11, 12], [0, 1, 2, 3, 4, 5, 6, 7, 8, 9, 10, 11, 12, 13], [0, 1, 2, 3, 4, 5, 6, 7, 8, 9, 10, 11, 12, 13, 14], [0, 1, 2, 3, 4, 5, 6, 7, 8, 9, 10, 11, 12, 13, 14, 15]] (by kernel_rfl) fun K hK => ?_
                  simp
                  refine DL.cM false [(1, 0), (10, 1)] ?_
                  simp
                  refine ⟨_, _, _, _, _, insU_m (d.Users.map (User.enc true)) (User.enc true ⟨c.User, (nextS (histS c.User d.Users p) ⟨d.Epoch + 1, c.Kind, c.Key⟩).1⟩) p d.Users.length (by simp) (by simpa using hl) (by simpa using hp.le) (by simp) (by simp [D.bare, bares]), by decide, ?_⟩
                  try simp
                  refine hK _ ?_; clear hK K
                  try simp only [thenQ, inBlk, ↓reduceIte]
                  refine Awp.rg [4] fun K hK => ?_
                  simp
                  refine hK _ ?_; clear hK K
                  refine Awp.ret ?_
                  try simp only [thenQ, inBlk, ↓reduceIte]
                  -- RET 4
                  refine retM.of (fun x => if x = 1 then 11 else x) (by simp) ?_
                  simp [Tryz.results25]
                  simp [addS, rens_append, rens_take, rens_drop, *]
                  all_goals (have := hp.le; omega)
end Go.Apl
