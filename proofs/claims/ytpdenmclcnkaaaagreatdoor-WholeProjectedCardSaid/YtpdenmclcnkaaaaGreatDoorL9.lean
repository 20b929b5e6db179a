/- Part of a proof: the texts T8, T9, T10, T11, T12 of a library of data trees, abstract stores and contracts, joined. -/
import Derived.Test.YtpdenmclcnkaaaaGreatDoorL8
/- Contracts: a client's command. -/
namespace Go.Apl
open Go Go.Proofs
set_option maxRecDepth 100000
set_option linter.unusedSimpArgs false
set_option linter.unusedVariables false

attribute [simp] rens_append rens_take rens_drop
theorem put_get {α : Type} (l : List α) (q : Nat) (h : q ≤ l.length) (x : α) : (l.take q ++ x :: l.drop q)[q]? = some x := by
  have hl : (l.take q).length = q := by simp; omega
  rw [List.getElem?_append_right (by omega), hl]; simp
theorem put_set {α : Type} (l : List α) (q : Nat) (h : q ≤ l.length) (x y : α) : (l.take q ++ x :: l.drop q).set q y = l.take q ++ y :: l.drop q := by
  have hl : (l.take q).length = q := by simp; omega
  rw [List.set_append_right _ _ (by omega), hl]; simp

def reqS (d : Directory) (c : Command) (q p : Nat) : Directory × Int :=
  let fd := foundAt (fun s : Session => cmpS s.Client c.Client) d.Sessions q
  let old := (d.Sessions[q]?).getD ⟨c.Client, 0, 0, 0⟩
  if fd = true ∧ c.Seq < old.Seq then (d, 71)
  else if fd = true ∧ old.Seq = c.Seq then (d, 0)
  else
    let S1 := if fd then d.Sessions else d.Sessions.take q ++ ⟨c.Client, 0, 0, 0⟩ :: d.Sessions.drop q
    let cl := if fd then old.Client else c.Client
    ({ d with Users := (addS d c p).1, Sessions := S1.set q ⟨cl, c.Seq, (addS d c p).2, d.Epoch⟩ }, 0)

theorem reqS_new (d : Directory) (c : Command) (q p : Nat) (hq : q ≤ d.Sessions.length) (h : foundAt (fun s : Session => cmpS s.Client c.Client) d.Sessions q = false) :
    reqS d c q p = ({ d with Users := (addS d c p).1, Sessions := d.Sessions.take q ++ ⟨c.Client, c.Seq, (addS d c p).2, d.Epoch⟩ :: d.Sessions.drop q }, 0) := by
  simp [reqS, h, put_set _ _ hq]
theorem reqS_less (d : Directory) (c : Command) (q p : Nat) (hq : q < d.Sessions.length) (h : foundAt (fun s : Session => cmpS s.Client c.Client) d.Sessions q = true) (hs : c.Seq < d.Sessions[q].Seq) : reqS d c q p = (d, 71) := by
  simp [reqS, h, hq, hs]
theorem reqS_same (d : Directory) (c : Command) (q p : Nat) (hq : q < d.Sessions.length) (h : foundAt (fun s : Session => cmpS s.Client c.Client) d.Sessions q = true) (hs : d.Sessions[q].Seq = c.Seq) : reqS d c q p = (d, 0) := by
  simp [reqS, h, hq, hs]
theorem reqS_more (d : Directory) (c : Command) (q p : Nat) (hq : q < d.Sessions.length) (h : foundAt (fun s : Session => cmpS s.Client c.Client) d.Sessions q = true) (hs : d.Sessions[q].Seq < c.Seq) :
    reqS d c q p = ({ d with Users := (addS d c p).1, Sessions := d.Sessions.set q ⟨d.Sessions[q].Client, c.Seq, (addS d c p).2, d.Epoch⟩ }, 0) := by
  have h1 : ¬ c.Seq < d.Sessions[q].Seq := by omega
  have h2 : ¬ d.Sessions[q].Seq = c.Seq := by omega
  simp [reqS, h, hq, h1, h2]

theorem request_m (d : Directory) (c : Command) (q p : Nat) (hl : d.Users.length ≤ 1000000) (hp : At (fun u : User => strCmp u.Name c.User) d.Users p) (he : 0 ≤ d.Epoch ∧ d.Epoch ≤ 200) (hk : 1 ≤ c.Kind ∧ c.Kind ≤ 3) (hh : (histS c.User d.Users p).length ≤ 1000000)
    (hls : d.Sessions.length ≤ 100000) (hq : At (fun s : Session => cmpS s.Client c.Client) d.Sessions q) :
    MutF Tryz.prog 13 (wS true d) 3 [.ptr 0 [], c.enc] (wS true (reqS d c q p).1) 3 [0] (.v (.int .i64 (reqS d c q p).2)) := by
  have hql := hq.le
  have hpg := put_get (d.Sessions.map Session.enc) q (by simpa using hql)
  have hps := put_set (d.Sessions.map Session.enc) q (by simpa using hql)
  have hql2 : q < d.Sessions.length + 1 := by omega
  refine MutF.intro (c := _) Tryz.func13 rfl (by kernel_rfl) (by rw [Tryz.ntmps13]; simp) (by simp) rfl ?_
  refine Awp.rg [0, 3] fun K hK => ?_
  simp
  refine hK _ ?_; clear hK K
  refine Awp.rg [0, 3, 5, 6] fun K hK => ?_
  simp
  refine RL.cM false [(0, 0), (1, 1), (2, 2)] ?_
  simp
  refine ⟨_, _, _, _, _, session_m d c.Client q (by omega) hq, by decide, ?_⟩
  try simp
  refine hK _ ?_; clear hK K
  refine Awp.seq ?_
  refine Awp.block ?_
  refine Awp.rg [0, 3, 5, 15] fun K hK => ?_
  simp
  refine hK _ ?_; clear hK K
  refine Awp.cond _ rfl (fun h => ?_) (fun h => ?_)  -- C0
  · try simp at h
    all_goals
      obtain ⟨S1, hS1⟩ : ∃ S1 : List Session, S1 = d.Sessions.take q ++ ⟨c.Client, c.Seq, 0, d.Epoch⟩ :: d.Sessions.drop q := ⟨_, rfl⟩
      have hS1q : S1[q]? = some ⟨c.Client, c.Seq, 0, d.Epoch⟩ := by rw [hS1]; exact put_get _ _ hql _
      have hS1l : d.Sessions.length + 1 = S1.length := by rw [hS1]; simp; omega
      have hS1t : q < S1.length := by omega
      have hlt : True := trivial
      have hv : True := trivial
      have hf := h
      refine Awp.rgDE [[], [], [1], [1, 2], [1, 2, 3], [1, 2, 3, 4], [], [], [7], [7, 8], [7, 8, 9], [1, 2, 3, 4, 5, 6, 7, 8, 9, 10], [0, 1, 2, 3, 4, 5, 6, 7, 8, 9, 10, 11], [0, 1, 2, 3, 4, 5, 6, 7, 8, 9, 10, 11, 12], [0, 1, 2, 3, 4, 5, 6, 7, 8, 9, 10, 11, 12, 13], [0, 1, 2, 3, 4, 5, 6, 7, 8, 9, 10, 11, 12, 13, 14]] (by kernel_rfl) fun K hK => ?_
      simp
      refine DL.cM false [(2, 0), (7, 1)] ?_
      simp
      refine ⟨_, _, _, _, _, insS_m (d.Sessions.map Session.enc) (Session.enc ⟨c.Client, 0, 0, 0⟩) q d.Sessions.length (by simp) (by simp; omega) (by simpa using hql) (by simp) (by simp [D.bare, bares]), by decide, ?_⟩
      try simp
      refine hK _ ?_; clear hK K
      try simp only [thenQ, inBlk, ↓reduceIte]
      refine Awp.rg [0, 3, 7] fun K hK => ?_
      simp [hpg, hps, hql2]
      repeat (rw [if_pos (by omega)]; simp [hpg, hps, hql2])
      refine hK _ ?_; clear hK K
      refine Awp.rgD [0, 3, 7] [[], [], [], [2], [], [4], [4, 5], [4, 5, 6], [4, 5, 6, 7], [0, 2, 3, 4, 5, 6, 7, 8], [0, 2, 3, 4, 5, 6, 7, 8, 9], [0, 2, 3, 4, 5, 6, 7, 8, 9, 10], [0, 1, 2, 3, 4, 5, 6, 7, 8, 9, 10, 11], [0, 1, 2, 3, 4, 5, 6, 7, 8, 9, 10, 11, 12], [0, 1, 2, 3, 4, 5, 6, 7, 8, 9, 10, 11, 12, 13]] (by kernel_rfl) fun K hK => ?_
      simp [hpg, hps, hlt, hv]
      refine hK _ ?_; clear hK K
      refine Awp.loosen (id := 8) (ds' := S1.map Session.enc) rfl (by rw [hS1]; simp; exact Dles.refl _) ?_
      have hadd := add_m { d with Sessions := S1 } c p hl hp he hk hh
      simp only [wS, wk, ← hS1l] at hadd
      refine Awp.rg [] fun K hK => ?_
      simp [hS1q, hS1t]
      refine RL.cM false [(0, 0), (1, 1), (8, 2)] ?_
      simp [hS1q, hS1t]
      refine ⟨_, _, _, _, _, hadd, by decide, ?_⟩
      try simp [hS1q, hS1t]
      refine hK _ ?_; clear hK K
      refine Awp.rg [4] fun K hK => ?_
      simp
      refine hK _ ?_; clear hK K
      refine Awp.ret ?_
      try simp only [thenQ, inBlk, ↓reduceIte]
      -- RET 0
      refine retM.of (fun x => if x = 1 then 10 else if x = 2 then 8 else x) (by simp) ?_
      simp [Tryz.results13]
      have e : S1[q] = ⟨c.Client, c.Seq, 0, d.Epoch⟩ := by have h9 := List.getElem?_eq_getElem hS1t; rw [hS1q] at h9; exact (Option.some.inj h9).symm
      rw [reqS_new d c q p hql hf, e, hS1]
      refine ⟨rfl, ⟨rfl, rfl, by simp; omega⟩, rfl, by simp [hps]; rfl⟩
  · try simp at h
    all_goals
      have hlt := foundAt_lt h
      have hv : d.Sessions[q]? = some d.Sessions[q] := List.getElem?_eq_getElem hlt
      obtain ⟨S1, hS1⟩ : ∃ S1 : List Session, S1 = d.Sessions.set q ⟨d.Sessions[q].Client, c.Seq, d.Sessions[q].Code, d.Epoch⟩ := ⟨_, rfl⟩
      have hS1q : S1[q]? = some ⟨d.Sessions[q].Client, c.Seq, d.Sessions[q].Code, d.Epoch⟩ := by rw [hS1]; simp [hlt]
      have hS1l : d.Sessions.length = S1.length := by rw [hS1]; simp
      have hS1t : q < S1.length := by omega
      have hf := h
      refine Awp.rgD [0, 3, 5, 33] [[], [0], [0, 1], [0, 1, 2], [0, 1, 2, 3], [], [0, 1, 2, 3, 4, 5], [0, 1, 2, 3, 4, 5, 6], [0, 1, 2, 3, 4, 5, 6, 7], [], [9], [0, 1, 2, 3, 4, 5, 6, 7, 8, 9, 10], [0, 1, 2, 3, 4, 5, 6, 7, 8, 9, 10, 11]] (by kernel_rfl) fun K hK => ?_
      simp [hlt, hv]
      refine hK _ ?_; clear hK K
      refine Awp.cond _ rfl (fun h => ?_) (fun h => ?_)  -- C1
      · try simp at h
        all_goals
          have hgt := h
          refine Awp.rg [4] fun K hK => ?_
          simp
          refine hK _ ?_; clear hK K
          refine Awp.ret ?_
          try simp only [thenQ, inBlk, ↓reduceIte]
          -- RET 1
          refine retM.of (fun x => x) (by simp) ?_
          simp [Tryz.results13]
          rw [reqS_less d c q p hlt hf (by omega)]
          simp
      · try simp at h
        all_goals
          have hng := h
          refine Awp.rgD [0, 3, 5, 46] [[], [0], [0, 1], [0, 1, 2], [0, 1, 2, 3], [], [0, 1, 2, 3, 4, 5], [0, 1, 2, 3, 4, 5, 6], [0, 1, 2, 3, 4, 5, 6, 7], [], [9], [0, 1, 2, 3, 4, 5, 6, 7, 8, 9, 10], [0, 1, 2, 3, 4, 5, 6, 7, 8, 9, 10, 11]] (by kernel_rfl) fun K hK => ?_
          simp [hlt, hv]
          refine hK _ ?_; clear hK K
          refine Awp.cond _ rfl (fun h => ?_) (fun h => ?_)  -- C2
          · try simp at h
            all_goals
              have heq := h
              refine Awp.rg [4] fun K hK => ?_
              simp
              refine hK _ ?_; clear hK K
              refine Awp.ret ?_
              try simp only [thenQ, inBlk, ↓reduceIte]
              -- RET 2
              refine retM.of (fun x => x) (by simp) ?_
              simp [Tryz.results13]
              rw [reqS_same d c q p hlt hf (by omega)]
              simp
          · try simp at h
            all_goals
              have hne := h
              refine Awp.skip ?_
              try simp only [thenQ, inBlk, ↓reduceIte]
              refine Awp.rg [0, 3, 7] fun K hK => ?_
              simp [hpg, hps, hql2]
              repeat (rw [if_pos (by omega)]; simp [hpg, hps, hql2])
              refine hK _ ?_; clear hK K
              refine Awp.rgD [0, 3, 7] [[], [], [], [2], [], [4], [4, 5], [4, 5, 6], [4, 5, 6, 7], [0, 2, 3, 4, 5, 6, 7, 8], [0, 2, 3, 4, 5, 6, 7, 8, 9], [0, 2, 3, 4, 5, 6, 7, 8, 9, 10], [0, 1, 2, 3, 4, 5, 6, 7, 8, 9, 10, 11], [0, 1, 2, 3, 4, 5, 6, 7, 8, 9, 10, 11, 12], [0, 1, 2, 3, 4, 5, 6, 7, 8, 9, 10, 11, 12, 13]] (by kernel_rfl) fun K hK => ?_
              simp [hpg, hps, hlt, hv]
              refine hK _ ?_; clear hK K
              refine Awp.loosen (id := 2) (ds' := S1.map Session.enc) rfl (by rw [hS1, List.map_set]; exact Dles.refl _) ?_
              have hadd := add_m { d with Sessions := S1 } c p hl hp he hk hh
              simp only [wS, wk, ← hS1l] at hadd
              refine Awp.rg [] fun K hK => ?_
              simp [hS1q, hS1t]
              refine RL.cM false [(0, 0), (1, 1), (2, 2)] ?_
              simp [hS1q, hS1t]
              refine ⟨_, _, _, _, _, hadd, by decide, ?_⟩
              try simp [hS1q, hS1t]
              refine hK _ ?_; clear hK K
              refine Awp.rg [4] fun K hK => ?_
              simp
              refine hK _ ?_; clear hK K
              refine Awp.ret ?_
              try simp only [thenQ, inBlk, ↓reduceIte]
              -- RET 3
              refine retM.of (fun x => if x = 1 then 8 else x) (by simp) ?_
              simp [Tryz.results13]
              have e : S1[q] = ⟨d.Sessions[q].Client, c.Seq, d.Sessions[q].Code, d.Epoch⟩ := by have h9 := List.getElem?_eq_getElem hS1t; rw [hS1q] at h9; exact (Option.some.inj h9).symm
              rw [reqS_more d c q p hlt hf (by omega), e]
              refine ⟨rfl, ⟨rfl, rfl, by simp⟩, rfl, by rw [hS1]; simp; rfl⟩
end Go.Apl

/- Contracts: a directory in memory of its own. -/
namespace Go.Apl
open Go Go.Proofs
set_option maxRecDepth 100000
set_option linter.unusedSimpArgs false
set_option linter.unusedVariables false

theorem mix_get {α : Type} (f g : α → D) (l : List α) (i : Nat) (h : i < l.length) : ((l.map f).take i ++ (l.map g).drop i)[i]? = some (g l[i]) := by
  rw [List.getElem?_append_right (by simp; omega)]
  have : i - ((l.map f).take i).length = 0 := by simp; omega
  rw [this]; simp [h]
theorem mix_set {α : Type} (f g : α → D) (l : List α) (i : Nat) (h : i < l.length) (y : D) : ((l.map f).take i ++ (l.map g).drop i).set i y = (l.map f).take i ++ y :: (l.map g).drop (i + 1) := by
  rw [List.set_append_right _ _ (by simp; omega)]
  have : i - ((l.map f).take i).length = 0 := by simp; omega
  rw [this, List.drop_eq_getElem_cons (by simpa using h)]; rfl
theorem mix_step {α : Type} (f g : α → D) (l : List α) (i : Nat) (h : i < l.length) : (l.map f).take i ++ f l[i] :: (l.map g).drop (i + 1) = (l.map f).take (i + 1) ++ (l.map g).drop (i + 1) := by
  rw [List.take_succ_eq_append_getElem (by simpa using h)]
  simp

theorem begin_m (d : Directory) (hl : d.Users.length ≤ 100000) (hls : d.Sessions.length ≤ 100000) (hv : ∀ u ∈ d.Users, u.Versions.length ≤ 100000) :
    MutF Tryz.prog 11 [] 0 [d.enc true] (wS false d) 3 [] (.ptr 0 []) := by
  refine MutF.intro (c := _) Tryz.func11 rfl (by kernel_rfl) (by rw [Tryz.ntmps11]; simp) (by simp) rfl ?_
  refine Awp.rg [1] fun K hK => ?_
  simp
  refine hK _ ?_; clear hK K
  refine Awp.rg [1] fun K hK => ?_
  simp
  refine RL.cM false [] ?_
  simp
  refine ⟨_, _, _, _, _, cloneU_m _ (by simp; omega) (by simp), by decide, ?_⟩
  try simp
  refine hK _ ?_; clear hK K
  refine Awp.seq ?_
  refine Awp.rg [1, 10, 11, 12] fun K hK => ?_
  simp
  refine hK _ ?_; clear hK K
  refine Awp.block ?_
  -- LOOP 0 live [1, 10, 11, 12]
  refine Awp.loopS (f := fun (a : Nat × Nat) => ⟨37, [(1, .ptr 0 []), (10, .own 1 0 d.Users.length), (11, .v (.int .i64 d.Users.length)), (12, .v (.int .i64 a.1))], [(1, .arr 43 ((d.Users.map (User.enc false)).take a.1 ++ (d.Users.map (User.enc true)).drop a.1)), (0, .box 39 (.st 39 [.v (.int .i64 d.Epoch), .own 1 0 d.Users.length, .lst true false 65 [], .lst true false 68 (d.Sessions.map Session.enc)]))], a.2 + 2⟩) (I := fun a => a.1 ≤ d.Users.length) (μ := fun a => d.Users.length - a.1) (0, 0) ?_ ?_ ?_
  · simp
  · simp
  rintro ⟨i, m⟩ hi
  simp only at hi
  refine Awp.rg [1, 10, 11, 12, 13] fun K hK => ?_
  simp
  refine hK _ ?_; clear hK K
  refine Awp.seq ?_
  refine Awp.cond _ rfl (fun h => ?_) (fun h => ?_)  -- C0
  · try simp at h
    all_goals
      have hlt : i < d.Users.length := by omega
      have hvi := hv _ (List.getElem_mem hlt)
      have hg := mix_get (User.enc true) (User.enc true) d.Users i hlt
      have hmg := mix_get (User.enc false) (User.enc true) d.Users i hlt
      have hms := mix_set (User.enc false) (User.enc true) d.Users i hlt
      refine Awp.skip ?_
      try simp only [thenQ, inBlk, ↓reduceIte]
      refine Awp.seq ?_
      refine Awp.block ?_
      refine Awp.rg [1, 3, 4, 10, 11, 12] fun K hK => ?_
      simp [hlt, hmg]
      refine hK _ ?_; clear hK K
      refine Awp.rgDE [[], [0], [], [], [3], [3, 4], [0, 1, 2, 3, 4, 5], [0, 1, 2, 3, 4, 5, 6], [0, 1, 2, 3, 4, 5, 6, 7]] (by kernel_rfl) fun K hK => ?_
      simp [hlt, hmg, hms]
      refine DL.cF ?_  -- slices.Clone[[]api.Version,api.Version]
      simp [hlt, hmg, hms]
      refine ⟨_, cloneV_c _ (by simp; omega) (by simp), by simp, ?_⟩
      try simp [hlt, hmg, hms]
      refine hK _ ?_; clear hK K
      try simp only [thenQ, inBlk, ↓reduceIte]
      refine Awp.rgE fun K hK => ?_
      simp
      refine hK _ ?_; clear hK K
      try simp only [thenQ, inBlk, ↓reduceIte]
      have hstep := mix_step (User.enc false) (User.enc true) d.Users i hlt
      refine ⟨(i + 1, m + 1), by simp only; omega, by simp only; omega, ⟨rfl, ⟨rfl, rfl, rfl, by simp (disch := omega) [wrap_id], trivial⟩, ⟨congrArg (fun x => some (AO.arr 43 x)) hstep, rfl, trivial⟩, by simp only; omega⟩⟩
  · try simp at h
    all_goals
      have hin : i = d.Users.length := by omega
      subst hin
      refine Awp.exit ?_
      try simp only [thenQ, inBlk, ↓reduceIte]
      refine Awp.rgD [1] [[], [0], [0, 1], [], [3], [0, 1, 2, 3, 4], [0, 1, 2, 3, 4], [0, 1, 2, 3, 4, 5, 6], [0, 1, 2, 3, 4, 5, 6, 7], [0, 1, 2, 3, 4, 5, 6, 7, 8]] (by kernel_rfl) fun K hK => ?_
      simp
      refine DL.cF ?_  -- slices.Clone[[]api.Head,api.Head]
      simp
      refine ⟨_, cloneH_c [] (by simp) (by simp), by simp, ?_⟩
      try simp
      refine DL.cM false [] ?_
      simp
      refine ⟨_, _, _, _, _, cloneS_m _ (by simp; omega) (by simp), by decide, ?_⟩
      try simp
      refine hK _ ?_; clear hK K
      refine Awp.rg [2] fun K hK => ?_
      simp
      refine hK _ ?_; clear hK K
      refine Awp.ret ?_
      try simp only [thenQ, inBlk, ↓reduceIte]
      -- RET 0
      refine retM.of (fun x => if x = 0 then m + 3 else if x = 1 then 1 else m + 2) (by simp) ?_
      simp [Tryz.results11]
      try simp [*]
end Go.Apl

/- Contracts: which commands may be. -/
namespace Go.Apl
open Go Go.Proofs
set_option maxRecDepth 100000
set_option linter.unusedSimpArgs false
set_option linter.unusedVariables false

@[simp] theorem strEq_self (a : ByteArray) : strEq a a = true := by simp [strEq]
@[simp high] theorem zDig_abuild : abuild Tryz.prog 28 [] = some zDig := by kernel_rfl
def mayS (c : Command) : Bool :=
  if c.Kind = 1 ∨ c.Kind = 2 ∨ c.Kind = 3 then
    ((c.Epoch == 0 && (if c.Kind = 3 then strEq c.Key noStr else withinS c.Key.size 1 64)) && withinS c.Client 1 4 && withinS c.Seq 1 1000000) && nameS c.User
  else if c.Kind = 5 ∨ c.Kind = 4 then (c.Client == 0 && (c.Seq == 0 && (strEq c.User noStr && strEq c.Key noStr))) && withinS c.Epoch 1 200
  else false
theorem may2_c (c : Command) : PureF Tryz.prog 10 [c.enc] (.v (.bool (mayS c))) := by
  refine PureF.intro (c := _) Tryz.func10 rfl (by kernel_rfl) (by rw [Tryz.ntmps10]; simp) rfl ?_
  refine Awp.rg [1] fun K hK => ?_
  simp
  refine hK _ ?_; clear hK K
  refine Awp.rg [1, 3] fun K hK => ?_
  simp
  refine hK _ ?_; clear hK K
  refine Awp.rg [1, 3] fun K hK => ?_
  simp
  refine hK _ ?_; clear hK K
  refine Awp.seq ?_
  refine Awp.rg [1, 3, 8] fun K hK => ?_
  simp
  refine hK _ ?_; clear hK K
  refine Awp.block ?_
  refine Awp.seq ?_
  refine Awp.rg [1, 3, 8, 9] fun K hK => ?_
  simp
  refine hK _ ?_; clear hK K
  refine Awp.cond _ rfl (fun h => ?_) (fun h => ?_)  -- C0
  · try simp at h
    all_goals try (exfalso; omega)
    all_goals
      refine Awp.skip ?_
      try simp only [thenQ, inBlk, ↓reduceIte]
      refine Awp.cond _ rfl (fun h => ?_) (fun h => ?_)  -- C1
      · try simp at h
        all_goals try (exfalso; omega)
        all_goals
          refine Awp.rg [1, 3, 4] fun K hK => ?_
          simp
          refine RL.cF ?_  -- directory.within
          simp
          refine ⟨_, within_c _ _ _, by simp, ?_⟩
          try simp
          refine hK _ ?_; clear hK K
          refine Awp.seq ?_
          refine Awp.rg [1, 3, 4, 19] fun K hK => ?_
          simp
          refine hK _ ?_; clear hK K
          refine Awp.cond _ rfl (fun h => ?_) (fun h => ?_)  -- C2
          · try simp at h
            all_goals try (exfalso; omega)
            all_goals
              refine Awp.rgE fun K hK => ?_
              simp
              refine hK _ ?_; clear hK K
              try simp only [thenQ, inBlk, ↓reduceIte]
              refine Awp.rg [1, 3, 4] fun K hK => ?_
              simp
              refine hK _ ?_; clear hK K
              refine Awp.rg [2] fun K hK => ?_
              simp
              refine RL.cG ?_  -- directory.within
              simp
              refine ⟨_, within_c _ _ _, by simp, ?_⟩
              try simp
              refine RL.cG ?_  -- directory.within
              simp
              refine ⟨_, within_c _ _ _, by simp, ?_⟩
              try simp
              refine RL.cG ?_  -- directory.name
              simp
              refine ⟨_, name_c _, by simp, ?_⟩
              try simp
              refine hK _ ?_; clear hK K
              refine Awp.ret ?_
              try simp only [thenQ, inBlk, ↓reduceIte]
              -- RET 0
              refine retQ.of2 (by simp) ?_
              simp [Tryz.results10]
              simp [mayS, noStr, *]
              all_goals simp [zArr]
          · try simp at h
            all_goals try (exfalso; omega)
            all_goals
              refine Awp.skip ?_
              try simp only [thenQ, inBlk, ↓reduceIte]
              refine Awp.rg [1, 3, 4] fun K hK => ?_
              simp
              refine hK _ ?_; clear hK K
              refine Awp.rg [2] fun K hK => ?_
              simp
              refine RL.cG ?_  -- directory.within
              simp
              refine ⟨_, within_c _ _ _, by simp, ?_⟩
              try simp
              refine RL.cG ?_  -- directory.within
              simp
              refine ⟨_, within_c _ _ _, by simp, ?_⟩
              try simp
              refine RL.cG ?_  -- directory.name
              simp
              refine ⟨_, name_c _, by simp, ?_⟩
              try simp
              refine hK _ ?_; clear hK K
              refine Awp.ret ?_
              try simp only [thenQ, inBlk, ↓reduceIte]
              -- RET 1
              refine retQ.of2 (by simp) ?_
              simp [Tryz.results10]
              simp [mayS, noStr, *]
              all_goals simp [zArr]
      · try simp at h
        all_goals try (exfalso; omega)
        all_goals
          refine Awp.rg [1, 3, 8, 48] fun K hK => ?_
          simp
          refine hK _ ?_; clear hK K
          refine Awp.cond _ rfl (fun h => ?_) (fun h => ?_)  -- C3
          · try simp at h
            all_goals try (exfalso; omega)
            all_goals
              refine Awp.rgE fun K hK => ?_
              simp [-abuild, zDig_abuild]
              refine hK _ ?_; clear hK K
              try simp only [thenQ, inBlk, ↓reduceIte]
              refine Awp.rg [1, 3] fun K hK => ?_
              simp
              refine hK _ ?_; clear hK K
              refine Awp.rg [2] fun K hK => ?_
              simp
              refine RL.cG ?_  -- directory.within
              simp
              refine ⟨_, within_c _ _ _, by simp, ?_⟩
              try simp
              refine hK _ ?_; clear hK K
              refine Awp.ret ?_
              try simp only [thenQ, inBlk, ↓reduceIte]
              -- RET 2
              refine retQ.of2 (by simp) ?_
              simp [Tryz.results10]
              simp [mayS, noStr, *]
              all_goals simp [zArr]
          · try simp at h
            all_goals try (exfalso; omega)
            all_goals
              refine Awp.rg [1, 3, 52] fun K hK => ?_
              simp
              refine hK _ ?_; clear hK K
              refine Awp.cond _ rfl (fun h => ?_) (fun h => ?_)  -- C4
              · try simp at h
                all_goals try (exfalso; omega)
                all_goals
                  refine Awp.skip ?_
                  try simp only [thenQ, inBlk, ↓reduceIte]
                  refine Awp.rg [1, 3] fun K hK => ?_
                  simp
                  refine hK _ ?_; clear hK K
                  refine Awp.rg [2] fun K hK => ?_
                  simp
                  refine RL.cG ?_  -- directory.within
                  simp
                  refine ⟨_, within_c _ _ _, by simp, ?_⟩
                  try simp
                  refine hK _ ?_; clear hK K
                  refine Awp.ret ?_
                  try simp only [thenQ, inBlk, ↓reduceIte]
                  -- RET 3
                  refine retQ.of2 (by simp) ?_
                  simp [Tryz.results10]
                  simp [mayS, noStr, *]
                  all_goals simp [zArr]
              · try simp at h
                all_goals try (exfalso; omega)
                all_goals
                  refine Awp.rg [2] fun K hK => ?_
                  simp
                  refine hK _ ?_; clear hK K
                  refine Awp.ret ?_
                  try simp only [thenQ, inBlk, ↓reduceIte]
                  -- RET 4
                  refine retQ.of2 (by simp) ?_
                  simp [Tryz.results10]
                  simp [mayS, noStr, *]
                  all_goals simp [zArr]
  · try simp at h
    all_goals try (exfalso; omega)
    all_goals
      refine Awp.rg [1, 3, 8, 9] fun K hK => ?_
      simp
      refine hK _ ?_; clear hK K
      refine Awp.cond _ rfl (fun h => ?_) (fun h => ?_)  -- C5
      · try simp at h
        all_goals try (exfalso; omega)
        all_goals
          refine Awp.skip ?_
          try simp only [thenQ, inBlk, ↓reduceIte]
          refine Awp.cond _ rfl (fun h => ?_) (fun h => ?_)  -- C6
          · try simp at h
            all_goals try (exfalso; omega)
            all_goals
              refine Awp.rg [1, 3, 4] fun K hK => ?_
              simp
              refine RL.cF ?_  -- directory.within
              simp
              refine ⟨_, within_c _ _ _, by simp, ?_⟩
              try simp
              refine hK _ ?_; clear hK K
              refine Awp.seq ?_
              refine Awp.rg [1, 3, 4, 19] fun K hK => ?_
              simp
              refine hK _ ?_; clear hK K
              refine Awp.cond _ rfl (fun h => ?_) (fun h => ?_)  -- C7
              · try simp at h
                all_goals try (exfalso; omega)
                all_goals
                  refine Awp.rgE fun K hK => ?_
                  simp
                  refine hK _ ?_; clear hK K
                  try simp only [thenQ, inBlk, ↓reduceIte]
                  refine Awp.rg [1, 3, 4] fun K hK => ?_
                  simp
                  refine hK _ ?_; clear hK K
                  refine Awp.rg [2] fun K hK => ?_
                  simp
                  refine RL.cG ?_  -- directory.within
                  simp
                  refine ⟨_, within_c _ _ _, by simp, ?_⟩
                  try simp
                  refine RL.cG ?_  -- directory.within
                  simp
                  refine ⟨_, within_c _ _ _, by simp, ?_⟩
                  try simp
                  refine RL.cG ?_  -- directory.name
                  simp
                  refine ⟨_, name_c _, by simp, ?_⟩
                  try simp
                  refine hK _ ?_; clear hK K
                  refine Awp.ret ?_
                  try simp only [thenQ, inBlk, ↓reduceIte]
                  -- RET 5
                  refine retQ.of2 (by simp) ?_
                  simp [Tryz.results10]
                  simp [mayS, noStr, *]
                  all_goals simp [zArr]
              · try simp at h
                all_goals try (exfalso; omega)
                all_goals
                  refine Awp.skip ?_
                  try simp only [thenQ, inBlk, ↓reduceIte]
                  refine Awp.rg [1, 3, 4] fun K hK => ?_
                  simp
                  refine hK _ ?_; clear hK K
                  refine Awp.rg [2] fun K hK => ?_
                  simp
                  refine RL.cG ?_  -- directory.within
                  simp
                  refine ⟨_, within_c _ _ _, by simp, ?_⟩
                  try simp
                  refine RL.cG ?_  -- directory.within
                  simp
                  refine ⟨_, within_c _ _ _, by simp, ?_⟩
                  try simp
                  refine RL.cG ?_  -- directory.name
                  simp
                  refine ⟨_, name_c _, by simp, ?_⟩
                  try simp
                  refine hK _ ?_; clear hK K
                  refine Awp.ret ?_
                  try simp only [thenQ, inBlk, ↓reduceIte]
                  -- RET 6
                  refine retQ.of2 (by simp) ?_
                  simp [Tryz.results10]
                  simp [mayS, noStr, *]
                  all_goals simp [zArr]
          · try simp at h
            all_goals try (exfalso; omega)
            all_goals
              refine Awp.rg [1, 3, 8, 48] fun K hK => ?_
              simp
              refine hK _ ?_; clear hK K
              refine Awp.cond _ rfl (fun h => ?_) (fun h => ?_)  -- C8
              · try simp at h
                all_goals try (exfalso; omega)
                all_goals
                  refine Awp.rgE fun K hK => ?_
                  simp [-abuild, zDig_abuild]
                  refine hK _ ?_; clear hK K
                  try simp only [thenQ, inBlk, ↓reduceIte]
                  refine Awp.rg [1, 3] fun K hK => ?_
                  simp
                  refine hK _ ?_; clear hK K
                  refine Awp.rg [2] fun K hK => ?_
                  simp
                  refine RL.cG ?_  -- directory.within
                  simp
                  refine ⟨_, within_c _ _ _, by simp, ?_⟩
                  try simp
                  refine hK _ ?_; clear hK K
                  refine Awp.ret ?_
                  try simp only [thenQ, inBlk, ↓reduceIte]
                  -- RET 7
                  refine retQ.of2 (by simp) ?_
                  simp [Tryz.results10]
                  simp [mayS, noStr, *]
                  all_goals simp [zArr]
              · try simp at h
                all_goals try (exfalso; omega)
                all_goals
                  refine Awp.rg [1, 3, 52] fun K hK => ?_
                  simp
                  refine hK _ ?_; clear hK K
                  refine Awp.cond _ rfl (fun h => ?_) (fun h => ?_)  -- C9
                  · try simp at h
                    all_goals try (exfalso; omega)
                    all_goals
                      refine Awp.skip ?_
                      try simp only [thenQ, inBlk, ↓reduceIte]
                      refine Awp.rg [1, 3] fun K hK => ?_
                      simp
                      refine hK _ ?_; clear hK K
                      refine Awp.rg [2] fun K hK => ?_
                      simp
                      refine RL.cG ?_  -- directory.within
                      simp
                      refine ⟨_, within_c _ _ _, by simp, ?_⟩
                      try simp
                      refine hK _ ?_; clear hK K
                      refine Awp.ret ?_
                      try simp only [thenQ, inBlk, ↓reduceIte]
                      -- RET 8
                      refine retQ.of2 (by simp) ?_
                      simp [Tryz.results10]
                      simp [mayS, noStr, *]
                      all_goals simp [zArr]
                  · try simp at h
                    all_goals try (exfalso; omega)
                    all_goals
                      refine Awp.rg [2] fun K hK => ?_
                      simp
                      refine hK _ ?_; clear hK K
                      refine Awp.ret ?_
                      try simp only [thenQ, inBlk, ↓reduceIte]
                      -- RET 9
                      refine retQ.of2 (by simp) ?_
                      simp [Tryz.results10]
                      simp [mayS, noStr, *]
                      all_goals simp [zArr]
      · try simp at h
        all_goals try (exfalso; omega)
        all_goals
          refine Awp.rgE fun K hK => ?_
          simp
          refine hK _ ?_; clear hK K
          try simp only [thenQ, inBlk, ↓reduceIte]
          refine Awp.cond _ rfl (fun h => ?_) (fun h => ?_)  -- C10
          · try simp at h
            all_goals try (exfalso; omega)
            all_goals
              refine Awp.rg [1, 3, 4] fun K hK => ?_
              simp
              refine RL.cF ?_  -- directory.within
              simp
              refine ⟨_, within_c _ _ _, by simp, ?_⟩
              try simp
              refine hK _ ?_; clear hK K
              refine Awp.seq ?_
              refine Awp.rg [1, 3, 4, 19] fun K hK => ?_
              simp
              refine hK _ ?_; clear hK K
              refine Awp.cond _ rfl (fun h => ?_) (fun h => ?_)  -- C11
              · try simp at h
                all_goals try (exfalso; omega)
                all_goals
                  refine Awp.rgE fun K hK => ?_
                  simp
                  refine hK _ ?_; clear hK K
                  try simp only [thenQ, inBlk, ↓reduceIte]
                  refine Awp.rg [1, 3, 4] fun K hK => ?_
                  simp
                  refine hK _ ?_; clear hK K
                  refine Awp.rg [2] fun K hK => ?_
                  simp
                  refine RL.cG ?_  -- directory.within
                  simp
                  refine ⟨_, within_c _ _ _, by simp, ?_⟩
                  try simp
                  refine RL.cG ?_  -- directory.within
                  simp
                  refine ⟨_, within_c _ _ _, by simp, ?_⟩
                  try simp
                  refine RL.cG ?_  -- directory.name
                  simp
                  refine ⟨_, name_c _, by simp, ?_⟩
                  try simp
                  refine hK _ ?_; clear hK K
                  refine Awp.ret ?_
                  try simp only [thenQ, inBlk, ↓reduceIte]
                  -- RET 10
                  refine retQ.of2 (by simp) ?_
                  simp [Tryz.results10]
                  simp [mayS, noStr, *]
                  all_goals simp [zArr]
              · try simp at h
                all_goals try (exfalso; omega)
                all_goals
                  refine Awp.skip ?_
                  try simp only [thenQ, inBlk, ↓reduceIte]
                  refine Awp.rg [1, 3, 4] fun K hK => ?_
                  simp
                  refine hK _ ?_; clear hK K
                  refine Awp.rg [2] fun K hK => ?_
                  simp
                  refine RL.cG ?_  -- directory.within
                  simp
                  refine ⟨_, within_c _ _ _, by simp, ?_⟩
                  try simp
                  refine RL.cG ?_  -- directory.within
                  simp
                  refine ⟨_, within_c _ _ _, by simp, ?_⟩
                  try simp
                  refine RL.cG ?_  -- directory.name
                  simp
                  refine ⟨_, name_c _, by simp, ?_⟩
                  try simp
                  refine hK _ ?_; clear hK K
                  refine Awp.ret ?_
                  try simp only [thenQ, inBlk, ↓reduceIte]
                  -- RET 11
                  refine retQ.of2 (by simp) ?_
                  simp [Tryz.results10]
                  simp [mayS, noStr, *]
                  all_goals simp [zArr]
          · try simp at h
            all_goals try (exfalso; omega)
            all_goals
              refine Awp.rg [1, 3, 8, 48] fun K hK => ?_
              simp
              refine hK _ ?_; clear hK K
              refine Awp.cond _ rfl (fun h => ?_) (fun h => ?_)  -- C12
              · try simp at h
                all_goals try (exfalso; omega)
                all_goals
                  refine Awp.rgE fun K hK => ?_
                  simp [-abuild, zDig_abuild]
                  refine hK _ ?_; clear hK K
                  try simp only [thenQ, inBlk, ↓reduceIte]
                  refine Awp.rg [1, 3] fun K hK => ?_
                  simp
                  refine hK _ ?_; clear hK K
                  refine Awp.rg [2] fun K hK => ?_
                  simp
                  refine RL.cG ?_  -- directory.within
                  simp
                  refine ⟨_, within_c _ _ _, by simp, ?_⟩
                  try simp
                  refine hK _ ?_; clear hK K
                  refine Awp.ret ?_
                  try simp only [thenQ, inBlk, ↓reduceIte]
                  -- RET 12
                  refine retQ.of2 (by simp) ?_
                  simp [Tryz.results10]
                  simp [mayS, noStr, *]
                  all_goals simp [zArr]
              · try simp at h
                all_goals try (exfalso; omega)
                all_goals
                  refine Awp.rg [1, 3, 52] fun K hK => ?_
                  simp
                  refine hK _ ?_; clear hK K
                  refine Awp.cond _ rfl (fun h => ?_) (fun h => ?_)  -- C13
                  · try simp at h
                    all_goals try (exfalso; omega)
                    all_goals
                      refine Awp.skip ?_
                      try simp only [thenQ, inBlk, ↓reduceIte]
                      refine Awp.rg [1, 3] fun K hK => ?_
                      simp
                      refine hK _ ?_; clear hK K
                      refine Awp.rg [2] fun K hK => ?_
                      simp
                      refine RL.cG ?_  -- directory.within
                      simp
                      refine ⟨_, within_c _ _ _, by simp, ?_⟩
                      try simp
                      refine hK _ ?_; clear hK K
                      refine Awp.ret ?_
                      try simp only [thenQ, inBlk, ↓reduceIte]
                      -- RET 13
                      refine retQ.of2 (by simp) ?_
                      simp [Tryz.results10]
                      simp [mayS, noStr, *]
                      all_goals simp [zArr]
                  · try simp at h
                    all_goals try (exfalso; omega)
                    all_goals
                      refine Awp.rg [2] fun K hK => ?_
                      simp
                      refine hK _ ?_; clear hK K
                      refine Awp.ret ?_
                      try simp only [thenQ, inBlk, ↓reduceIte]
                      -- RET 14
                      refine retQ.of2 (by simp) ?_
                      simp [Tryz.results10]
                      simp [mayS, noStr, *]
                      all_goals simp [zArr]
end Go.Apl

/- Contracts: which directories are well formed. -/
namespace Go.Apl
open Go Go.Proofs
set_option maxRecDepth 100000
set_option linter.unusedSimpArgs false
set_option linter.unusedVariables false

def uOK (e : Int) (was : ByteArray) (u : User) : Bool :=
  !(strLt u.Name was || strEq u.Name was) && nameS u.Name && decide (0 < u.Versions.length) && versOK u.Versions && decide ((lastS u.Versions).Epoch ≤ e + 1)
def uOKs (e : Int) : ByteArray → List User → Bool
  | _, [] => true
  | was, u :: l => uOK e was u && uOKs e u.Name l
def sOK (e : Int) (last : Int) (s : Session) : Bool :=
  decide (last < s.Client) && decide (s.Client ≤ 4) && withinS s.Seq 1 1000000 && withinS s.Code 0 65535 && withinS s.Epoch 0 e
def sOKs (e : Int) : Int → List Session → Bool
  | _, [] => true
  | last, s :: l => sOK e last s && sOKs e s.Client l
def preOK (d : Directory) : Bool := withinS d.Epoch 0 200 && decide ((d.Users.length : Int) ≤ 64) && decide (0 ≤ d.Epoch) && decide ((d.Sessions.length : Int) ≤ 4)
def dirOK (d : Directory) : Bool := preOK d && uOKs d.Epoch noStr d.Users && sOKs d.Epoch 0 d.Sessions

theorem uOKs_drop (e : Int) (l : List User) {i : Nat} (h : i < l.length) (was : ByteArray) : uOKs e was (l.drop i) = (uOK e was l[i] && uOKs e l[i].Name (l.drop (i + 1))) := by
  rw [List.drop_eq_getElem_cons h]; rfl
theorem sOKs_drop (e : Int) (l : List Session) {i : Nat} (h : i < l.length) (was : Int) : sOKs e was (l.drop i) = (sOK e was l[i] && sOKs e l[i].Client (l.drop (i + 1))) := by
  rw [List.drop_eq_getElem_cons h]; rfl

theorem ite_ok (b : Bool) : ((if b = true then (0 : Int) else 50) == 0) = b := by cases b <;> rfl
theorem dcheck_c (d : Directory) (hv : ∀ u ∈ d.Users, u.Versions.length ≤ 100000) : PureF Tryz.prog 9 [d.enc true] (.v (.int .i64 (if dirOK d then 0 else 70))) := by
  refine PureF.intro (c := _) Tryz.func9 rfl (by kernel_rfl) (by rw [Tryz.ntmps9]; simp) rfl ?_
  refine Awp.rg [1] fun K hK => ?_
  simp
  refine hK _ ?_; clear hK K
  refine Awp.rg [1, 3] fun K hK => ?_
  simp
  refine RL.cF ?_  -- directory.within
  simp
  refine ⟨_, within_c _ _ _, by simp, ?_⟩
  try simp
  refine hK _ ?_; clear hK K
  refine Awp.seq ?_
  refine Awp.rg [1, 3, 36] fun K hK => ?_
  simp
  refine hK _ ?_; clear hK K
  refine Awp.cond _ rfl (fun h => ?_) (fun h => ?_)  -- C0
  · try simp at h
    all_goals try (exfalso; omega)
    all_goals
      have hpre : preOK d = false := by rcases h with ((h | h) | h) | h <;> first | (simp [preOK, h]; done) | (simp [preOK]; intros; omega)
      refine Awp.rg [2] fun K hK => ?_
      simp
      refine hK _ ?_; clear hK K
      refine Awp.ret ?_
      try simp only [thenQ, inBlk, ↓reduceIte]
      -- RET 0
      refine retQ.of2 (by simp) ?_
      simp [Tryz.results9]
      simp [dirOK, hpre]
  · try simp at h
    all_goals try (exfalso; omega)
    all_goals
      have hpre : preOK d = true := by simp_all [preOK]
      have hep : 0 ≤ d.Epoch ∧ d.Epoch ≤ 200 := by simp [preOK, withinS] at hpre; omega
      have we : IntKind.i64.wrap (d.Epoch + 1) = d.Epoch + 1 := wrap_id (by omega)
      refine Awp.skip ?_
      try simp only [thenQ, inBlk, ↓reduceIte]
      refine Awp.rg [1, 3, 4] fun K hK => ?_
      simp
      refine hK _ ?_; clear hK K
      refine Awp.seq ?_
      refine Awp.rg [1, 3, 4, 38, 39, 40] fun K hK => ?_
      simp
      refine hK _ ?_; clear hK K
      refine Awp.block ?_
      -- LOOP 0 live [1, 3, 4, 38, 39, 40]
      refine Awp.loopS (f := fun (a : Nat × Bool × ByteArray × Nat) => ⟨154, [(1, .ptr 0 []), (3, .v (.bool a.2.1)), (4, .v (.string a.2.2.1)), (38, .lst true false 43 (d.Users.map (User.enc true))), (39, .v (.int .i64 d.Users.length)), (40, .v (.int .i64 a.1))], [(0, .box 39 (d.enc true))], a.2.2.2 + 1⟩) (I := fun a => a.1 ≤ d.Users.length ∧ uOKs d.Epoch noStr d.Users = (a.2.1 && uOKs d.Epoch a.2.2.1 (d.Users.drop a.1))) (μ := fun a => d.Users.length - a.1) (0, true, noStr, 0) ?_ ?_ ?_
      · simp
      · simp_all [noStr]
      rintro ⟨i, ok, was, m⟩ ⟨hi, hI⟩
      simp only at hi hI
      refine Awp.rg [1, 3, 4, 38, 39, 40, 41] fun K hK => ?_
      simp
      refine hK _ ?_; clear hK K
      refine Awp.seq ?_
      refine Awp.cond _ rfl (fun h => ?_) (fun h => ?_)  -- C1
      · try simp at h
        all_goals try (exfalso; omega)
        all_goals
          have hlt : i < d.Users.length := by omega
          have hvi := hv _ (List.getElem_mem hlt)
          have hu : d.Users[i]? = some d.Users[i] := List.getElem?_eq_getElem hlt
          have wl : IntKind.i64.wrap ((d.Users[i].Versions.length : Int) - 1) = (d.Users[i].Versions.length : Int) - 1 := wrap_id (by omega)
          have tn : 0 < d.Users[i].Versions.length → ((d.Users[i].Versions.length : Int) - 1).toNat = d.Users[i].Versions.length - 1 := by omega
          have vl : 0 < d.Users[i].Versions.length → d.Users[i].Versions[d.Users[i].Versions.length - 1]? = some (lastS d.Users[i].Versions) := fun h0 => by simp [lastS, List.getElem?_eq_getElem (show d.Users[i].Versions.length - 1 < d.Users[i].Versions.length by omega)]
          refine Awp.skip ?_
          try simp only [thenQ, inBlk, ↓reduceIte]
          refine Awp.seq ?_
          refine Awp.block ?_
          refine Awp.rg [1, 3, 4, 6, 38, 39, 40] fun K hK => ?_
          simp [hlt, hu]
          refine hK _ ?_; clear hK K
          rcases (Nat.lt_or_ge 0 d.Users[i].Versions.length) with hx | hx
          ·
            refine Awp.rgD [1, 3, 6, 38, 39, 40] [[], [0], [0, 1], [0, 1, 2], [0, 1], [0, 1, 2, 3, 4], [0, 1, 2, 3, 4, 5], [0, 1, 2, 3, 4, 5, 6], [0, 1, 2, 3, 4, 5, 6, 7], [0, 1, 2, 3, 4, 5, 6, 7, 8], [0, 1, 2, 3, 4, 5, 6, 7, 8, 9], [0, 1, 2, 3, 4, 5, 6, 7, 8, 9, 10], [0, 1, 2, 3, 4, 5, 6, 7, 8, 9, 10, 11], [0, 1, 2, 3, 4, 5, 6, 7, 8, 9, 10, 11, 12], [0, 1, 2, 3, 4, 5, 6, 7, 8, 9, 10, 11, 12, 13], [0, 1, 2, 3, 4, 5, 6, 7, 8, 9, 10, 11, 12, 13, 14], [0, 1, 2, 3, 4, 5, 6, 7, 8, 9, 10, 11, 12, 13, 14, 15], [0, 1, 2, 3, 4, 5, 6, 7, 8, 9, 10, 11, 12, 13, 14, 15, 16], [0, 1, 2, 3, 4, 5, 6, 7, 8, 9, 10, 11, 12, 13, 14, 15, 16, 17], [0, 1, 2, 3, 4, 5, 6, 7, 8, 9, 10, 11, 12, 13, 14, 15, 16, 17, 18], [0, 1, 2, 3, 4, 5, 6, 7, 8, 9, 10, 11, 12, 13, 14, 15, 16, 17, 18, 19], [0, 1, 2, 3, 4, 5, 6, 7, 8, 9, 10, 11, 12, 13, 14, 15, 16, 17, 18, 19, 20], [0, 1, 2, 3, 4, 5, 6, 7, 8, 9, 10, 11, 12, 13, 14, 15, 16, 17, 18, 19, 20, 21], [0, 1, 2, 3, 4, 5, 6, 7, 8, 9, 10, 11, 12, 13, 14, 15, 16, 17, 18, 19, 20, 21, 22], [0, 1, 2, 3, 4, 5, 6, 7, 8, 9, 10, 11, 12, 13, 14, 15, 16, 17, 18, 19, 20, 21, 22, 23], [0, 1, 2, 3, 4, 5, 6, 7, 8, 9, 10, 11, 12, 13, 14, 15, 16, 17, 18, 19, 20, 21, 22, 23, 24], [0, 1, 2, 3, 4, 5, 6, 7, 8, 9, 10, 11, 12, 13, 14, 15, 16, 17, 18, 19, 20, 21, 22, 23, 24, 25], [0, 1, 2, 3, 4, 5, 6, 7, 8, 9, 10, 11, 12, 13, 14, 15, 16, 17, 18, 19, 20, 21, 22, 23, 24], [0, 1, 2, 3, 4, 5, 6, 7, 8, 9, 10, 11, 12, 13, 14, 15, 16, 17, 18, 19, 20, 21, 22, 23, 24, 27], [0, 1, 2, 3, 4, 5, 6, 7, 8, 9, 10, 11, 12, 13, 14, 15, 16, 17, 18, 19, 20, 21, 22, 23, 24, 27, 28], [0, 1, 2, 3, 4, 5, 6, 7, 8, 9, 10, 11, 12, 13, 14, 15, 16, 17, 18, 19, 20, 21, 22, 23, 24, 27, 28, 29], [0, 1, 2, 3, 4, 5, 6, 7, 8, 9, 10, 11, 12, 13, 14, 15, 16, 17, 18, 19, 20, 21, 22, 23, 24, 25, 26, 27, 28, 29, 30], [0, 1, 2, 3, 4, 5, 6, 7, 8, 9, 10, 11, 12, 13, 14, 15, 16, 17, 18, 19, 20, 21, 22, 23, 24, 25, 26, 27, 28, 29, 30, 31], [0, 1, 2, 3, 4, 5, 6, 7, 8, 9, 10, 11, 12, 13, 14, 15, 16, 17, 18, 19, 20, 21, 22, 23, 24, 25, 26, 27, 28, 29, 30, 31, 32], [0, 1, 2, 3, 4, 5, 6, 7, 8, 9, 10, 11, 12, 13, 14, 15, 16, 17, 18, 19, 20, 21, 22, 23, 24], [0, 1, 2, 3, 4, 5, 6, 7, 8, 9, 10, 11, 12, 13, 14, 15, 16, 17, 18, 19, 20, 21, 22, 23, 24, 34], [0, 1, 2, 3, 4, 5, 6, 7, 8, 9, 10, 11, 12, 13, 14, 15, 16, 17, 18, 19, 20, 21, 22, 23, 24, 34, 35], [0, 1, 2, 3, 4, 5, 6, 7, 8, 9, 10, 11, 12, 13, 14, 15, 16, 17, 18, 19, 20, 21, 22, 23, 24, 25, 26, 27, 28, 29, 30, 31, 32, 33, 34, 35, 36], [0, 1, 2, 3, 4, 5, 6, 7, 8, 9, 10, 11, 12, 13, 14, 15, 16, 17, 18, 19, 20, 21, 22, 23, 24, 25, 26, 27, 28, 29, 30, 31, 32, 33, 34, 35, 36, 37], [0, 1, 2, 3, 4, 5, 6, 7, 8, 9, 10, 11, 12, 13, 14, 15, 16, 17, 18, 19, 20, 21, 22, 23, 24, 25, 26, 27, 28, 29, 30, 31, 32, 33, 34, 35, 36, 37, 38]] (by kernel_rfl) fun K hK => ?_
            simp [wl, tn hx, vl hx, we]
            repeat (rw [if_pos (by omega)]; simp [wl, tn hx, vl hx, we])
            refine DL.cG ?_  -- directory.name
            simp [wl, tn hx, vl hx, we]
            refine ⟨_, name_c _, by simp, ?_⟩
            try simp [wl, tn hx, vl hx, we]
            repeat (rw [if_pos (by omega)]; simp [wl, tn hx, vl hx, we])
            refine DL.cG ?_  -- version.Check
            simp [wl, tn hx, vl hx, we]
            refine ⟨_, vcheck_c d.Users[i].Versions rfl (by omega), by simp, ?_⟩
            try simp [wl, tn hx, vl hx, we]
            repeat (rw [if_pos (by omega)]; simp [wl, tn hx, vl hx, we])
            refine hK _ ?_; clear hK K
            refine Awp.rgE fun K hK => ?_
            simp
            refine hK _ ?_; clear hK K
            try simp only [thenQ, inBlk, ↓reduceIte]
            refine Awp.rgE fun K hK => ?_
            simp
            refine hK _ ?_; clear hK K
            try simp only [thenQ, inBlk, ↓reduceIte]
            refine ⟨(i + 1, ok && uOK d.Epoch was d.Users[i], d.Users[i].Name, m + 1), ⟨by simp only; omega, by simp only; rw [hI, uOKs_drop d.Epoch _ hlt, Bool.and_assoc]⟩, by simp only; omega, ⟨rfl, ⟨rfl, ?_, rfl, rfl, rfl, by simp (disch := omega) [wrap_id], trivial⟩, ⟨rfl, trivial⟩, by simp only; omega⟩⟩
            simp [uOK, ite_ok, Bool.and_assoc, hx]
            all_goals (intros; omega)
          ·
            refine Awp.rgD [1, 3, 6, 38, 39, 40] [[], [0], [0, 1], [0, 1, 2], [0, 1], [0, 1, 2, 3, 4], [0, 1, 2, 3, 4, 5], [0, 1, 2, 3, 4, 5, 6], [0, 1, 2, 3, 4, 5, 6, 7], [0, 1, 2, 3, 4, 5, 6, 7, 8], [0, 1, 2, 3, 4, 5, 6, 7, 8, 9], [0, 1, 2, 3, 4, 5, 6, 7, 8, 9, 10], [0, 1, 2, 3, 4, 5, 6, 7, 8, 9, 10, 11], [0, 1, 2, 3, 4, 5, 6, 7, 8, 9, 10, 11, 12], [0, 1, 2, 3, 4, 5, 6, 7, 8, 9, 10, 11, 12, 13], [0, 1, 2, 3, 4, 5, 6, 7, 8, 9, 10, 11, 12, 13, 14], [0, 1, 2, 3, 4, 5, 6, 7, 8, 9, 10, 11, 12, 13, 14, 15], [0, 1, 2, 3, 4, 5, 6, 7, 8, 9, 10, 11, 12, 13, 14, 15, 16], [0, 1, 2, 3, 4, 5, 6, 7, 8, 9, 10, 11, 12, 13, 14, 15, 16, 17], [0, 1, 2, 3, 4, 5, 6, 7, 8, 9, 10, 11, 12, 13, 14, 15, 16, 17, 18], [0, 1, 2, 3, 4, 5, 6, 7, 8, 9, 10, 11, 12, 13, 14, 15, 16, 17, 18, 19], [0, 1, 2, 3, 4, 5, 6, 7, 8, 9, 10, 11, 12, 13, 14, 15, 16, 17, 18, 19, 20], [0, 1, 2, 3, 4, 5, 6, 7, 8, 9, 10, 11, 12, 13, 14, 15, 16, 17, 18, 19, 20, 21], [0, 1, 2, 3, 4, 5, 6, 7, 8, 9, 10, 11, 12, 13, 14, 15, 16, 17, 18, 19, 20, 21, 22], [0, 1, 2, 3, 4, 5, 6, 7, 8, 9, 10, 11, 12, 13, 14, 15, 16, 17, 18, 19, 20, 21, 22, 23], [0, 1, 2, 3, 4, 5, 6, 7, 8, 9, 10, 11, 12, 13, 14, 15, 16, 17, 18, 19, 20, 21, 22, 23, 24], [0, 1, 2, 3, 4, 5, 6, 7, 8, 9, 10, 11, 12, 13, 14, 15, 16, 17, 18, 19, 20, 21, 22, 23, 24, 25], [0, 1, 2, 3, 4, 5, 6, 7, 8, 9, 10, 11, 12, 13, 14, 15, 16, 17, 18, 19, 20, 21, 22, 23, 24], [0, 1, 2, 3, 4, 5, 6, 7, 8, 9, 10, 11, 12, 13, 14, 15, 16, 17, 18, 19, 20, 21, 22, 23, 24, 27], [0, 1, 2, 3, 4, 5, 6, 7, 8, 9, 10, 11, 12, 13, 14, 15, 16, 17, 18, 19, 20, 21, 22, 23, 24, 27, 28], [0, 1, 2, 3, 4, 5, 6, 7, 8, 9, 10, 11, 12, 13, 14, 15, 16, 17, 18, 19, 20, 21, 22, 23, 24, 27, 28, 29], [0, 1, 2, 3, 4, 5, 6, 7, 8, 9, 10, 11, 12, 13, 14, 15, 16, 17, 18, 19, 20, 21, 22, 23, 24, 25, 26, 27, 28, 29, 30], [0, 1, 2, 3, 4, 5, 6, 7, 8, 9, 10, 11, 12, 13, 14, 15, 16, 17, 18, 19, 20, 21, 22, 23, 24, 25, 26, 27, 28, 29, 30, 31], [0, 1, 2, 3, 4, 5, 6, 7, 8, 9, 10, 11, 12, 13, 14, 15, 16, 17, 18, 19, 20, 21, 22, 23, 24, 25, 26, 27, 28, 29, 30, 31, 32], [0, 1, 2, 3, 4, 5, 6, 7, 8, 9, 10, 11, 12, 13, 14, 15, 16, 17, 18, 19, 20, 21, 22, 23, 24], [0, 1, 2, 3, 4, 5, 6, 7, 8, 9, 10, 11, 12, 13, 14, 15, 16, 17, 18, 19, 20, 21, 22, 23, 24, 34], [0, 1, 2, 3, 4, 5, 6, 7, 8, 9, 10, 11, 12, 13, 14, 15, 16, 17, 18, 19, 20, 21, 22, 23, 24, 34, 35], [0, 1, 2, 3, 4, 5, 6, 7, 8, 9, 10, 11, 12, 13, 14, 15, 16, 17, 18, 19, 20, 21, 22, 23, 24, 25, 26, 27, 28, 29, 30, 31, 32, 33, 34, 35, 36], [0, 1, 2, 3, 4, 5, 6, 7, 8, 9, 10, 11, 12, 13, 14, 15, 16, 17, 18, 19, 20, 21, 22, 23, 24, 25, 26, 27, 28, 29, 30, 31, 32, 33, 34, 35, 36, 37], [0, 1, 2, 3, 4, 5, 6, 7, 8, 9, 10, 11, 12, 13, 14, 15, 16, 17, 18, 19, 20, 21, 22, 23, 24, 25, 26, 27, 28, 29, 30, 31, 32, 33, 34, 35, 36, 37, 38]] (by kernel_rfl) fun K hK => ?_
            simp [Nat.le_zero.1 hx, wl, we]
            refine DL.cG ?_  -- directory.name
            simp [Nat.le_zero.1 hx, wl, we]
            refine ⟨_, name_c _, by simp, ?_⟩
            try simp [Nat.le_zero.1 hx, wl, we]
            refine DL.cG ?_  -- version.Check
            simp [Nat.le_zero.1 hx, wl, we]
            refine ⟨_, vcheck_c d.Users[i].Versions rfl (by omega), by simp, ?_⟩
            try simp [Nat.le_zero.1 hx, wl, we]
            refine hK _ ?_; clear hK K
            refine Awp.rgE fun K hK => ?_
            simp
            refine hK _ ?_; clear hK K
            try simp only [thenQ, inBlk, ↓reduceIte]
            refine Awp.rgE fun K hK => ?_
            simp
            refine hK _ ?_; clear hK K
            try simp only [thenQ, inBlk, ↓reduceIte]
            refine ⟨(i + 1, ok && uOK d.Epoch was d.Users[i], d.Users[i].Name, m + 1), ⟨by simp only; omega, by simp only; rw [hI, uOKs_drop d.Epoch _ hlt, Bool.and_assoc]⟩, by simp only; omega, ⟨rfl, ⟨rfl, ?_, rfl, rfl, rfl, by simp (disch := omega) [wrap_id], trivial⟩, ⟨rfl, trivial⟩, by simp only; omega⟩⟩
            simp [uOK, ite_ok, Bool.and_assoc, hx]
            all_goals (intros; omega)
      · try simp at h
        all_goals try (exfalso; omega)
        all_goals
          have hU : uOKs d.Epoch noStr d.Users = ok := by rw [hI, List.drop_eq_nil_of_le (by omega)]; simp [uOKs]
          refine Awp.exit ?_
          try simp only [thenQ, inBlk, ↓reduceIte]
          refine Awp.seq ?_
          refine Awp.rg [1, 3, 87, 88, 89] fun K hK => ?_
          simp
          refine hK _ ?_; clear hK K
          refine Awp.block ?_
          -- LOOP 1 live [1, 3, 87, 88, 89]
          refine Awp.loopS (f := fun (a : Nat) => ⟨154, [(1, .ptr 0 []), (3, .v (.bool ok)), (87, .lst true false 65 []), (88, .v (.int .i64 0)), (89, .v (.int .i64 0))], [(0, .box 39 (d.enc true))], a + 1⟩) (I := fun a => True) (μ := fun a => 0) m ?_ ?_ ?_
          · trivial
          · simp
          intro m1 _
          refine Awp.rg [1, 3, 87, 88, 89, 90] fun K hK => ?_
          simp
          refine hK _ ?_; clear hK K
          refine Awp.seq ?_
          refine Awp.cond _ rfl (fun h => ?_) (fun h => ?_)  -- C2
          · try simp at h
            all_goals try (exfalso; omega)
            all_goals
              refine Awp.skip ?_
              try simp only [thenQ, inBlk, ↓reduceIte]
              refine Awp.seq ?_
              refine Awp.block ?_
              refine Awp.rg [1, 3, 7, 8, 87, 88, 89] fun K hK => ?_
              simp
              refine hK _ ?_; clear hK K
              refine Awp.rgDE [[], [0], [0, 1], [0, 1, 2], [0, 1], [0, 1, 4], [0, 1, 2, 3, 4, 5], [0, 1, 2, 3, 4, 5, 6], [0, 1, 2, 3, 4, 5, 6, 7], [0, 1, 2, 3, 4, 5, 6, 7, 8], [0, 1, 2, 3, 4, 5, 6, 7, 8, 9], [0, 1, 2, 3, 4, 5, 6, 7, 8], [0, 1, 2, 3, 4, 5, 6, 7, 8, 11], [0, 1, 2, 3, 4, 5, 6, 7, 8], [0, 1, 2, 3, 4, 5, 6, 7, 8, 11, 12, 13], [0, 1, 2, 3, 4, 5, 6, 7, 8, 11, 12, 13, 14], [0, 1, 2, 3, 4, 5, 6, 7, 8, 9, 10, 11, 12, 13, 14, 15], [0, 1, 2, 3, 4, 5, 6, 7, 8, 9, 10, 11, 12, 13, 14, 15, 16], [0, 1, 2, 3, 4, 5, 6, 7, 8, 9, 10, 11, 12, 13, 14, 15, 16, 17]] (by kernel_rfl) fun K hK => ?_
              simp
              refine DL.cG ?_  -- directory.prev
              simp
              refine ⟨_, trivial, by simp, ?_⟩
              try simp
              refine hK _ ?_; clear hK K
              try simp only [thenQ, inBlk, ↓reduceIte]
              refine Awp.rgE fun K hK => ?_
              simp
              refine hK _ ?_; clear hK K
              try simp only [thenQ, inBlk, ↓reduceIte]
              trivial
          · try simp at h
            all_goals try (exfalso; omega)
            all_goals
              refine Awp.exit ?_
              try simp only [thenQ, inBlk, ↓reduceIte]
              refine Awp.rg [1, 3, 9] fun K hK => ?_
              simp
              refine hK _ ?_; clear hK K
              refine Awp.seq ?_
              refine Awp.rg [1, 3, 9, 114, 115, 116] fun K hK => ?_
              simp
              refine hK _ ?_; clear hK K
              refine Awp.block ?_
              -- LOOP 2 live [1, 3, 9, 114, 115, 116]
              refine Awp.loopS (f := fun (a : Nat × Bool × Int × Nat) => ⟨154, [(1, .ptr 0 []), (3, .v (.bool a.2.1)), (9, .v (.int .i64 a.2.2.1)), (114, .lst true false 68 (d.Sessions.map Session.enc)), (115, .v (.int .i64 d.Sessions.length)), (116, .v (.int .i64 a.1))], [(0, .box 39 (d.enc true))], a.2.2.2 + 1⟩) (I := fun a => a.1 ≤ d.Sessions.length ∧ (uOKs d.Epoch noStr d.Users && sOKs d.Epoch 0 d.Sessions) = (a.2.1 && sOKs d.Epoch a.2.2.1 (d.Sessions.drop a.1))) (μ := fun a => d.Sessions.length - a.1) (0, ok, 0, m1) ?_ ?_ ?_
              · simp [hU]
              · simp
              rintro ⟨k, ok2, las, m2⟩ ⟨hk, hI2⟩
              simp only at hk hI2
              refine Awp.rg [1, 3, 9, 114, 115, 116, 117] fun K hK => ?_
              simp
              refine hK _ ?_; clear hK K
              refine Awp.seq ?_
              refine Awp.cond _ rfl (fun h => ?_) (fun h => ?_)  -- C3
              · try simp at h
                all_goals try (exfalso; omega)
                all_goals
                  have hkl : k < d.Sessions.length := by omega
                  have hs : d.Sessions[k]? = some d.Sessions[k] := List.getElem?_eq_getElem hkl
                  refine Awp.skip ?_
                  try simp only [thenQ, inBlk, ↓reduceIte]
                  refine Awp.seq ?_
                  refine Awp.block ?_
                  refine Awp.rg [1, 3, 9, 11, 114, 115, 116] fun K hK => ?_
                  simp [hkl, hs]
                  refine hK _ ?_; clear hK K
                  refine Awp.rg [1, 3, 11, 114, 115, 116] fun K hK => ?_
                  simp
                  refine RL.cG ?_  -- directory.within
                  simp
                  refine ⟨_, within_c _ _ _, by simp, ?_⟩
                  try simp
                  refine RL.cG ?_  -- directory.within
                  simp
                  refine ⟨_, within_c _ _ _, by simp, ?_⟩
                  try simp
                  refine RL.cG ?_  -- directory.within
                  simp
                  refine ⟨_, within_c _ _ _, by simp, ?_⟩
                  try simp
                  refine hK _ ?_; clear hK K
                  refine Awp.rgE fun K hK => ?_
                  simp
                  refine hK _ ?_; clear hK K
                  try simp only [thenQ, inBlk, ↓reduceIte]
                  refine Awp.rgE fun K hK => ?_
                  simp
                  refine hK _ ?_; clear hK K
                  try simp only [thenQ, inBlk, ↓reduceIte]
                  refine ⟨(k + 1, ok2 && sOK d.Epoch las d.Sessions[k], d.Sessions[k].Client, m2 + 1), ⟨by simp only; omega, by simp only; rw [hI2, sOKs_drop d.Epoch _ hkl, Bool.and_assoc]⟩, by simp only; omega, ⟨rfl, ⟨rfl, ?_, rfl, rfl, rfl, by simp (disch := omega) [wrap_id], trivial⟩, ⟨rfl, trivial⟩, by simp only; omega⟩⟩
                  simp [sOK, Bool.and_assoc]
              · try simp at h
                all_goals try (exfalso; omega)
                all_goals
                  have hS : (uOKs d.Epoch noStr d.Users && sOKs d.Epoch 0 d.Sessions) = ok2 := by rw [hI2, List.drop_eq_nil_of_le (by omega)]; simp [sOKs]
                  have hD : dirOK d = ok2 := by rw [dirOK, hpre, Bool.true_and]; exact hS
                  refine Awp.exit ?_
                  try simp only [thenQ, inBlk, ↓reduceIte]
                  refine Awp.seq ?_
                  refine Awp.rg [153] fun K hK => ?_
                  simp
                  refine hK _ ?_; clear hK K
                  refine Awp.cond _ rfl (fun h => ?_) (fun h => ?_)  -- C4
                  · try simp at h
                    all_goals try (exfalso; omega)
                    all_goals
                      refine Awp.rg [2] fun K hK => ?_
                      simp
                      refine hK _ ?_; clear hK K
                      refine Awp.ret ?_
                      try simp only [thenQ, inBlk, ↓reduceIte]
                      -- RET 1
                      refine retQ.of2 (by simp) ?_
                      simp [Tryz.results9]
                      simp_all
                  · try simp at h
                    all_goals try (exfalso; omega)
                    all_goals
                      refine Awp.skip ?_
                      try simp only [thenQ, inBlk, ↓reduceIte]
                      refine Awp.rg [2] fun K hK => ?_
                      simp
                      refine hK _ ?_; clear hK K
                      refine Awp.ret ?_
                      try simp only [thenQ, inBlk, ↓reduceIte]
                      -- RET 2
                      refine retQ.of2 (by simp) ?_
                      simp [Tryz.results9]
                      simp_all
end Go.Apl

/- The contract of Apply. -/
namespace Go.Apl
open Go Go.Proofs
set_option maxRecDepth 100000
set_option linter.unusedSimpArgs false
set_option linter.unusedVariables false

def zDir : Directory := ⟨0, [], []⟩
def applyS (d : Directory) (c : Command) (q p : Nat) : Directory × Int :=
  if dirOK d = true ∧ mayS c = true then
    if c.Kind = 4 then (if c.Epoch = d.Epoch + 1 then ({ d with Epoch := c.Epoch }, 0) else (zDir, 72))
    else if (reqS d c q p).2 = 0 then ((reqS d c q p).1, 0) else (zDir, (reqS d c q p).2)
  else (zDir, 70)

theorem histS_len (n : ByteArray) (l : List User) (p : Nat) (hv : ∀ u ∈ l, u.Versions.length ≤ 100000) : (histS n l p).length ≤ 1000000 := by
  unfold histS
  split
  · cases h : l[p]? with
    | none => simp
    | some u =>
      have := hv u (List.mem_of_getElem? h)
      simp; omega
  · simp
theorem apply_c (d : Directory) (c : Command) (q p : Nat) (h5 : c.Kind ≠ 5) (hv : ∀ u ∈ d.Users, u.Versions.length ≤ 100000) (hq : dirOK d = true → At (fun s : Session => cmpS s.Client c.Client) d.Sessions q) (hp : dirOK d = true → At (fun u : User => strCmp u.Name c.User) d.Users p) :
    PureF Tryz.prog 8 [d.enc true, c.enc] (.tup [(applyS d c q p).1.enc false, .v (.int .i64 (applyS d c q p).2)]) := by
  refine PureF.intro (c := _) Tryz.func8 rfl (by kernel_rfl) (by rw [Tryz.ntmps8]; simp) (by simp [Tryz.results8]) ?_
  refine Awp.rg [2, 3, 4] fun K hK => ?_
  simp
  refine hK _ ?_; clear hK K
  refine Awp.seq ?_
  refine Awp.rg [2, 3, 4, 15] fun K hK => ?_
  simp
  refine RL.cF ?_  -- directory.Check
  simp
  refine ⟨_, dcheck_c d hv, by simp, ?_⟩
  try simp
  refine RL.cG ?_  -- directory.May
  simp
  refine ⟨_, may2_c c, by simp, ?_⟩
  try simp
  refine hK _ ?_; clear hK K
  refine Awp.cond _ rfl (fun h => ?_) (fun h => ?_)  -- C0
  · try simp at h
    all_goals try (exfalso; omega)
    all_goals
      refine Awp.rg [4, 5] fun K hK => ?_
      simp
      refine hK _ ?_; clear hK K
      refine Awp.ret ?_
      try simp only [thenQ, inBlk, ↓reduceIte]
      -- RET 0
      refine retQ.of2 (by simp) ?_
      simp [Tryz.results8]
      have e : applyS d c q p = (zDir, 70) := by rcases h with h | h <;> simp [applyS, h]
      rw [e]; simp [zDir]
  · try simp at h
    all_goals try (exfalso; omega)
    all_goals
      have hD : dirOK d = true := h.1
      have hM : mayS c = true := h.2
      have hpre : preOK d = true := by simp [dirOK] at hD; exact hD.1.1
      have hpr : ((0 ≤ d.Epoch ∧ d.Epoch ≤ 200) ∧ (d.Users.length : Int) ≤ 64) ∧ (d.Sessions.length : Int) ≤ 4 := by simp [preOK, withinS] at hpre; omega
      have we : IntKind.i64.wrap (d.Epoch + 1) = d.Epoch + 1 := wrap_id (by omega)
      refine Awp.skip ?_
      try simp only [thenQ, inBlk, ↓reduceIte]
      refine Awp.rg [3, 4, 6] fun K hK => ?_
      simp
      refine RL.cM false [] ?_
      simp
      refine ⟨_, _, _, _, _, begin_m d (by omega) (by omega) hv, by decide, ?_⟩
      try simp
      refine hK _ ?_; clear hK K
      refine Awp.rg [3, 4, 6, 7] fun K hK => ?_
      simp
      refine hK _ ?_; clear hK K
      refine Awp.seq ?_
      refine Awp.rg [3, 4, 6, 7, 20] fun K hK => ?_
      simp
      refine hK _ ?_; clear hK K
      refine Awp.block ?_
      refine Awp.rg [3, 4, 6, 7, 20, 24] fun K hK => ?_
      simp
      refine hK _ ?_; clear hK K
      refine Awp.cond _ rfl (fun h => ?_) (fun h => ?_)  -- C1
      · try simp at h
        all_goals try (exfalso; omega)
        all_goals
          have hk4 := h
          refine Awp.seq ?_
          refine Awp.rgD [3, 4, 6, 7, 34] [[], [0], [], [2], [2, 3], [2, 3, 4], [2, 3, 4, 5], [2, 3, 4, 5, 6], [0, 1, 2, 3, 4, 5, 6, 7]] (by kernel_rfl) fun K hK => ?_
          simp [we]
          refine hK _ ?_; clear hK K
          refine Awp.cond _ rfl (fun h => ?_) (fun h => ?_)  -- C2
          · try simp at h
            all_goals try (exfalso; omega)
            all_goals
              have hne := h
              refine Awp.rgE fun K hK => ?_
              simp
              refine hK _ ?_; clear hK K
              try simp only [thenQ, inBlk, ↓reduceIte]
              refine Awp.rgE fun K hK => ?_
              simp
              refine hK _ ?_; clear hK K
              try simp only [thenQ, inBlk, ↓reduceIte]
              refine Awp.seq ?_
              refine Awp.rg [4, 6, 7, 47] fun K hK => ?_
              simp
              refine hK _ ?_; clear hK K
              refine Awp.cond _ rfl (fun h => ?_) (fun h => ?_)  -- C3
              · try simp at h
                all_goals try (exfalso; omega)
                all_goals
                  refine Awp.rg [4, 5] fun K hK => ?_
                  simp
                  refine hK _ ?_; clear hK K
                  refine Awp.ret ?_
                  try simp only [thenQ, inBlk, ↓reduceIte]
                  -- RET 1
                  refine retQ.of2 (by simp) ?_
                  simp [Tryz.results8]
                  simp [applyS, hD, hM, hk4, hne, zDir]
              · try simp at h
                all_goals try (exfalso; omega)
                all_goals
                  refine Awp.skip ?_
                  try simp only [thenQ, inBlk, ↓reduceIte]
                  refine Awp.rg [4, 5] fun K hK => ?_
                  simp
                  refine hK _ ?_; clear hK K
                  refine Awp.ret ?_
                  try simp only [thenQ, inBlk, ↓reduceIte]
                  -- RET 2
                  refine retQ.of2 (by simp) ?_
                  simp [Tryz.results8]
                  try simp [*]
          · try simp at h
            all_goals try (exfalso; omega)
            all_goals
              have hne := h
              refine Awp.skip ?_
              try simp only [thenQ, inBlk, ↓reduceIte]
              refine Awp.rgE fun K hK => ?_
              simp
              refine hK _ ?_; clear hK K
              try simp only [thenQ, inBlk, ↓reduceIte]
              refine Awp.seq ?_
              refine Awp.rg [4, 6, 7, 47] fun K hK => ?_
              simp
              refine hK _ ?_; clear hK K
              refine Awp.cond _ rfl (fun h => ?_) (fun h => ?_)  -- C4
              · try simp at h
                all_goals try (exfalso; omega)
                all_goals
                  refine Awp.rg [4, 5] fun K hK => ?_
                  simp
                  refine hK _ ?_; clear hK K
                  refine Awp.ret ?_
                  try simp only [thenQ, inBlk, ↓reduceIte]
                  -- RET 3
                  refine retQ.of2 (by simp) ?_
                  simp [Tryz.results8]
                  try simp [*]
              · try simp at h
                all_goals try (exfalso; omega)
                all_goals
                  refine Awp.skip ?_
                  try simp only [thenQ, inBlk, ↓reduceIte]
                  refine Awp.rg [4, 5] fun K hK => ?_
                  simp
                  refine hK _ ?_; clear hK K
                  refine Awp.ret ?_
                  try simp only [thenQ, inBlk, ↓reduceIte]
                  -- RET 4
                  refine retQ.of2 (by simp) ?_
                  simp [Tryz.results8]
                  simp [applyS, hD, hM, hk4, hne]
      · try simp at h
        all_goals try (exfalso; omega)
        all_goals
          have hk4 := h
          have h9 : c.Kind = 1 ∨ c.Kind = 2 ∨ c.Kind = 3 := Decidable.byContradiction fun h8 => by simp [mayS, h8, h5, hk4] at hM
          have hkk : 1 ≤ c.Kind ∧ c.Kind ≤ 3 := by omega
          have hhl := histS_len c.User d.Users p hv
          refine Awp.rg [3, 4, 6, 41] fun K hK => ?_
          simp
          refine hK _ ?_; clear hK K
          refine Awp.cond _ rfl (fun h => ?_) (fun h => ?_)  -- C5
          · try simp at h
            all_goals try (exfalso; omega)
            all_goals
              refine Awp.rgE fun K hK => ?_
              simp
              refine RL.cF ?_  -- (*directory.work).intend
              simp
              refine ⟨_, trivial, by simp, ?_⟩
              try simp
              refine hK _ ?_; clear hK K
              try simp only [thenQ, inBlk, ↓reduceIte]
              refine Awp.seq ?_
              refine Awp.rg [4, 6, 7, 47] fun K hK => ?_
              simp
              refine hK _ ?_; clear hK K
              refine Awp.cond _ rfl (fun h => ?_) (fun h => ?_)  -- C6
              · try simp at h
                all_goals try (exfalso; omega)
                all_goals
                  refine Awp.rg [4, 5] fun K hK => ?_
                  simp
                  refine hK _ ?_; clear hK K
                  refine Awp.ret ?_
                  try simp only [thenQ, inBlk, ↓reduceIte]
                  -- RET 5
                  refine retQ.of2 (by simp) ?_
                  simp [Tryz.results8]
                  try simp [*]
              · try simp at h
                all_goals try (exfalso; omega)
                all_goals
                  refine Awp.skip ?_
                  try simp only [thenQ, inBlk, ↓reduceIte]
                  refine Awp.rg [4, 5] fun K hK => ?_
                  simp
                  refine hK _ ?_; clear hK K
                  refine Awp.ret ?_
                  try simp only [thenQ, inBlk, ↓reduceIte]
                  -- RET 6
                  refine retQ.of2 (by simp) ?_
                  simp [Tryz.results8]
                  try simp [*]
          · try simp at h
            all_goals try (exfalso; omega)
            all_goals
              refine Awp.rgE fun K hK => ?_
              simp [-youngs_map]
              refine RL.cM true [(3, 0), (4, 1), (5, 2)] ?_
              simp [-youngs_map]
              refine ⟨_, _, _, _, _, request_m d c q p (by omega) (hp hD) (by omega) hkk hhl (by omega) (hq hD), by decide, ?_⟩
              try simp [-youngs_map]
              refine hK _ ?_; clear hK K
              try simp only [thenQ, inBlk, ↓reduceIte]
              refine Awp.seq ?_
              refine Awp.rg [4, 6, 7, 47] fun K hK => ?_
              simp
              refine hK _ ?_; clear hK K
              refine Awp.cond _ rfl (fun h => ?_) (fun h => ?_)  -- C7
              · try simp at h
                all_goals try (exfalso; omega)
                all_goals
                  have hre := h
                  refine Awp.rg [4, 5] fun K hK => ?_
                  simp
                  refine hK _ ?_; clear hK K
                  refine Awp.ret ?_
                  try simp only [thenQ, inBlk, ↓reduceIte]
                  -- RET 7
                  refine retQ.of2 (by simp) ?_
                  simp [Tryz.results8]
                  simp [applyS, hD, hM, hk4, hre, zDir]
              · try simp at h
                all_goals try (exfalso; omega)
                all_goals
                  have hre := h
                  refine Awp.skip ?_
                  try simp only [thenQ, inBlk, ↓reduceIte]
                  refine Awp.rg [4, 5] fun K hK => ?_
                  simp
                  refine hK _ ?_; clear hK K
                  refine Awp.ret ?_
                  try simp only [thenQ, inBlk, ↓reduceIte]
                  -- RET 8
                  refine retQ.of2 (by simp) ?_
                  simp [Tryz.results8]
                  simp [applyS, hD, hM, hk4, hre]
end Go.Apl
