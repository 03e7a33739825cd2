import PyProof.Rows.All
import Wide.All
import OpenK.AllK
import Wide.FinOn
import KE.KStateDown
import KE.KRevSl
import Lean
import HandS.ForMost
import HandS.Wide
import HandS.IsInst
import HandS.Flow
import HandS.Style
import HandS.Defaults
import HandS.EndBits
import HandS.Head0
import HandS.Head1
import HandS.Head2
import HandS.HeadEnd
import HandS.HeadHook1
import HandS.HeadHook2
import PySem.Challenge.RW_passworks_k03_names
set_option Elab.async false
set_option linter.all false
set_option maxRecDepth 100000
set_option maxHeartbeats 4000000
namespace K03
/-! what the head shows: defs, facts by names, one more Bool -/
open PySem PySem.Spec PyProof.Rows L2
def obsE (n : Nat) (fa : List He.Fa) (fn : List He.DefD) (ex : PySem.W.Frag → Bool) (g : Addr → Option Obj) : He.AlD × Bool :=
  (He.obsD fa fn (He.frG g (He.asD g n)), ex (He.frG g (He.asD g n)))
def SaysE (fa : List He.Fa) (fn : List He.DefD) (ex : PySem.W.Frag → Bool) (K : PySem.W.Frag) : Prop := He.SaysD fa fn K ∧ ex K = true
def hookE (n : Nat) (fa : List He.Fa) (fn : List He.DefD) (ex : PySem.W.Frag → Bool) : PySem.W.Hook where
  α := He.AlD × Bool
  obs := fun s => obsE n fa fn ex s.heap.get?
  val := fun _ => (He.valD fn, true)
  says := fun _ h => ∃ K : PySem.W.Frag, K.In h ∧ SaysE fa fn ex K
  of := fun _ _ z => ⟨_, He.frG_in, congrArg Prod.fst z, congrArg Prod.snd z⟩
  keeps := fun _ _ _ ⟨K, a, c⟩ k => ⟨K, a.keeps k, c⟩
theorem obsE_eq {n : Nat} {fa : List He.Fa} {fn : List He.DefD} {ex : PySem.W.Frag → Bool} {g : Addr → Option Obj} {s : Shared} (z : ∀ a, g a = s.heap.get? a) :
    obsE n fa fn ex g = (hookE n fa fn ex).obs s := by
  obtain rfl : g = s.heap.get? := funext z
  rfl
/-- a law's end, the bits of the script's numbers told -/
theorem walk_bits {l : PySem.W.OpenLaw} {n k : Nat} {q : Program} {loose : List Str} {XP : (Str → Option Value) → Heap → Prop} {YP : World → Heap → Prop} {d : DefRec} {CX : CXT} {x : Str}
    (hn : l.most = some n) (hn2 : n ≤ sizeLine) (hdf : d.params.defaults = []) (hr : Room k callerA)
    (F : ∀ (w : World) (mg : Str → Option Value) (fa : Addr) (h : Heap), YP w h → h.Ns mainGlobals mg → mg d.name = some (.ref fa) →
      ∃ (K : PySem.W.Frag) (fd : FuncData) (sp : Sp), K.In h ∧ (∀ (s : Shared) (u : Value), BindsTo s fd ⟨[u], []⟩ [(x, u)]) ∧
        (∀ (H : Hp) (a : Addr) (ns : List Int), ns.length ≤ n → (∀ z ∈ ns, Builtin.Int.intBits z ≤ 1048576) → Only H → SqL K H a (ns.map V.int) →
          sp [.ref a] H (fun v _ => v = .bl true) fun _ _ _ => False) ∧
        ∀ base : Heap, K.In base → base.Ns mainGlobals mg → FnOk l.prog w K mg base CX k fa fd [x] sp)
    (hCX : ∀ (H : Hp) (s : Shared) (e : Value) (s' : Shared), CX [] H s (fun _ _ _ => False) e s' → False) :
    PySem.W.WalkO q loose XP YP l.row.toRowW d [] (fun f vs => PySem.call f vs) := by
  apply Att.attach_callB hn hdf
  intro w s0 s1 mg mb fa o pm cd doc a vs ns G Y ho hd hcd hmg hobj hints hlen hbits hg
  obtain ⟨K, fd, sp, KX, hb, hsp, hF⟩ := F w mg fa _ Y G.T.g hmg
  exact law_call KX G.T.g G.T.b G.T.builtins G.T.nolimit hg hobj hints (Nat.le_trans hlen hn2) hr hF hb (fun H z1 z2 => hsp H a ns hlen hbits z1 z2)
    (fun H e s' => hCX H s1 e s')
/-! heaps -/
theorem same_new {H : Hp} {p : Addr} {o : HO} (z : H p = none) : Same H (upd H p o) := by
  intro b x e
  rw [upd_ne (ne_of_none e z)]
  exact e
theorem at_ints {ns : List Int} {i : Int} (h0 : 0 ≤ i) (h1 : i < ns.length) : atI (ns.map V.int) i = some (.int (ns.getD i.toNat 0)) := by
  obtain ⟨j, rfl⟩ := Int.eq_ofNat_of_zero_le h0
  have hj : j < ns.length := by omega
  refine atI_nat ?_
  rw [List.getElem?_map, List.getElem?_eq_getElem hj]
  simp [List.getD, hj]
/-- what stands behind a statement, once for all its ways -/
theorem seq_by {t u : TS} {D : Ends} {σ : L2.St} {H : Hp} (Pv : L2.St → Hp → Prop) (fin : ∀ σ' H', Pv σ' H' → u D σ' H')
    (first : ∀ N : L2.St → Hp → Prop, (∀ σ' H', Pv σ' H' → N σ' H') → t { D with nx := N } σ H) : tSeq t u D σ H := first _ fin
theorem ifs_by {c : TT} {t1 t2 u : TS} {D : Ends} {σ : L2.St} {H : Hp} (Pv : L2.St → Hp → Prop) (fin : ∀ σ' H', Pv σ' H' → u D σ' H')
    (first : ∀ N : L2.St → Hp → Prop, (∀ σ' H', Pv σ' H' → N σ' H') → tIfS c t1 t2 { D with nx := N } σ H) : tSeq (tIfS c t1 t2) u D σ H := first _ fin
theorem ifD {c A B : Prop} [Decidable c] (hc : c) (h : A) : if decide c = true then A else B := by
  rw [if_pos (decide_eq_true hc)]
  exact h
theorem ifN {c A B : Prop} [Decidable c] (hc : ¬ c) (h : B) : if decide c = true then A else B := by
  rw [if_neg (by rw [decide_eq_true_eq]; exact hc)]
  exact h
theorem blD {c : Prop} [Decidable c] {Q : VK} {H : Hp} (hc : c) (h : Q (.bl true) H) : Q (.bl (decide c)) H := by
  rw [decide_eq_true hc]
  exact h
theorem blN {c : Prop} [Decidable c] {Q : VK} {H : Hp} (hc : ¬ c) (h : Q (.bl false) H) : Q (.bl (decide c)) H := by
  rw [decide_eq_false hc]
  exact h
theorem getD_all {α : Type} {Pr : α → Prop} {ns : List α} {d : α} (h : ∀ x ∈ ns, Pr x) {j : Int} (h0 : 0 ≤ j) (h1 : j < ns.length) : Pr (ns.getD j.toNat d) := by
  have hi : j.toNat < ns.length := by omega
  have e : ns.getD j.toNat d = ns[j.toNat]'hi := by simp [List.getD, hi]
  rw [e]
  exact h _ (List.getElem_mem _)
theorem ifNF {c A B : Prop} [Decidable c] (hc : c) (h : B) : if (!decide c) = true then A else B := by
  rw [decide_eq_true hc]
  exact h
theorem ifNT {c A B : Prop} [Decidable c] (hc : ¬ c) (h : A) : if (!decide c) = true then A else B := by
  rw [decide_eq_false hc]
  exact h

/-! what is kept: all but the mutable things of a set -/
def Kp (S : Addr → Prop) (H H' : Hp) : Prop := ∀ b o, H b = some o → (S b → ¬ Mut (some o)) → H' b = some o
theorem Kp.refl {S : Addr → Prop} {H : Hp} : Kp S H H := fun _ _ h _ => h
theorem Kp.trans {S : Addr → Prop} {H H1 H2 : Hp} (a : Kp S H H1) (b : Kp S H1 H2) : Kp S H H2 := fun c o h k => b c o (a c o h k) k
theorem Kp.mono {S S' : Addr → Prop} {H H' : Hp} (a : Kp S H H') (h : ∀ b, S b → S' b) : Kp S' H H' := fun c o e k => a c o e fun z => k (h c z)
theorem Kp.of_same {S : Addr → Prop} {H H' : Hp} (a : Same H H') : Kp S H H' := fun c o e _ => a c o e
theorem Kp.same {S : Addr → Prop} {H H1 H2 : Hp} (a : Same H H1) (b : Kp S H1 H2) (h : ∀ b, S b → H b = none) : Same H H2 := fun c o e => b c o (a c o e) fun z => by
  rw [h c z] at e
  cases e
theorem Kp.upd {S : Addr → Prop} {H : Hp} {p : Addr} {o u : HO} (h : H p = some o) (m : Mut (some o)) (hp : S p) : Kp S H (upd H p u) := fun c x e k => by
  by_cases z : c = p
  · subst z
    rw [h] at e
    cases e
    exact absurd m (k hp)
  · rw [upd_ne z]
    exact e
/-- the script: read, never written -/
def Scr (K : PySem.W.Frag) (H : Hp) (a : Addr) (xs : List V) : Prop := SqL K H a xs ∧ ¬ Mut (H a)
theorem Scr.kp {K : PySem.W.Frag} {S : Addr → Prop} {H H' : Hp} {a : Addr} {xs : List V} (h : Scr K H a xs) (k : Kp S H H') : SqL K H' a xs := by
  obtain ⟨h1, h2⟩ := h
  rcases h1 with (e | ⟨o, e⟩) | e
  · rw [e] at h2
    exact absurd trivial h2
  · exact .inl (.inr ⟨o, k _ _ e fun _ => by rw [← e]; exact h2⟩)
  · exact .inr e
/-! an own rule: a text some times over -/
section
variable {X : Cx}
theorem op_rep_str : OpR X (binaryOp .Mult) (fun x y H Q => ∃ (z : Str) (n : Int), x = .str z ∧ y = .int n ∧ 0 < z.length ∧ z.length ≤ 1000 ∧ 2 ≤ n ∧ n ≤ 1000 ∧ ∀ u : Str, u.length = n.toNat * z.length → Q (.str u) H) := by
  intro pins s σ H x y v u Q I rx ry h
  obtain ⟨z, n, rfl, rfl, z0, z1, n0, n1, q⟩ := h
  obtain ⟨t, rfl⟩ := rx
  obtain ⟨t', rfl⟩ := ry
  have hn : ¬ n < 1 := by omega
  have hq : (n == 1 || z.length == 0) = false := by
    rw [Bool.or_eq_false_iff]
    exact ⟨beq_eq_false_iff_ne.mpr (by omega), beq_eq_false_iff_ne.mpr (by omega)⟩
  have le : ∀ (k : Nat) (acc : Array Nat), ((List.replicate k z.cps).foldl (· ++ ·) acc).size = acc.size + k * z.length := by
    intro k
    induction k with
    | zero => intro acc; simp
    | succ k ih =>
      intro acc
      rw [List.replicate_succ, List.foldl_cons, ih, Array.size_append]
      show acc.size + z.length + k * z.length = acc.size + (k + 1) * z.length
      rw [Nat.add_mul]
      omega
  have l2 : (⟨(List.replicate n.toNat z.cps).foldl (· ++ ·) #[]⟩ : Str).length = n.toNat * z.length := by
    show ((List.replicate n.toNat z.cps).foldl (· ++ ·) #[]).size = _
    rw [le]
    simp
  have mm : z.length * n.toNat ≤ 1000 * 1000 := Nat.mul_le_mul z1 (by omega)
  have tl : Builtin.Str.tooLong (z.length * n.toNat) = false := by
    unfold Builtin.Str.tooLong
    rw [sizeLine_eq]
    exact decide_eq_false (by omega)
  refine PySem.P.mul_str ?_ (fun _ _ => ?_) (fun _ _ => tl) ?_
  · rw [decide_eq_false (by omega), decide_eq_false (by omega)]
    rfl
  · have : (1000 : Int) * n ≤ 2 ^ 63 - 1 := by omega
    have h3 : (1000 : Int) ≤ (2 ^ 63 - 1) / n := (Int.le_ediv_iff_mul_le (by omega)).mpr this
    omega
  · rw [if_neg hn, hq]
    exact ⟨by rw [l2, Nat.mul_comm, sizeLine_eq]; omega, .str _, H, I.tok _, ⟨_, rfl⟩, q _ l2⟩
end
/-- a comprehension over a text's signs -/
theorem lc_str {x : Str} {g : TG} {tt : TT} {te : TE} {vs : List Nat} {σ : L2.St} {H1 : Hp} {D : Addr} {Qd : Hp → Prop} (Pv : Nat → Hp → Prop) (h0 : Pv 0 (upd H1 D (.lst [])))
    (hs : ∀ i c H, x.cps.toList[i]? = some c → Pv i H → g (.str ⟨#[c]⟩) (wipe σ vs) H fun σ2 H2 => wipe σ2 vs = wipe σ vs ∧ tt σ2 H2 fun b H3 =>
      if b = true then te σ2 H3 fun y H4 => ∃ acc, H4 D = some (.lst acc) ∧ acc.length < sizeLine ∧ Pv (i + 1) (upd H4 D (.lst (acc ++ [y]))) else Pv (i + 1) H3) (hd : ∀ H, Pv x.cps.toList.length H → Qd H) :
    ∃ W : Nat → Nat → Hp → Prop, (∃ m, W 0 m (upd H1 D (.lst []))) ∧ ∀ i m H, W i m H →
      ((Its x).stop i H ∧ Qd H) ∨ ((Its x).go i H ∧ ∃ Nx : Hp → Prop, (∀ H', Nx H' → ∃ m', m' < m ∧ W (i + 1) m' H') ∧ ∀ y H', (Its x).yld i H y H' → g y (wipe σ vs) H' fun σ2 H2 => wipe σ2 vs = wipe σ vs ∧ tt σ2 H2 fun b H3 =>
        if b = true then te σ2 H3 fun y H4 => ∃ acc, H4 D = some (.lst acc) ∧ acc.length < sizeLine ∧ Nx (upd H4 D (.lst (acc ++ [y]))) else Nx H3) := by
  have hl : x.cps.toList.length = x.cps.size := by simp
  refine ⟨fun i m H => m = x.cps.size - i ∧ i ≤ x.cps.size ∧ Pv i H, ⟨x.cps.size, by simp, Nat.zero_le _, h0⟩, ?_⟩
  rintro i m H ⟨rfl, hi, p⟩
  by_cases hlt : i < x.cps.size
  · refine .inr ⟨hlt, Pv (i + 1), fun H' p' => ⟨x.cps.size - (i + 1), by omega, rfl, hlt, p'⟩, fun y H' hy => ?_⟩
    obtain ⟨rfl, c, hc, rfl⟩ := hy
    exact hs i c H' (by rw [Array.getElem?_toList]; exact hc) p
  · refine .inl ⟨Nat.le_of_not_lt hlt, hd H ?_⟩
    rw [hl, show x.cps.size = i by omega]
    exact p

def topS (i : Nat) : Stmt := PySem.Challenge.pw_passworks_k03_names.main.body.getD i (.Pass ⟨0, 0, 0, 0⟩)
abbrev s_is_name : Stmt := topS 4
abbrev N_is_name : List Str := ["thing", "sign"]
theorem sc_is_name : FnScope N_is_name ["thing"] (defScope s_is_name) := ⟨rfl, rfl, rfl, by decide +kernel, rfl, by decide +kernel, by decide +kernel⟩
abbrev s__law_cell_at : Stmt := topS 6
abbrev N__law_cell_at : List Str := ["_law_script", "_law_k"]
theorem sc__law_cell_at : FnScope N__law_cell_at ["_law_script", "_law_k"] (defScope s__law_cell_at) := ⟨rfl, rfl, rfl, by decide +kernel, rfl, by decide +kernel, by decide +kernel⟩
abbrev s__law_held : Stmt := topS 7
abbrev N__law_held : List Str := ["_law_cell"]
theorem sc__law_held : FnScope N__law_held ["_law_cell"] (defScope s__law_held) := ⟨rfl, rfl, rfl, by decide +kernel, rfl, by decide +kernel, by decide +kernel⟩
abbrev s__law_mixed : Stmt := topS 8
abbrev N__law_mixed : List Str := ["_law_cell", "_law_k", "_law_many", "_law_left", "_law_some", "_law_made"]
theorem sc__law_mixed : FnScope N__law_mixed ["_law_cell", "_law_k", "_law_many"] (defScope s__law_mixed) := ⟨rfl, rfl, rfl, by decide +kernel, rfl, by decide +kernel, by decide +kernel⟩
abbrev s__law_kept : Stmt := topS 9
abbrev N__law_kept : List Str := ["_law_words"]
theorem sc__law_kept : FnScope N__law_kept [] (defScope s__law_kept) := ⟨rfl, rfl, rfl, by decide +kernel, rfl, by decide +kernel, by decide +kernel⟩
abbrev s__law_letter : Stmt := topS 10
abbrev N__law_letter : List Str := ["_law_k"]
theorem sc__law_letter : FnScope N__law_letter ["_law_k"] (defScope s__law_letter) := ⟨rfl, rfl, rfl, by decide +kernel, rfl, by decide +kernel, by decide +kernel⟩
abbrev s__law_names : Stmt := topS 11
abbrev N__law_names : List Str := ["_law_cell", "_law_near", "_law_at", "_law_root", "_law_names_here", "_law_start", "_law_k", "_law_letter_here", "_law_name", "_law_j"]
theorem sc__law_names : FnScope N__law_names ["_law_cell"] (defScope s__law_names) := ⟨rfl, rfl, rfl, by decide +kernel, rfl, by decide +kernel, by decide +kernel⟩
abbrev s__law_changed : Stmt := topS 12
abbrev N__law_changed : List Str := ["_law_name", "_law_cell", "_law_way", "_law_spot", "_law_some", "_law_sign"]
theorem sc__law_changed : FnScope N__law_changed ["_law_name", "_law_cell"] (defScope s__law_changed) := ⟨rfl, rfl, rfl, by decide +kernel, rfl, by decide +kernel, by decide +kernel⟩
abbrev s__law_is_name : Stmt := topS 13
abbrev N__law_is_name : List Str := ["_law_thing", "_law_sign"]
theorem sc__law_is_name : FnScope N__law_is_name ["_law_thing"] (defScope s__law_is_name) := ⟨rfl, rfl, rfl, by decide +kernel, rfl, by decide +kernel, by decide +kernel⟩
abbrev s_law : Stmt := topS 14
abbrev N_law : List Str := ["_law_script", "_law_names_here", "_law_k", "_law_cell", "_law_name", "_law_thing", "_law_found"]
theorem sc_law : FnScope N_law ["_law_script"] (defScope s_law) := ⟨rfl, rfl, rfl, by decide +kernel, rfl, by decide +kernel, by decide +kernel⟩
abbrev FnP (K : PySem.W.Frag) (x : Str) (st : Stmt) (f : Addr) (fd : FuncData) : Prop := FunD K x x (defArgs st) (defBody st) (defScope st) [] [] f fd
structure Top (K : PySem.W.Frag) (mg : Str → Option Value) where
  fd_is_name : FuncData
  F_is_name : FnP K "is_name" s_is_name (He.ga K "is_name") fd_is_name
  b_is_name : Binds K fd_is_name ["thing"] []
  g_is_name : mg "is_name" = some (.ref (He.ga K "is_name"))
  fd__law_cell_at : FuncData
  F__law_cell_at : FnP K "_law_cell_at" s__law_cell_at (He.ga K "_law_cell_at") fd__law_cell_at
  b__law_cell_at : Binds K fd__law_cell_at ["_law_script", "_law_k"] []
  g__law_cell_at : mg "_law_cell_at" = some (.ref (He.ga K "_law_cell_at"))
  fd__law_held : FuncData
  F__law_held : FnP K "_law_held" s__law_held (He.ga K "_law_held") fd__law_held
  b__law_held : Binds K fd__law_held ["_law_cell"] []
  g__law_held : mg "_law_held" = some (.ref (He.ga K "_law_held"))
  fd__law_mixed : FuncData
  F__law_mixed : FnP K "_law_mixed" s__law_mixed (He.ga K "_law_mixed") fd__law_mixed
  b__law_mixed : Binds K fd__law_mixed ["_law_cell", "_law_k", "_law_many"] []
  g__law_mixed : mg "_law_mixed" = some (.ref (He.ga K "_law_mixed"))
  fd__law_kept : FuncData
  F__law_kept : FnP K "_law_kept" s__law_kept (He.ga K "_law_kept") fd__law_kept
  b__law_kept : Binds K fd__law_kept [] []
  g__law_kept : mg "_law_kept" = some (.ref (He.ga K "_law_kept"))
  fd__law_letter : FuncData
  F__law_letter : FnP K "_law_letter" s__law_letter (He.ga K "_law_letter") fd__law_letter
  b__law_letter : Binds K fd__law_letter ["_law_k"] []
  g__law_letter : mg "_law_letter" = some (.ref (He.ga K "_law_letter"))
  fd__law_names : FuncData
  F__law_names : FnP K "_law_names" s__law_names (He.ga K "_law_names") fd__law_names
  b__law_names : Binds K fd__law_names ["_law_cell"] []
  g__law_names : mg "_law_names" = some (.ref (He.ga K "_law_names"))
  fd__law_changed : FuncData
  F__law_changed : FnP K "_law_changed" s__law_changed (He.ga K "_law_changed") fd__law_changed
  b__law_changed : Binds K fd__law_changed ["_law_name", "_law_cell"] []
  g__law_changed : mg "_law_changed" = some (.ref (He.ga K "_law_changed"))
  fd__law_is_name : FuncData
  F__law_is_name : FnP K "_law_is_name" s__law_is_name (He.ga K "_law_is_name") fd__law_is_name
  b__law_is_name : Binds K fd__law_is_name ["_law_thing"] []
  g__law_is_name : mg "_law_is_name" = some (.ref (He.ga K "_law_is_name"))
  fd_law : FuncData
  F_law : FnP K "law" s_law (He.ga K "law") fd_law
  b_law : Binds K fd_law ["_law_script"] []
  g_law : mg "law" = some (.ref (He.ga K "law"))
  m_all : mg "all" = none
  m_bool : mg "bool" = none
  m_isinstance : mg "isinstance" = none
  m_len : mg "len" = none
  m_list : mg "list" = none
  m_range : mg "range" = none
  m_str : mg "str" = none
  t_LETTERS : Tok
  c_LETTERS : mg "LETTERS" = some (.str "abcdefghijklmnopqrstuvwxyz" t_LETTERS)
  t_MOST_LETTERS : Tok
  c_MOST_LETTERS : mg "MOST_LETTERS" = some (.int 8 t_MOST_LETTERS)
  c_KEPT : mg "KEPT" = some (.ref (He.ga K "KEPT"))
  q_KEPT : ∀ H : Hp, SqT K H (He.ga K "KEPT") [.str "number", .str "not", .str "at", .str "add", .str "sub", .str "mul", .str "div", .str "rem", .str "less", .str "same", .str "set", .str "put", .str "tell", .str "if", .str "else", .str "end", .str "while", .str "call", .str "fail", .str "give", .str "row", .str "helper", .str "main"]
/-! cells: a number, or a list of digits that are left and of what goes on behind them -/
def CellOk (H : Hp) (v : V) : Prop := (∃ c : Int, v = .int c) ∨ ∃ (a : Addr) (l t : Int), v = .ref a ∧ H a = some (.lst [.int l, .int t]) ∧ 0 ≤ l ∧ 0 ≤ t
def cellS (v : V) : Addr → Prop := fun b => v = .ref b
section
variable {P : Program} {w : World} {K : PySem.W.Frag} {mg : Str → Option Value} {base : Heap}
def cellA (ns : List Int) (k : Int) : Int := ns.getD k.toNat 0
def sp__law_cell_at (K : PySem.W.Frag) : Sp := fun vs H Q _ => ∃ (a : Addr) (ns : List Int) (k : Int), vs = [.ref a, .int k] ∧ 0 ≤ k ∧ SqL K H a (ns.map V.int) ∧ Q (.int (cellA ns k)) H
theorem ok__law_cell_at (T : Top K mg) : FnOk P w K mg base CX0 1 (He.ga K "_law_cell_at") T.fd__law_cell_at ["_law_script", "_law_k"] (sp__law_cell_at K) := by
  refine T.F__law_cell_at.ok sc__law_cell_at (fun vs H Q E h => ?_) (fun cdv A outer s H vs Q E hr h => ?_)
  · obtain ⟨a, ns, k, rfl, _⟩ := h
    rfl
  · obtain ⟨a, ns, k, rfl, h0, hS, q⟩ := h
    refine ⟨_, PSs.nox (pss_cons (ps_if (pt_cmpR op_lt (pv 1) (pe_callB call_len_seq (by rfl) T.m_len (by decide +kernel) (pa_cons (pv 0) pa_nil)) (nomark _)) (pss_one (ps_ret (pe_ix ix_list (pv 0) (pv 1) (fun _ _ => rfl)))) pss_nil)
        (pss_one (ps_ret pe_int))), ?_⟩
    refine ⟨_, rfl, _, rfl, a, _, rfl, .inl hS, _, _, rfl, rfl, _, rfl, ite2 (fun e => ?_) (fun e => ?_)⟩
    · have e1 : k < (ns.map V.int).length := of_decide_eq_true e
      rw [List.length_map] at e1
      exact ⟨_, rfl, _, rfl, a, _, _, _, rfl, rfl, hS, at_ints h0 e1, q⟩
    · have e1 : ¬ k < (ns.map V.int).length := fun z => e (decide_eq_true z)
      rw [List.length_map] at e1
      have e2 : cellA ns k = 0 := by
        unfold cellA
        have : ns.length ≤ k.toNat := by omega
        simp [List.getD, this]
      rw [e2] at q
      exact q
/-- a number or a new list of two -/
def sp__law_held : Sp := fun vs H Q _ => ∃ c : Int, vs = [.int c] ∧ ∀ H' v, Same H H' → CellOk H' v → (∀ p, v = .ref p → H p = none) → Q v H'
theorem ok__law_held (T : Top K mg) : FnOk P w K mg base CX0 1 (He.ga K "_law_held") T.fd__law_held ["_law_cell"] sp__law_held := by
  refine T.F__law_held.ok sc__law_held (fun vs H Q E h => ?_) (fun cdv A outer s H vs Q E hr h => ?_)
  · obtain ⟨c, rfl, _⟩ := h
    rfl
  · obtain ⟨c, rfl, q⟩ := h
    refine ⟨_, PSs.nox (pss_cons (ps_if (pt_cmpR op_ge (pv 0) (pe_op op_pow pe_int pe_int) (nomark _)) (pss_one (ps_ret (pe_lst (pa_cons (pe_op op_fdivW (pv 0) (pe_op op_pow pe_int pe_int)) (pa_cons (pe_op op_mod (pv 0) pe_int) pa_nil))))) pss_nil)
        (pss_one (ps_ret (pv 0)))), ?_⟩
    have p10 : CDivW c (10 ^ (18 : Int).toNat) := wide_div (b := 64) (by decide) (by decide) (by decide) (by decide)
    refine ⟨_, rfl, _, _, rfl, rfl, ⟨by decide, by decide, by decide⟩, _, _, rfl, rfl, _, rfl, ite2 (fun e => ?_) (fun e => ?_)⟩
    · have e1 : (10 : Int) ^ (18 : Int).toNat ≤ c := of_decide_eq_true e
      have e2 : (0 : Int) < 10 ^ (18 : Int).toNat := by decide
      refine ⟨_, rfl, _, _, rfl, rfl, ⟨by decide, by decide, by decide⟩, _, _, rfl, rfl, p10, ?_⟩
      refine ⟨_, rfl, _, _, rfl, rfl, (by show (0 : Int) < 2147483647; decide), (by show 2 ≤ sizeLine; rw [sizeLine_eq]; decide), fun p np => ?_⟩
      refine q _ _ (same_new np) (.inr ⟨p, _, _, rfl, upd_same, Int.ediv_nonneg (by omega) (Int.le_of_lt e2), Int.emod_nonneg _ (by decide)⟩) fun p' e => ?_
      cases e
      exact np
    · exact ⟨_, rfl, q _ _ (Same.refl _) (.inl ⟨_, rfl⟩) fun p e => nomatch e⟩
def mx : List Int := [99991, 99989, 99971, 99961, 99929, 99923, 99907, 99901, 99881, 99877, 99871]
/-- a draw below many; a list of digits is changed -/
def sp__law_mixed : Sp := fun vs H Q _ => ∃ (v : V) (k m : Int), vs = [v, .int k, .int m] ∧ CellOk H v ∧ 0 ≤ k ∧ k < 2 ^ 20 ∧ 0 < m ∧ m < 2 ^ 64 ∧ ∀ H' r, Kp (cellS v) H H' → CellOk H' v → 0 ≤ r → r < m → Q (.int r) H'
theorem ok__law_mixed (T : Top K mg) : FnOk P w K mg base CX0 1 (He.ga K "_law_mixed") T.fd__law_mixed ["_law_cell", "_law_k", "_law_many"] sp__law_mixed := by
  refine T.F__law_mixed.ok sc__law_mixed (fun vs H Q E h => ?_) (fun cdv A outer s H vs Q E hr h => ?_)
  · obtain ⟨v, k, m, rfl, _⟩ := h
    rfl
  · obtain ⟨v, k, m, rfl, hv, h0, h1, hm, hm2, q⟩ := h
    refine ⟨_, PSs.nox (pss_cons (ps_if (pt_val (pe_callB call_isi (by rfl) T.m_isinstance (by decide +kernel) (pa_cons (pv 0) (pa_cons (pe_bltn (v := .ty "list") (by rfl) T.m_list (by decide +kernel) rfl) pa_nil)))) (pss_cons (ps_set (i := 3) sc__law_mixed.nd rfl (Or.inl rfl) (pe_ix ix_list (pv 0) pe_int (fun _ _ => rfl)))
        (pss_cons (ps_asg (pe_op op_fdivW (pv 3) (pv 2)) (pg_sub (pv 0) pe_int set_list))
        (pss_cons (ps_asg (pe_op op_mod (pe_op op_add (pe_op op_mul (pe_ix ix_list (pv 0) pe_int (fun _ _ => rfl)) pe_int) pe_int) pe_int) (pg_sub (pv 0) pe_int set_list))
        (pss_one (ps_ret (pe_op op_mod (pe_ifExp (pt_cmpR op_gt (pv 3) pe_int (nomark _)) (pv 3) (pe_op op_fdivW (pe_ix ix_list (pv 0) pe_int (fun _ _ => rfl)) pe_int)) (pv 2))))))) pss_nil)
        (pss_cons (ps_set (i := 4) sc__law_mixed.nd rfl (Or.inl rfl) (pe_lst (pa_cons pe_int (pa_cons pe_int (pa_cons pe_int (pa_cons pe_int (pa_cons pe_int (pa_cons pe_int (pa_cons pe_int (pa_cons pe_int (pa_cons pe_int (pa_cons pe_int (pa_cons pe_int pa_nil)))))))))))))
        (pss_cons (ps_set (i := 5) sc__law_mixed.nd rfl (Or.inl rfl) (pe_op op_mod (pe_op op_pow (pe_op op_mod (pe_op op_mul (pe_op op_add (pv 0) (pe_op op_mul pe_int (pv 1))) pe_int) pe_int) pe_int) (pe_ix ix_list (pv 4) (pe_op op_mod (pv 1) pe_int) (fun _ _ => rfl))))
        (pss_one (ps_ret (pe_op op_mod (pe_op op_mod (pe_op op_add (pe_op op_add (pe_op op_mul (pe_op op_mul (pv 5) (pv 5)) pe_int) (pv 5)) (pv 1)) pe_int) (pv 2))))))), ?_⟩
    rcases hv with ⟨c, rfl⟩ | ⟨a, l, t, rfl, ha, hl, ht⟩
    · refine ⟨_, rfl, _, _, _, _, false, rfl, .ty _, .base (.int c), kit_ty (by decide +kernel), false, rfl, ?_⟩
      refine ⟨(by show 11 ≤ sizeLine; rw [sizeLine_eq]; decide), fun p np => ?_⟩
      have hL : SqL K (upd H p (.lst (mx.map V.int))) p (mx.map V.int) := .of upd_same
      have r0 : 0 ≤ k % 11 := Int.emod_nonneg _ (by decide)
      have r1 : k % 11 < 11 := Int.emod_lt_of_pos _ (by decide)
      have hy : ∀ i : Nat, i < 11 → 0 < mx.getD i 0 ∧ mx.getD i 0 < 100000 := by decide
      obtain ⟨y0, y1⟩ := hy (k % 11).toNat (by omega)
      generalize hyy : mx.getD (k % 11).toNat 0 = y at y0 y1
      have a0 : 0 ≤ (c + 104729 * k) * 48271 % 2147483647 := Int.emod_nonneg _ (by decide)
      have a1 : (c + 104729 * k) * 48271 % 2147483647 < 2147483647 := Int.emod_lt_of_pos _ (by decide)
      generalize hx : (c + 104729 * k) * 48271 % 2147483647 = x at a0 a1
      have b0 : 0 ≤ x ^ (5 : Int).toNat % y := Int.emod_nonneg _ (by omega)
      have b1 : x ^ (5 : Int).toNat % y < y := Int.emod_lt_of_pos _ y0
      generalize hd : x ^ (5 : Int).toNat % y = d at b0 b1
      have d0 : 0 ≤ d * d := Int.mul_nonneg b0 b0
      have d1 : d * d ≤ 100000 * 100000 := Int.mul_le_mul (by omega) (by omega) b0 (by decide)
      refine ⟨_, rfl, _, rfl, _, _, rfl, rfl, .inl ⟨by decide, by decide⟩, _, _, rfl, rfl, _, _, rfl, rfl, .inr ⟨by decide, by decide⟩, _, _, rfl, rfl, (by show (0 : Int) < 2147483647; decide), _, _, rfl, rfl, ⟨by decide, by decide, ?_⟩, ?_⟩
      · show ((c + 104729 * k) * 48271 % 2147483647).natAbs < 2 ^ 64
        rw [hx]
        omega
      refine ⟨_, rfl, _, rfl, _, _, rfl, rfl, (by show (0 : Int) < 11; decide), p, _, _, _, rfl, rfl, hL, at_ints r0 (by rw [show (mx.length : Int) = 11 from rfl]; exact r1), _, _, rfl, rfl, ?_, ?_⟩
      · show 0 < mx.getD (k % 11).toNat 0
        rw [hyy]
        exact y0
      simp only [hx, hyy, hd]
      refine ⟨_, rfl, _, rfl, _, _, rfl, rfl, .inl ⟨by omega, by omega⟩, _, _, rfl, rfl, .inr ⟨by decide, by decide⟩, _, rfl, _, _, rfl, rfl, _, rfl, _, _, rfl, rfl, _, _, rfl, rfl, (by show (0 : Int) < 1000003; decide), _, rfl, _, _, rfl, rfl, hm, ?_⟩
      exact q _ _ (.of_same (same_new np)) (.inl ⟨_, rfl⟩) (Int.emod_nonneg _ (by omega)) (Int.emod_lt_of_pos _ hm)
    · refine ⟨_, rfl, _, _, _, _, true, rfl, .ty _, .base (.lst ha), kit_ty (by decide +kernel), true, rfl, ?_⟩
      have mw : CDivW l m := wide_div (b := 64) hm (by omega) (by decide) (by decide)
      have l1 : 0 ≤ l / m := Int.ediv_nonneg hl (Int.le_of_lt hm)
      have t1 : 0 ≤ (t * 48271 + 11) % 2147483647 := Int.emod_nonneg _ (by decide)
      refine ⟨_, rfl, a, _, 0, _, rfl, rfl, .of ha, atI_nat (j := 0) rfl, ?_⟩
      refine ⟨_, rfl, _, rfl, _, _, rfl, rfl, mw, _, rfl, a, _, 0, 0, rfl, rfl, ha, rfl, ?_⟩
      refine ⟨_, rfl, a, _, 1, _, rfl, rfl, .of upd_same, atI_nat (j := 1) rfl, _, _, rfl, rfl, .inr ⟨by decide, by decide⟩, _, _, rfl, rfl, _, _, rfl, rfl, (by show (0 : Int) < 2147483647; decide), _, rfl, a, _, 1, 1, rfl, rfl, upd_same, rfl, ?_⟩
      rw [upd_upd]
      have k1 : Kp (cellS (.ref a)) H (upd H a (.lst [.int (l / m), .int ((t * 48271 + 11) % 2147483647)])) := Kp.upd ha trivial rfl
      have c1 : CellOk (upd H a (.lst [.int (l / m), .int ((t * 48271 + 11) % 2147483647)])) (.ref a) := .inr ⟨a, _, _, rfl, upd_same, l1, t1⟩
      have fin : ∀ x : Int, 0 ≤ x % m ∧ x % m < m := fun x => ⟨Int.emod_nonneg _ (by omega), Int.emod_lt_of_pos _ hm⟩
      refine ⟨_, rfl, _, _, rfl, rfl, _, rfl, ite2 (fun e => ?_) (fun e => ?_)⟩
      · exact ⟨_, rfl, _, rfl, _, _, rfl, rfl, hm, q _ _ k1 c1 (fin _).1 (fin _).2⟩
      · exact ⟨_, rfl, a, _, 1, _, rfl, rfl, .of upd_same, atI_nat (j := 1) rfl, _, _, rfl, rfl, ⟨by decide, by decide⟩, _, rfl, _, _, rfl, rfl, hm, q _ _ k1 c1 (fin _).1 (fin _).2⟩
def keptW : List Str := ["number", "not", "at", "add", "sub", "mul", "div", "rem", "less", "same", "set", "put", "tell", "if", "else", "end", "while", "call", "fail", "give", "row", "helper", "main"]
def sp__law_kept : Sp := fun vs H Q _ => vs = [] ∧ ∀ H' p, Same H H' → H p = none → H' p = some (.lst (keptW.map V.str)) → Q (.ref p) H'
theorem ok__law_kept (T : Top K mg) : FnOk P w K mg base CX0 1 (He.ga K "_law_kept") T.fd__law_kept [] sp__law_kept := by
  refine T.F__law_kept.ok sc__law_kept (fun vs H Q E h => ?_) (fun cdv A outer s H vs Q E hr h => ?_)
  · obtain ⟨rfl, _⟩ := h
    rfl
  · obtain ⟨rfl, q⟩ := h
    refine ⟨_, PSs.nox (pss_cons (ps_set (i := 0) sc__law_kept.nd rfl (Or.inl rfl) (pe_lst (pa_cons pe_str (pa_cons pe_str (pa_cons pe_str (pa_cons pe_str (pa_cons pe_str (pa_cons pe_str (pa_cons pe_str (pa_cons pe_str (pa_cons pe_str (pa_cons pe_str (pa_cons pe_str (pa_cons pe_str (pa_cons pe_str (pa_cons pe_str pa_nil))))))))))))))))
        (pss_one (ps_ret (pe_op op_cat (pv 0) (pe_lst (pa_cons pe_str (pa_cons pe_str (pa_cons pe_str (pa_cons pe_str (pa_cons pe_str (pa_cons pe_str (pa_cons pe_str (pa_cons pe_str (pa_cons pe_str pa_nil)))))))))))))), ?_⟩
    refine ⟨(by show 14 ≤ sizeLine; rw [sizeLine_eq]; decide), fun p1 n1 => ?_⟩
    refine ⟨_, rfl, (by show 9 ≤ sizeLine; rw [sizeLine_eq]; decide), fun p2 n2 => ?_⟩
    have e2 : p1 ≠ p2 := fun z => by
      rw [← z, upd_same] at n2
      cases n2
    refine ⟨p1, p2, _, _, rfl, rfl, by rw [upd_ne e2]; exact upd_same, upd_same, (by show 23 ≤ sizeLine; rw [sizeLine_eq]; decide), fun p3 n3 => ?_⟩
    have s1 := same_new (o := .lst ((keptW.take 14).map V.str)) n1
    have s2 := same_new (o := .lst ((keptW.drop 14).map V.str)) n2
    have s3 := same_new (o := .lst (keptW.map V.str)) n3
    exact q _ p3 (s1.trans (s2.trans s3)) ((s1.trans s2).free n3) upd_same
def abc : Str := "abcdefghijklmnopqrstuvwxyz"
def letr (k : Int) : Nat := 97 + (k % 26).toNat
theorem abc_at : ∀ i : Nat, i < 26 → abc.cps.toList[i]? = some (97 + i) := by decide +kernel
def sp__law_letter : Sp := fun vs H Q _ => ∃ k : Int, vs = [.int k] ∧ Q (.str ⟨#[letr k]⟩) H
theorem ok__law_letter (T : Top K mg) : FnOk P w K mg base CX0 1 (He.ga K "_law_letter") T.fd__law_letter ["_law_k"] sp__law_letter := by
  refine T.F__law_letter.ok sc__law_letter (fun vs H Q E h => ?_) (fun cdv A outer s H vs Q E hr h => ?_)
  · obtain ⟨k, rfl, _⟩ := h
    rfl
  · obtain ⟨k, rfl, q⟩ := h
    refine ⟨_, PSs.nox (pss_one (ps_ret (pe_ix ix_str pe_str (pe_op op_mod (pv 0) pe_int) (fun _ _ => rfl)))), ?_⟩
    have r0 : 0 ≤ k % 26 := Int.emod_nonneg _ (by decide)
    have r1 : k % 26 < 26 := Int.emod_lt_of_pos _ (by decide)
    refine ⟨_, rfl, _, _, rfl, rfl, (by show (0 : Int) < 26; decide), abc, k % 26, letr k, rfl, rfl, (by rw [sizeLine_eq]; decide +kernel), ?_, q⟩
    obtain ⟨i, hi⟩ := Int.eq_ofNat_of_zero_le r0
    unfold letr
    rw [hi]
    exact atI_nat (abc_at i (by omega))
end

/-! names, in plain words -/
def toS (l : List Nat) : Str := ⟨l.toArray⟩
theorem toS_list (l : List Nat) : (toS l).cps.toList = l := by simp [toS]
theorem toS_len (l : List Nat) : (toS l).length = l.length := by simp [toS, Str.length]
theorem of_toS (z : Str) : toS z.cps.toList = z := by
  cases z
  simp [toS]
theorem toS_inj {l m : List Nat} (h : toS l = toS m) : l = m := by rw [← toS_list l, h, toS_list]
theorem len_list (z : Str) : z.length = z.cps.toList.length := by simp [Str.length]
def isLet (c : Nat) : Prop := 97 ≤ c ∧ c ≤ 122
instance (c : Nat) : Decidable (isLet c) := inferInstanceAs (Decidable (97 ≤ c ∧ c ≤ 122))
structure IsNm (z : Str) : Prop where
  lo : 1 ≤ z.length
  hi : z.length ≤ 8
  let_ : ∀ c ∈ z.cps.toList, isLet c
  out : z ∉ keptW
theorem letr_let (k : Int) : isLet (letr k) := by
  unfold isLet letr
  have r0 : 0 ≤ k % 26 := Int.emod_nonneg _ (by decide)
  have r1 : k % 26 < 26 := Int.emod_lt_of_pos _ (by decide)
  omega
def nm1 (root : List Nat) (j c : Nat) : Str := toS (root.take j ++ [c] ++ root.drop j)
def nm2 (root : List Nat) (c : Nat) : Str := toS (c :: c :: root)
def nmF (root : List Nat) (j c : Nat) : Str := if nm1 root j c ∈ keptW then nm2 root c else nm1 root j c
theorem kept_two : ∀ x ∈ keptW, ∀ (c : Nat) (r : List Nat), x.cps.toList ≠ c :: c :: r := by
  have h : (keptW.all fun x => match x.cps.toList with | a :: b :: _ => a != b | _ => true) = true := by decide +kernel
  intro x hx c r e
  have := List.all_eq_true.mp h x hx
  rw [e] at this
  simp at this
theorem nm1_len {root : List Nat} {j c : Nat} : (nm1 root j c).length = root.length + 1 := by
  unfold nm1
  rw [toS_len]
  simp only [List.length_append, List.length_take, List.length_drop, List.length_cons, List.length_nil]
  omega
theorem nmF_ok {root : List Nat} {j c : Nat} (hr : ∀ x ∈ root, isLet x) (hl : root.length ≤ 6) (hc : isLet c) : IsNm (nmF root j c) := by
  unfold nmF
  split
  · refine ⟨?_, ?_, ?_, ?_⟩
    · unfold nm2
      rw [toS_len, List.length_cons]
      omega
    · unfold nm2
      rw [toS_len, List.length_cons, List.length_cons]
      omega
    · unfold nm2
      rw [toS_list]
      intro x hx
      rcases List.mem_cons.mp hx with rfl | hx
      · exact hc
      rcases List.mem_cons.mp hx with rfl | hx
      · exact hc
      exact hr x hx
    · intro h
      exact kept_two _ h c root (by unfold nm2; rw [toS_list])
  · rename_i h
    refine ⟨?_, ?_, ?_, h⟩
    · rw [nm1_len]
      omega
    · rw [nm1_len]
      omega
    · unfold nm1
      rw [toS_list]
      intro x hx
      rcases List.mem_append.mp hx with hx | hx
      · rcases List.mem_append.mp hx with hx | hx
        · exact hr x (List.mem_of_mem_take hx)
        · rw [List.mem_singleton.mp hx]
          exact hc
      · exact hr x (List.mem_of_mem_drop hx)
theorem nmF_inj {root : List Nat} {j c d : Nat} (hj : j ≤ root.length) (h : nmF root j c = nmF root j d) : c = d := by
  have l2 : ∀ x, (nm2 root x).length = root.length + 2 := fun x => by
    unfold nm2
    rw [toS_len]
    rfl
  unfold nmF at h
  split at h <;> split at h
  · have := toS_inj h
    injection this
  · have := congrArg Str.length h
    rw [l2, nm1_len] at this
    omega
  · have := congrArg Str.length h
    rw [l2, nm1_len] at this
    omega
  · have e := toS_inj h
    rw [List.append_assoc, List.append_assoc] at e
    have := List.append_cancel_left e
    injection this
def nameL (root : List Nat) (j : Nat) (st : Int) (n : Nat) : List Str := (List.range n).map fun k : Nat => nmF root j (letr (st + 5 * (k : Int)))
theorem letr_inj {st : Int} {k l : Nat} (hk : k < 16) (hl : l < 16) (h : letr (st + 5 * (k : Int)) = letr (st + 5 * (l : Int))) : k = l := by
  unfold letr at h
  omega
/-- sixteen unlike names -/
structure Names (ns : List Str) : Prop where
  len : ns.length = 16
  nm : ∀ z ∈ ns, IsNm z
  nd : ns.Nodup
theorem nameL_ok {root : List Nat} {j : Nat} {st : Int} (hr : ∀ x ∈ root, isLet x) (hl : root.length ≤ 6) (hj : j ≤ root.length) : Names (nameL root j st 16) := by
  refine ⟨by simp [nameL], fun z hz => ?_, ?_⟩
  · obtain ⟨k, _, rfl⟩ := List.mem_map.mp hz
    exact nmF_ok hr hl (letr_let _)
  · unfold nameL
    refine List.pairwise_map.mpr ?_
    refine List.Pairwise.imp_of_mem ?_ List.nodup_range
    intro a b ha hb hne e
    exact hne (letr_inj (List.mem_range.mp ha) (List.mem_range.mp hb) (nmF_inj hj e))
def nearW : List Str := ["adds", "en", "nota", "sett", "rows", "mai", "iff", "elses", "calls", "failed", "gives", "tel"]
def nearX : List Str := ["x", "xx", "xxx", "xxxx"]
def nmB (z : Str) : Bool := decide (1 ≤ z.length) && decide (z.length ≤ 8) && z.cps.toList.all (fun c => decide (isLet c)) && !(keptW.any fun x => decide (x = z))
theorem nmB_ok {z : Str} : nmB z = true ↔ IsNm z := by
  unfold nmB
  simp only [Bool.and_eq_true, decide_eq_true_eq, List.all_eq_true, Bool.not_eq_true', List.any_eq_false]
  constructor
  · rintro ⟨⟨⟨a, b⟩, c⟩, d⟩
    exact ⟨a, b, c, fun h => d z h rfl⟩
  · rintro ⟨a, b, c, d⟩
    exact ⟨⟨⟨a, b⟩, c⟩, fun x hx e => d (e ▸ hx)⟩
theorem near_ok : ∀ j : Nat, j < 12 → Names (nearW.drop j ++ nearW.take j ++ nearX) := by
  have h1 : (List.range 12).all (fun j => decide ((nearW.drop j ++ nearW.take j ++ nearX).length = 16)) = true := by decide +kernel
  have h2 : (List.range 12).all (fun j => (nearW.drop j ++ nearW.take j ++ nearX).all nmB) = true := by decide +kernel
  have h3 : (List.range 12).all (fun j => decide ((nearW.drop j ++ nearW.take j ++ nearX).Nodup)) = true := by decide +kernel
  intro j hj
  refine ⟨of_decide_eq_true (List.all_eq_true.mp h1 j (List.mem_range.mpr hj)), fun z hz => nmB_ok.mp (List.all_eq_true.mp (List.all_eq_true.mp h2 j (List.mem_range.mpr hj)) z hz), of_decide_eq_true (List.all_eq_true.mp h3 j (List.mem_range.mpr hj))⟩
/-! texts cut and put together -/
theorem cutS_to (z : Str) (j : Nat) : cutS z none (some (j : Int)) = toS (z.cps.toList.take j) := by
  unfold cutS toS
  rw [HT.sIx_none, HT.sIx_nat, List.drop_zero, len_list, Nat.sub_zero]
  congr 2
  rw [← List.take_take, List.take_length]
theorem cutS_from (z : Str) (j : Nat) : cutS z (some (j : Int)) none = toS (z.cps.toList.drop j) := by
  unfold cutS toS
  rw [HT.sIx_none, HT.sIx_nat, len_list]
  congr 2
  rcases Nat.le_total j z.cps.toList.length with h | h
  · rw [Nat.min_eq_left h, List.take_of_length_le (by rw [List.length_drop]; omega)]
  · rw [Nat.min_eq_right h, List.drop_length, List.drop_of_length_le h, List.take_nil]
theorem add_toS (l m : List Nat) : toS l ++ toS m = toS (l ++ m) := by
  show (⟨l.toArray ++ m.toArray⟩ : Str) = _
  simp [toS]
theorem in_strs {z : Str} {ws : List Str} : inV (.str z) (ws.map V.str) = decide (z ∈ ws) := by
  unfold inV
  rw [List.any_map]
  by_cases h : z ∈ ws
  · rw [decide_eq_true h]
    refine List.any_eq_true.mpr ⟨z, h, ?_⟩
    show (z == z) = true
    exact beq_self_eq_true z
  · rw [decide_eq_false h]
    refine List.any_eq_false.mpr fun x hx e => h ?_
    have e2 : (x == z) = true := e
    rw [← eq_of_beq e2]
    exact hx
theorem flat_strs (ws : List Str) : (ws.map V.str).all flatV = true := by
  rw [List.all_map]
  exact List.all_eq_true.mpr fun _ _ => rfl

theorem CellOk.same {H H' : Hp} {v : V} (h : CellOk H v) (k : Same H H') : CellOk H' v := by
  rcases h with h | ⟨a, l, t, e, ha, h1, h2⟩
  · exact .inl h
  · exact .inr ⟨a, l, t, e, k _ _ ha, h1, h2⟩
theorem CellOk.fresh {H : Hp} {v : V} {p : Addr} (h : CellOk H v) (k : H p = none) : ¬ cellS v p := by
  rcases h with ⟨c, rfl⟩ | ⟨a, l, t, rfl, ha, h1, h2⟩
  · intro z
    cases z
  · intro z
    cases z
    rw [k] at ha
    cases ha
theorem CellOk.upd {H : Hp} {v : V} {p : Addr} {o : HO} (h : CellOk H v) (k : ¬ cellS v p) : CellOk (upd H p o) v := by
  rcases h with h | ⟨a, l, t, rfl, ha, h1, h2⟩
  · exact .inl h
  · refine .inr ⟨a, l, t, rfl, ?_, h1, h2⟩
    rw [upd_ne (fun z => k (by rw [z]; rfl))]
    exact ha
theorem cutV_to (xs : List V) (j : Nat) : cutV xs none (some (j : Int)) = xs.take j := by
  unfold cutV
  rw [HT.sIx_none, HT.sIx_nat, List.drop_zero, Nat.sub_zero, ← List.take_take, List.take_length]
theorem cutV_from (xs : List V) (j : Nat) : cutV xs (some (j : Int)) none = xs.drop j := by
  unfold cutV
  rw [HT.sIx_none, HT.sIx_nat]
  rcases Nat.le_total j xs.length with h | h
  · rw [Nat.min_eq_left h, List.take_of_length_le (by rw [List.length_drop]; omega)]
  · rw [Nat.min_eq_right h, List.drop_length, List.drop_of_length_le h, List.take_nil]
theorem Str_len_append (a b : Str) : (a ++ b).length = a.length + b.length := by
  show (a.cps ++ b.cps).size = _
  rw [Array.size_append]
  rfl
theorem join_ones (ls : List Nat) : Txt.join Str.empty (ls.map fun c => toS [c]) = toS ls := by
  rw [TL.join_eq]
  have h : ∀ l : List Nat, (Str.join Str.empty (l.map fun c => toS [c])).cps.toList = l := by
    intro l
    induction l with
    | nil => rfl
    | cons x r ih =>
      cases r with
      | nil => rfl
      | cons y r =>
        show ((toS [x] ++ Str.empty) ++ Str.join Str.empty ((y :: r).map fun c => toS [c])).cps.toList = _
        show (((toS [x]).cps ++ Str.empty.cps) ++ (Str.join Str.empty ((y :: r).map fun c => toS [c])).cps).toList = _
        rw [Array.toList_append, Array.toList_append, ih]
        rfl
  rw [← of_toS (Str.join _ _), h]
section
variable {P : Program} {w : World} {K : PySem.W.Frag} {mg : Str → Option Value} {base : Heap}
def sp__law_names : Sp := fun vs H Q _ => ∃ c : Int, vs = [.int c] ∧ ∀ H' p ns, Same H H' → H p = none → H' p = some (.lst (ns.map V.str)) → Names ns → Q (.ref p) H'
theorem ok__law_names (T : Top K mg) : FnOk P w K mg base CX0 2 (He.ga K "_law_names") T.fd__law_names ["_law_cell"] sp__law_names := by
  have G__law_held := ok__law_held (P := P) (w := w) (base := base) T
  have G__law_mixed := ok__law_mixed (P := P) (w := w) (base := base) T
  have G__law_kept := ok__law_kept (P := P) (w := w) (base := base) T
  have G__law_letter := ok__law_letter (P := P) (w := w) (base := base) T
  refine T.F__law_names.ok sc__law_names (fun vs H Q E h => ?_) (fun cdv A outer s H vs Q E hr h => ?_)
  · obtain ⟨c, rfl, _⟩ := h
    rfl
  · obtain ⟨c, rfl, q⟩ := h
    refine ⟨_, PSs.nox (pss_cons (ps_set (i := 0) sc__law_names.nd rfl (Or.inr rfl) (pe_call G__law_held (hr.mono (by decide)) (by rfl) T.g__law_held T.F__law_held.kp T.b__law_held .nil pass0 (pa_cons (pv 0) pa_nil)))
        (pss_cons (ps_if (pt_cmpR op_eq (pe_call G__law_mixed (hr.mono (by decide)) (by rfl) T.g__law_mixed T.F__law_mixed.kp T.b__law_mixed .nil pass0 (pa_cons (pv 0) (pa_cons pe_int (pa_cons pe_int pa_nil)))) pe_int (nomark _)) (pss_cons (ps_set (i := 1) sc__law_names.nd rfl (Or.inl rfl) (pe_lst (pa_cons pe_str (pa_cons pe_str (pa_cons pe_str (pa_cons pe_str (pa_cons pe_str (pa_cons pe_str (pa_cons pe_str (pa_cons pe_str (pa_cons pe_str (pa_cons pe_str (pa_cons pe_str (pa_cons pe_str pa_nil))))))))))))))
        (pss_cons (ps_set (i := 2) sc__law_names.nd rfl (Or.inl rfl) (pe_call G__law_mixed (hr.mono (by decide)) (by rfl) T.g__law_mixed T.F__law_mixed.kp T.b__law_mixed .nil pass0 (pa_cons (pv 0) (pa_cons pe_int (pa_cons pe_int pa_nil)))))
        (pss_one (ps_ret (pe_op op_cat (pe_op op_cat (pe_slice sl_list (pv 1) (po_some (pv 2)) po_none) (pe_slice sl_list (pv 1) po_none (po_some (pv 2)))) (pe_lst (pa_cons pe_str (pa_cons pe_str (pa_cons pe_str (pa_cons pe_str pa_nil)))))))))) pss_nil)
        (pss_cons (ps_set (i := 3) sc__law_names.nd rfl (Or.inl rfl) (pe_join pe_str (pe_lc (own := [("_law_j", 9)]) (by rfl) sc__law_names.nd (pi_range1 (by rfl) T.m_range (pa_cons (pe_call G__law_mixed (hr.mono (by decide)) (by rfl) T.g__law_mixed T.F__law_mixed.kp T.b__law_mixed .nil pass0 (pa_cons (pv 0) (pa_cons pe_int (pa_cons pe_int pa_nil)))) pa_nil)) (blkOk_by (own := [("_law_j", 9)]) (N := N__law_names) (sc := defScope s__law_names) (by decide +kernel)) (fun _ _ _ _ _ => (pg_name (i := 9) sc__law_names.nd rfl (Or.inl rfl))) (fun _ _ _ _ _ => pts_nil) (fun _ _ _ _ _ => (pe_call G__law_letter (hr.mono (by decide)) (by rfl) T.g__law_letter T.F__law_letter.kp T.b__law_letter .nil pass0 (pa_cons (pe_call G__law_mixed (hr.mono (by decide)) (by rfl) T.g__law_mixed T.F__law_mixed.kp T.b__law_mixed .nil pass0 (pa_cons (pv 0) (pa_cons (pe_op op_add pe_int (pv 9)) (pa_cons pe_int pa_nil)))) pa_nil))))))
        (pss_cons (ps_set (i := 2) sc__law_names.nd rfl (Or.inl rfl) (pe_call G__law_mixed (hr.mono (by decide)) (by rfl) T.g__law_mixed T.F__law_mixed.kp T.b__law_mixed .nil pass0 (pa_cons (pv 0) (pa_cons pe_int (pa_cons (pe_op op_add (pe_callB call_len_str (by rfl) T.m_len (by decide +kernel) (pa_cons (pv 3) pa_nil)) pe_int) pa_nil)))))
        (pss_cons (ps_set (i := 4) sc__law_names.nd rfl (Or.inl rfl) (pe_lst pa_nil))
        (pss_cons (ps_set (i := 5) sc__law_names.nd rfl (Or.inl rfl) (pe_call G__law_mixed (hr.mono (by decide)) (by rfl) T.g__law_mixed T.F__law_mixed.kp T.b__law_mixed .nil pass0 (pa_cons (pv 0) (pa_cons pe_int (pa_cons pe_int pa_nil)))))
        (pss_cons (ps_for PassesOwn.never (by rfl) (pi_range1 (by rfl) T.m_range (pa_cons pe_int pa_nil)) (pg_name (i := 6) sc__law_names.nd rfl (Or.inl rfl)) (pss_cons (ps_set (i := 7) sc__law_names.nd rfl (Or.inl rfl) (pe_call G__law_letter (hr.mono (by decide)) (by rfl) T.g__law_letter T.F__law_letter.kp T.b__law_letter .nil pass0 (pa_cons (pe_op op_add (pv 5) (pe_op op_mul pe_int (pv 6))) pa_nil)))
        (pss_cons (ps_set (i := 8) sc__law_names.nd rfl (Or.inl rfl) (pe_op op_add_str (pe_op op_add_str (pe_slice sl_str (pv 3) po_none (po_some (pv 2))) (pv 7)) (pe_slice sl_str (pv 3) (po_some (pv 2)) po_none)))
        (pss_cons (ps_if (pt_cmpR op_in_seq (pv 8) (pe_call0 G__law_kept (hr.mono (by decide)) (by rfl) T.g__law_kept T.F__law_kept.kp T.b__law_kept .nil pass0) (by rfl)) (pss_one (ps_set (i := 8) sc__law_names.nd rfl (Or.inl rfl) (pe_op op_add_str (pe_op op_add_str (pv 7) (pv 7)) (pv 3)))) pss_nil)
        (pss_one (ps_expr (pe_bm PySem.F.plainAttrs_list PySem.F.slot_list_append PySem.F.type_list_append mt_append (pv 4) (pa_cons (pv 8) pa_nil))))))))
        (pss_one (ps_ret (pv 4)))))))))), ?_⟩
    refine ⟨_, rfl, c, rfl, fun H1 v s1 c1 f1 => ?_⟩
    have nS : ∀ b, cellS v b → H b = none := fun b e => f1 b e
    refine ⟨_, rfl, v, 1, 5, rfl, c1, by decide, by decide, by decide, by decide, fun H2 r k2 c2 _ _ => ?_⟩
    have s2 := Kp.same s1 k2 nS
    refine ⟨rfl, _, rfl, ite2 (fun _ => ?_) (fun _ => ?_)⟩
    · refine ⟨(by show 12 ≤ sizeLine; rw [sizeLine_eq]; decide), fun p1 n1 => ?_⟩
      have s3 := s2.trans (same_new (o := .lst (nearW.map V.str)) n1)
      have c3 : CellOk (upd H2 p1 (.lst (nearW.map V.str))) v := c2.same (same_new n1)
      have nc : ¬ cellS v p1 := c2.fresh n1
      refine ⟨_, rfl, v, 2, 12, rfl, c3, by decide, by decide, by decide, by decide, fun H4 j k4 c4 j0 j1 => ?_⟩
      have s4 := Kp.same s3 k4 nS
      have e4 : H4 p1 = some (.lst (nearW.map V.str)) := k4 _ _ upd_same fun z => absurd z nc
      obtain ⟨j, rfl⟩ := Int.eq_ofNat_of_zero_le j0
      refine ⟨_, rfl, _, rfl, _, rfl, p1, _, rfl, .of e4, fun p2 n2 => ?_⟩
      have s5 := same_new (o := .lst (cutV (nearW.map V.str) (some (j : Int)) none)) n2
      refine ⟨_, rfl, _, rfl, _, rfl, p1, _, rfl, .of (s5 _ _ e4), fun p3 n3 => ?_⟩
      have s6 := same_new (o := .lst (cutV (nearW.map V.str) none (some (j : Int)))) n3
      have l1 : ∀ a b, (cutV (nearW.map V.str) a b).length ≤ 12 := fun a b => cutV_length _ _ _
      have b1 := l1 (some (j : Int)) none
      have b2 := l1 none (some (j : Int))
      refine ⟨p2, p3, _, _, rfl, rfl, s6 _ _ upd_same, upd_same, (by rw [sizeLine_eq]; omega), fun p4 n4 => ?_⟩
      have s7 := same_new (o := .lst (cutV (nearW.map V.str) (some (j : Int)) none ++ cutV (nearW.map V.str) none (some (j : Int)))) n4
      refine ⟨(by show 4 ≤ sizeLine; rw [sizeLine_eq]; decide), fun p5 n5 => ?_⟩
      have s8 := same_new (o := .lst (nearX.map V.str)) n5
      refine ⟨p4, p5, _, _, rfl, rfl, s8 _ _ upd_same, upd_same, (by rw [sizeLine_eq, List.length_append]; simp only [List.length_cons, List.length_nil]; omega), fun p6 n6 => ?_⟩
      have s9 := (s4.trans (s5.trans (s6.trans (s7.trans s8))))
      refine q _ p6 (nearW.drop j ++ nearW.take j ++ nearX) (s9.trans (same_new n6)) (s9.free n6) ?_ (near_ok j (by omega))
      rw [upd_same, cutV_from, cutV_to, List.map_append, List.map_append, List.map_drop, List.map_take]
      rfl
    · have s3 : ∀ H3, Kp (cellS v) H2 H3 → Same H H3 := fun H3 k3 => Kp.same s2 k3 nS
      refine ⟨⟨_, rfl⟩, _, rfl, v, 2, 7, rfl, c2, by decide, by decide, by decide, by decide, fun H3 n k3 c3 n0 n1 => ?_⟩
      refine ⟨n, rfl, by omega, by omega, fun D nD => ?_⟩
      have nc : ¬ cellS v D := c3.fresh nD
      have nH : H D = none := (s3 _ k3).free nD
      refine lc_range (lo := 0) (n := n.toNat) (fun i H' => Kp (cellS v) H2 H' ∧ CellOk H' v ∧ ∃ ls : List Nat, ls.length = i ∧ (∀ x ∈ ls, isLet x) ∧ H' D = some (.lst ((ls.map fun c => toS [c]).map V.str))) ?_ ?_ ?_
      · exact ⟨k3.trans (.of_same (same_new nD)), c3.same (same_new nD), [], rfl, by simp, upd_same⟩
      · rintro i H' hi ⟨k4, c4, ls, l1, l2, l3⟩
        refine ⟨rfl, _, rfl, _, rfl, _, _, rfl, rfl, v, 3 + (0 + (i : Int)), 26, rfl, c4, by omega, by omega, by decide, by decide, fun H5 r5 k5 c5 r50 r51 => ?_⟩
        have e5 : H5 D = some (.lst ((ls.map fun c => toS [c]).map V.str)) := k5 _ _ l3 fun z => absurd z nc
        refine ⟨r5, rfl, _, e5, ?_, ?_, ?_, ls ++ [letr r5], ?_, ?_, ?_⟩
        · rw [List.length_map, List.length_map, l1, sizeLine_eq]
          omega
        · refine fun b o hb hk => ?_
          have nb : b ≠ D := fun z => by
            subst z
            have h2 : H3 b = some o := k3 b o hb hk
            rw [nD] at h2
            cases h2
          rw [upd_ne nb]
          exact (k4.trans k5) b o hb hk
        · exact c5.upd nc
        · rw [List.length_append, l1]
          rfl
        · intro x hx
          rcases List.mem_append.mp hx with hx | hx
          · exact l2 x hx
          · rw [List.mem_singleton.mp hx]
            exact letr_let _
        · rw [upd_same, List.map_append, List.map_append]
          rfl
      · rintro H' ⟨k4, c4, root, l1, l2, l3⟩
        have hl : root.length ≤ 6 := by omega
        refine ⟨Str.empty, D, _, rfl, rfl, .inl (.of l3), ?_, ?_⟩
        · rw [List.map_map]
          have e1 : (root.map ((·.length) ∘ fun c => toS [c])) = root.map fun _ => 1 := by
            apply List.map_congr_left
            intro x _
            rw [Function.comp_apply, toS_len]
            rfl
          rw [e1]
          have e2 : ∀ l : List Nat, (l.map fun _ => 1).sum = l.length := by
            intro l
            induction l with
            | nil => rfl
            | cons x r ih => rw [List.map_cons, List.sum_cons, ih, List.length_cons]; omega
          rw [e2]
          have e3 : Str.empty.length = 0 := rfl
          rw [e3]
          omega
        rw [join_ones]
        generalize hz : toS root = z
        have zl : z.length = root.length := by rw [← hz, toS_len]
        have zc : z.cps.toList = root := by rw [← hz, toS_list]
        refine ⟨_, rfl, _, rfl, z, rfl, by rw [zl, sizeLine_eq]; omega, _, _, rfl, rfl, v, 9, (z.length : Int) + 1, rfl, c4, by decide, by decide, by omega, by rw [zl]; omega, fun H5 j k5 c5 j0 j1 => ?_⟩
        obtain ⟨j, rfl⟩ := Int.eq_ofNat_of_zero_le j0
        have hj : j ≤ root.length := by omega
        refine ⟨Nat.zero_le _, fun L nL => ?_⟩
        have k6 : Kp (cellS v) H2 (upd H5 L (.lst [])) := (k4.trans k5).trans (.of_same (same_new nL))
        have c6 : CellOk (upd H5 L (.lst [])) v := c5.same (same_new nL)
        have ncL : ¬ cellS v L := c5.fresh nL
        have nHL : H L = none := (s3 _ (k4.trans k5)).free nL
        refine ⟨_, rfl, v, 10, 26, rfl, c6, by decide, by decide, by decide, by decide, fun H7 st k7 c7 st0 st1 => ?_⟩
        have e7 : H7 L = some (.lst []) := k7 _ _ upd_same fun z => absurd z ncL
        have sm7 := s3 _ (k6.trans k7)
        refine ⟨16, rfl, by decide, by decide, for_range (lo := 0) (n := 16) (fun i σ' H' => Same H H' ∧ H' L = some (.lst ((nameL root j st i).map V.str)) ∧ ∃ x6 x7 x8 x9, σ' = [some v, none, some (.int j), some (.str z), some (.ref L), some (.int st), x6, x7, x8, x9]) ?_ ?_ ?_⟩
        · exact ⟨sm7, e7, none, none, none, none, rfl⟩
        · rintro i σ' H8 hi ⟨s8, e8, x6, x7, x8, x9, rfl⟩
          refine ⟨_, rfl, _, rfl, _, _, rfl, rfl, .inl ⟨by decide, by decide⟩, _, _, rfl, rfl, _, rfl, ?_⟩
          generalize hc : letr (st + 5 * (0 + (i : Int))) = c
          have zb : z.length ≤ sizeLine := by rw [zl, sizeLine_eq]; omega
          have hcs : ∀ a b, (cutS z a b).length ≤ 6 := fun a b => by
            unfold cutS
            show (List.toArray _).size ≤ 6
            rw [List.size_toArray, List.length_take, List.length_drop, ← len_list]
            omega
          have h1 := hcs none (some (j : Int))
          have h2 := hcs (some (j : Int)) none
          have h3 : (⟨#[c]⟩ : Str).length = 1 := rfl
          refine ⟨_, rfl, _, rfl, _, rfl, z, rfl, zb, _, rfl, _, _, rfl, rfl, by rw [h3, sizeLine_eq]; omega, ?_⟩
          refine ⟨_, rfl, _, rfl, _, rfl, z, rfl, zb, _, _, rfl, rfl, ?_, ?_⟩
          · have := Str_len_append (cutS z none (some (j : Int))) ⟨#[c]⟩
            rw [this, h3, sizeLine_eq]
            omega
          rw [show (cutS z none (some (j : Int)) ++ (⟨#[c]⟩ : Str)) ++ cutS z (some (j : Int)) none = nm1 root j c by
            rw [cutS_to, cutS_from, show (⟨#[c]⟩ : Str) = toS [c] from rfl, add_toS, add_toS, zc]
            rfl]
          dsimp only [gName]
          refine ifs_by (fun σ' H' => Same H H' ∧ H' L = some (.lst ((nameL root j st i).map V.str)) ∧ ∃ x6 x7, σ' = [some v, none, some (.int j), some (.str z), some (.ref L), some (.int st), x6, x7, some (.str (nmF root j c)), x9]) ?_ ?_
          · rintro σ' H9 ⟨s9, e9, x6, x7, rfl⟩
            refine ⟨_, rfl, .inl ⟨rfl, _, .of e9⟩, _, rfl, L, _, _, rfl, rfl, e9, ?_, ?_, ?_, ?_⟩
            · unfold nameL
              rw [List.length_map, List.length_map, List.length_range, sizeLine_eq]
              omega
            · intro b o hb
              rw [upd_ne (ne_of_none hb nHL)]
              exact s9 b o hb
            · rw [upd_same]
              unfold nameL
              rw [List.range_succ, List.map_append, List.map_append, ← hc, Int.zero_add]
              rfl
            · exact ⟨_, _, _, _, rfl⟩
          · intro N hN
            refine ⟨_, rfl, rfl, fun H9 pk s9 npk epk => ?_⟩
            have e9 := s9 _ _ e8
            refine ⟨pk, _, rfl, .inl (.of epk), rfl, flat_strs _, _, rfl, ?_⟩
            dsimp only
            rw [if_neg Bool.false_ne_true, in_strs]
            refine ite2 (fun e => ?_) (fun e => ?_)
            · have ek := of_decide_eq_true e
              refine ⟨_, rfl, _, rfl, _, _, rfl, rfl, by rw [h3, sizeLine_eq]; decide, _, rfl, _, _, rfl, rfl, ?_, ?_⟩
              · have := Str_len_append (⟨#[c]⟩ : Str) ⟨#[c]⟩
                rw [this, h3, zl, sizeLine_eq]
                omega
              · refine hN _ _ ⟨s8.trans s9, e9, some (.int (0 + (i : Int))), some (.str ⟨#[c]⟩), ?_⟩
                rw [show nmF root j c = nm2 root c from if_pos ek]
                rw [show ((⟨#[c]⟩ : Str) ++ ⟨#[c]⟩) ++ z = nm2 root c by
                  rw [← hz, show (⟨#[c]⟩ : Str) = toS [c] from rfl, add_toS, add_toS]
                  rfl]
                rfl
            · have ek : ¬ nm1 root j c ∈ keptW := fun z => e (decide_eq_true z)
              refine hN _ _ ⟨s8.trans s9, e9, some (.int (0 + (i : Int))), some (.str ⟨#[c]⟩), ?_⟩
              rw [show nmF root j c = nm1 root j c from if_neg ek]
              rfl
        · rintro σ' H8 ⟨s8, e8, x6, x7, x8, x9, rfl⟩
          exact ⟨_, rfl, q _ L _ s8 nHL e8 (nameL_ok l2 hl hj)⟩
end

section
variable {P : Program} {w : World} {K : PySem.W.Frag} {mg : Str → Option Value} {base : Heap}
/-- a thing that is no text -/
def NoStr (K : PySem.W.Frag) (H : Hp) (v : V) : Prop := ∃ n : String, TyX K H v (.type n) ∧ kitB n "str" = some false
def sp_isn (K : PySem.W.Frag) : Sp := fun vs H Q _ => ∃ v : V, vs = [v] ∧ ((∃ z : Str, v = .str z ∧ z.length ≤ 1000 ∧ ∀ H', Same H H' → Q (.bl (nmB z)) H') ∨ (NoStr K H v ∧ Q (.bl false) H))
theorem abc_mem (c : Nat) : decide (c ∈ abc.cps.toList) = decide (isLet c) := by
  have e : abc.cps.toList = (List.range 26).map (97 + ·) := by decide +kernel
  rw [e]
  by_cases h : isLet c
  · rw [decide_eq_true h]
    refine decide_eq_true (List.mem_map.mpr ⟨c - 97, List.mem_range.mpr ?_, ?_⟩)
    · unfold isLet at h
      omega
    · unfold isLet at h
      omega
  · rw [decide_eq_false h]
    refine decide_eq_false fun z => h ?_
    obtain ⟨k, hk, rfl⟩ := List.mem_map.mp z
    have := List.mem_range.mp hk
    unfold isLet
    omega
theorem nmB_of {z : Str} (h1 : 1 ≤ z.length) (h2 : z.length ≤ 8) (h3 : z ∉ keptW) : nmB z = (z.cps.toList.map fun c => decide (isLet c)).all id := by
  unfold nmB
  rw [decide_eq_true h1, decide_eq_true h2]
  have e : (keptW.any fun x => decide (x = z)) = false := List.any_eq_false.mpr fun x hx e => h3 ((of_decide_eq_true e) ▸ hx)
  rw [e, List.all_map]
  simp only [Bool.true_and, Bool.not_false, Bool.and_true]
  rfl
theorem nmB_no {z : Str} (h : ¬ (1 ≤ z.length ∧ z.length ≤ 8) ∨ z ∈ keptW) : nmB z = false := by
  cases e : nmB z with
  | false => rfl
  | true =>
    have := nmB_ok.mp e
    rcases h with h | h
    · exact absurd ⟨this.lo, this.hi⟩ h
    · exact absurd h this.out
theorem ok_is_name (T : Top K mg) : FnOk P w K mg base CX0 1 (He.ga K "is_name") T.fd_is_name ["thing"] (sp_isn K) := by
  refine T.F_is_name.ok sc_is_name (fun vs H Q E h => ?_) (fun cdv A outer s H vs Q E hr h => ?_)
  · obtain ⟨v, rfl, _⟩ := h
    rfl
  · obtain ⟨v, rfl, h⟩ := h
    refine ⟨_, PSs.nox (pss_cons (ps_if (PW.pt (pw_or (pt_not (pt_val (pe_callB call_isi (by rfl) T.m_isinstance (by decide +kernel) (pa_cons (pv 0) (pa_cons (pe_bltn (v := .ty "str") (by rfl) T.m_str (by decide +kernel) rfl) pa_nil))))) (pw_or (pt_not (pt_chain op_le op_le pe_int (pe_callB call_len_str (by rfl) T.m_len (by decide +kernel) (pa_cons (pv 0) pa_nil)) (pe_glob (v := .int 8) (by rfl) T.c_MOST_LETTERS ⟨_, rfl⟩))) (pw_or1 (pt_cmpR op_in_seq (pv 0) (pe_glob (v := .ref (He.ga K "KEPT")) (by rfl) T.c_KEPT rfl) (by rfl)))))) (pss_one (ps_ret pe_bl)) pss_nil)
        (pss_one (ps_ret (pe_callB (cr_all (by rfl)) (by rfl) T.m_all (by decide +kernel) (pa_cons (pe_lc (own := [("sign", 1)]) (by rfl) sc_is_name.nd (pi_str (pv 0)) (blkOk_by (own := [("sign", 1)]) (N := N_is_name) (sc := defScope s_is_name) (by decide +kernel)) (fun _ _ _ _ _ => (pg_name (i := 1) sc_is_name.nd rfl (Or.inl rfl))) (fun _ _ _ _ _ => pts_nil) (fun _ _ _ _ _ => (pe_cmpR op_in_sign (pv 1) (pe_glob (v := .str "abcdefghijklmnopqrstuvwxyz") (by rfl) T.c_LETTERS ⟨_, rfl⟩) (by rfl)))) pa_nil))))), ?_⟩
    rcases h with ⟨z, rfl, zl, q⟩ | ⟨⟨n, ty, kn⟩, q⟩
    · refine ⟨_, rfl, _, _, _, _, true, rfl, .ty _, .base (.str z), kit_ty (by decide +kernel), true, rfl, ?_⟩
      have zb : z.length ≤ sizeLine := by rw [sizeLine_eq]; omega
      refine ⟨_, rfl, z, rfl, zb, _, _, rfl, rfl, _, rfl, ite2 (fun e1 => ?_) (fun e1 => ?_)⟩
      · have z1 : 1 ≤ z.length := by
          have := of_decide_eq_true e1
          omega
        refine ⟨_, _, rfl, rfl, _, rfl, ?_⟩
        refine ite2 (fun e2 => ?_) (fun e2 => ?_)
        · have z2 : ¬ z.length ≤ 8 := fun h => by
            rw [decide_eq_true (show (z.length : Int) ≤ 8 by omega)] at e2
            cases e2
          rw [nmB_no (.inl fun h => z2 h.2)] at q
          exact q _ (Same.refl _)
        · have z2 : z.length ≤ 8 := by
            by_cases h : (z.length : Int) ≤ 8
            · omega
            · rw [decide_eq_false h] at e2
              exact absurd rfl e2
          refine ⟨_, rfl, _, _, rfl, .inr (T.q_KEPT _), rfl, flat_strs keptW, _, rfl, ?_⟩
          show if (if false = true then !inV (V.str z) (keptW.map V.str) else inV (V.str z) (keptW.map V.str)) = true then _ else _
          rw [if_neg Bool.false_ne_true, in_strs]
          refine ite2 (fun e3 => ?_) (fun e3 => ?_)
          · rw [nmB_no (.inr (of_decide_eq_true e3))] at q
            exact q _ (Same.refl _)
          · have z3 : z ∉ keptW := fun h => e3 (decide_eq_true h)
            refine ⟨_, rfl, z, rfl, fun D nD => ?_⟩
            refine lc_str (fun i H' => Same H H' ∧ H' D = some (.lst (((z.cps.toList.take i).map fun c => decide (isLet c)).map V.bl))) ?_ ?_ ?_
            · exact ⟨same_new nD, upd_same⟩
            · rintro i c H' hc ⟨s1, e1⟩
              refine ⟨rfl, _, rfl, c, _, rfl, rfl, _, e1, ?_, ?_, ?_⟩
              · rw [List.length_map, List.length_map, List.length_take, sizeLine_eq, ← len_list]
                omega
              · intro b o hb
                rw [upd_ne (ne_of_none hb nD)]
                exact s1 b o hb
              · rw [upd_same, List.take_add_one, hc, List.map_append, List.map_append]
                show _ = some (HO.lst (_ ++ [V.bl (decide (isLet c))]))
                rw [← abc_mem c]
                rfl
            · rintro H' ⟨s1, e1⟩
              rw [List.take_length] at e1
              refine ⟨D, _, rfl, .of e1, ?_⟩
              rw [← nmB_of z1 z2 z3]
              exact q _ s1
      · have z1 : ¬ 1 ≤ z.length := fun h => e1 (decide_eq_true (by omega))
        rw [nmB_no (.inl fun h => z1 h.1)] at q
        exact ⟨false, rfl, q _ (Same.refl _)⟩
    · refine ⟨_, rfl, _, _, _, _, false, rfl, .ty _, ty, kit_ty kn, false, rfl, ?_⟩
      exact q
theorem ok__law_is_name (T : Top K mg) : FnOk P w K mg base CX0 2 (He.ga K "_law_is_name") T.fd__law_is_name ["_law_thing"] (sp_isn K) := by
  have G__law_kept := ok__law_kept (P := P) (w := w) (base := base) T
  refine T.F__law_is_name.ok sc__law_is_name (fun vs H Q E h => ?_) (fun cdv A outer s H vs Q E hr h => ?_)
  · obtain ⟨v, rfl, _⟩ := h
    rfl
  · obtain ⟨v, rfl, h⟩ := h
    refine ⟨_, PSs.nox (pss_cons (ps_if (PW.pt (pw_or (pt_not (pt_val (pe_callB call_isi (by rfl) T.m_isinstance (by decide +kernel) (pa_cons (pv 0) (pa_cons (pe_bltn (v := .ty "str") (by rfl) T.m_str (by decide +kernel) rfl) pa_nil))))) (pw_or (pt_cmpR op_lt (pe_callB call_len_str (by rfl) T.m_len (by decide +kernel) (pa_cons (pv 0) pa_nil)) pe_int (nomark _)) (pw_or (pt_cmpR op_gt (pe_callB call_len_str (by rfl) T.m_len (by decide +kernel) (pa_cons (pv 0) pa_nil)) pe_int (nomark _)) (pw_or1 (pt_cmpR op_in_seq (pv 0) (pe_call0 G__law_kept (hr.mono (by decide)) (by rfl) T.g__law_kept T.F__law_kept.kp T.b__law_kept .nil pass0) (by rfl))))))) (pss_one (ps_ret pe_bl)) pss_nil)
        (pss_one (ps_ret (pe_callB (cr_all (by rfl)) (by rfl) T.m_all (by decide +kernel) (pa_cons (pe_lc (own := [("_law_sign", 1)]) (by rfl) sc__law_is_name.nd (pi_str (pv 0)) (blkOk_by (own := [("_law_sign", 1)]) (N := N__law_is_name) (sc := defScope s__law_is_name) (by decide +kernel)) (fun _ _ _ _ _ => (pg_name (i := 1) sc__law_is_name.nd rfl (Or.inl rfl))) (fun _ _ _ _ _ => pts_nil) (fun _ _ _ _ _ => (pe_cmpR op_in_sign (pv 1) pe_str (by rfl)))) pa_nil))))), ?_⟩
    rcases h with ⟨z, rfl, zl, q⟩ | ⟨⟨n, ty, kn⟩, q⟩
    · refine ⟨_, rfl, _, _, _, _, true, rfl, .ty _, .base (.str z), kit_ty (by decide +kernel), true, rfl, ?_⟩
      have zb : z.length ≤ sizeLine := by rw [sizeLine_eq]; omega
      refine ⟨_, rfl, z, rfl, zb, _, _, rfl, rfl, _, rfl, ite2 (fun e1 => ?_) (fun e1 => ?_)⟩
      · have z1 : ¬ 1 ≤ z.length := by
          have := of_decide_eq_true e1
          omega
        rw [nmB_no (.inl fun h => z1 h.1)] at q
        exact q _ (Same.refl _)
      have z1 : 1 ≤ z.length := by
        rcases Nat.lt_or_ge z.length 1 with h | h
        · exact absurd (decide_eq_true (show (z.length : Int) < 1 by omega)) e1
        · exact h
      refine ⟨_, rfl, z, rfl, zb, _, _, rfl, rfl, _, rfl, ite2 (fun e2 => ?_) (fun e2 => ?_)⟩
      · have z2 : ¬ z.length ≤ 8 := by
          have := of_decide_eq_true e2
          omega
        rw [nmB_no (.inl fun h => z2 h.2)] at q
        exact q _ (Same.refl _)
      have z2 : z.length ≤ 8 := by
        rcases Nat.lt_or_ge 8 z.length with h | h
        · exact absurd (decide_eq_true (show (8 : Int) < z.length by omega)) e2
        · exact h
      refine ⟨_, rfl, rfl, fun H1 pk s1 npk epk => ?_⟩
      refine ⟨pk, _, rfl, .inl (.of epk), rfl, flat_strs _, _, rfl, ?_⟩
      dsimp only
      rw [if_neg Bool.false_ne_true, in_strs]
      refine ite2 (fun e3 => ?_) (fun e3 => ?_)
      · rw [nmB_no (.inr (of_decide_eq_true e3))] at q
        exact q _ s1
      · have z3 : z ∉ keptW := fun h => e3 (decide_eq_true h)
        refine ⟨_, rfl, z, rfl, fun D nD => ?_⟩
        refine lc_str (fun i H' => Same H1 H' ∧ H' D = some (.lst (((z.cps.toList.take i).map fun c => decide (isLet c)).map V.bl))) ?_ ?_ ?_
        · exact ⟨same_new nD, upd_same⟩
        · rintro i c H' hc ⟨s2, e1⟩
          refine ⟨rfl, _, rfl, c, _, rfl, rfl, _, e1, ?_, ?_, ?_⟩
          · rw [List.length_map, List.length_map, List.length_take, sizeLine_eq, ← len_list]
            omega
          · intro b o hb
            rw [upd_ne (ne_of_none hb nD)]
            exact s2 b o hb
          · rw [upd_same, List.take_add_one, hc, List.map_append, List.map_append]
            show _ = some (HO.lst (_ ++ [V.bl (decide (isLet c))]))
            rw [← abc_mem c]
            rfl
        · rintro H' ⟨s2, e1⟩
          rw [List.take_length] at e1
          refine ⟨D, _, rfl, .of e1, ?_⟩
          rw [← nmB_of z1 z2 z3]
          exact q _ (s1.trans s2)
    · refine ⟨_, rfl, _, _, _, _, false, rfl, .ty _, ty, kit_ty kn, false, rfl, ?_⟩
      exact q
end

section
variable {P : Program} {w : World} {K : PySem.W.Frag} {mg : Str → Option Value} {base : Heap}
def Thing (K : PySem.W.Frag) (H : Hp) (v : V) : Prop := (∃ z : Str, v = .str z ∧ z.length ≤ 1000) ∨ NoStr K H v
def sp__law_changed (K : PySem.W.Frag) : Sp := fun vs H Q _ => ∃ (z : Str) (c : Int), vs = [.str z, .int c] ∧ IsNm z ∧ ∀ H' v, Same H H' → Thing K H' v → Q v H'
def sg1 : Str := " !\"#$&'()*+,-./0123456789:;<=>?@ABCDEFGHIJKLMNOPQRSTUVWXYZ[\\]^_`"
def sg2 : Str := "abcdefghijklmnopqrstuvwxyz{|}~\n\t"
theorem sg_len : (sg1 ++ sg2).length ≤ 100 ∧ 0 < (sg1 ++ sg2).length := by decide +kernel
theorem cutS_len (z : Str) (a b : Option Int) : (cutS z a b).length ≤ z.length := by
  unfold cutS
  show (List.toArray _).size ≤ _
  rw [List.size_toArray, List.length_take, List.length_drop, ← len_list]
  omega
theorem at_list {α : Type} {ns : List α} {i : Int} (h0 : 0 ≤ i) (h1 : i < ns.length) : ∃ x ∈ ns, atI ns i = some x := by
  obtain ⟨j, rfl⟩ := Int.eq_ofNat_of_zero_le h0
  have hj : j < ns.length := by omega
  exact ⟨ns[j], List.getElem_mem _, atI_nat (List.getElem?_eq_getElem hj)⟩
theorem kp_int {H H' : Hp} {c : Int} (k : Kp (cellS (.int c)) H H') : Same H H' := fun b o e => k b o e fun z => nomatch z
theorem ok__law_changed (T : Top K mg) : FnOk P w K mg base CX0 2 (He.ga K "_law_changed") T.fd__law_changed ["_law_name", "_law_cell"] (sp__law_changed K) := by
  have G__law_mixed := ok__law_mixed (P := P) (w := w) (base := base) T
  have G__law_kept := ok__law_kept (P := P) (w := w) (base := base) T
  refine T.F__law_changed.ok sc__law_changed (fun vs H Q E h => ?_) (fun cdv A outer s H vs Q E hr h => ?_)
  · obtain ⟨z, c, rfl, _⟩ := h
    rfl
  · obtain ⟨z, c, rfl, nz, q⟩ := h
    refine ⟨_, PSs.nox (pss_cons (ps_set (i := 2) sc__law_changed.nd rfl (Or.inl rfl) (pe_call G__law_mixed (hr.mono (by decide)) (by rfl) T.g__law_mixed T.F__law_mixed.kp T.b__law_mixed .nil pass0 (pa_cons (pv 1) (pa_cons pe_int (pa_cons pe_int pa_nil)))))
        (pss_cons (ps_set (i := 3) sc__law_changed.nd rfl (Or.inl rfl) (pe_call G__law_mixed (hr.mono (by decide)) (by rfl) T.g__law_mixed T.F__law_mixed.kp T.b__law_mixed .nil pass0 (pa_cons (pv 1) (pa_cons pe_int (pa_cons (pe_op op_add (pe_callB call_len_str (by rfl) T.m_len (by decide +kernel) (pa_cons (pv 0) pa_nil)) pe_int) pa_nil)))))
        (pss_cons (ps_set (i := 4) sc__law_changed.nd rfl (Or.inl rfl) pe_str)
        (pss_cons (ps_set (i := 4) sc__law_changed.nd rfl (Or.inl rfl) (pe_op op_add_str (pv 4) pe_str))
        (pss_cons (ps_set (i := 5) sc__law_changed.nd rfl (Or.inl rfl) (pe_ix ix_str (pv 4) (pe_call G__law_mixed (hr.mono (by decide)) (by rfl) T.g__law_mixed T.F__law_mixed.kp T.b__law_mixed .nil pass0 (pa_cons (pv 1) (pa_cons pe_int (pa_cons (pe_callB call_len_str (by rfl) T.m_len (by decide +kernel) (pa_cons (pv 4) pa_nil)) pa_nil)))) (fun _ _ => rfl)))
        (pss_cons (ps_if (pt_cmpR op_eq (pv 2) pe_int (nomark _)) (pss_one (ps_ret (pe_op op_add_str (pe_op op_add_str (pe_slice sl_str (pv 0) po_none (po_some (pv 3))) (pv 5)) (pe_slice sl_str (pv 0) (po_some (pv 3)) po_none)))) pss_nil)
        (pss_cons (ps_if (pt_cmpR op_eq (pv 2) pe_int (nomark _)) (pss_one (ps_ret (pe_op op_add_str (pe_op op_add_str (pe_slice sl_str (pv 0) po_none (po_some (pv 3))) (pv 5)) (pe_slice sl_str (pv 0) (po_some (pe_op op_add (pv 3) pe_int)) po_none)))) pss_nil)
        (pss_cons (ps_if (pt_cmpR op_eq (pv 2) pe_int (nomark _)) (pss_one (ps_ret (pe_slice sl_str (pe_op op_rep_str (pv 0) pe_int) po_none (po_some (pe_op op_add pe_int (pe_call G__law_mixed (hr.mono (by decide)) (by rfl) T.g__law_mixed T.F__law_mixed.kp T.b__law_mixed .nil pass0 (pa_cons (pv 1) (pa_cons pe_int (pa_cons pe_int pa_nil))))))))) pss_nil)
        (pss_cons (ps_if (pt_cmpR op_eq (pv 2) pe_int (nomark _)) (pss_one (ps_ret (pe_ix ix_list (pe_call0 G__law_kept (hr.mono (by decide)) (by rfl) T.g__law_kept T.F__law_kept.kp T.b__law_kept .nil pass0) (pe_call G__law_mixed (hr.mono (by decide)) (by rfl) T.g__law_mixed T.F__law_mixed.kp T.b__law_mixed .nil pass0 (pa_cons (pv 1) (pa_cons pe_int (pa_cons pe_int pa_nil)))) (fun _ _ => rfl)))) pss_nil)
        (pss_cons (ps_if (pt_cmpR op_eq (pv 2) pe_int (nomark _)) (pss_one (ps_ret (pe_ix ix_list (pe_lst (pa_cons (pe_upper (pv 0)) (pa_cons (pe_slice sl_str (pv 0) po_none (po_some (pe_un un_neg pe_int))) (pa_cons pe_str pa_nil)))) (pe_call G__law_mixed (hr.mono (by decide)) (by rfl) T.g__law_mixed T.F__law_mixed.kp T.b__law_mixed .nil pass0 (pa_cons (pv 1) (pa_cons pe_int (pa_cons pe_int pa_nil)))) (fun _ _ => rfl)))) pss_nil)
        (pss_cons (ps_if (pt_cmpR op_eq (pv 2) pe_int (nomark _)) (pss_one (ps_ret (pe_ix ix_list (pe_lst (pa_cons pe_non (pa_cons pe_int (pa_cons pe_bl (pa_cons (pe_tup (pa_cons (pv 0) pa_nil)) (pa_cons (pe_lst (pa_cons (pv 0) pa_nil)) (pa_cons (pe_tup (pa_cons pe_str (pa_cons (pv 0) pa_nil))) pa_nil))))))) (pe_call G__law_mixed (hr.mono (by decide)) (by rfl) T.g__law_mixed T.F__law_mixed.kp T.b__law_mixed .nil pass0 (pa_cons (pv 1) (pa_cons pe_int (pa_cons pe_int pa_nil)))) (fun _ _ => rfl)))) pss_nil)
        (pss_one (ps_ret (pe_op op_add_str (pe_ix ix_list (pe_call0 G__law_kept (hr.mono (by decide)) (by rfl) T.g__law_kept T.F__law_kept.kp T.b__law_kept .nil pass0) (pe_call G__law_mixed (hr.mono (by decide)) (by rfl) T.g__law_mixed T.F__law_mixed.kp T.b__law_mixed .nil pass0 (pa_cons (pv 1) (pa_cons pe_int (pa_cons pe_int pa_nil)))) (fun _ _ => rfl)) (pe_slice sl_str (pv 0) po_none (po_some pe_int)))))))))))))))), ?_⟩
    have zl := nz.hi
    have z1 := nz.lo
    have zb : z.length ≤ sizeLine := by rw [sizeLine_eq]; omega
    refine ⟨_, rfl, _, _, _, rfl, .inl ⟨_, rfl⟩, by decide, by decide, (by decide), (by decide), fun H1 way ks1 _ _ _ => ?_⟩
    have s1 := kp_int ks1
    refine ⟨_, rfl, _, rfl, z, rfl, zb, _, _, rfl, rfl, _, _, _, rfl, .inl ⟨_, rfl⟩, by decide, by decide, (by omega), (by omega), fun H2 spot ks2 _ p0 p1 => ?_⟩
    have s2 := kp_int ks2
    refine ⟨_, rfl, sg1, sg2, rfl, rfl, (by rw [sizeLine_eq]; decide +kernel), ?_⟩
    obtain ⟨sl, sl0⟩ := sg_len
    generalize sg1 ++ sg2 = sg at sl sl0
    have sb : sg.length ≤ sizeLine := by rw [sizeLine_eq]; omega
    refine ⟨_, rfl, _, rfl, _, rfl, sg, rfl, sb, _, _, _, rfl, .inl ⟨_, rfl⟩, by decide, by decide, (by omega), (by omega), fun H3 i ks3 _ i0 i1 => ?_⟩
    have s3 := kp_int ks3
    obtain ⟨x, _, hx⟩ := at_list (ns := sg.cps.toList) i0 (by rw [← len_list]; exact i1)
    refine ⟨sg, i, x, rfl, rfl, sb, hx, ?_⟩
    have s13 := s1.trans (s2.trans s3)
    have cs := cutS_len z
    have x1 : (⟨#[x]⟩ : Str).length = 1 := rfl
    have fin : ∀ (H' : Hp) (u : Str), Same H H' → u.length ≤ 1000 → Q (.str u) H' := fun H' u s4 h => q _ _ s4 (.inl ⟨u, rfl, h⟩)
    refine ⟨_, rfl, rfl, _, rfl, ite2 (fun _ => ?_) (fun _ => ?_)⟩
    · have h1 := cs none (some spot)
      have h2 := cs (some spot) none
      refine ⟨_, rfl, _, rfl, _, rfl, z, rfl, zb, _, rfl, _, _, rfl, rfl, by rw [x1, sizeLine_eq]; omega, _, rfl, _, rfl, _, rfl, z, rfl, zb, _, _, rfl, rfl, by rw [Str_len_append, x1, sizeLine_eq]; omega, ?_⟩
      exact fin _ _ s13 (by rw [Str_len_append, Str_len_append, x1]; omega)
    refine ⟨_, rfl, rfl, _, rfl, ite2 (fun _ => ?_) (fun _ => ?_)⟩
    · have h1 := cs none (some spot)
      have h2 := cs (some (spot + 1)) none
      refine ⟨_, rfl, _, rfl, _, rfl, z, rfl, zb, _, rfl, _, _, rfl, rfl, by rw [x1, sizeLine_eq]; omega, _, rfl, _, rfl, _, _, rfl, rfl, _, rfl, z, rfl, zb, _, _, rfl, rfl, by rw [Str_len_append, x1, sizeLine_eq]; omega, ?_⟩
      exact fin _ _ s13 (by rw [Str_len_append, Str_len_append, x1]; omega)
    refine ⟨_, rfl, rfl, _, rfl, ite2 (fun _ => ?_) (fun _ => ?_)⟩
    · refine ⟨_, rfl, z, 9, rfl, rfl, z1, by omega, by decide, by decide, fun u hu => ?_⟩
      have hu2 : u.length ≤ 72 := by
        rw [hu]
        show 9 * z.length ≤ 72
        omega
      refine ⟨_, rfl, _, _, _, rfl, .inl ⟨_, rfl⟩, by decide, by decide, (by decide), (by decide), fun H4 j ks4 _ j0 j1 => ?_⟩
      have s4 := kp_int ks4
      refine ⟨_, _, rfl, rfl, _, rfl, u, rfl, by rw [sizeLine_eq]; omega, fin _ _ (s13.trans s4) ?_⟩
      have := cutS_len u none (some (8 + j))
      omega
    refine ⟨_, rfl, rfl, _, rfl, ite2 (fun _ => ?_) (fun _ => ?_)⟩
    · refine ⟨rfl, fun H4 p s4 np ep => ?_⟩
      refine ⟨_, rfl, _, _, _, rfl, .inl ⟨_, rfl⟩, by decide, by decide, (by decide), (by decide), fun H5 j ks5 _ j0 j1 => ?_⟩
      have s5 := kp_int ks5
      obtain ⟨u, hu, e⟩ := at_list (ns := keptW.map V.str) j0 (by rw [List.length_map]; exact j1)
      obtain ⟨y, hy, rfl⟩ := List.mem_map.mp hu
      refine ⟨p, _, j, _, rfl, rfl, .of (s5 _ _ ep), e, fin _ _ (s13.trans (s4.trans s5)) ?_⟩
      have : ∀ y ∈ keptW, y.length ≤ 1000 := by decide +kernel
      exact this y hy
    refine ⟨_, rfl, rfl, _, rfl, ite2 (fun _ => ?_) (fun _ => ?_)⟩
    · refine ⟨_, rfl, ⟨_, rfl⟩, z, rfl, rfl, by omega, _, rfl, 1, rfl, _, rfl, z, rfl, zb, (by show 3 ≤ sizeLine; rw [sizeLine_eq]; decide), fun p np => ?_⟩
      have s4 := same_new (o := .lst ([Txt.upper z, cutS z none (some (-1)), ""].map V.str)) np
      refine ⟨_, rfl, _, _, _, rfl, .inl ⟨_, rfl⟩, by decide, by decide, (by decide), (by decide), fun H5 j ks5 _ j0 j1 => ?_⟩
      have s5 := kp_int ks5
      obtain ⟨u, hu, e⟩ := at_list (ns := [Txt.upper z, cutS z none (some (-1)), ""].map V.str) j0 j1
      obtain ⟨y, hy, rfl⟩ := List.mem_map.mp hu
      refine ⟨p, _, j, _, rfl, rfl, .of (s5 _ _ upd_same), e, fin _ _ (s13.trans (s4.trans s5)) ?_⟩
      have h1 := cs none (some (-1))
      have h2 := PyProof.Rows.len_upper z
      simp only [List.mem_cons, List.not_mem_nil, or_false] at hy
      rcases hy with rfl | rfl | rfl
      · omega
      · omega
      · decide +kernel
    refine ⟨_, rfl, rfl, _, rfl, ite2 (fun _ => ?_) (fun _ => ?_)⟩
    · refine ⟨_, rfl, (by show 1 ≤ sizeLine; rw [sizeLine_eq]; decide), fun p1 n1 => ?_⟩
      have s4 := same_new (o := .tup [.str z]) n1
      refine ⟨_, rfl, (by show 1 ≤ sizeLine; rw [sizeLine_eq]; decide), fun p2 n2 => ?_⟩
      have s5 := same_new (o := .lst [.str z]) n2
      refine ⟨_, rfl, (by show 2 ≤ sizeLine; rw [sizeLine_eq]; decide), fun p3 n3 => ?_⟩
      have s6 := same_new (o := .tup [.str "name", .str z]) n3
      refine ⟨(by show 6 ≤ sizeLine; rw [sizeLine_eq]; decide), fun p np => ?_⟩
      have s7 := same_new (o := .lst [.non, .int 5, .bl true, .ref p1, .ref p2, .ref p3]) np
      refine ⟨_, rfl, _, _, _, rfl, .inl ⟨_, rfl⟩, by decide, by decide, (by decide), (by decide), fun H5 j ks8 _ j0 j1 => ?_⟩
      have s8 := kp_int ks8
      obtain ⟨u, hu, e⟩ := at_list (ns := [V.non, .int 5, .bl true, .ref p1, .ref p2, .ref p3]) j0 j1
      refine ⟨p, _, j, _, rfl, rfl, .of (s8 _ _ upd_same), e, q _ _ (s13.trans (s4.trans (s5.trans (s6.trans (s7.trans s8))))) (.inr ?_)⟩
      have e1 := s8 _ _ (s7 _ _ (s6 _ _ (s5 _ _ (upd_same (H := H3) (a := p1) (o := .tup [.str z])))))
      have e2 := s8 _ _ (s7 _ _ (s6 _ _ (upd_same (a := p2) (o := .lst [.str z]))))
      have e3 := s8 _ _ (s7 _ _ (upd_same (a := p3) (o := .tup [.str "name", .str z])))
      simp only [List.mem_cons, List.not_mem_nil, or_false] at hu
      rcases hu with rfl | rfl | rfl | rfl | rfl | rfl
      · exact ⟨_, .base .non, by decide +kernel⟩
      · exact ⟨_, .base (.int _), by decide +kernel⟩
      · exact ⟨_, .base (.bl _), by decide +kernel⟩
      · exact ⟨_, .base (.tup e1), by decide +kernel⟩
      · exact ⟨_, .base (.lst e2), by decide +kernel⟩
      · exact ⟨_, .base (.tup e3), by decide +kernel⟩
    · refine ⟨rfl, fun H4 p s4 np ep => ?_⟩
      refine ⟨_, rfl, _, _, _, rfl, .inl ⟨_, rfl⟩, by decide, by decide, (by decide), (by decide), fun H5 j ks5 _ j0 j1 => ?_⟩
      have s5 := kp_int ks5
      obtain ⟨u, hu, e⟩ := at_list (ns := keptW.map V.str) j0 (by rw [List.length_map]; exact j1)
      obtain ⟨y, hy, rfl⟩ := List.mem_map.mp hu
      have all : ∀ y ∈ keptW, y.length ≤ 100 := by decide +kernel
      have yl := all y hy
      have h1 := cs none (some 1)
      refine ⟨p, _, j, _, rfl, rfl, .of (s5 _ _ ep), e, _, rfl, 1, rfl, z, rfl, zb, _, _, rfl, rfl, by rw [sizeLine_eq]; omega, fin _ _ (s13.trans (s4.trans s5)) ?_⟩
      rw [Str_len_append]
      omega
end

section
variable {P : Program} {w : World} {K : PySem.W.Frag} {mg : Str → Option Value} {base : Heap}
def sp_law (K : PySem.W.Frag) : Sp := fun vs H Q _ => ∃ (a : Addr) (ns : List Int), vs = [.ref a] ∧ SqL K H a (ns.map V.int) ∧ ∀ H', Q (.bl true) H'
theorem law_start {K : PySem.W.Frag} {H : Hp} {a : Addr} {ns : List Int} (hl : ns.length ≤ 63) (hb : ∀ z ∈ ns, Builtin.Int.intBits z ≤ 1048576) (hS : SqL K H a (ns.map V.int)) : sp_law K [.ref a] H (fun v _ => v = .bl true) fun _ _ _ => False := ⟨a, ns, rfl, hS, fun _ => rfl⟩
theorem NoStr.same {H H' : Hp} {v : V} (h : NoStr K H v) (k : Same H H') : NoStr K H' v := by
  obtain ⟨n, ty, kn⟩ := h
  refine ⟨n, ?_, kn⟩
  cases ty with
  | base b =>
    cases b with
    | non => exact .base .non
    | bl x => exact .base (.bl x)
    | int x => exact .base (.int x)
    | str x => exact .base (.str x)
    | flt x => exact .base (.flt x)
    | lst e => exact .base (.lst (k _ _ e))
    | frz e => exact .base (.frz (k _ _ e))
    | tup e => exact .base (.tup (k _ _ e))
    | dK e => exact .base (.dK (k _ _ e))
    | dT e => exact .base (.dT (k _ _ e))
  | byt b => exact .byt b
  | set e => exact .set (k _ _ e)
  | kList e c => exact .kList e c
  | kTuple e c => exact .kTuple e c
  | kDict e c => exact .kDict e c
  | fTuple e => exact .fTuple (k _ _ e)
  | fDict e => exact .fDict (k _ _ e)
theorem isn_use {H : Hp} {v : V} (tv : Thing K H v) : ∃ b : Bool, ∀ (H5 : Hp) (Q' : VK) (E' : XK), Same H H5 → (∀ H6, Same H5 H6 → Q' (.bl b) H6) → sp_isn K [v] H5 Q' E' := by
  rcases tv with ⟨y, rfl, yl⟩ | hno
  · exact ⟨nmB y, fun H5 Q' E' s5 q' => ⟨_, rfl, .inl ⟨y, rfl, yl, q'⟩⟩⟩
  · exact ⟨false, fun H5 Q' E' s5 q' => ⟨_, rfl, .inr ⟨hno.same s5, q' _ (Same.refl _)⟩⟩⟩
theorem ok_law (T : Top K mg) : FnOk P w K mg base CX0 3 (He.ga K "law") T.fd_law ["_law_script"] (sp_law K) := by
  have G__law_cell_at := ok__law_cell_at (P := P) (w := w) (base := base) T
  have G__law_names := ok__law_names (P := P) (w := w) (base := base) T
  have G__law_mixed := ok__law_mixed (P := P) (w := w) (base := base) T
  have G__law_changed := ok__law_changed (P := P) (w := w) (base := base) T
  have G_is_name := ok_is_name (P := P) (w := w) (base := base) T
  have G__law_is_name := ok__law_is_name (P := P) (w := w) (base := base) T
  refine T.F_law.ok sc_law (fun vs H Q E h => ?_) (fun cdv A outer s H vs Q E hr h => ?_)
  · obtain ⟨a, ns, rfl, _⟩ := h
    rfl
  · obtain ⟨a, ns, rfl, hS, q⟩ := h
    refine ⟨_, PSs.nox (pss_cons (ps_set (i := 1) sc_law.nd rfl (Or.inl rfl) (pe_call G__law_names (hr.mono (by decide)) (by rfl) T.g__law_names T.F__law_names.kp T.b__law_names .nil pass0 (pa_cons (pe_call G__law_cell_at (hr.mono (by decide)) (by rfl) T.g__law_cell_at T.F__law_cell_at.kp T.b__law_cell_at .nil pass0 (pa_cons (pv 0) (pa_cons pe_int pa_nil))) pa_nil)))
        (pss_cons (ps_for PassesOwn.never (by rfl) (pi_range1 (by rfl) T.m_range (pa_cons pe_int pa_nil)) (pg_name (i := 2) sc_law.nd rfl (Or.inl rfl)) (pss_cons (ps_set (i := 3) sc_law.nd rfl (Or.inl rfl) (pe_op op_add (pe_call G__law_cell_at (hr.mono (by decide)) (by rfl) T.g__law_cell_at T.F__law_cell_at.kp T.b__law_cell_at .nil pass0 (pa_cons (pv 0) (pa_cons (pe_op op_add pe_int (pv 2)) pa_nil))) (pe_op op_mul pe_int (pv 2))))
        (pss_cons (ps_set (i := 4) sc_law.nd rfl (Or.inl rfl) (pe_ix ix_list (pv 1) (pe_call G__law_mixed (hr.mono (by decide)) (by rfl) T.g__law_mixed T.F__law_mixed.kp T.b__law_mixed .nil pass0 (pa_cons (pv 3) (pa_cons pe_int (pa_cons pe_int pa_nil)))) (fun _ _ => rfl)))
        (pss_cons (ps_set (i := 5) sc_law.nd rfl (Or.inl rfl) (pv 4))
        (pss_cons (ps_if (pt_cmpR op_gt (pe_call G__law_mixed (hr.mono (by decide)) (by rfl) T.g__law_mixed T.F__law_mixed.kp T.b__law_mixed .nil pass0 (pa_cons (pv 3) (pa_cons pe_int (pa_cons pe_int pa_nil)))) pe_int (nomark _)) (pss_one (ps_set (i := 5) sc_law.nd rfl (Or.inl rfl) (pe_call G__law_changed (hr.mono (by decide)) (by rfl) T.g__law_changed T.F__law_changed.kp T.b__law_changed .nil pass0 (pa_cons (pv 4) (pa_cons (pv 3) pa_nil))))) pss_nil)
        (pss_cons (ps_set (i := 6) sc_law.nd rfl (Or.inl rfl) (pe_call G_is_name (hr.mono (by decide)) (by rfl) T.g_is_name T.F_is_name.kp T.b_is_name .nil pass0 (pa_cons (pv 5) pa_nil)))
        (pss_one (ps_if (PW.pt (pw_or (pt_not (pt_val (pe_callB call_isi (by rfl) T.m_isinstance (by decide +kernel) (pa_cons (pv 6) (pa_cons (pe_bltn (v := .ty "bool") (by rfl) T.m_bool (by decide +kernel) rfl) pa_nil))))) (pw_or (pt_cmpR op_ne (pv 6) (pe_call G__law_is_name (hr.mono (by decide)) (by rfl) T.g__law_is_name T.F__law_is_name.kp T.b__law_is_name .nil pass0 (pa_cons (pv 5) pa_nil)) (nomark _)) (pw_or1 (pt_cmpR op_notBl (pe_call G_is_name (hr.mono (by decide)) (by rfl) T.g_is_name T.F_is_name.kp T.b_is_name .nil pass0 (pa_cons (pv 4) pa_nil)) pe_bl (nomark _)))))) (pss_one (ps_ret pe_bl)) pss_nil))))))))
        (pss_one (ps_ret pe_bl)))), ?_⟩
    refine ⟨_, rfl, a, ns, 0, rfl, by decide, hS, _, rfl, fun H1 L nm s1 nL eL hn => ?_⟩
    refine ⟨8, rfl, by decide, by decide, for_range (lo := 0) (n := 8) (fun i σ' H' => Same H1 H' ∧ ∃ x2 x3 x4 x5 x6, σ' = [some (.ref a), some (.ref L), x2, x3, x4, x5, x6]) ?_ ?_ ?_⟩
    · exact ⟨Same.refl _, none, none, none, none, none, rfl⟩
    · rintro i σ' H2 hi ⟨s2, x2, x3, x4, x5, x6, rfl⟩
      have s12 := s1.trans s2
      refine ⟨_, rfl, _, rfl, _, _, rfl, rfl, a, ns, 1 + (0 + (i : Int)), rfl, by omega, s12.seq hS, _, rfl, _, _, rfl, rfl, .inl ⟨by decide, by decide⟩, _, _, rfl, rfl, ?_⟩
      refine ⟨_, rfl, _, rfl, _, _, _, rfl, .inl ⟨_, rfl⟩, by decide, by decide, by decide, by decide, fun H3 j k3 _ j0 j1 => ?_⟩
      have s3 := kp_int k3
      obtain ⟨u, hu, e⟩ := at_list (ns := nm.map V.str) j0 (by rw [List.length_map, hn.len]; exact j1)
      obtain ⟨z, hz, rfl⟩ := List.mem_map.mp hu
      have nz := hn.nm z hz
      refine ⟨L, _, j, _, rfl, rfl, .of (s3 _ _ (s2 _ _ eL)), e, ?_⟩
      refine ⟨_, rfl, ?_⟩
      dsimp only [gName]
      refine ifs_by (fun σ' H' => Same H3 H' ∧ ∃ (c : Int) (v : V), Thing K H' v ∧ σ' = [some (.ref a), some (.ref L), some (.int (0 + (i : Int))), some (.int c), some (.str z), some v, x6]) ?_ ?_
      · rintro σ' H4 ⟨s4, c, v, tv, rfl⟩
        have e1 : nmB z = true := nmB_ok.mpr nz
        obtain ⟨b, st⟩ := isn_use tv
        refine ⟨_, rfl, ?_⟩
        dsimp only [tNil, List.append_nil]
        refine st _ _ _ (Same.refl _) fun H6 s6 => ?_
        refine ⟨_, rfl, _, _, _, _, true, rfl, .ty _, .base (.bl b), kit_ty (by decide +kernel), true, rfl, ?_⟩
        refine ⟨_, rfl, _, rfl, ?_⟩
        dsimp only [tNil, List.append_nil]
        refine st _ _ _ s6 fun H7 s7 => ?_
        refine ⟨rfl, _, rfl, ?_⟩
        refine ifNF rfl ?_
        refine ⟨_, rfl, _, rfl, .inl ⟨z, rfl, by have := nz.hi; omega, fun H8 s8 => ?_⟩⟩
        refine ⟨_, _, rfl, rfl, _, rfl, ?_⟩
        refine ifNF e1 ?_
        exact ⟨s2.trans (s3.trans (s4.trans (s6.trans (s7.trans s8)))), _, _, _, _, _, rfl⟩
      · intro N hN
        refine ⟨_, rfl, _, _, _, rfl, .inl ⟨_, rfl⟩, by decide, by decide, by decide, by decide, fun H4 r k4 _ _ _ => ?_⟩
        have s4 := kp_int k4
        refine ⟨_, _, rfl, rfl, _, rfl, ite2 (fun _ => ?_) (fun _ => ?_)⟩
        · refine ⟨_, rfl, _, rfl, z, _, rfl, nz, fun H5 v s5 tv => ?_⟩
          exact hN _ _ ⟨s4.trans s5, _, v, tv, rfl⟩
        · refine hN _ _ ⟨s4, _, .str z, .inl ⟨z, rfl, by have := nz.hi; omega⟩, rfl⟩
    · rintro σ' H2 ⟨s2, x2, x3, x4, x5, x6, rfl⟩
      exact q _
end
def d_is_name : He.DefD := ⟨("is_name", none), "is_name", "is_name", defArgs s_is_name, defBody s_is_name, defScope s_is_name, [], []⟩
def d__law_cell_at : He.DefD := ⟨("_law_cell_at", none), "_law_cell_at", "_law_cell_at", defArgs s__law_cell_at, defBody s__law_cell_at, defScope s__law_cell_at, [], []⟩
def d__law_held : He.DefD := ⟨("_law_held", none), "_law_held", "_law_held", defArgs s__law_held, defBody s__law_held, defScope s__law_held, [], []⟩
def d__law_mixed : He.DefD := ⟨("_law_mixed", none), "_law_mixed", "_law_mixed", defArgs s__law_mixed, defBody s__law_mixed, defScope s__law_mixed, [], []⟩
def d__law_kept : He.DefD := ⟨("_law_kept", none), "_law_kept", "_law_kept", defArgs s__law_kept, defBody s__law_kept, defScope s__law_kept, [], []⟩
def d__law_letter : He.DefD := ⟨("_law_letter", none), "_law_letter", "_law_letter", defArgs s__law_letter, defBody s__law_letter, defScope s__law_letter, [], []⟩
def d__law_names : He.DefD := ⟨("_law_names", none), "_law_names", "_law_names", defArgs s__law_names, defBody s__law_names, defScope s__law_names, [], []⟩
def d__law_changed : He.DefD := ⟨("_law_changed", none), "_law_changed", "_law_changed", defArgs s__law_changed, defBody s__law_changed, defScope s__law_changed, [], []⟩
def d__law_is_name : He.DefD := ⟨("_law_is_name", none), "_law_is_name", "_law_is_name", defArgs s__law_is_name, defBody s__law_is_name, defScope s__law_is_name, [], []⟩
def d_law : He.DefD := ⟨("law", none), "law", "law", defArgs s_law, defBody s_law, defScope s_law, [], []⟩
def fn0 : List He.DefD := [d_is_name, d__law_cell_at, d__law_held, d__law_mixed, d__law_kept, d__law_letter, d__law_names, d__law_changed, d__law_is_name, d_law]
def fn : List He.DefD := fn0
def fa0 : List He.Fa := [.glo "is_name", .glo "_law_cell_at", .glo "_law_held", .glo "_law_mixed", .glo "_law_kept", .glo "_law_letter", .glo "_law_names", .glo "_law_changed", .glo "_law_is_name", .glo "law", .free "all", .free "bool", .free "isinstance", .free "len", .free "list", .free "range", .free "str", .str "LETTERS" ("abcdefghijklmnopqrstuvwxyz"), .int "MOST_LETTERS" (8), .glo "KEPT"]
def fa : List He.Fa := fa0
def exB (K : PySem.W.Frag) : Bool := He.tupB K "KEPT" [.str "number", .str "not", .str "at", .str "add", .str "sub", .str "mul", .str "div", .str "rem", .str "less", .str "same", .str "set", .str "put", .str "tell", .str "if", .str "else", .str "end", .str "while", .str "call", .str "fail", .str "give", .str "row", .str "helper", .str "main"]
abbrev hk : PySem.W.Hook := hookE 4 fa fn exB
def ob (s : PySem.W.SharedT) : He.AlD × Bool := obsE 4 fa fn exB (HandSHeadRun.getT s)
theorem ob_eq (s : PySem.W.SharedT) : ob s = hk.obs s.abs := obsE_eq (HandSHeadRun.getT_eq s)
abbrev R : PySem.W.OpenRow := PySem.W.OpenLaw.row PySem.Challenge.rw_passworks_k03_names
def lo0 : List PySem.Str := ["LETTERS", "MOST_LETTERS", "KEPT", "is_name", "_law_cell_at", "_law_held", "_law_mixed", "_law_kept", "_law_letter", "_law_names", "_law_changed", "_law_is_name"]
def lo : List PySem.Str := lo0
theorem run (w : World) : HandSHeadRun.RunEq R (PySem.W.view R.prog [14]) hk ob 4000 lo w := by
  intro os
  kernel_rfl
theorem top_of {K : PySem.W.Frag} {h : Heap} {mg : Str → Option Value} (X : K.In h) (G : h.Ns mainGlobals mg) (c : SaysE fa fn exB K) : Nonempty (Top K mg) := by
  obtain ⟨fd0, F0⟩ := c.1.def_ 0 (d := d_is_name) rfl
  obtain ⟨fd1, F1⟩ := c.1.def_ 1 (d := d__law_cell_at) rfl
  obtain ⟨fd2, F2⟩ := c.1.def_ 2 (d := d__law_held) rfl
  obtain ⟨fd3, F3⟩ := c.1.def_ 3 (d := d__law_mixed) rfl
  obtain ⟨fd4, F4⟩ := c.1.def_ 4 (d := d__law_kept) rfl
  obtain ⟨fd5, F5⟩ := c.1.def_ 5 (d := d__law_letter) rfl
  obtain ⟨fd6, F6⟩ := c.1.def_ 6 (d := d__law_names) rfl
  obtain ⟨fd7, F7⟩ := c.1.def_ 7 (d := d__law_changed) rfl
  obtain ⟨fd8, F8⟩ := c.1.def_ 8 (d := d__law_is_name) rfl
  obtain ⟨fd9, F9⟩ := c.1.def_ 9 (d := d_law) rfl
  obtain ⟨tk_LETTERS, ck_LETTERS⟩ := He.str_ok X G (c.1.fact 17 (f := .str "LETTERS" ("abcdefghijklmnopqrstuvwxyz")) rfl)
  obtain ⟨tk_MOST_LETTERS, ck_MOST_LETTERS⟩ := He.int_ok X G (c.1.fact 18 (f := .int "MOST_LETTERS" (8)) rfl)
  have hx := c.2
  have hx0 : (He.tupB K "KEPT" [.str "number", .str "not", .str "at", .str "add", .str "sub", .str "mul", .str "div", .str "rem", .str "less", .str "same", .str "set", .str "put", .str "tell", .str "if", .str "else", .str "end", .str "while", .str "call", .str "fail", .str "give", .str "row", .str "helper", .str "main"]) = true := hx
  exact ⟨{ fd_is_name := fd0, F_is_name := F0, b_is_name := FunD.bindsN F0 fun _ _ _ _ _ _ us hl => (match us, hl with | [_], _ => rfl), g_is_name := He.glo_ok X G (c.1.fact 0 (f := .glo "is_name") rfl), fd__law_cell_at := fd1, F__law_cell_at := F1, b__law_cell_at := FunD.bindsN F1 fun _ _ _ _ _ _ us hl => (match us, hl with | [_, _], _ => rfl), g__law_cell_at := He.glo_ok X G (c.1.fact 1 (f := .glo "_law_cell_at") rfl), fd__law_held := fd2, F__law_held := F2, b__law_held := FunD.bindsN F2 fun _ _ _ _ _ _ us hl => (match us, hl with | [_], _ => rfl), g__law_held := He.glo_ok X G (c.1.fact 2 (f := .glo "_law_held") rfl), fd__law_mixed := fd3, F__law_mixed := F3, b__law_mixed := FunD.bindsN F3 fun _ _ _ _ _ _ us hl => (match us, hl with | [_, _, _], _ => rfl), g__law_mixed := He.glo_ok X G (c.1.fact 3 (f := .glo "_law_mixed") rfl), fd__law_kept := fd4, F__law_kept := F4, b__law_kept := FunD.bindsN F4 fun _ _ _ _ _ _ us hl => (match us, hl with | [], _ => rfl), g__law_kept := He.glo_ok X G (c.1.fact 4 (f := .glo "_law_kept") rfl), fd__law_letter := fd5, F__law_letter := F5, b__law_letter := FunD.bindsN F5 fun _ _ _ _ _ _ us hl => (match us, hl with | [_], _ => rfl), g__law_letter := He.glo_ok X G (c.1.fact 5 (f := .glo "_law_letter") rfl), fd__law_names := fd6, F__law_names := F6, b__law_names := FunD.bindsN F6 fun _ _ _ _ _ _ us hl => (match us, hl with | [_], _ => rfl), g__law_names := He.glo_ok X G (c.1.fact 6 (f := .glo "_law_names") rfl), fd__law_changed := fd7, F__law_changed := F7, b__law_changed := FunD.bindsN F7 fun _ _ _ _ _ _ us hl => (match us, hl with | [_, _], _ => rfl), g__law_changed := He.glo_ok X G (c.1.fact 7 (f := .glo "_law_changed") rfl), fd__law_is_name := fd8, F__law_is_name := F8, b__law_is_name := FunD.bindsN F8 fun _ _ _ _ _ _ us hl => (match us, hl with | [_], _ => rfl), g__law_is_name := He.glo_ok X G (c.1.fact 8 (f := .glo "_law_is_name") rfl), fd_law := fd9, F_law := F9, b_law := FunD.bindsN F9 fun _ _ _ _ _ _ us hl => (match us, hl with | [_], _ => rfl), g_law := He.glo_ok X G (c.1.fact 9 (f := .glo "law") rfl), m_all := He.free_ok X G (c.1.fact 10 (f := .free "all") rfl), m_bool := He.free_ok X G (c.1.fact 11 (f := .free "bool") rfl), m_isinstance := He.free_ok X G (c.1.fact 12 (f := .free "isinstance") rfl), m_len := He.free_ok X G (c.1.fact 13 (f := .free "len") rfl), m_list := He.free_ok X G (c.1.fact 14 (f := .free "list") rfl), m_range := He.free_ok X G (c.1.fact 15 (f := .free "range") rfl), m_str := He.free_ok X G (c.1.fact 16 (f := .free "str") rfl), t_LETTERS := tk_LETTERS, c_LETTERS := ck_LETTERS, t_MOST_LETTERS := tk_MOST_LETTERS, c_MOST_LETTERS := ck_MOST_LETTERS, c_KEPT := He.glo_ok X G (c.1.fact 19 (f := .glo "KEPT") rfl), q_KEPT := He.tupB_ok hx0 }⟩

end K03
open PySem PySem.W PySem.Calls PyProof.Rows
theorem PySem.Challenge.cw_passworks_k03_names_holds : PySem.Challenge.rw_passworks_k03_names.Holds := by
  w_on; o_law
  refine HandSHeadRun.head_any (r := OpenLaw.row PySem.Challenge.rw_passworks_k03_names) (q := view (OpenLaw.row PySem.Challenge.rw_passworks_k03_names).prog [14]) (H := K03.hk) (ob := K03.ob) (M := 4000) (loose := K03.lo) (d := HandSHeadRun.topDef (OpenLaw.row PySem.Challenge.rw_passworks_k03_names).prog 14) (kwd := []) K03.ob_eq
    (by kernel_rfl) (fun s => by kernel_rfl) K03.run (by kernel_rfl) (by kernel_rfl) (by kernel_rfl) (by rfl) (by first | assumption | decide +kernel) (by decide +kernel) ⟨rfl, rfl, rfl, rfl, rfl, by decide +kernel⟩ ?hw ?hc
  case hw => w_witness2
  case hc =>
    refine K03.walk_bits (l := PySem.Challenge.rw_passworks_k03_names) (n := 63) (k := 3) (x := "_law_script") (CX := L2.CX0) rfl (by decide) (by kernel_rfl) ⟨rfl, by decide, by decide⟩ ?F (fun _ _ _ _ z => z)
    intro w mg fa h Y G hmg0
    obtain ⟨K, KX, c⟩ := Y
    have hmg : mg ("law" : PySem.Str) = some (.ref fa) := by
      have e : (HandSHeadRun.topDef (OpenLaw.row PySem.Challenge.rw_passworks_k03_names).prog 14).name = ("law" : PySem.Str) := by kernel_rfl
      rw [← e]
      exact hmg0
    obtain ⟨T⟩ := K03.top_of KX G c
    obtain rfl : He.ga K "law" = fa := by
      have e := T.g_law.symm.trans hmg
      injection e with e
      injection e
    have b := L2.FunD.bindsA (ps := ["_law_script"]) T.F_law fun _ _ _ _ _ _ us hl => match us, hl with | [_], _ => rfl
    exact ⟨K, T.fd_law, K03.sp_law K, KX, fun s v => b s [v] rfl, fun H a ns hl hb _ hS => K03.law_start hl hb hS, fun base _ _ => K03.ok_law T⟩

