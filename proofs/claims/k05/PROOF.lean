import PyProof.Rows.All
import Wide.All
import OpenK.AllK
import Wide.FinOn
import KE.KStateDown
import KE.KRevSl
import Lean
import HandS.ForMost
import HandS.Wide
import HandS.IsInst
import HandS.Flow
import HandS.Style
import HandS.FStr
import HandS.RaiseMore
import HandS.TupAny
import HandS.Defaults
import HandS.EndBits
import HandS.Head0
import HandS.Head1
import HandS.Head2
import HandS.HeadEnd
import HandS.HeadHook1
import HandS.HeadHook2
import PySem.Challenge.RW_passworks_k05_written
set_option Elab.async false
set_option linter.all false
set_option maxRecDepth 100000
set_option maxHeartbeats 4000000
namespace K05
/-! what the head shows: defs, facts by names, one more Bool -/
open PySem PySem.Spec PyProof.Rows L2
def obsE (n : Nat) (fa : List He.Fa) (fn : List He.DefD) (ex : PySem.W.Frag → Bool) (g : Addr → Option Obj) : He.AlD × Bool :=
  (He.obsD fa fn (He.frG g (He.asD g n)), ex (He.frG g (He.asD g n)))
def SaysE (fa : List He.Fa) (fn : List He.DefD) (ex : PySem.W.Frag → Bool) (K : PySem.W.Frag) : Prop := He.SaysD fa fn K ∧ ex K = true
def hookE (n : Nat) (fa : List He.Fa) (fn : List He.DefD) (ex : PySem.W.Frag → Bool) : PySem.W.Hook where
  α := He.AlD × Bool
  obs := fun s => obsE n fa fn ex s.heap.get?
  val := fun _ => (He.valD fn, true)
  says := fun _ h => ∃ K : PySem.W.Frag, K.In h ∧ SaysE fa fn ex K
  of := fun _ _ z => ⟨_, He.frG_in, congrArg Prod.fst z, congrArg Prod.snd z⟩
  keeps := fun _ _ _ ⟨K, a, c⟩ k => ⟨K, a.keeps k, c⟩
theorem obsE_eq {n : Nat} {fa : List He.Fa} {fn : List He.DefD} {ex : PySem.W.Frag → Bool} {g : Addr → Option Obj} {s : Shared} (z : ∀ a, g a = s.heap.get? a) :
    obsE n fa fn ex g = (hookE n fa fn ex).obs s := by
  obtain rfl : g = s.heap.get? := funext z
  rfl
/-- a law's end, the bits of the script's numbers told -/
theorem walk_bits {l : PySem.W.OpenLaw} {n k : Nat} {q : Program} {loose : List Str} {XP : (Str → Option Value) → Heap → Prop} {YP : World → Heap → Prop} {d : DefRec} {CX : CXT} {x : Str}
    (hn : l.most = some n) (hn2 : n ≤ sizeLine) (hdf : d.params.defaults = []) (hr : Room k callerA)
    (F : ∀ (w : World) (mg : Str → Option Value) (fa : Addr) (h : Heap), YP w h → h.Ns mainGlobals mg → mg d.name = some (.ref fa) →
      ∃ (K : PySem.W.Frag) (fd : FuncData) (sp : Sp), K.In h ∧ (∀ (s : Shared) (u : Value), BindsTo s fd ⟨[u], []⟩ [(x, u)]) ∧
        (∀ (H : Hp) (a : Addr) (ns : List Int), ns.length ≤ n → (∀ z ∈ ns, Builtin.Int.intBits z ≤ 1048576) → Only H → SqL K H a (ns.map V.int) →
          sp [.ref a] H (fun v _ => v = .bl true) fun _ _ _ => False) ∧
        ∀ base : Heap, K.In base → base.Ns mainGlobals mg → FnOk l.prog w K mg base CX k fa fd [x] sp)
    (hCX : ∀ (H : Hp) (s : Shared) (e : Value) (s' : Shared), CX [] H s (fun _ _ _ => False) e s' → False) :
    PySem.W.WalkO q loose XP YP l.row.toRowW d [] (fun f vs => PySem.call f vs) := by
  apply Att.attach_callB hn hdf
  intro w s0 s1 mg mb fa o pm cd doc a vs ns G Y ho hd hcd hmg hobj hints hlen hbits hg
  obtain ⟨K, fd, sp, KX, hb, hsp, hF⟩ := F w mg fa _ Y G.T.g hmg
  exact law_call KX G.T.g G.T.b G.T.builtins G.T.nolimit hg hobj hints (Nat.le_trans hlen hn2) hr hF hb (fun H z1 z2 => hsp H a ns hlen hbits z1 z2)
    (fun H e s' => hCX H s1 e s')
/-! heaps -/
theorem same_new {H : Hp} {p : Addr} {o : HO} (z : H p = none) : Same H (upd H p o) := by
  intro b x e
  rw [upd_ne (ne_of_none e z)]
  exact e
theorem at_ints {ns : List Int} {i : Int} (h0 : 0 ≤ i) (h1 : i < ns.length) : atI (ns.map V.int) i = some (.int (ns.getD i.toNat 0)) := by
  obtain ⟨j, rfl⟩ := Int.eq_ofNat_of_zero_le h0
  have hj : j < ns.length := by omega
  refine atI_nat ?_
  rw [List.getElem?_map, List.getElem?_eq_getElem hj]
  simp [List.getD, hj]
/-- what stands behind a statement, once for all its ways -/
theorem seq_by {t u : TS} {D : Ends} {σ : L2.St} {H : Hp} (Pv : L2.St → Hp → Prop) (fin : ∀ σ' H', Pv σ' H' → u D σ' H')
    (first : ∀ N : L2.St → Hp → Prop, (∀ σ' H', Pv σ' H' → N σ' H') → t { D with nx := N } σ H) : tSeq t u D σ H := first _ fin
theorem ifs_by {c : TT} {t1 t2 u : TS} {D : Ends} {σ : L2.St} {H : Hp} (Pv : L2.St → Hp → Prop) (fin : ∀ σ' H', Pv σ' H' → u D σ' H')
    (first : ∀ N : L2.St → Hp → Prop, (∀ σ' H', Pv σ' H' → N σ' H') → tIfS c t1 t2 { D with nx := N } σ H) : tSeq (tIfS c t1 t2) u D σ H := first _ fin
theorem ifD {c A B : Prop} [Decidable c] (hc : c) (h : A) : if decide c = true then A else B := by
  rw [if_pos (decide_eq_true hc)]
  exact h
theorem ifN {c A B : Prop} [Decidable c] (hc : ¬ c) (h : B) : if decide c = true then A else B := by
  rw [if_neg (by rw [decide_eq_true_eq]; exact hc)]
  exact h
theorem blD {c : Prop} [Decidable c] {Q : VK} {H : Hp} (hc : c) (h : Q (.bl true) H) : Q (.bl (decide c)) H := by
  rw [decide_eq_true hc]
  exact h
theorem blN {c : Prop} [Decidable c] {Q : VK} {H : Hp} (hc : ¬ c) (h : Q (.bl false) H) : Q (.bl (decide c)) H := by
  rw [decide_eq_false hc]
  exact h
theorem getD_all {α : Type} {Pr : α → Prop} {ns : List α} {d : α} (h : ∀ x ∈ ns, Pr x) {j : Int} (h0 : 0 ≤ j) (h1 : j < ns.length) : Pr (ns.getD j.toNat d) := by
  have hi : j.toNat < ns.length := by omega
  have e : ns.getD j.toNat d = ns[j.toNat]'hi := by simp [List.getD, hi]
  rw [e]
  exact h _ (List.getElem_mem _)
theorem ifNF {c A B : Prop} [Decidable c] (hc : c) (h : B) : if (!decide c) = true then A else B := by
  rw [decide_eq_true hc]
  exact h
theorem ifNT {c A B : Prop} [Decidable c] (hc : ¬ c) (h : A) : if (!decide c) = true then A else B := by
  rw [decide_eq_false hc]
  exact h
theorem at_list {α : Type} {ns : List α} {i : Int} (h0 : 0 ≤ i) (h1 : i < ns.length) : ∃ x ∈ ns, atI ns i = some x := by
  obtain ⟨j, rfl⟩ := Int.eq_ofNat_of_zero_le h0
  have hj : j < ns.length := by omega
  exact ⟨ns[j], List.getElem_mem _, atI_nat (List.getElem?_eq_getElem hj)⟩
theorem ite_share {c A R : Prop} [Decidable c] (leaf : A) (rest : ¬ c → A → R) : if c then A else R := by
  split
  · exact leaf
  · exact rest (by assumption) leaf
theorem ite_else {c A R : Prop} [Decidable c] (leaf : R) (rest : c → R → A) : if c then A else R := by
  split
  · exact rest (by assumption) leaf
  · exact leaf

/-! what is kept: all but the mutable things of a set -/
def Kp (S : Addr → Prop) (H H' : Hp) : Prop := ∀ b o, H b = some o → (S b → ¬ Mut (some o)) → H' b = some o
theorem Kp.refl {S : Addr → Prop} {H : Hp} : Kp S H H := fun _ _ h _ => h
theorem Kp.trans {S : Addr → Prop} {H H1 H2 : Hp} (a : Kp S H H1) (b : Kp S H1 H2) : Kp S H H2 := fun c o h k => b c o (a c o h k) k
theorem Kp.mono {S S' : Addr → Prop} {H H' : Hp} (a : Kp S H H') (h : ∀ b, S b → S' b) : Kp S' H H' := fun c o e k => a c o e fun z => k (h c z)
theorem Kp.of_same {S : Addr → Prop} {H H' : Hp} (a : Same H H') : Kp S H H' := fun c o e _ => a c o e
theorem Kp.same {S : Addr → Prop} {H H1 H2 : Hp} (a : Same H H1) (b : Kp S H1 H2) (h : ∀ b, S b → H b = none) : Same H H2 := fun c o e => b c o (a c o e) fun z => by
  rw [h c z] at e
  cases e
theorem Kp.upd {S : Addr → Prop} {H : Hp} {p : Addr} {o u : HO} (h : H p = some o) (m : Mut (some o)) (hp : S p) : Kp S H (upd H p u) := fun c x e k => by
  by_cases z : c = p
  · subst z
    rw [h] at e
    cases e
    exact absurd m (k hp)
  · rw [upd_ne z]
    exact e
/-- the script: read, never written -/
def Scr (K : PySem.W.Frag) (H : Hp) (a : Addr) (xs : List V) : Prop := SqL K H a xs ∧ ¬ Mut (H a)
theorem Scr.kp {K : PySem.W.Frag} {S : Addr → Prop} {H H' : Hp} {a : Addr} {xs : List V} (h : Scr K H a xs) (k : Kp S H H') : SqL K H' a xs := by
  obtain ⟨h1, h2⟩ := h
  rcases h1 with (e | ⟨o, e⟩) | e
  · rw [e] at h2
    exact absurd trivial h2
  · exact .inl (.inr ⟨o, k _ _ e fun _ => by rw [← e]; exact h2⟩)
  · exact .inr e
/-! an own rule: a text some times over -/
section
variable {X : Cx}
theorem op_rep_str : OpR X (binaryOp .Mult) (fun x y H Q => ∃ (z : Str) (n : Int), x = .str z ∧ y = .int n ∧ 0 < z.length ∧ z.length ≤ 1000 ∧ 2 ≤ n ∧ n ≤ 1000 ∧ ∀ u : Str, u.length = n.toNat * z.length → Q (.str u) H) := by
  intro pins s σ H x y v u Q I rx ry h
  obtain ⟨z, n, rfl, rfl, z0, z1, n0, n1, q⟩ := h
  obtain ⟨t, rfl⟩ := rx
  obtain ⟨t', rfl⟩ := ry
  have hn : ¬ n < 1 := by omega
  have hq : (n == 1 || z.length == 0) = false := by
    rw [Bool.or_eq_false_iff]
    exact ⟨beq_eq_false_iff_ne.mpr (by omega), beq_eq_false_iff_ne.mpr (by omega)⟩
  have le : ∀ (k : Nat) (acc : Array Nat), ((List.replicate k z.cps).foldl (· ++ ·) acc).size = acc.size + k * z.length := by
    intro k
    induction k with
    | zero => intro acc; simp
    | succ k ih =>
      intro acc
      rw [List.replicate_succ, List.foldl_cons, ih, Array.size_append]
      show acc.size + z.length + k * z.length = acc.size + (k + 1) * z.length
      rw [Nat.add_mul]
      omega
  have l2 : (⟨(List.replicate n.toNat z.cps).foldl (· ++ ·) #[]⟩ : Str).length = n.toNat * z.length := by
    show ((List.replicate n.toNat z.cps).foldl (· ++ ·) #[]).size = _
    rw [le]
    simp
  have mm : z.length * n.toNat ≤ 1000 * 1000 := Nat.mul_le_mul z1 (by omega)
  have tl : Builtin.Str.tooLong (z.length * n.toNat) = false := by
    unfold Builtin.Str.tooLong
    rw [sizeLine_eq]
    exact decide_eq_false (by omega)
  refine PySem.P.mul_str ?_ (fun _ _ => ?_) (fun _ _ => tl) ?_
  · rw [decide_eq_false (by omega), decide_eq_false (by omega)]
    rfl
  · have : (1000 : Int) * n ≤ 2 ^ 63 - 1 := by omega
    have h3 : (1000 : Int) ≤ (2 ^ 63 - 1) / n := (Int.le_ediv_iff_mul_le (by omega)).mpr this
    omega
  · rw [if_neg hn, hq]
    exact ⟨by rw [l2, Nat.mul_comm, sizeLine_eq]; omega, .str _, H, I.tok _, ⟨_, rfl⟩, q _ l2⟩
end
/-- a comprehension over a text's signs -/
theorem lc_str {x : Str} {g : TG} {tt : TT} {te : TE} {vs : List Nat} {σ : L2.St} {H1 : Hp} {D : Addr} {Qd : Hp → Prop} (Pv : Nat → Hp → Prop) (h0 : Pv 0 (upd H1 D (.lst [])))
    (hs : ∀ i c H, x.cps.toList[i]? = some c → Pv i H → g (.str ⟨#[c]⟩) (wipe σ vs) H fun σ2 H2 => wipe σ2 vs = wipe σ vs ∧ tt σ2 H2 fun b H3 =>
      if b = true then te σ2 H3 fun y H4 => ∃ acc, H4 D = some (.lst acc) ∧ acc.length < sizeLine ∧ Pv (i + 1) (upd H4 D (.lst (acc ++ [y]))) else Pv (i + 1) H3) (hd : ∀ H, Pv x.cps.toList.length H → Qd H) :
    ∃ W : Nat → Nat → Hp → Prop, (∃ m, W 0 m (upd H1 D (.lst []))) ∧ ∀ i m H, W i m H →
      ((Its x).stop i H ∧ Qd H) ∨ ((Its x).go i H ∧ ∃ Nx : Hp → Prop, (∀ H', Nx H' → ∃ m', m' < m ∧ W (i + 1) m' H') ∧ ∀ y H', (Its x).yld i H y H' → g y (wipe σ vs) H' fun σ2 H2 => wipe σ2 vs = wipe σ vs ∧ tt σ2 H2 fun b H3 =>
        if b = true then te σ2 H3 fun y H4 => ∃ acc, H4 D = some (.lst acc) ∧ acc.length < sizeLine ∧ Nx (upd H4 D (.lst (acc ++ [y]))) else Nx H3) := by
  have hl : x.cps.toList.length = x.cps.size := by simp
  refine ⟨fun i m H => m = x.cps.size - i ∧ i ≤ x.cps.size ∧ Pv i H, ⟨x.cps.size, by simp, Nat.zero_le _, h0⟩, ?_⟩
  rintro i m H ⟨rfl, hi, p⟩
  by_cases hlt : i < x.cps.size
  · refine .inr ⟨hlt, Pv (i + 1), fun H' p' => ⟨x.cps.size - (i + 1), by omega, rfl, hlt, p'⟩, fun y H' hy => ?_⟩
    obtain ⟨rfl, c, hc, rfl⟩ := hy
    exact hs i c H' (by rw [Array.getElem?_toList]; exact hc) p
  · refine .inl ⟨Nat.le_of_not_lt hlt, hd H ?_⟩
    rw [hl, show x.cps.size = i by omega]
    exact p
section
variable {X : Cx}
theorem call_str_any : CallR X (.type "str") (fun xs H Q => (∃ i : Int, xs = [.int i] ∧ i.natAbs.log2 < 1920 ∧ Q (.str (toString i)) H) ∨ ∃ a : Str, xs = [.str a] ∧ Q (.str a) H) := by
  intro pins s σ H xs us Q I r h
  rcases h with h | h
  · exact call_str_int pins s σ H xs us Q I r h
  · exact SkE.call_str_str pins s σ H xs us Q I r h
end

/-! rules for use within a comprehension: the written part named -/
section
variable {X : Cx} {K : PySem.W.Frag}
theorem ix_listK (h : X.K = K) : IxR X (rIxL K) := by subst h; exact ix_list
theorem ix_tupK (h : X.K = K) : IxR X (rIxT K) := by subst h; exact ix_tup
theorem op_in_seqK (h : X.K = K) : OpR X (compareOp .In) (rIn K false) := by subst h; exact op_in_seq
theorem op_notIn_seqK (h : X.K = K) : OpR X (compareOp .NotIn) (rIn K true) := by subst h; exact op_notIn_seq
theorem call_isiK (h : X.K = K) : CallR X (.builtin "isinstance") (rIsi K) := by subst h; exact call_isi
theorem call_len_seqK (h : X.K = K) : CallR X (.builtin "len") (fun xs H Q => ∃ p ys, xs = [.ref p] ∧ (SqL K H p ys ∨ SqT K H p ys) ∧ Q (.int ys.length) H) := by subst h; exact call_len_seq
end

def topS (i : Nat) : Stmt := PySem.Challenge.pw_passworks_k05_written.main.body.getD i (.Pass ⟨0, 0, 0, 0⟩)
abbrev s_words_of : Stmt := topS 1
abbrev N_words_of : List Str := ["e", "words", "one"]
theorem sc_words_of : FnScope N_words_of ["e"] (defScope s_words_of) := ⟨rfl, rfl, rfl, by decide +kernel, rfl, by decide +kernel, by decide +kernel⟩
abbrev s_plain_words : Stmt := topS 2
abbrev N_plain_words : List Str := ["statement", "word", "words", "one"]
theorem sc_plain_words : FnScope N_plain_words ["statement"] (defScope s_plain_words) := ⟨rfl, rfl, rfl, by decide +kernel, rfl, by decide +kernel, by decide +kernel⟩
abbrev s_body_lines : Stmt := topS 3
abbrev N_body_lines : List Str := ["body", "lines", "statement"]
theorem sc_body_lines : FnScope N_body_lines ["body"] (defScope s_body_lines) := ⟨rfl, rfl, rfl, by decide +kernel, rfl, by decide +kernel, by decide +kernel⟩
abbrev s_written : Stmt := topS 4
abbrev N_written : List Str := ["program", "lines", "name", "params", "body", "size", "line"]
theorem sc_written : FnScope N_written ["program"] (defScope s_written) := ⟨rfl, rfl, rfl, by decide +kernel, rfl, by decide +kernel, by decide +kernel⟩
abbrev s__law_cell_at : Stmt := topS 6
abbrev N__law_cell_at : List Str := ["_law_script", "_law_k"]
theorem sc__law_cell_at : FnScope N__law_cell_at ["_law_script", "_law_k"] (defScope s__law_cell_at) := ⟨rfl, rfl, rfl, by decide +kernel, rfl, by decide +kernel, by decide +kernel⟩
abbrev s__law_held : Stmt := topS 7
abbrev N__law_held : List Str := ["_law_cell"]
theorem sc__law_held : FnScope N__law_held ["_law_cell"] (defScope s__law_held) := ⟨rfl, rfl, rfl, by decide +kernel, rfl, by decide +kernel, by decide +kernel⟩
abbrev s__law_mixed : Stmt := topS 8
abbrev N__law_mixed : List Str := ["_law_cell", "_law_k", "_law_many", "_law_left", "_law_some", "_law_made"]
theorem sc__law_mixed : FnScope N__law_mixed ["_law_cell", "_law_k", "_law_many"] (defScope s__law_mixed) := ⟨rfl, rfl, rfl, by decide +kernel, rfl, by decide +kernel, by decide +kernel⟩
abbrev s__law_kept : Stmt := topS 9
abbrev N__law_kept : List Str := ["_law_words"]
theorem sc__law_kept : FnScope N__law_kept [] (defScope s__law_kept) := ⟨rfl, rfl, rfl, by decide +kernel, rfl, by decide +kernel, by decide +kernel⟩
abbrev s__law_letter : Stmt := topS 10
abbrev N__law_letter : List Str := ["_law_k"]
theorem sc__law_letter : FnScope N__law_letter ["_law_k"] (defScope s__law_letter) := ⟨rfl, rfl, rfl, by decide +kernel, rfl, by decide +kernel, by decide +kernel⟩
abbrev s__law_names : Stmt := topS 11
abbrev N__law_names : List Str := ["_law_cell", "_law_near", "_law_at", "_law_root", "_law_names_here", "_law_start", "_law_k", "_law_letter_here", "_law_name", "_law_j"]
theorem sc__law_names : FnScope N__law_names ["_law_cell"] (defScope s__law_names) := ⟨rfl, rfl, rfl, by decide +kernel, rfl, by decide +kernel, by decide +kernel⟩
abbrev s__law_number_by : Stmt := topS 12
abbrev N__law_number_by : List Str := ["_law_cell", "_law_k", "_law_some"]
theorem sc__law_number_by : FnScope N__law_number_by ["_law_cell", "_law_k"] (defScope s__law_number_by) := ⟨rfl, rfl, rfl, by decide +kernel, rfl, by decide +kernel, by decide +kernel⟩
abbrev s__law_within : Stmt := topS 13
abbrev N__law_within : List Str := ["_law_cell", "_law_k"]
theorem sc__law_within : FnScope N__law_within ["_law_cell", "_law_k"] (defScope s__law_within) := ⟨rfl, rfl, rfl, by decide +kernel, rfl, by decide +kernel, by decide +kernel⟩
abbrev s__law_expression : Stmt := topS 14
abbrev N__law_expression : List Str := ["_law_cell", "_law_deep", "_law_info", "_law_names_here", "_law_rows", "_law_kind", "_law_one", "_law_word", "_law_other"]
theorem sc__law_expression : FnScope N__law_expression ["_law_cell", "_law_deep", "_law_info"] (defScope s__law_expression) := ⟨rfl, rfl, rfl, by decide +kernel, rfl, by decide +kernel, by decide +kernel⟩
abbrev s__law_expressions : Stmt := topS 15
abbrev N__law_expressions : List Str := ["_law_cell", "_law_many", "_law_info", "_law_k"]
theorem sc__law_expressions : FnScope N__law_expressions ["_law_cell", "_law_many", "_law_info"] (defScope s__law_expressions) := ⟨rfl, rfl, rfl, by decide +kernel, rfl, by decide +kernel, by decide +kernel⟩
abbrev s__law_plain : Stmt := topS 16
abbrev N__law_plain : List Str := ["_law_cell", "_law_info", "_law_names_here", "_law_rows", "_law_heads", "_law_word", "_law_es", "_law_x", "_law_place", "_law_head"]
theorem sc__law_plain : FnScope N__law_plain ["_law_cell", "_law_info"] (defScope s__law_plain) := ⟨rfl, rfl, rfl, by decide +kernel, rfl, by decide +kernel, by decide +kernel⟩
abbrev s__law_nest : Stmt := topS 17
abbrev N__law_nest : List Str := ["_law_cell", "_law_way", "_law_cells", "_law_deep", "_law_info", "_law_asked", "_law_yes", "_law_no", "_law_first", "_law_x"]
theorem sc__law_nest : FnScope N__law_nest ["_law_cell", "_law_way", "_law_cells", "_law_deep", "_law_info"] (defScope s__law_nest) := ⟨rfl, rfl, rfl, by decide +kernel, rfl, by decide +kernel, by decide +kernel⟩
abbrev s__law_body : Stmt := topS 18
abbrev N__law_body : List Str := ["_law_cells", "_law_deep", "_law_info", "_law_found", "_law_cell", "_law_way"]
theorem sc__law_body : FnScope N__law_body ["_law_cells", "_law_deep", "_law_info"] (defScope s__law_body) := ⟨rfl, rfl, rfl, by decide +kernel, rfl, by decide +kernel, by decide +kernel⟩
abbrev s__law_inner_cell : Stmt := topS 19
abbrev N__law_inner_cell : List Str := ["_law_script", "_law_first", "_law_k", "_law_j", "_law_late"]
theorem sc__law_inner_cell : FnScope N__law_inner_cell ["_law_script", "_law_first", "_law_k", "_law_j"] (defScope s__law_inner_cell) := ⟨rfl, rfl, rfl, by decide +kernel, rfl, by decide +kernel, by decide +kernel⟩
abbrev s__law_program : Stmt := topS 20
abbrev N__law_program : List Str := ["_law_script", "_law_first", "_law_cell", "_law_names_here", "_law_head", "_law_most", "_law_rows", "_law_helpers", "_law_heads", "_law_k", "_law_own", "_law_params", "_law_cells", "_law_variables", "_law_name", "_law_info", "_law_j", "_law_row"]
theorem sc__law_program : FnScope N__law_program ["_law_script", "_law_first"] (defScope s__law_program) := ⟨rfl, rfl, rfl, by decide +kernel, rfl, by decide +kernel, by decide +kernel⟩
abbrev s__law_words_of : Stmt := topS 21
abbrev N__law_words_of : List Str := ["_law_e", "_law_words", "_law_one"]
theorem sc__law_words_of : FnScope N__law_words_of ["_law_e"] (defScope s__law_words_of) := ⟨rfl, rfl, rfl, by decide +kernel, rfl, by decide +kernel, by decide +kernel⟩
abbrev s__law_statement_lines : Stmt := topS 22
abbrev N__law_statement_lines : List Str := ["_law_s", "_law_words", "_law_part", "_law_e", "_law_lines_here", "_law_one"]
theorem sc__law_statement_lines : FnScope N__law_statement_lines ["_law_s"] (defScope s__law_statement_lines) := ⟨rfl, rfl, rfl, by decide +kernel, rfl, by decide +kernel, by decide +kernel⟩
abbrev s__law_lines : Stmt := topS 23
abbrev N__law_lines : List Str := ["_law_program_here", "_law_lines_here", "_law_name", "_law_params", "_law_body_here", "_law_one", "_law_size"]
theorem sc__law_lines : FnScope N__law_lines ["_law_program_here"] (defScope s__law_lines) := ⟨rfl, rfl, rfl, by decide +kernel, rfl, by decide +kernel, by decide +kernel⟩
abbrev s_law : Stmt := topS 24
abbrev N_law : List Str := ["_law_script", "_law_program_here", "_law_kept_here", "_law_due", "_law_found", "_law_small", "_law_line"]
theorem sc_law : FnScope N_law ["_law_script"] (defScope s_law) := ⟨rfl, rfl, rfl, by decide +kernel, rfl, by decide +kernel, by decide +kernel⟩
abbrev FnP (K : PySem.W.Frag) (x : Str) (st : Stmt) (f : Addr) (fd : FuncData) : Prop := FunD K x x (defArgs st) (defBody st) (defScope st) [] [] f fd
structure Top (K : PySem.W.Frag) (mg : Str → Option Value) where
  fd_words_of : FuncData
  F_words_of : FnP K "words_of" s_words_of (He.ga K "words_of") fd_words_of
  b_words_of : Binds K fd_words_of ["e"] []
  g_words_of : mg "words_of" = some (.ref (He.ga K "words_of"))
  fd_plain_words : FuncData
  F_plain_words : FnP K "plain_words" s_plain_words (He.ga K "plain_words") fd_plain_words
  b_plain_words : Binds K fd_plain_words ["statement"] []
  g_plain_words : mg "plain_words" = some (.ref (He.ga K "plain_words"))
  fd_body_lines : FuncData
  F_body_lines : FnP K "body_lines" s_body_lines (He.ga K "body_lines") fd_body_lines
  b_body_lines : Binds K fd_body_lines ["body"] []
  g_body_lines : mg "body_lines" = some (.ref (He.ga K "body_lines"))
  fd_written : FuncData
  F_written : FnP K "written" s_written (He.ga K "written") fd_written
  b_written : Binds K fd_written ["program"] []
  g_written : mg "written" = some (.ref (He.ga K "written"))
  fd__law_cell_at : FuncData
  F__law_cell_at : FnP K "_law_cell_at" s__law_cell_at (He.ga K "_law_cell_at") fd__law_cell_at
  b__law_cell_at : Binds K fd__law_cell_at ["_law_script", "_law_k"] []
  g__law_cell_at : mg "_law_cell_at" = some (.ref (He.ga K "_law_cell_at"))
  fd__law_held : FuncData
  F__law_held : FnP K "_law_held" s__law_held (He.ga K "_law_held") fd__law_held
  b__law_held : Binds K fd__law_held ["_law_cell"] []
  g__law_held : mg "_law_held" = some (.ref (He.ga K "_law_held"))
  fd__law_mixed : FuncData
  F__law_mixed : FnP K "_law_mixed" s__law_mixed (He.ga K "_law_mixed") fd__law_mixed
  b__law_mixed : Binds K fd__law_mixed ["_law_cell", "_law_k", "_law_many"] []
  g__law_mixed : mg "_law_mixed" = some (.ref (He.ga K "_law_mixed"))
  fd__law_kept : FuncData
  F__law_kept : FnP K "_law_kept" s__law_kept (He.ga K "_law_kept") fd__law_kept
  b__law_kept : Binds K fd__law_kept [] []
  g__law_kept : mg "_law_kept" = some (.ref (He.ga K "_law_kept"))
  fd__law_letter : FuncData
  F__law_letter : FnP K "_law_letter" s__law_letter (He.ga K "_law_letter") fd__law_letter
  b__law_letter : Binds K fd__law_letter ["_law_k"] []
  g__law_letter : mg "_law_letter" = some (.ref (He.ga K "_law_letter"))
  fd__law_names : FuncData
  F__law_names : FnP K "_law_names" s__law_names (He.ga K "_law_names") fd__law_names
  b__law_names : Binds K fd__law_names ["_law_cell"] []
  g__law_names : mg "_law_names" = some (.ref (He.ga K "_law_names"))
  fd__law_number_by : FuncData
  F__law_number_by : FnP K "_law_number_by" s__law_number_by (He.ga K "_law_number_by") fd__law_number_by
  b__law_number_by : Binds K fd__law_number_by ["_law_cell", "_law_k"] []
  g__law_number_by : mg "_law_number_by" = some (.ref (He.ga K "_law_number_by"))
  fd__law_within : FuncData
  F__law_within : FnP K "_law_within" s__law_within (He.ga K "_law_within") fd__law_within
  b__law_within : Binds K fd__law_within ["_law_cell", "_law_k"] []
  g__law_within : mg "_law_within" = some (.ref (He.ga K "_law_within"))
  fd__law_expression : FuncData
  F__law_expression : FnP K "_law_expression" s__law_expression (He.ga K "_law_expression") fd__law_expression
  b__law_expression : Binds K fd__law_expression ["_law_cell", "_law_deep", "_law_info"] []
  g__law_expression : mg "_law_expression" = some (.ref (He.ga K "_law_expression"))
  fd__law_expressions : FuncData
  F__law_expressions : FnP K "_law_expressions" s__law_expressions (He.ga K "_law_expressions") fd__law_expressions
  b__law_expressions : Binds K fd__law_expressions ["_law_cell", "_law_many", "_law_info"] []
  g__law_expressions : mg "_law_expressions" = some (.ref (He.ga K "_law_expressions"))
  fd__law_plain : FuncData
  F__law_plain : FnP K "_law_plain" s__law_plain (He.ga K "_law_plain") fd__law_plain
  b__law_plain : Binds K fd__law_plain ["_law_cell", "_law_info"] []
  g__law_plain : mg "_law_plain" = some (.ref (He.ga K "_law_plain"))
  fd__law_nest : FuncData
  F__law_nest : FnP K "_law_nest" s__law_nest (He.ga K "_law_nest") fd__law_nest
  b__law_nest : Binds K fd__law_nest ["_law_cell", "_law_way", "_law_cells", "_law_deep", "_law_info"] []
  g__law_nest : mg "_law_nest" = some (.ref (He.ga K "_law_nest"))
  fd__law_body : FuncData
  F__law_body : FnP K "_law_body" s__law_body (He.ga K "_law_body") fd__law_body
  b__law_body : Binds K fd__law_body ["_law_cells", "_law_deep", "_law_info"] []
  g__law_body : mg "_law_body" = some (.ref (He.ga K "_law_body"))
  fd__law_inner_cell : FuncData
  F__law_inner_cell : FnP K "_law_inner_cell" s__law_inner_cell (He.ga K "_law_inner_cell") fd__law_inner_cell
  b__law_inner_cell : Binds K fd__law_inner_cell ["_law_script", "_law_first", "_law_k", "_law_j"] []
  g__law_inner_cell : mg "_law_inner_cell" = some (.ref (He.ga K "_law_inner_cell"))
  fd__law_program : FuncData
  F__law_program : FnP K "_law_program" s__law_program (He.ga K "_law_program") fd__law_program
  b__law_program : Binds K fd__law_program ["_law_script", "_law_first"] []
  g__law_program : mg "_law_program" = some (.ref (He.ga K "_law_program"))
  fd__law_words_of : FuncData
  F__law_words_of : FnP K "_law_words_of" s__law_words_of (He.ga K "_law_words_of") fd__law_words_of
  b__law_words_of : Binds K fd__law_words_of ["_law_e"] []
  g__law_words_of : mg "_law_words_of" = some (.ref (He.ga K "_law_words_of"))
  fd__law_statement_lines : FuncData
  F__law_statement_lines : FnP K "_law_statement_lines" s__law_statement_lines (He.ga K "_law_statement_lines") fd__law_statement_lines
  b__law_statement_lines : Binds K fd__law_statement_lines ["_law_s"] []
  g__law_statement_lines : mg "_law_statement_lines" = some (.ref (He.ga K "_law_statement_lines"))
  fd__law_lines : FuncData
  F__law_lines : FnP K "_law_lines" s__law_lines (He.ga K "_law_lines") fd__law_lines
  b__law_lines : Binds K fd__law_lines ["_law_program_here"] []
  g__law_lines : mg "_law_lines" = some (.ref (He.ga K "_law_lines"))
  fd_law : FuncData
  F_law : FnP K "law" s_law (He.ga K "law") fd_law
  b_law : Binds K fd_law ["_law_script"] []
  g_law : mg "law" = some (.ref (He.ga K "law"))
  m_int : mg "int" = none
  m_isinstance : mg "isinstance" = none
  m_len : mg "len" = none
  m_list : mg "list" = none
  m_max : mg "max" = none
  m_min : mg "min" = none
  m_range : mg "range" = none
  m_repr : mg "repr" = none
  m_str : mg "str" = none
  m_tuple : mg "tuple" = none
/-! cells: a number, or a list of digits that are left and of what goes on behind them -/
def CellOk (H : Hp) (v : V) : Prop := (∃ c : Int, v = .int c) ∨ ∃ (a : Addr) (l t : Int), v = .ref a ∧ H a = some (.lst [.int l, .int t]) ∧ 0 ≤ l ∧ 0 ≤ t
def cellS (v : V) : Addr → Prop := fun b => v = .ref b
section
variable {P : Program} {w : World} {K : PySem.W.Frag} {mg : Str → Option Value} {base : Heap}
def cellA (ns : List Int) (k : Int) : Int := ns.getD k.toNat 0
def sp__law_cell_at (K : PySem.W.Frag) : Sp := fun vs H Q _ => ∃ (a : Addr) (ns : List Int) (k : Int), vs = [.ref a, .int k] ∧ 0 ≤ k ∧ SqL K H a (ns.map V.int) ∧ Q (.int (cellA ns k)) H
theorem ok__law_cell_at (T : Top K mg) : FnOk P w K mg base CX0 1 (He.ga K "_law_cell_at") T.fd__law_cell_at ["_law_script", "_law_k"] (sp__law_cell_at K) := by
  refine T.F__law_cell_at.ok sc__law_cell_at (fun vs H Q E h => ?_) (fun cdv A outer s H vs Q E hr h => ?_)
  · obtain ⟨a, ns, k, rfl, _⟩ := h
    rfl
  · obtain ⟨a, ns, k, rfl, h0, hS, q⟩ := h
    refine ⟨_, PSs.nox (pss_cons (ps_if (pt_cmpR op_lt (pv 1) (pe_callB call_len_seq (by rfl) T.m_len (by decide +kernel) (pa_cons (pv 0) pa_nil)) (nomark _)) (pss_one (ps_ret (pe_ix ix_list (pv 0) (pv 1) (fun _ _ => rfl)))) pss_nil)
        (pss_one (ps_ret pe_int))), ?_⟩
    refine ⟨_, rfl, _, rfl, a, _, rfl, .inl hS, _, _, rfl, rfl, _, rfl, ite2 (fun e => ?_) (fun e => ?_)⟩
    · have e1 : k < (ns.map V.int).length := of_decide_eq_true e
      rw [List.length_map] at e1
      exact ⟨_, rfl, _, rfl, a, _, _, _, rfl, rfl, hS, at_ints h0 e1, q⟩
    · have e1 : ¬ k < (ns.map V.int).length := fun z => e (decide_eq_true z)
      rw [List.length_map] at e1
      have e2 : cellA ns k = 0 := by
        unfold cellA
        have : ns.length ≤ k.toNat := by omega
        simp [List.getD, this]
      rw [e2] at q
      exact q
/-- a number or a new list of two -/
def sp__law_held : Sp := fun vs H Q _ => ∃ c : Int, vs = [.int c] ∧ ∀ H' v, Same H H' → CellOk H' v → (∀ p, v = .ref p → H p = none) → Q v H'
theorem ok__law_held (T : Top K mg) : FnOk P w K mg base CX0 1 (He.ga K "_law_held") T.fd__law_held ["_law_cell"] sp__law_held := by
  refine T.F__law_held.ok sc__law_held (fun vs H Q E h => ?_) (fun cdv A outer s H vs Q E hr h => ?_)
  · obtain ⟨c, rfl, _⟩ := h
    rfl
  · obtain ⟨c, rfl, q⟩ := h
    refine ⟨_, PSs.nox (pss_cons (ps_if (pt_cmpR op_ge (pv 0) (pe_op op_pow pe_int pe_int) (nomark _)) (pss_one (ps_ret (pe_lst (pa_cons (pe_op op_fdivW (pv 0) (pe_op op_pow pe_int pe_int)) (pa_cons (pe_op op_mod (pv 0) pe_int) pa_nil))))) pss_nil)
        (pss_one (ps_ret (pv 0)))), ?_⟩
    have p10 : CDivW c (10 ^ (18 : Int).toNat) := wide_div (b := 64) (by decide) (by decide) (by decide) (by decide)
    refine ⟨_, rfl, _, _, rfl, rfl, ⟨by decide, by decide, by decide⟩, _, _, rfl, rfl, _, rfl, ite2 (fun e => ?_) (fun e => ?_)⟩
    · have e1 : (10 : Int) ^ (18 : Int).toNat ≤ c := of_decide_eq_true e
      have e2 : (0 : Int) < 10 ^ (18 : Int).toNat := by decide
      refine ⟨_, rfl, _, _, rfl, rfl, ⟨by decide, by decide, by decide⟩, _, _, rfl, rfl, p10, ?_⟩
      refine ⟨_, rfl, _, _, rfl, rfl, (by show (0 : Int) < 2147483647; decide), (by show 2 ≤ sizeLine; rw [sizeLine_eq]; decide), fun p np => ?_⟩
      refine q _ _ (same_new np) (.inr ⟨p, _, _, rfl, upd_same, Int.ediv_nonneg (by omega) (Int.le_of_lt e2), Int.emod_nonneg _ (by decide)⟩) fun p' e => ?_
      cases e
      exact np
    · exact ⟨_, rfl, q _ _ (Same.refl _) (.inl ⟨_, rfl⟩) fun p e => nomatch e⟩
def mx : List Int := [99991, 99989, 99971, 99961, 99929, 99923, 99907, 99901, 99881, 99877, 99871]
/-- a draw below many; a list of digits is changed -/
def sp__law_mixed : Sp := fun vs H Q _ => ∃ (v : V) (k m : Int), vs = [v, .int k, .int m] ∧ CellOk H v ∧ 0 ≤ k ∧ k < 2 ^ 20 ∧ 0 < m ∧ m < 2 ^ 64 ∧ ∀ H' r, Kp (cellS v) H H' → CellOk H' v → 0 ≤ r → r < m → Q (.int r) H'
theorem ok__law_mixed (T : Top K mg) : FnOk P w K mg base CX0 1 (He.ga K "_law_mixed") T.fd__law_mixed ["_law_cell", "_law_k", "_law_many"] sp__law_mixed := by
  refine T.F__law_mixed.ok sc__law_mixed (fun vs H Q E h => ?_) (fun cdv A outer s H vs Q E hr h => ?_)
  · obtain ⟨v, k, m, rfl, _⟩ := h
    rfl
  · obtain ⟨v, k, m, rfl, hv, h0, h1, hm, hm2, q⟩ := h
    refine ⟨_, PSs.nox (pss_cons (ps_if (pt_val (pe_callB call_isi (by rfl) T.m_isinstance (by decide +kernel) (pa_cons (pv 0) (pa_cons (pe_bltn (v := .ty "list") (by rfl) T.m_list (by decide +kernel) rfl) pa_nil)))) (pss_cons (ps_set (i := 3) sc__law_mixed.nd rfl (Or.inl rfl) (pe_ix ix_list (pv 0) pe_int (fun _ _ => rfl)))
        (pss_cons (ps_asg (pe_op op_fdivW (pv 3) (pv 2)) (pg_sub (pv 0) pe_int set_list))
        (pss_cons (ps_asg (pe_op op_mod (pe_op op_add (pe_op op_mul (pe_ix ix_list (pv 0) pe_int (fun _ _ => rfl)) pe_int) pe_int) pe_int) (pg_sub (pv 0) pe_int set_list))
        (pss_one (ps_ret (pe_op op_mod (pe_ifExp (pt_cmpR op_gt (pv 3) pe_int (nomark _)) (pv 3) (pe_op op_fdivW (pe_ix ix_list (pv 0) pe_int (fun _ _ => rfl)) pe_int)) (pv 2))))))) pss_nil)
        (pss_cons (ps_set (i := 4) sc__law_mixed.nd rfl (Or.inl rfl) (pe_lst (pa_cons pe_int (pa_cons pe_int (pa_cons pe_int (pa_cons pe_int (pa_cons pe_int (pa_cons pe_int (pa_cons pe_int (pa_cons pe_int (pa_cons pe_int (pa_cons pe_int (pa_cons pe_int pa_nil)))))))))))))
        (pss_cons (ps_set (i := 5) sc__law_mixed.nd rfl (Or.inl rfl) (pe_op op_mod (pe_op op_pow (pe_op op_mod (pe_op op_mul (pe_op op_add (pv 0) (pe_op op_mul pe_int (pv 1))) pe_int) pe_int) pe_int) (pe_ix ix_list (pv 4) (pe_op op_mod (pv 1) pe_int) (fun _ _ => rfl))))
        (pss_one (ps_ret (pe_op op_mod (pe_op op_mod (pe_op op_add (pe_op op_add (pe_op op_mul (pe_op op_mul (pv 5) (pv 5)) pe_int) (pv 5)) (pv 1)) pe_int) (pv 2))))))), ?_⟩
    rcases hv with ⟨c, rfl⟩ | ⟨a, l, t, rfl, ha, hl, ht⟩
    · refine ⟨_, rfl, _, _, _, _, false, rfl, .ty _, .base (.int c), kit_ty (by decide +kernel), false, rfl, ?_⟩
      refine ⟨(by show 11 ≤ sizeLine; rw [sizeLine_eq]; decide), fun p np => ?_⟩
      have hL : SqL K (upd H p (.lst (mx.map V.int))) p (mx.map V.int) := .of upd_same
      have r0 : 0 ≤ k % 11 := Int.emod_nonneg _ (by decide)
      have r1 : k % 11 < 11 := Int.emod_lt_of_pos _ (by decide)
      have hy : ∀ i : Nat, i < 11 → 0 < mx.getD i 0 ∧ mx.getD i 0 < 100000 := by decide
      obtain ⟨y0, y1⟩ := hy (k % 11).toNat (by omega)
      generalize hyy : mx.getD (k % 11).toNat 0 = y at y0 y1
      have a0 : 0 ≤ (c + 104729 * k) * 48271 % 2147483647 := Int.emod_nonneg _ (by decide)
      have a1 : (c + 104729 * k) * 48271 % 2147483647 < 2147483647 := Int.emod_lt_of_pos _ (by decide)
      generalize hx : (c + 104729 * k) * 48271 % 2147483647 = x at a0 a1
      have b0 : 0 ≤ x ^ (5 : Int).toNat % y := Int.emod_nonneg _ (by omega)
      have b1 : x ^ (5 : Int).toNat % y < y := Int.emod_lt_of_pos _ y0
      generalize hd : x ^ (5 : Int).toNat % y = d at b0 b1
      have d0 : 0 ≤ d * d := Int.mul_nonneg b0 b0
      have d1 : d * d ≤ 100000 * 100000 := Int.mul_le_mul (by omega) (by omega) b0 (by decide)
      refine ⟨_, rfl, _, rfl, _, _, rfl, rfl, .inl ⟨by decide, by decide⟩, _, _, rfl, rfl, _, _, rfl, rfl, .inr ⟨by decide, by decide⟩, _, _, rfl, rfl, (by show (0 : Int) < 2147483647; decide), _, _, rfl, rfl, ⟨by decide, by decide, ?_⟩, ?_⟩
      · show ((c + 104729 * k) * 48271 % 2147483647).natAbs < 2 ^ 64
        rw [hx]
        omega
      refine ⟨_, rfl, _, rfl, _, _, rfl, rfl, (by show (0 : Int) < 11; decide), p, _, _, _, rfl, rfl, hL, at_ints r0 (by rw [show (mx.length : Int) = 11 from rfl]; exact r1), _, _, rfl, rfl, ?_, ?_⟩
      · show 0 < mx.getD (k % 11).toNat 0
        rw [hyy]
        exact y0
      simp only [hx, hyy, hd]
      refine ⟨_, rfl, _, rfl, _, _, rfl, rfl, .inl ⟨by omega, by omega⟩, _, _, rfl, rfl, .inr ⟨by decide, by decide⟩, _, rfl, _, _, rfl, rfl, _, rfl, _, _, rfl, rfl, _, _, rfl, rfl, (by show (0 : Int) < 1000003; decide), _, rfl, _, _, rfl, rfl, hm, ?_⟩
      exact q _ _ (.of_same (same_new np)) (.inl ⟨_, rfl⟩) (Int.emod_nonneg _ (by omega)) (Int.emod_lt_of_pos _ hm)
    · refine ⟨_, rfl, _, _, _, _, true, rfl, .ty _, .base (.lst ha), kit_ty (by decide +kernel), true, rfl, ?_⟩
      have mw : CDivW l m := wide_div (b := 64) hm (by omega) (by decide) (by decide)
      have l1 : 0 ≤ l / m := Int.ediv_nonneg hl (Int.le_of_lt hm)
      have t1 : 0 ≤ (t * 48271 + 11) % 2147483647 := Int.emod_nonneg _ (by decide)
      refine ⟨_, rfl, a, _, 0, _, rfl, rfl, .of ha, atI_nat (j := 0) rfl, ?_⟩
      refine ⟨_, rfl, _, rfl, _, _, rfl, rfl, mw, _, rfl, a, _, 0, 0, rfl, rfl, ha, rfl, ?_⟩
      refine ⟨_, rfl, a, _, 1, _, rfl, rfl, .of upd_same, atI_nat (j := 1) rfl, _, _, rfl, rfl, .inr ⟨by decide, by decide⟩, _, _, rfl, rfl, _, _, rfl, rfl, (by show (0 : Int) < 2147483647; decide), _, rfl, a, _, 1, 1, rfl, rfl, upd_same, rfl, ?_⟩
      rw [upd_upd]
      have k1 : Kp (cellS (.ref a)) H (upd H a (.lst [.int (l / m), .int ((t * 48271 + 11) % 2147483647)])) := Kp.upd ha trivial rfl
      have c1 : CellOk (upd H a (.lst [.int (l / m), .int ((t * 48271 + 11) % 2147483647)])) (.ref a) := .inr ⟨a, _, _, rfl, upd_same, l1, t1⟩
      have fin : ∀ x : Int, 0 ≤ x % m ∧ x % m < m := fun x => ⟨Int.emod_nonneg _ (by omega), Int.emod_lt_of_pos _ hm⟩
      refine ⟨_, rfl, _, _, rfl, rfl, _, rfl, ite2 (fun e => ?_) (fun e => ?_)⟩
      · exact ⟨_, rfl, _, rfl, _, _, rfl, rfl, hm, q _ _ k1 c1 (fin _).1 (fin _).2⟩
      · exact ⟨_, rfl, a, _, 1, _, rfl, rfl, .of upd_same, atI_nat (j := 1) rfl, _, _, rfl, rfl, ⟨by decide, by decide⟩, _, rfl, _, _, rfl, rfl, hm, q _ _ k1 c1 (fin _).1 (fin _).2⟩
def keptW : List Str := ["number", "not", "at", "add", "sub", "mul", "div", "rem", "less", "same", "set", "put", "tell", "if", "else", "end", "while", "call", "fail", "give", "row", "helper", "main"]
def sp__law_kept : Sp := fun vs H Q _ => vs = [] ∧ ∀ H' p, Same H H' → H p = none → H' p = some (.lst (keptW.map V.str)) → Q (.ref p) H'
theorem ok__law_kept (T : Top K mg) : FnOk P w K mg base CX0 1 (He.ga K "_law_kept") T.fd__law_kept [] sp__law_kept := by
  refine T.F__law_kept.ok sc__law_kept (fun vs H Q E h => ?_) (fun cdv A outer s H vs Q E hr h => ?_)
  · obtain ⟨rfl, _⟩ := h
    rfl
  · obtain ⟨rfl, q⟩ := h
    refine ⟨_, PSs.nox (pss_cons (ps_set (i := 0) sc__law_kept.nd rfl (Or.inl rfl) (pe_lst (pa_cons pe_str (pa_cons pe_str (pa_cons pe_str (pa_cons pe_str (pa_cons pe_str (pa_cons pe_str (pa_cons pe_str (pa_cons pe_str (pa_cons pe_str (pa_cons pe_str (pa_cons pe_str (pa_cons pe_str (pa_cons pe_str (pa_cons pe_str pa_nil))))))))))))))))
        (pss_one (ps_ret (pe_op op_cat (pv 0) (pe_lst (pa_cons pe_str (pa_cons pe_str (pa_cons pe_str (pa_cons pe_str (pa_cons pe_str (pa_cons pe_str (pa_cons pe_str (pa_cons pe_str (pa_cons pe_str pa_nil)))))))))))))), ?_⟩
    refine ⟨(by show 14 ≤ sizeLine; rw [sizeLine_eq]; decide), fun p1 n1 => ?_⟩
    refine ⟨_, rfl, (by show 9 ≤ sizeLine; rw [sizeLine_eq]; decide), fun p2 n2 => ?_⟩
    have e2 : p1 ≠ p2 := fun z => by
      rw [← z, upd_same] at n2
      cases n2
    refine ⟨p1, p2, _, _, rfl, rfl, by rw [upd_ne e2]; exact upd_same, upd_same, (by show 23 ≤ sizeLine; rw [sizeLine_eq]; decide), fun p3 n3 => ?_⟩
    have s1 := same_new (o := .lst ((keptW.take 14).map V.str)) n1
    have s2 := same_new (o := .lst ((keptW.drop 14).map V.str)) n2
    have s3 := same_new (o := .lst (keptW.map V.str)) n3
    exact q _ p3 (s1.trans (s2.trans s3)) ((s1.trans s2).free n3) upd_same
def abc : Str := "abcdefghijklmnopqrstuvwxyz"
def letr (k : Int) : Nat := 97 + (k % 26).toNat
theorem abc_at : ∀ i : Nat, i < 26 → abc.cps.toList[i]? = some (97 + i) := by decide +kernel
def sp__law_letter : Sp := fun vs H Q _ => ∃ k : Int, vs = [.int k] ∧ Q (.str ⟨#[letr k]⟩) H
theorem ok__law_letter (T : Top K mg) : FnOk P w K mg base CX0 1 (He.ga K "_law_letter") T.fd__law_letter ["_law_k"] sp__law_letter := by
  refine T.F__law_letter.ok sc__law_letter (fun vs H Q E h => ?_) (fun cdv A outer s H vs Q E hr h => ?_)
  · obtain ⟨k, rfl, _⟩ := h
    rfl
  · obtain ⟨k, rfl, q⟩ := h
    refine ⟨_, PSs.nox (pss_one (ps_ret (pe_ix ix_str pe_str (pe_op op_mod (pv 0) pe_int) (fun _ _ => rfl)))), ?_⟩
    have r0 : 0 ≤ k % 26 := Int.emod_nonneg _ (by decide)
    have r1 : k % 26 < 26 := Int.emod_lt_of_pos _ (by decide)
    refine ⟨_, rfl, _, _, rfl, rfl, (by show (0 : Int) < 26; decide), abc, k % 26, letr k, rfl, rfl, (by rw [sizeLine_eq]; decide +kernel), ?_, q⟩
    obtain ⟨i, hi⟩ := Int.eq_ofNat_of_zero_le r0
    unfold letr
    rw [hi]
    exact atI_nat (abc_at i (by omega))
end

/-! names, in plain words -/
def toS (l : List Nat) : Str := ⟨l.toArray⟩
theorem toS_list (l : List Nat) : (toS l).cps.toList = l := by simp [toS]
theorem toS_len (l : List Nat) : (toS l).length = l.length := by simp [toS, Str.length]
theorem of_toS (z : Str) : toS z.cps.toList = z := by
  cases z
  simp [toS]
theorem toS_inj {l m : List Nat} (h : toS l = toS m) : l = m := by rw [← toS_list l, h, toS_list]
theorem len_list (z : Str) : z.length = z.cps.toList.length := by simp [Str.length]
def isLet (c : Nat) : Prop := 97 ≤ c ∧ c ≤ 122
instance (c : Nat) : Decidable (isLet c) := inferInstanceAs (Decidable (97 ≤ c ∧ c ≤ 122))
structure IsNm (z : Str) : Prop where
  lo : 1 ≤ z.length
  hi : z.length ≤ 8
  let_ : ∀ c ∈ z.cps.toList, isLet c
  out : z ∉ keptW
theorem letr_let (k : Int) : isLet (letr k) := by
  unfold isLet letr
  have r0 : 0 ≤ k % 26 := Int.emod_nonneg _ (by decide)
  have r1 : k % 26 < 26 := Int.emod_lt_of_pos _ (by decide)
  omega
def nm1 (root : List Nat) (j c : Nat) : Str := toS (root.take j ++ [c] ++ root.drop j)
def nm2 (root : List Nat) (c : Nat) : Str := toS (c :: c :: root)
def nmF (root : List Nat) (j c : Nat) : Str := if nm1 root j c ∈ keptW then nm2 root c else nm1 root j c
theorem kept_two : ∀ x ∈ keptW, ∀ (c : Nat) (r : List Nat), x.cps.toList ≠ c :: c :: r := by
  have h : (keptW.all fun x => match x.cps.toList with | a :: b :: _ => a != b | _ => true) = true := by decide +kernel
  intro x hx c r e
  have := List.all_eq_true.mp h x hx
  rw [e] at this
  simp at this
theorem nm1_len {root : List Nat} {j c : Nat} : (nm1 root j c).length = root.length + 1 := by
  unfold nm1
  rw [toS_len]
  simp only [List.length_append, List.length_take, List.length_drop, List.length_cons, List.length_nil]
  omega
theorem nmF_ok {root : List Nat} {j c : Nat} (hr : ∀ x ∈ root, isLet x) (hl : root.length ≤ 6) (hc : isLet c) : IsNm (nmF root j c) := by
  unfold nmF
  split
  · refine ⟨?_, ?_, ?_, ?_⟩
    · unfold nm2
      rw [toS_len, List.length_cons]
      omega
    · unfold nm2
      rw [toS_len, List.length_cons, List.length_cons]
      omega
    · unfold nm2
      rw [toS_list]
      intro x hx
      rcases List.mem_cons.mp hx with rfl | hx
      · exact hc
      rcases List.mem_cons.mp hx with rfl | hx
      · exact hc
      exact hr x hx
    · intro h
      exact kept_two _ h c root (by unfold nm2; rw [toS_list])
  · rename_i h
    refine ⟨?_, ?_, ?_, h⟩
    · rw [nm1_len]
      omega
    · rw [nm1_len]
      omega
    · unfold nm1
      rw [toS_list]
      intro x hx
      rcases List.mem_append.mp hx with hx | hx
      · rcases List.mem_append.mp hx with hx | hx
        · exact hr x (List.mem_of_mem_take hx)
        · rw [List.mem_singleton.mp hx]
          exact hc
      · exact hr x (List.mem_of_mem_drop hx)
theorem nmF_inj {root : List Nat} {j c d : Nat} (hj : j ≤ root.length) (h : nmF root j c = nmF root j d) : c = d := by
  have l2 : ∀ x, (nm2 root x).length = root.length + 2 := fun x => by
    unfold nm2
    rw [toS_len]
    rfl
  unfold nmF at h
  split at h <;> split at h
  · have := toS_inj h
    injection this
  · have := congrArg Str.length h
    rw [l2, nm1_len] at this
    omega
  · have := congrArg Str.length h
    rw [l2, nm1_len] at this
    omega
  · have e := toS_inj h
    rw [List.append_assoc, List.append_assoc] at e
    have := List.append_cancel_left e
    injection this
def nameL (root : List Nat) (j : Nat) (st : Int) (n : Nat) : List Str := (List.range n).map fun k : Nat => nmF root j (letr (st + 5 * (k : Int)))
theorem letr_inj {st : Int} {k l : Nat} (hk : k < 16) (hl : l < 16) (h : letr (st + 5 * (k : Int)) = letr (st + 5 * (l : Int))) : k = l := by
  unfold letr at h
  omega
/-- sixteen unlike names -/
structure Names (ns : List Str) : Prop where
  len : ns.length = 16
  nm : ∀ z ∈ ns, IsNm z
  nd : ns.Nodup
theorem nameL_ok {root : List Nat} {j : Nat} {st : Int} (hr : ∀ x ∈ root, isLet x) (hl : root.length ≤ 6) (hj : j ≤ root.length) : Names (nameL root j st 16) := by
  refine ⟨by simp [nameL], fun z hz => ?_, ?_⟩
  · obtain ⟨k, _, rfl⟩ := List.mem_map.mp hz
    exact nmF_ok hr hl (letr_let _)
  · unfold nameL
    refine List.pairwise_map.mpr ?_
    refine List.Pairwise.imp_of_mem ?_ List.nodup_range
    intro a b ha hb hne e
    exact hne (letr_inj (List.mem_range.mp ha) (List.mem_range.mp hb) (nmF_inj hj e))
def nearW : List Str := ["adds", "en", "nota", "sett", "rows", "mai", "iff", "elses", "calls", "failed", "gives", "tel"]
def nearX : List Str := ["x", "xx", "xxx", "xxxx"]
def nmB (z : Str) : Bool := decide (1 ≤ z.length) && decide (z.length ≤ 8) && z.cps.toList.all (fun c => decide (isLet c)) && !(keptW.any fun x => decide (x = z))
theorem nmB_ok {z : Str} : nmB z = true ↔ IsNm z := by
  unfold nmB
  simp only [Bool.and_eq_true, decide_eq_true_eq, List.all_eq_true, Bool.not_eq_true', List.any_eq_false]
  constructor
  · rintro ⟨⟨⟨a, b⟩, c⟩, d⟩
    exact ⟨a, b, c, fun h => d z h rfl⟩
  · rintro ⟨a, b, c, d⟩
    exact ⟨⟨⟨a, b⟩, c⟩, fun x hx e => d (e ▸ hx)⟩
theorem near_ok : ∀ j : Nat, j < 12 → Names (nearW.drop j ++ nearW.take j ++ nearX) := by
  have h1 : (List.range 12).all (fun j => decide ((nearW.drop j ++ nearW.take j ++ nearX).length = 16)) = true := by decide +kernel
  have h2 : (List.range 12).all (fun j => (nearW.drop j ++ nearW.take j ++ nearX).all nmB) = true := by decide +kernel
  have h3 : (List.range 12).all (fun j => decide ((nearW.drop j ++ nearW.take j ++ nearX).Nodup)) = true := by decide +kernel
  intro j hj
  refine ⟨of_decide_eq_true (List.all_eq_true.mp h1 j (List.mem_range.mpr hj)), fun z hz => nmB_ok.mp (List.all_eq_true.mp (List.all_eq_true.mp h2 j (List.mem_range.mpr hj)) z hz), of_decide_eq_true (List.all_eq_true.mp h3 j (List.mem_range.mpr hj))⟩
/-! texts cut and put together -/
theorem cutS_to (z : Str) (j : Nat) : cutS z none (some (j : Int)) = toS (z.cps.toList.take j) := by
  unfold cutS toS
  rw [HT.sIx_none, HT.sIx_nat, List.drop_zero, len_list, Nat.sub_zero]
  congr 2
  rw [← List.take_take, List.take_length]
theorem cutS_from (z : Str) (j : Nat) : cutS z (some (j : Int)) none = toS (z.cps.toList.drop j) := by
  unfold cutS toS
  rw [HT.sIx_none, HT.sIx_nat, len_list]
  congr 2
  rcases Nat.le_total j z.cps.toList.length with h | h
  · rw [Nat.min_eq_left h, List.take_of_length_le (by rw [List.length_drop]; omega)]
  · rw [Nat.min_eq_right h, List.drop_length, List.drop_of_length_le h, List.take_nil]
theorem add_toS (l m : List Nat) : toS l ++ toS m = toS (l ++ m) := by
  show (⟨l.toArray ++ m.toArray⟩ : Str) = _
  simp [toS]
theorem in_strs {z : Str} {ws : List Str} : inV (.str z) (ws.map V.str) = decide (z ∈ ws) := by
  unfold inV
  rw [List.any_map]
  by_cases h : z ∈ ws
  · rw [decide_eq_true h]
    refine List.any_eq_true.mpr ⟨z, h, ?_⟩
    show (z == z) = true
    exact beq_self_eq_true z
  · rw [decide_eq_false h]
    refine List.any_eq_false.mpr fun x hx e => h ?_
    have e2 : (x == z) = true := e
    rw [← eq_of_beq e2]
    exact hx
theorem flat_strs (ws : List Str) : (ws.map V.str).all flatV = true := by
  rw [List.all_map]
  exact List.all_eq_true.mpr fun _ _ => rfl

theorem CellOk.same {H H' : Hp} {v : V} (h : CellOk H v) (k : Same H H') : CellOk H' v := by
  rcases h with h | ⟨a, l, t, e, ha, h1, h2⟩
  · exact .inl h
  · exact .inr ⟨a, l, t, e, k _ _ ha, h1, h2⟩
theorem CellOk.fresh {H : Hp} {v : V} {p : Addr} (h : CellOk H v) (k : H p = none) : ¬ cellS v p := by
  rcases h with ⟨c, rfl⟩ | ⟨a, l, t, rfl, ha, h1, h2⟩
  · intro z
    cases z
  · intro z
    cases z
    rw [k] at ha
    cases ha
theorem CellOk.upd {H : Hp} {v : V} {p : Addr} {o : HO} (h : CellOk H v) (k : ¬ cellS v p) : CellOk (upd H p o) v := by
  rcases h with h | ⟨a, l, t, rfl, ha, h1, h2⟩
  · exact .inl h
  · refine .inr ⟨a, l, t, rfl, ?_, h1, h2⟩
    rw [upd_ne (fun z => k (by rw [z]; rfl))]
    exact ha
theorem cutV_to (xs : List V) (j : Nat) : cutV xs none (some (j : Int)) = xs.take j := by
  unfold cutV
  rw [HT.sIx_none, HT.sIx_nat, List.drop_zero, Nat.sub_zero, ← List.take_take, List.take_length]
theorem cutV_from (xs : List V) (j : Nat) : cutV xs (some (j : Int)) none = xs.drop j := by
  unfold cutV
  rw [HT.sIx_none, HT.sIx_nat]
  rcases Nat.le_total j xs.length with h | h
  · rw [Nat.min_eq_left h, List.take_of_length_le (by rw [List.length_drop]; omega)]
  · rw [Nat.min_eq_right h, List.drop_length, List.drop_of_length_le h, List.take_nil]
theorem Str_len_append (a b : Str) : (a ++ b).length = a.length + b.length := by
  show (a.cps ++ b.cps).size = _
  rw [Array.size_append]
  rfl
theorem join_ones (ls : List Nat) : Txt.join Str.empty (ls.map fun c => toS [c]) = toS ls := by
  rw [TL.join_eq]
  have h : ∀ l : List Nat, (Str.join Str.empty (l.map fun c => toS [c])).cps.toList = l := by
    intro l
    induction l with
    | nil => rfl
    | cons x r ih =>
      cases r with
      | nil => rfl
      | cons y r =>
        show ((toS [x] ++ Str.empty) ++ Str.join Str.empty ((y :: r).map fun c => toS [c])).cps.toList = _
        show (((toS [x]).cps ++ Str.empty.cps) ++ (Str.join Str.empty ((y :: r).map fun c => toS [c])).cps).toList = _
        rw [Array.toList_append, Array.toList_append, ih]
        rfl
  rw [← of_toS (Str.join _ _), h]
section
variable {P : Program} {w : World} {K : PySem.W.Frag} {mg : Str → Option Value} {base : Heap}
def sp__law_names : Sp := fun vs H Q _ => ∃ c : Int, vs = [.int c] ∧ ∀ H' p ns, Same H H' → H p = none → H' p = some (.lst (ns.map V.str)) → Names ns → Q (.ref p) H'
theorem ok__law_names (T : Top K mg) : FnOk P w K mg base CX0 2 (He.ga K "_law_names") T.fd__law_names ["_law_cell"] sp__law_names := by
  have G__law_held := ok__law_held (P := P) (w := w) (base := base) T
  have G__law_mixed := ok__law_mixed (P := P) (w := w) (base := base) T
  have G__law_kept := ok__law_kept (P := P) (w := w) (base := base) T
  have G__law_letter := ok__law_letter (P := P) (w := w) (base := base) T
  refine T.F__law_names.ok sc__law_names (fun vs H Q E h => ?_) (fun cdv A outer s H vs Q E hr h => ?_)
  · obtain ⟨c, rfl, _⟩ := h
    rfl
  · obtain ⟨c, rfl, q⟩ := h
    refine ⟨_, PSs.nox (pss_cons (ps_set (i := 0) sc__law_names.nd rfl (Or.inr rfl) (pe_call G__law_held (hr.mono (by omega)) (by rfl) T.g__law_held T.F__law_held.kp T.b__law_held .nil pass0 (pa_cons (pv 0) pa_nil)))
        (pss_cons (ps_if (pt_cmpR op_eq (pe_call G__law_mixed (hr.mono (by omega)) (by rfl) T.g__law_mixed T.F__law_mixed.kp T.b__law_mixed .nil pass0 (pa_cons (pv 0) (pa_cons pe_int (pa_cons pe_int pa_nil)))) pe_int (nomark _)) (pss_cons (ps_set (i := 1) sc__law_names.nd rfl (Or.inl rfl) (pe_lst (pa_cons pe_str (pa_cons pe_str (pa_cons pe_str (pa_cons pe_str (pa_cons pe_str (pa_cons pe_str (pa_cons pe_str (pa_cons pe_str (pa_cons pe_str (pa_cons pe_str (pa_cons pe_str (pa_cons pe_str pa_nil))))))))))))))
        (pss_cons (ps_set (i := 2) sc__law_names.nd rfl (Or.inl rfl) (pe_call G__law_mixed (hr.mono (by omega)) (by rfl) T.g__law_mixed T.F__law_mixed.kp T.b__law_mixed .nil pass0 (pa_cons (pv 0) (pa_cons pe_int (pa_cons pe_int pa_nil)))))
        (pss_one (ps_ret (pe_op op_cat (pe_op op_cat (pe_slice sl_list (pv 1) (po_some (pv 2)) po_none) (pe_slice sl_list (pv 1) po_none (po_some (pv 2)))) (pe_lst (pa_cons pe_str (pa_cons pe_str (pa_cons pe_str (pa_cons pe_str pa_nil)))))))))) pss_nil)
        (pss_cons (ps_set (i := 3) sc__law_names.nd rfl (Or.inl rfl) (pe_join pe_str (pe_lc (own := [("_law_j", 9)]) (by rfl) sc__law_names.nd (pi_range1 (by rfl) T.m_range (pa_cons (pe_call G__law_mixed (hr.mono (by omega)) (by rfl) T.g__law_mixed T.F__law_mixed.kp T.b__law_mixed .nil pass0 (pa_cons (pv 0) (pa_cons pe_int (pa_cons pe_int pa_nil)))) pa_nil)) (blkOk_by (own := [("_law_j", 9)]) (N := N__law_names) (sc := defScope s__law_names) (by decide +kernel)) (fun _ _ _ _ _ => (pg_name (i := 9) sc__law_names.nd rfl (Or.inl rfl))) (fun _ _ _ _ _ => pts_nil) (fun _ _ _ _ _ => (pe_call G__law_letter (hr.mono (by omega)) (by rfl) T.g__law_letter T.F__law_letter.kp T.b__law_letter .nil pass0 (pa_cons (pe_call G__law_mixed (hr.mono (by omega)) (by rfl) T.g__law_mixed T.F__law_mixed.kp T.b__law_mixed .nil pass0 (pa_cons (pv 0) (pa_cons (pe_op op_add pe_int (pv 9)) (pa_cons pe_int pa_nil)))) pa_nil))))))
        (pss_cons (ps_set (i := 2) sc__law_names.nd rfl (Or.inl rfl) (pe_call G__law_mixed (hr.mono (by omega)) (by rfl) T.g__law_mixed T.F__law_mixed.kp T.b__law_mixed .nil pass0 (pa_cons (pv 0) (pa_cons pe_int (pa_cons (pe_op op_add (pe_callB call_len_str (by rfl) T.m_len (by decide +kernel) (pa_cons (pv 3) pa_nil)) pe_int) pa_nil)))))
        (pss_cons (ps_set (i := 4) sc__law_names.nd rfl (Or.inl rfl) (pe_lst pa_nil))
        (pss_cons (ps_set (i := 5) sc__law_names.nd rfl (Or.inl rfl) (pe_call G__law_mixed (hr.mono (by omega)) (by rfl) T.g__law_mixed T.F__law_mixed.kp T.b__law_mixed .nil pass0 (pa_cons (pv 0) (pa_cons pe_int (pa_cons pe_int pa_nil)))))
        (pss_cons (ps_for PassesOwn.never (by rfl) (pi_range1 (by rfl) T.m_range (pa_cons pe_int pa_nil)) (pg_name (i := 6) sc__law_names.nd rfl (Or.inl rfl)) (pss_cons (ps_set (i := 7) sc__law_names.nd rfl (Or.inl rfl) (pe_call G__law_letter (hr.mono (by omega)) (by rfl) T.g__law_letter T.F__law_letter.kp T.b__law_letter .nil pass0 (pa_cons (pe_op op_add (pv 5) (pe_op op_mul pe_int (pv 6))) pa_nil)))
        (pss_cons (ps_set (i := 8) sc__law_names.nd rfl (Or.inl rfl) (pe_op op_add_str (pe_op op_add_str (pe_slice sl_str (pv 3) po_none (po_some (pv 2))) (pv 7)) (pe_slice sl_str (pv 3) (po_some (pv 2)) po_none)))
        (pss_cons (ps_if (pt_cmpR op_in_seq (pv 8) (pe_call0 G__law_kept (hr.mono (by omega)) (by rfl) T.g__law_kept T.F__law_kept.kp T.b__law_kept .nil pass0) (by rfl)) (pss_one (ps_set (i := 8) sc__law_names.nd rfl (Or.inl rfl) (pe_op op_add_str (pe_op op_add_str (pv 7) (pv 7)) (pv 3)))) pss_nil)
        (pss_one (ps_expr (pe_bm PySem.F.plainAttrs_list PySem.F.slot_list_append PySem.F.type_list_append mt_append (pv 4) (pa_cons (pv 8) pa_nil))))))))
        (pss_one (ps_ret (pv 4)))))))))), ?_⟩
    refine ⟨_, rfl, c, rfl, fun H1 v s1 c1 f1 => ?_⟩
    have nS : ∀ b, cellS v b → H b = none := fun b e => f1 b e
    refine ⟨_, rfl, v, 1, 5, rfl, c1, by decide, by decide, by decide, by decide, fun H2 r k2 c2 _ _ => ?_⟩
    have s2 := Kp.same s1 k2 nS
    refine ⟨rfl, _, rfl, ite2 (fun _ => ?_) (fun _ => ?_)⟩
    · refine ⟨(by show 12 ≤ sizeLine; rw [sizeLine_eq]; decide), fun p1 n1 => ?_⟩
      have s3 := s2.trans (same_new (o := .lst (nearW.map V.str)) n1)
      have c3 : CellOk (upd H2 p1 (.lst (nearW.map V.str))) v := c2.same (same_new n1)
      have nc : ¬ cellS v p1 := c2.fresh n1
      refine ⟨_, rfl, v, 2, 12, rfl, c3, by decide, by decide, by decide, by decide, fun H4 j k4 c4 j0 j1 => ?_⟩
      have s4 := Kp.same s3 k4 nS
      have e4 : H4 p1 = some (.lst (nearW.map V.str)) := k4 _ _ upd_same fun z => absurd z nc
      obtain ⟨j, rfl⟩ := Int.eq_ofNat_of_zero_le j0
      refine ⟨_, rfl, _, rfl, _, rfl, p1, _, rfl, .of e4, fun p2 n2 => ?_⟩
      have s5 := same_new (o := .lst (cutV (nearW.map V.str) (some (j : Int)) none)) n2
      refine ⟨_, rfl, _, rfl, _, rfl, p1, _, rfl, .of (s5 _ _ e4), fun p3 n3 => ?_⟩
      have s6 := same_new (o := .lst (cutV (nearW.map V.str) none (some (j : Int)))) n3
      have l1 : ∀ a b, (cutV (nearW.map V.str) a b).length ≤ 12 := fun a b => cutV_length _ _ _
      have b1 := l1 (some (j : Int)) none
      have b2 := l1 none (some (j : Int))
      refine ⟨p2, p3, _, _, rfl, rfl, s6 _ _ upd_same, upd_same, (by rw [sizeLine_eq]; omega), fun p4 n4 => ?_⟩
      have s7 := same_new (o := .lst (cutV (nearW.map V.str) (some (j : Int)) none ++ cutV (nearW.map V.str) none (some (j : Int)))) n4
      refine ⟨(by show 4 ≤ sizeLine; rw [sizeLine_eq]; decide), fun p5 n5 => ?_⟩
      have s8 := same_new (o := .lst (nearX.map V.str)) n5
      refine ⟨p4, p5, _, _, rfl, rfl, s8 _ _ upd_same, upd_same, (by rw [sizeLine_eq, List.length_append]; simp only [List.length_cons, List.length_nil]; omega), fun p6 n6 => ?_⟩
      have s9 := (s4.trans (s5.trans (s6.trans (s7.trans s8))))
      refine q _ p6 (nearW.drop j ++ nearW.take j ++ nearX) (s9.trans (same_new n6)) (s9.free n6) ?_ (near_ok j (by omega))
      rw [upd_same, cutV_from, cutV_to, List.map_append, List.map_append, List.map_drop, List.map_take]
      rfl
    · have s3 : ∀ H3, Kp (cellS v) H2 H3 → Same H H3 := fun H3 k3 => Kp.same s2 k3 nS
      refine ⟨⟨_, rfl⟩, _, rfl, v, 2, 7, rfl, c2, by decide, by decide, by decide, by decide, fun H3 n k3 c3 n0 n1 => ?_⟩
      refine ⟨n, rfl, by omega, by omega, fun D nD => ?_⟩
      have nc : ¬ cellS v D := c3.fresh nD
      have nH : H D = none := (s3 _ k3).free nD
      refine lc_range (lo := 0) (n := n.toNat) (fun i H' => Kp (cellS v) H2 H' ∧ CellOk H' v ∧ ∃ ls : List Nat, ls.length = i ∧ (∀ x ∈ ls, isLet x) ∧ H' D = some (.lst ((ls.map fun c => toS [c]).map V.str))) ?_ ?_ ?_
      · exact ⟨k3.trans (.of_same (same_new nD)), c3.same (same_new nD), [], rfl, by simp, upd_same⟩
      · rintro i H' hi ⟨k4, c4, ls, l1, l2, l3⟩
        refine ⟨rfl, _, rfl, _, rfl, _, _, rfl, rfl, v, 3 + (0 + (i : Int)), 26, rfl, c4, by omega, by omega, by decide, by decide, fun H5 r5 k5 c5 r50 r51 => ?_⟩
        have e5 : H5 D = some (.lst ((ls.map fun c => toS [c]).map V.str)) := k5 _ _ l3 fun z => absurd z nc
        refine ⟨r5, rfl, _, e5, ?_, ?_, ?_, ls ++ [letr r5], ?_, ?_, ?_⟩
        · rw [List.length_map, List.length_map, l1, sizeLine_eq]
          omega
        · refine fun b o hb hk => ?_
          have nb : b ≠ D := fun z => by
            subst z
            have h2 : H3 b = some o := k3 b o hb hk
            rw [nD] at h2
            cases h2
          rw [upd_ne nb]
          exact (k4.trans k5) b o hb hk
        · exact c5.upd nc
        · rw [List.length_append, l1]
          rfl
        · intro x hx
          rcases List.mem_append.mp hx with hx | hx
          · exact l2 x hx
          · rw [List.mem_singleton.mp hx]
            exact letr_let _
        · rw [upd_same, List.map_append, List.map_append]
          rfl
      · rintro H' ⟨k4, c4, root, l1, l2, l3⟩
        have hl : root.length ≤ 6 := by omega
        refine ⟨Str.empty, D, _, rfl, rfl, .inl (.of l3), ?_, ?_⟩
        · rw [List.map_map]
          have e1 : (root.map ((·.length) ∘ fun c => toS [c])) = root.map fun _ => 1 := by
            apply List.map_congr_left
            intro x _
            rw [Function.comp_apply, toS_len]
            rfl
          rw [e1]
          have e2 : ∀ l : List Nat, (l.map fun _ => 1).sum = l.length := by
            intro l
            induction l with
            | nil => rfl
            | cons x r ih => rw [List.map_cons, List.sum_cons, ih, List.length_cons]; omega
          rw [e2]
          have e3 : Str.empty.length = 0 := rfl
          rw [e3]
          omega
        rw [join_ones]
        generalize hz : toS root = z
        have zl : z.length = root.length := by rw [← hz, toS_len]
        have zc : z.cps.toList = root := by rw [← hz, toS_list]
        refine ⟨_, rfl, _, rfl, z, rfl, by rw [zl, sizeLine_eq]; omega, _, _, rfl, rfl, v, 9, (z.length : Int) + 1, rfl, c4, by decide, by decide, by omega, by rw [zl]; omega, fun H5 j k5 c5 j0 j1 => ?_⟩
        obtain ⟨j, rfl⟩ := Int.eq_ofNat_of_zero_le j0
        have hj : j ≤ root.length := by omega
        refine ⟨Nat.zero_le _, fun L nL => ?_⟩
        have k6 : Kp (cellS v) H2 (upd H5 L (.lst [])) := (k4.trans k5).trans (.of_same (same_new nL))
        have c6 : CellOk (upd H5 L (.lst [])) v := c5.same (same_new nL)
        have ncL : ¬ cellS v L := c5.fresh nL
        have nHL : H L = none := (s3 _ (k4.trans k5)).free nL
        refine ⟨_, rfl, v, 10, 26, rfl, c6, by decide, by decide, by decide, by decide, fun H7 st k7 c7 st0 st1 => ?_⟩
        have e7 : H7 L = some (.lst []) := k7 _ _ upd_same fun z => absurd z ncL
        have sm7 := s3 _ (k6.trans k7)
        refine ⟨16, rfl, by decide, by decide, for_range (lo := 0) (n := 16) (fun i σ' H' => Same H H' ∧ H' L = some (.lst ((nameL root j st i).map V.str)) ∧ ∃ x6 x7 x8 x9, σ' = [some v, none, some (.int j), some (.str z), some (.ref L), some (.int st), x6, x7, x8, x9]) ?_ ?_ ?_⟩
        · exact ⟨sm7, e7, none, none, none, none, rfl⟩
        · rintro i σ' H8 hi ⟨s8, e8, x6, x7, x8, x9, rfl⟩
          refine ⟨_, rfl, _, rfl, _, _, rfl, rfl, .inl ⟨by decide, by decide⟩, _, _, rfl, rfl, _, rfl, ?_⟩
          generalize hc : letr (st + 5 * (0 + (i : Int))) = c
          have zb : z.length ≤ sizeLine := by rw [zl, sizeLine_eq]; omega
          have hcs : ∀ a b, (cutS z a b).length ≤ 6 := fun a b => by
            unfold cutS
            show (List.toArray _).size ≤ 6
            rw [List.size_toArray, List.length_take, List.length_drop, ← len_list]
            omega
          have h1 := hcs none (some (j : Int))
          have h2 := hcs (some (j : Int)) none
          have h3 : (⟨#[c]⟩ : Str).length = 1 := rfl
          refine ⟨_, rfl, _, rfl, _, rfl, z, rfl, zb, _, rfl, _, _, rfl, rfl, by rw [h3, sizeLine_eq]; omega, ?_⟩
          refine ⟨_, rfl, _, rfl, _, rfl, z, rfl, zb, _, _, rfl, rfl, ?_, ?_⟩
          · have := Str_len_append (cutS z none (some (j : Int))) ⟨#[c]⟩
            rw [this, h3, sizeLine_eq]
            omega
          rw [show (cutS z none (some (j : Int)) ++ (⟨#[c]⟩ : Str)) ++ cutS z (some (j : Int)) none = nm1 root j c by
            rw [cutS_to, cutS_from, show (⟨#[c]⟩ : Str) = toS [c] from rfl, add_toS, add_toS, zc]
            rfl]
          dsimp only [gName]
          refine ifs_by (fun σ' H' => Same H H' ∧ H' L = some (.lst ((nameL root j st i).map V.str)) ∧ ∃ x6 x7, σ' = [some v, none, some (.int j), some (.str z), some (.ref L), some (.int st), x6, x7, some (.str (nmF root j c)), x9]) ?_ ?_
          · rintro σ' H9 ⟨s9, e9, x6, x7, rfl⟩
            refine ⟨_, rfl, .inl ⟨rfl, _, .of e9⟩, _, rfl, L, _, _, rfl, rfl, e9, ?_, ?_, ?_, ?_⟩
            · unfold nameL
              rw [List.length_map, List.length_map, List.length_range, sizeLine_eq]
              omega
            · intro b o hb
              rw [upd_ne (ne_of_none hb nHL)]
              exact s9 b o hb
            · rw [upd_same]
              unfold nameL
              rw [List.range_succ, List.map_append, List.map_append, ← hc, Int.zero_add]
              rfl
            · exact ⟨_, _, _, _, rfl⟩
          · intro N hN
            refine ⟨_, rfl, rfl, fun H9 pk s9 npk epk => ?_⟩
            have e9 := s9 _ _ e8
            refine ⟨pk, _, rfl, .inl (.of epk), rfl, flat_strs _, _, rfl, ?_⟩
            dsimp only
            rw [if_neg Bool.false_ne_true, in_strs]
            refine ite2 (fun e => ?_) (fun e => ?_)
            · have ek := of_decide_eq_true e
              refine ⟨_, rfl, _, rfl, _, _, rfl, rfl, by rw [h3, sizeLine_eq]; decide, _, rfl, _, _, rfl, rfl, ?_, ?_⟩
              · have := Str_len_append (⟨#[c]⟩ : Str) ⟨#[c]⟩
                rw [this, h3, zl, sizeLine_eq]
                omega
              · refine hN _ _ ⟨s8.trans s9, e9, some (.int (0 + (i : Int))), some (.str ⟨#[c]⟩), ?_⟩
                rw [show nmF root j c = nm2 root c from if_pos ek]
                rw [show ((⟨#[c]⟩ : Str) ++ ⟨#[c]⟩) ++ z = nm2 root c by
                  rw [← hz, show (⟨#[c]⟩ : Str) = toS [c] from rfl, add_toS, add_toS]
                  rfl]
                rfl
            · have ek : ¬ nm1 root j c ∈ keptW := fun z => e (decide_eq_true z)
              refine hN _ _ ⟨s8.trans s9, e9, some (.int (0 + (i : Int))), some (.str ⟨#[c]⟩), ?_⟩
              rw [show nmF root j c = nm1 root j c from if_neg ek]
              rfl
        · rintro σ' H8 ⟨s8, e8, x6, x7, x8, x9, rfl⟩
          exact ⟨_, rfl, q _ L _ s8 nHL e8 (nameL_ok l2 hl hj)⟩
end

/-! data without lists stays -/
mutual
def nLd : PyData → Bool
  | .list _ => false
  | .dict _ => false
  | .tuple xs => nLs xs
  | .none => true
  | .bool _ => true
  | .int _ => true
  | .str _ => true
def nLs : List PyData → Bool
  | [] => true
  | x :: r => nLd x && nLs r
end
theorem sqT_kp {K : PySem.W.Frag} {S : Addr → Prop} {H H' : Hp} {a : Addr} {xs : List V} (k : Kp S H H') (h : SqT K H a xs) : SqT K H' a xs := by
  rcases h with (e | ⟨o, e⟩) | e
  · exact .inl (.inl (k _ _ e fun _ z => z))
  · exact .inl (.inr ⟨o, k _ _ e fun _ z => z⟩)
  · exact .inr e
mutual
theorem dp_kp {K : PySem.W.Frag} {S : Addr → Prop} {H H' : Hp} (k : Kp S H H') : ∀ (d : PyData) (v : V), nLd d = true → Dp K H v d → Dp K H' v d
  | .none, _, _, h => by cases h; exact .non
  | .bool b, _, _, h => by cases h; exact .bl b
  | .int i, _, _, h => by cases h; exact .int i
  | .str x, _, _, h => by cases h; exact .str x
  | .list _, _, n, _ => by cases n
  | .dict _, _, n, _ => by cases n
  | .tuple ds, _, n, h => by
    cases h with
    | tup hs ha => exact .tup (sqT_kp k hs) (dpAll_kp k ds _ n ha)
theorem dpAll_kp {K : PySem.W.Frag} {S : Addr → Prop} {H H' : Hp} (k : Kp S H H') : ∀ (ds : List PyData) (vs : List V), nLs ds = true → DpAll K H vs ds → DpAll K H' vs ds
  | [], _, _, h => by cases h; exact .nil
  | d :: ds, _, n, h => by
    have n2 : nLd d = true ∧ nLs ds = true := by
      unfold nLs at n
      exact Bool.and_eq_true_iff.mp n
    cases h with
    | cons h1 h2 => exact .cons (dp_kp k d _ n2.1 h1) (dpAll_kp k ds _ n2.2 h2)
end
section
variable {K : PySem.W.Frag} {H : Hp}
theorem dp_tup {v : V} {ds : List PyData} (h : Dp K H v (.tuple ds)) : ∃ a xs, v = .ref a ∧ SqT K H a xs ∧ DpAll K H xs ds := by
  cases h with
  | tup h1 h2 => exact ⟨_, _, rfl, h1, h2⟩
theorem dp_str {v : V} {z : Str} (h : Dp K H v (.str z)) : v = .str z := by cases h; rfl
theorem dp_int {v : V} {z : Int} (h : Dp K H v (.int z)) : v = .int z := by cases h; rfl
theorem dpAll_cons {vs : List V} {d : PyData} {ds : List PyData} (h : DpAll K H vs (d :: ds)) : ∃ v r, vs = v :: r ∧ Dp K H v d ∧ DpAll K H r ds := by
  cases h with
  | cons h1 h2 => exact ⟨_, _, rfl, h1, h2⟩
theorem dpAll_nil {vs : List V} (h : DpAll K H vs []) : vs = [] := by cases h; rfl
theorem dpAll_len : ∀ {vs : List V} {ds : List PyData}, DpAll K H vs ds → vs.length = ds.length
  | _, _, .nil => rfl
  | _, _, .cons _ t => by rw [List.length_cons, List.length_cons, dpAll_len t]
theorem dpAll_get : ∀ {vs : List V} {ds : List PyData} {i : Nat} {d : PyData}, DpAll K H vs ds → ds[i]? = some d → ∃ v, vs[i]? = some v ∧ Dp K H v d
  | _, _, _, _, .nil, e => by simp at e
  | _, _, 0, _, .cons h _, e => ⟨_, rfl, (Option.some.inj e) ▸ h⟩
  | _, _, i + 1, _, .cons _ t, e => dpAll_get (i := i) t e
theorem dpAll_getV : ∀ {vs : List V} {ds : List PyData} {i : Nat} {v : V}, DpAll K H vs ds → vs[i]? = some v → ∃ d, ds[i]? = some d ∧ Dp K H v d
  | _, _, _, _, .nil, e => by simp at e
  | _, _, 0, _, .cons h _, e => ⟨_, rfl, (Option.some.inj e) ▸ h⟩
  | _, _, i + 1, _, .cons _ t, e => dpAll_getV (i := i) t e
theorem dpAll_app : ∀ {vs ws : List V} {ds es : List PyData}, DpAll K H vs ds → DpAll K H ws es → DpAll K H (vs ++ ws) (ds ++ es)
  | _, _, _, _, .nil, s => s
  | _, _, _, _, .cons h t, s => .cons h (dpAll_app t s)
theorem dpAll_take : ∀ {vs : List V} {ds : List PyData} (n : Nat), DpAll K H vs ds → DpAll K H (vs.take n) (ds.take n)
  | _, _, 0, _ => .nil
  | _, _, _ + 1, .nil => .nil
  | _, _, n + 1, .cons h t => .cons h (dpAll_take n t)
theorem dpAll_drop : ∀ {vs : List V} {ds : List PyData} (n : Nat), DpAll K H vs ds → DpAll K H (vs.drop n) (ds.drop n)
  | _, _, 0, h => h
  | _, _, _ + 1, .nil => .nil
  | _, _, n + 1, .cons _ t => dpAll_drop n t
theorem dpAll_strs : ∀ {vs : List V} {zs : List Str}, DpAll K H vs (zs.map PyData.str) → vs = zs.map V.str
  | _, [], h => dpAll_nil h
  | _, z :: zs, h => by
    obtain ⟨v, r, rfl, h1, h2⟩ := dpAll_cons h
    rw [dp_str h1, dpAll_strs h2]
    rfl
theorem strs_dpAll : ∀ (zs : List Str), DpAll K H (zs.map V.str) (zs.map PyData.str)
  | [] => .nil
  | z :: zs => .cons (.str z) (strs_dpAll zs)
end

/-! programs, in plain words -/
inductive Ex where
  | num (n : Int)
  | nam (x : Str)
  | at_ (r : Str) (e : Ex)
  | no (e : Ex)
  | op (w : Str) (a b : Ex)
inductive Sm where
  | set (x : Str) (e : Ex)
  | put (r : Str) (e f : Ex)
  | tell (e : Ex)
  | ite (e : Ex) (ys ns : List Sm)
  | loop (e : Ex) (b : List Sm)
  | call (x h : Str) (es : List Ex)
  | fail (n : Int)
  | give (e : Ex)
def Ex.d : Ex → PyData
  | .num n => .tuple [.str "number", .int n]
  | .nam x => .tuple [.str "name", .str x]
  | .at_ r e => .tuple [.str "at", .str r, e.d]
  | .no e => .tuple [.str "not", e.d]
  | .op w a b => .tuple [.str w, a.d, b.d]
mutual
def Sm.d : Sm → PyData
  | .set x e => .tuple [.str "set", .str x, e.d]
  | .put r e f => .tuple [.str "put", .str r, e.d, f.d]
  | .tell e => .tuple [.str "tell", e.d]
  | .ite e ys ns => .tuple [.str "if", e.d, .tuple (Sm.ds ys), .tuple (Sm.ds ns)]
  | .loop e b => .tuple [.str "while", e.d, .tuple (Sm.ds b)]
  | .call x h es => .tuple [.str "call", .str x, .str h, .tuple (es.map Ex.d)]
  | .fail n => .tuple [.str "fail", .int n]
  | .give e => .tuple [.str "give", e.d]
def Sm.ds : List Sm → List PyData
  | [] => []
  | s :: r => s.d :: Sm.ds r
end
theorem Sm.ds_eq : ∀ l : List Sm, Sm.ds l = l.map Sm.d
  | [] => by simp [Sm.ds]
  | s :: r => by rw [Sm.ds, Sm.ds_eq r]; rfl
theorem noLs_all {l : List PyData} (h : ∀ x ∈ l, nLd x = true) : nLs l = true := by
  induction l with
  | nil => rfl
  | cons x r ih =>
    unfold nLs
    rw [h x (List.mem_cons_self ..), ih fun y hy => h y (List.mem_cons_of_mem _ hy)]
    rfl
theorem Ex.noL : ∀ e : Ex, nLd e.d = true
  | .num _ => rfl
  | .nam _ => rfl
  | .at_ r e => by simp [Ex.d, nLd, nLs, Ex.noL e]
  | .no e => by simp [Ex.d, nLd, nLs, Ex.noL e]
  | .op w a b => by simp [Ex.d, nLd, nLs, Ex.noL a, Ex.noL b]
mutual
theorem Sm.noL : ∀ s : Sm, nLd s.d = true
  | .set x e => by simp [Sm.d, nLd, nLs, Ex.noL e]
  | .put r e f => by simp [Sm.d, nLd, nLs, Ex.noL e, Ex.noL f]
  | .tell e => by simp [Sm.d, nLd, nLs, Ex.noL e]
  | .ite e ys ns => by simp [Sm.d, nLd, nLs, Ex.noL e, Sm.noLs ys, Sm.noLs ns]
  | .loop e b => by simp [Sm.d, nLd, nLs, Ex.noL e, Sm.noLs b]
  | .call x h es => by
    have : nLs (es.map Ex.d) = true := noLs_all fun x hx => by
      obtain ⟨e, _, rfl⟩ := List.mem_map.mp hx
      exact Ex.noL e
    simp [Sm.d, nLd, nLs, this]
  | .fail n => rfl
  | .give e => by simp [Sm.d, nLd, nLs, Ex.noL e]
theorem Sm.noLs : ∀ l : List Sm, nLs (Sm.ds l) = true
  | [] => by simp [Sm.ds, nLs]
  | s :: r => by simp [Sm.ds, nLs, Sm.noL s, Sm.noLs r]
end
def wds7 : List Str := ["add", "sub", "mul", "div", "rem", "less", "same"]
def In32 (a : Int) : Prop := -2147483648 ≤ a ∧ a ≤ 2147483647
def Ex.Wf (nms rws : List Str) : Nat → Ex → Prop
  | 0, _ => False
  | _ + 1, .num n => In32 n
  | _ + 1, .nam x => x ∈ nms
  | d + 1, .at_ r e => r ∈ rws ∧ e.Wf nms rws d
  | d + 1, .no e => e.Wf nms rws d
  | d + 1, .op w a b => w ∈ wds7 ∧ a.Wf nms rws d ∧ b.Wf nms rws d
theorem Ex.Wf.mono {nms rws : List Str} : ∀ {d k : Nat} {e : Ex}, d ≤ k → e.Wf nms rws d → e.Wf nms rws k
  | 0, _, _, _, h => h.elim
  | d + 1, 0, _, hk, _ => by omega
  | d + 1, k + 1, .num n, _, h => h
  | d + 1, k + 1, .nam x, _, h => h
  | d + 1, k + 1, .at_ r e, hk, h => ⟨h.1, Ex.Wf.mono (d := d) (by omega) h.2⟩
  | d + 1, k + 1, .no e, hk, h => Ex.Wf.mono (d := d) (e := e) (by omega) h
  | d + 1, k + 1, .op w a b, hk, h => ⟨h.1, Ex.Wf.mono (d := d) (by omega) h.2.1, Ex.Wf.mono (d := d) (by omega) h.2.2⟩
/-- names, rows and heads that a drawer is handed -/
structure Info (K : PySem.W.Frag) (H : Hp) (v : V) (nms rws : List Str) (hds : List (Str × Nat)) (a b c : Addr) : Prop where
  tup : ∃ p, v = .ref p ∧ SqT K H p [.ref a, .ref b, .ref c]
  a : H a = some (.lst (nms.map V.str))
  b : H b = some (.lst (rws.map V.str))
  c : ∃ hs, H c = some (.lst hs) ∧ DpAll K H hs (hds.map fun q => .tuple [.str q.1, .int q.2])
theorem heads_noL (hds : List (Str × Nat)) : nLs (hds.map fun q => .tuple [.str q.1, .int q.2]) = true := noLs_all fun x hx => by
  obtain ⟨q, _, rfl⟩ := List.mem_map.mp hx
  rfl
def Off (S : Addr → Prop) (a b c : Addr) : Prop := ¬ S a ∧ ¬ S b ∧ ¬ S c
theorem Info.kp {K : PySem.W.Frag} {H H' : Hp} {v : V} {nms rws : List Str} {hds : List (Str × Nat)} {a b c : Addr} {S : Addr → Prop} (h : Info K H v nms rws hds a b c) (k : Kp S H H') (o : Off S a b c) : Info K H' v nms rws hds a b c := by
  obtain ⟨⟨p, rfl, h1⟩, h2, h3, hs, h4, h5⟩ := h
  exact ⟨⟨p, rfl, sqT_kp k h1⟩, k _ _ h2 fun z => absurd z o.1, k _ _ h3 fun z => absurd z o.2.1, hs, k _ _ h4 fun z => absurd z o.2.2, dpAll_kp k _ _ (heads_noL hds) h5⟩
section
variable {P : Program} {w : World} {K : PySem.W.Frag} {mg : Str → Option Value} {base : Heap}
def sp__law_number_by : Sp := fun vs H Q _ => ∃ (v : V) (k : Int), vs = [v, .int k] ∧ CellOk H v ∧ 0 ≤ k ∧ k < 1000 ∧ ∀ H' n, Kp (cellS v) H H' → CellOk H' v → In32 n → Q (.int n) H'
theorem ok__law_number_by (T : Top K mg) : FnOk P w K mg base CX0 2 (He.ga K "_law_number_by") T.fd__law_number_by ["_law_cell", "_law_k"] sp__law_number_by := by
  have G__law_mixed := ok__law_mixed (P := P) (w := w) (base := base) T
  refine T.F__law_number_by.ok sc__law_number_by (fun vs H Q E h => ?_) (fun cdv A outer s H vs Q E hr h => ?_)
  · obtain ⟨v, k, rfl, _⟩ := h
    rfl
  · obtain ⟨v, k, rfl, hv, h0, h1, q⟩ := h
    refine ⟨_, PSs.nox (pss_cons (ps_set (i := 2) sc__law_number_by.nd rfl (Or.inl rfl) (pe_lst (pa_cons pe_int (pa_cons pe_int (pa_cons (pe_un un_neg pe_int) (pa_cons pe_int (pa_cons pe_int (pa_cons pe_int (pa_cons pe_int (pa_cons (pe_un un_neg pe_int) (pa_cons (pe_op op_sub (pe_call G__law_mixed (hr.mono (by omega)) (by rfl) T.g__law_mixed T.F__law_mixed.kp T.b__law_mixed .nil pass0 (pa_cons (pv 0) (pa_cons (pv 1) (pa_cons pe_int pa_nil)))) pe_int) (pa_cons pe_int (pa_cons (pe_call G__law_mixed (hr.mono (by omega)) (by rfl) T.g__law_mixed T.F__law_mixed.kp T.b__law_mixed .nil pass0 (pa_cons (pv 0) (pa_cons (pv 1) (pa_cons pe_int pa_nil)))) pa_nil)))))))))))))
        (pss_cons (ps_if (pt_val (pe_callB call_isi (by rfl) T.m_isinstance (by decide +kernel) (pa_cons (pv 0) (pa_cons (pe_bltn (v := .ty "list") (by rfl) T.m_list (by decide +kernel) rfl) pa_nil)))) (pss_one (ps_asg (pe_op op_sub (pe_call G__law_mixed (hr.mono (by omega)) (by rfl) T.g__law_mixed T.F__law_mixed.kp T.b__law_mixed .nil pass0 (pa_cons (pv 0) (pa_cons (pv 1) (pa_cons pe_int pa_nil)))) pe_int) (pg_sub (pv 2) pe_int set_list))) pss_nil)
        (pss_one (ps_ret (pe_ix ix_list (pv 2) (pe_call G__law_mixed (hr.mono (by omega)) (by rfl) T.g__law_mixed T.F__law_mixed.kp T.b__law_mixed .nil pass0 (pa_cons (pv 0) (pa_cons (pe_op op_add (pv 1) pe_int) (pa_cons pe_int pa_nil)))) (fun _ _ => rfl)))))), ?_⟩
    refine ⟨_, rfl, _, rfl, _, rfl, _, rfl, v, k, 200, rfl, hv, h0, by omega, by decide, by decide, fun H1 r1 k1 c1 r10 r11 => ?_⟩
    refine ⟨_, _, rfl, rfl, _, rfl, _, rfl, v, k, 10, rfl, c1, h0, by omega, by decide, by decide, fun H2 r2 k2 c2 r20 r21 => ?_⟩
    refine ⟨(by show 11 ≤ sizeLine; rw [sizeLine_eq]; decide), fun L nL => ?_⟩
    have k3 : Kp (cellS v) H (upd H2 L (.lst (([0, 1, -1, 2, 3, 5, 2147483647, -2147483648, r1 - 100, 65536, r2] : List Int).map V.int))) := (k1.trans k2).trans (.of_same (same_new nL))
    have c3 : CellOk (upd H2 L (.lst (([0, 1, -1, 2, 3, 5, 2147483647, -2147483648, r1 - 100, 65536, r2] : List Int).map V.int))) v := c2.same (same_new nL)
    have nc : ¬ cellS v L := c2.fresh nL
    have nH : ∀ H', Kp (cellS v) H H' → H' L = none → H L = none := fun H' k' e => by
      cases z : H L with
      | none => rfl
      | some o =>
        have := k' _ _ z fun y => absurd y nc
        rw [e] at this
        cases this
    have nHL := nH _ (k1.trans k2) nL
    dsimp only [gName]
    refine ifs_by (fun σ' H' => Kp (cellS v) H H' ∧ CellOk H' v ∧ ∃ x : Int, In32 x ∧ H' L = some (.lst (([0, 1, -1, 2, x, 5, 2147483647, -2147483648, r1 - 100, 65536, r2] : List Int).map V.int)) ∧ σ' = [some v, some (.int k), some (.ref L)]) ?_ ?_
    · rintro σ' H4 ⟨k4, c4, x, hx, e4, rfl⟩
      refine ⟨_, rfl, _, rfl, _, rfl, _, _, rfl, rfl, v, k + 1, 11, rfl, c4, by omega, by omega, by decide, by decide, fun H5 j k5 c5 j0 j1 => ?_⟩
      have e5 : H5 L = some (.lst (([0, 1, -1, 2, x, 5, 2147483647, -2147483648, r1 - 100, 65536, r2] : List Int).map V.int)) := k5 _ _ e4 fun z => absurd z nc
      refine ⟨L, _, j, _, rfl, rfl, .of e5, at_ints j0 j1, q _ _ (k4.trans k5) c5 ?_⟩
      refine getD_all (fun y hy => ?_) j0 j1
      simp only [List.mem_cons, List.not_mem_nil, or_false] at hy
      obtain ⟨x1, x2⟩ := hx
      unfold In32
      omega
    · intro N hN
      rcases c3 with ⟨c, rfl⟩ | ⟨a, l, t, rfl, ha, hl, ht⟩
      · refine ⟨_, rfl, _, _, _, _, false, rfl, .ty _, .base (.int c), kit_ty (by decide +kernel), false, rfl, ?_⟩
        exact hN _ _ ⟨k3, .inl ⟨_, rfl⟩, 3, by unfold In32; decide, upd_same, rfl⟩
      · refine ⟨_, rfl, _, _, _, _, true, rfl, .ty _, .base (.lst ha), kit_ty (by decide +kernel), true, rfl, ?_⟩
        refine ⟨_, rfl, _, rfl, .ref a, k, 4294967296, rfl, .inr ⟨a, l, t, rfl, ha, hl, ht⟩, h0, by omega, by decide, by decide, fun H5 r k5 c5 r0 r1 => ?_⟩
        have e5 := k5 _ _ (upd_same (H := H2) (a := L)) fun z => absurd z nc
        refine ⟨_, _, rfl, rfl, _, rfl, L, _, 4, 4, rfl, rfl, e5, rfl, ?_⟩
        refine hN _ _ ⟨?_, c5.upd nc, r - 2147483648, ⟨by omega, by omega⟩, upd_same, rfl⟩
        intro b o hb hk
        have nb : b ≠ L := ne_of_none hb nHL
        rw [upd_ne nb]
        exact (k3.trans k5) b o hb hk
def sp__law_within : Sp := fun vs H Q _ => ∃ (v : V) (k : Int), vs = [v, .int k] ∧ CellOk H v ∧ 0 ≤ k ∧ k < 1000 ∧ ∀ H' v', Kp (cellS v) H H' → CellOk H' v → CellOk H' v' → (v' = v ∨ ∃ c, v' = .int c) → Q v' H'
theorem ok__law_within (T : Top K mg) : FnOk P w K mg base CX0 2 (He.ga K "_law_within") T.fd__law_within ["_law_cell", "_law_k"] sp__law_within := by
  have G__law_mixed := ok__law_mixed (P := P) (w := w) (base := base) T
  refine T.F__law_within.ok sc__law_within (fun vs H Q E h => ?_) (fun cdv A outer s H vs Q E hr h => ?_)
  · obtain ⟨v, k, rfl, _⟩ := h
    rfl
  · obtain ⟨v, k, rfl, hv, h0, h1, q⟩ := h
    refine ⟨_, PSs.nox (pss_cons (ps_if (pt_val (pe_callB call_isi (by rfl) T.m_isinstance (by decide +kernel) (pa_cons (pv 0) (pa_cons (pe_bltn (v := .ty "list") (by rfl) T.m_list (by decide +kernel) rfl) pa_nil)))) (pss_one (ps_ret (pv 0))) pss_nil)
        (pss_one (ps_ret (pe_call G__law_mixed (hr.mono (by omega)) (by rfl) T.g__law_mixed T.F__law_mixed.kp T.b__law_mixed .nil pass0 (pa_cons (pv 0) (pa_cons (pv 1) (pa_cons pe_int pa_nil))))))), ?_⟩
    rcases hv with ⟨c, rfl⟩ | ⟨a, l, t, rfl, ha, hl, ht⟩
    · refine ⟨_, rfl, _, _, _, _, false, rfl, .ty _, .base (.int c), kit_ty (by decide +kernel), false, rfl, ?_⟩
      exact ⟨_, rfl, _, rfl, .int c, k, 1000003, rfl, .inl ⟨_, rfl⟩, h0, by omega, by decide, by decide, fun H1 r k1 c1 _ _ => q _ _ k1 c1 (.inl ⟨_, rfl⟩) (.inr ⟨_, rfl⟩)⟩
    · refine ⟨_, rfl, _, _, _, _, true, rfl, .ty _, .base (.lst ha), kit_ty (by decide +kernel), true, rfl, ?_⟩
      exact ⟨_, rfl, q _ _ Kp.refl (.inr ⟨a, l, t, rfl, ha, hl, ht⟩) (.inr ⟨a, l, t, rfl, ha, hl, ht⟩) (.inl rfl)⟩
theorem cellS_sub {v v' : V} (h : v' = v ∨ ∃ c, v' = .int c) : ∀ b, cellS v' b → cellS v b := by
  rcases h with rfl | ⟨c, rfl⟩
  · exact fun b z => z
  · intro b z
    cases z
end

section
variable {P : Program} {w : World} {K : PySem.W.Frag} {mg : Str → Option Value} {base : Heap}
theorem CellOk.or {H : Hp} {v v' : V} (h : v' = v ∨ ∃ c, v' = .int c) (c : CellOk H v) : CellOk H v' := by
  rcases h with rfl | ⟨c, rfl⟩
  · exact c
  · exact .inl ⟨_, rfl⟩
theorem Off.sub {S S' : Addr → Prop} {a b c : Addr} (o : Off S a b c) (h : ∀ x, S' x → S x) : Off S' a b c := ⟨fun z => o.1 (h _ z), fun z => o.2.1 (h _ z), fun z => o.2.2 (h _ z)⟩
theorem dp_same {H H' : Hp} {v : V} {d : PyData} (h : Dp K H v d) (k : Same H H') (n : nLd d = true) : Dp K H' v d := dp_kp (Kp.of_same (S := fun _ => False) k) d v n h
theorem dpAll_same {H H' : Hp} {v : List V} {d : List PyData} (h : DpAll K H v d) (k : Same H H') (n : nLs d = true) : DpAll K H' v d := dpAll_kp (Kp.of_same (S := fun _ => False) k) d v n h
theorem in_strs_at {zs : List Str} {i : Int} (h0 : 0 ≤ i) (h1 : i < zs.length) : ∃ z ∈ zs, atI (zs.map V.str) i = some (.str z) := by
  obtain ⟨x, hx, e⟩ := at_list (ns := zs.map V.str) h0 (by rw [List.length_map]; exact h1)
  obtain ⟨z, hz, rfl⟩ := List.mem_map.mp hx
  exact ⟨z, hz, e⟩
theorem cell_after {H H' : Hp} {v v1 : V} (h : v1 = v ∨ ∃ c, v1 = .int c) (c : CellOk H v) (k : Kp (cellS v1) H H') (c1 : CellOk H' v1) : CellOk H' v := by
  rcases h with rfl | ⟨n, rfl⟩
  · exact c1
  · exact c.same fun b o e => k b o e fun z => nomatch z
def sp_ex (K : PySem.W.Frag) (D : Nat) : Sp := fun vs H Q _ => ∃ (v vi : V) (d : Int) (nms rws : List Str) (hds : List (Str × Nat)) (a b c : Addr), vs = [v, .int d, vi] ∧ CellOk H v ∧ 1 ≤ d ∧ d ≤ D ∧ Info K H vi nms rws hds a b c ∧
  nms.length ≤ 16 ∧ rws.length ≤ 16 ∧ Off (cellS v) a b c ∧ ∀ H' r (e : Ex), Kp (cellS v) H H' → CellOk H' v → Dp K H' r e.d → e.Wf nms rws d.toNat → Q r H'
theorem ok__law_expression (T : Top K mg) : ∀ D : Nat, FnOk P w K mg base CX0 (D + 3) (He.ga K "_law_expression") T.fd__law_expression ["_law_cell", "_law_deep", "_law_info"] (sp_ex K D)
  | 0 => by
    refine T.F__law_expression.ok sc__law_expression (fun vs H Q E h => ?_) (fun cdv A outer s H vs Q E hr h => ?_)
    · obtain ⟨v, vi, d, nms, rws, hds, a, b, c, rfl, hv, h1, h2, _⟩ := h
      rfl
    · obtain ⟨v, vi, d, nms, rws, hds, a, b, c, rfl, hv, h1, h2, _⟩ := h
      exfalso
      have : d ≤ 0 := h2
      omega
  | D + 1 => by
    have G__law_mixed := ok__law_mixed (P := P) (w := w) (base := base) T
    have G__law_within := ok__law_within (P := P) (w := w) (base := base) T
    have G__law_number_by := ok__law_number_by (P := P) (w := w) (base := base) T
    have G__law_expression := ok__law_expression T D
    refine T.F__law_expression.ok sc__law_expression (fun vs H Q E h => ?_) (fun cdv A outer s H vs Q E hr h => ?_)
    · obtain ⟨v, vi, d, nms, rws, hds, a, b, c, rfl, _⟩ := h
      rfl
    · obtain ⟨v, vi, d, nms, rws, hds, a, b, c, rfl, hv, hd1, hd2, hI, hn, hw, ho, q⟩ := h
      refine ⟨_, PSs.nox (pss_cons (ps_par (i := 3) (j := 4) (by rfl) sc__law_expression.nd rfl rfl (by decide) rfl rfl (pa_cons (pe_ix ix_tup (pv 2) pe_int (fun _ _ => rfl)) (pa_cons (pe_ix ix_tup (pv 2) pe_int (fun _ _ => rfl)) pa_nil)) (by rfl))
        (pss_cons (ps_set (i := 5) sc__law_expression.nd rfl (Or.inl rfl) (pe_call G__law_mixed (hr.mono (by omega)) (by rfl) T.g__law_mixed T.F__law_mixed.kp T.b__law_mixed .nil pass0 (pa_cons (pv 0) (pa_cons pe_int (pa_cons pe_int pa_nil)))))
        (pss_cons (ps_set (i := 6) sc__law_expression.nd rfl (Or.inl rfl) (pe_call G__law_within (hr.mono (by omega)) (by rfl) T.g__law_within T.F__law_within.kp T.b__law_within .nil pass0 (pa_cons (pv 0) (pa_cons pe_int pa_nil))))
        (pss_cons (ps_if (PW.pt (pw_or (pt_cmpR op_lt (pv 1) pe_int (nomark _)) (pw_or1 (pt_cmpR op_lt (pv 5) pe_int (nomark _))))) (pss_cons (ps_if (PW.pt (pw_or (pt_cmpR op_eq (pe_callB call_len_seq (by rfl) T.m_len (by decide +kernel) (pa_cons (pv 3) pa_nil)) pe_int (nomark _)) (pw_or1 (pt_cmpR op_eq (pe_op op_mod (pv 5) pe_int) pe_int (nomark _))))) (pss_one (ps_ret (pe_tup (pa_cons pe_str (pa_cons (pe_call G__law_number_by (hr.mono (by omega)) (by rfl) T.g__law_number_by T.F__law_number_by.kp T.b__law_number_by .nil pass0 (pa_cons (pv 0) (pa_cons pe_int pa_nil))) pa_nil))))) pss_nil)
        (pss_one (ps_ret (pe_tup (pa_cons pe_str (pa_cons (pe_ix ix_list (pv 3) (pe_call G__law_mixed (hr.mono (by omega)) (by rfl) T.g__law_mixed T.F__law_mixed.kp T.b__law_mixed .nil pass0 (pa_cons (pv 0) (pa_cons pe_int (pa_cons (pe_callB call_len_seq (by rfl) T.m_len (by decide +kernel) (pa_cons (pv 3) pa_nil)) pa_nil)))) (fun _ _ => rfl)) pa_nil)))))) pss_nil)
        (pss_cons (ps_if (PW.pt (pw_and (pt_cmpR op_eq (pv 5) pe_int (nomark _)) (pw_and1 (pt_cmpR op_gt (pe_callB call_len_seq (by rfl) T.m_len (by decide +kernel) (pa_cons (pv 4) pa_nil)) pe_int (nomark _))))) (pss_one (ps_ret (pe_tup (pa_cons pe_str (pa_cons (pe_ix ix_list (pv 4) (pe_call G__law_mixed (hr.mono (by omega)) (by rfl) T.g__law_mixed T.F__law_mixed.kp T.b__law_mixed .nil pass0 (pa_cons (pv 0) (pa_cons pe_int (pa_cons (pe_callB call_len_seq (by rfl) T.m_len (by decide +kernel) (pa_cons (pv 4) pa_nil)) pa_nil)))) (fun _ _ => rfl)) (pa_cons (pe_call G__law_expression (hr.mono (by omega)) (by rfl) T.g__law_expression T.F__law_expression.kp T.b__law_expression .nil pass0 (pa_cons (pv 6) (pa_cons (pe_op op_sub (pv 1) pe_int) (pa_cons (pv 2) pa_nil)))) pa_nil)))))) pss_nil)
        (pss_cons (ps_if (pt_cmpR op_eq (pv 5) pe_int (nomark _)) (pss_one (ps_ret (pe_tup (pa_cons pe_str (pa_cons (pe_call G__law_expression (hr.mono (by omega)) (by rfl) T.g__law_expression T.F__law_expression.kp T.b__law_expression .nil pass0 (pa_cons (pv 6) (pa_cons (pe_op op_sub (pv 1) pe_int) (pa_cons (pv 2) pa_nil)))) pa_nil))))) pss_nil)
        (pss_cons (ps_set (i := 7) sc__law_expression.nd rfl (Or.inl rfl) (pe_ix ix_list (pe_lst (pa_cons pe_str (pa_cons pe_str (pa_cons pe_str (pa_cons pe_str (pa_cons pe_str (pa_cons pe_str (pa_cons pe_str pa_nil)))))))) (pe_call G__law_mixed (hr.mono (by omega)) (by rfl) T.g__law_mixed T.F__law_mixed.kp T.b__law_mixed .nil pass0 (pa_cons (pv 0) (pa_cons pe_int (pa_cons pe_int pa_nil)))) (fun _ _ => rfl)))
        (pss_cons (ps_set (i := 8) sc__law_expression.nd rfl (Or.inl rfl) (pe_call G__law_expression (hr.mono (by omega)) (by rfl) T.g__law_expression T.F__law_expression.kp T.b__law_expression .nil pass0 (pa_cons (pe_call G__law_within (hr.mono (by omega)) (by rfl) T.g__law_within T.F__law_within.kp T.b__law_within .nil pass0 (pa_cons (pv 0) (pa_cons pe_int pa_nil))) (pa_cons (pe_op op_sub (pv 1) pe_int) (pa_cons (pv 2) pa_nil)))))
        (pss_one (ps_ret (pe_tup (pa_cons (pv 7) (pa_cons (pe_call G__law_expression (hr.mono (by omega)) (by rfl) T.g__law_expression T.F__law_expression.kp T.b__law_expression .nil pass0 (pa_cons (pv 6) (pa_cons (pe_op op_sub (pv 1) pe_int) (pa_cons (pv 2) pa_nil)))) (pa_cons (pv 8) pa_nil)))))))))))))), ?_⟩
      obtain ⟨pi, rfl, hT⟩ := hI.tup
      refine ⟨_, rfl, pi, _, 0, _, rfl, rfl, hT, atI_nat (j := 0) rfl, _, rfl, pi, _, 1, _, rfl, rfl, hT, atI_nat (j := 1) rfl, _, _, rfl, ?_⟩
      refine ⟨_, rfl, v, 0, 13, rfl, hv, by decide, by decide, by decide, by decide, fun H1 kd k1 c1 kd0 kd1 => ?_⟩
      refine ⟨_, rfl, v, 3, rfl, c1, by decide, by decide, fun H2 v1 k2 c2 c2' w1 => ?_⟩
      have k12 := k1.trans k2
      have I2 := hI.kp k12 ho
      have sub1 := cellS_sub w1
      have o1 := ho.sub sub1
      have d0 : ∃ n : Nat, d.toNat = n + 1 := ⟨d.toNat - 1, by omega⟩
      obtain ⟨n, hn1⟩ := d0
      have mk : ∀ (H' : Hp) (ds : List PyData) (xs : List V) (e : Ex), Kp (cellS v) H H' → CellOk H' v → DpAll K H' xs ds → e.d = .tuple ds → nLs ds = true → e.Wf nms rws d.toNat → xs.length ≤ sizeLine ∧ ∀ p, H' p = none → Q (.ref p) (upd H' p (.tup xs)) := by
        intro H' ds xs e k' c' h' he hno wf
        refine ⟨?_, fun p np => q _ _ e (k'.trans (.of_same (same_new np))) (c'.same (same_new np)) ?_ wf⟩
        · rw [dpAll_len h', sizeLine_eq]
          have : ds.length ≤ 3 := by
            cases e <;> (simp only [Ex.d] at he; injection he with he; subst he; simp)
          omega
        · rw [he]
          exact .tup (.of upd_same) (dpAll_same h' (same_new np) hno)
      dsimp only [gName]
      refine ifs_by (fun σ' H' => H' = H2 ∧ 2 ≤ d ∧ σ' = [some v, some (.int d), some (.ref pi), some (.ref a), some (.ref b), some (.int kd), some v1, none, none]) ?_ ?_
      · rintro σ' H3 ⟨rfl, hd3, rfl⟩
        have wf_n : (d - 1).toNat = n := by omega
        have wf2 : (d - 1).toNat + 1 = d.toNat := by omega
        -- at
        refine ifs_by (fun σ' H' => H' = H3 ∧ σ' = [some v, some (.int d), some (.ref pi), some (.ref a), some (.ref b), some (.int kd), some v1, none, none]) ?_ ?_
        rotate_left
        · intro N hN
          refine ⟨_, rfl, rfl, _, rfl, ite2 (fun e1 => ?_) (fun e1 => hN _ _ ⟨rfl, rfl⟩)⟩
          refine ⟨_, rfl, b, _, rfl, .inl (.of I2.b), _, _, rfl, rfl, _, rfl, ite2 (fun e2 => ?_) (fun e2 => hN _ _ ⟨rfl, rfl⟩)⟩
          have e3 : 0 < rws.length := by
            have := of_decide_eq_true e2
            rw [List.length_map] at this
            omega
          refine ⟨_, rfl, _, rfl, _, rfl, b, _, rfl, .inl (.of I2.b), v, 4, (rws.map V.str).length, rfl, c2, by decide, by decide, by rw [List.length_map]; omega, by rw [List.length_map]; omega, fun H4 j k4 c4 j0 j1 => ?_⟩
          rw [List.length_map] at j1
          have I4 := I2.kp k4 ho
          obtain ⟨z, hz, ez⟩ := in_strs_at j0 j1
          refine ⟨b, _, j, _, rfl, rfl, .of I4.b, ez, ?_⟩
          refine ⟨_, rfl, _, rfl, _, _, rfl, rfl, _, rfl, v1, .ref pi, d - 1, nms, rws, hds, a, b, c, rfl, CellOk.or w1 c4, by omega, by omega, I4, hn, hw, o1, fun H5 r e k5 c5 dp wf => ?_⟩
          have k5' : Kp (cellS v) H4 H5 := k5.mono sub1
          refine mk H5 [.str "at", .str z, e.d] _ (.at_ z e) ((k12.trans k4).trans k5') (cell_after w1 c4 k5 c5) (.cons (.str _) (.cons (.str _) (.cons dp .nil))) rfl (by simp [nLs, nLd, e.noL]) ?_
          rw [← wf2]
          exact ⟨hz, wf⟩
        rintro σ' H4 ⟨rfl, rfl⟩
        -- not
        refine ifs_by (fun σ' H' => H' = H4 ∧ σ' = [some v, some (.int d), some (.ref pi), some (.ref a), some (.ref b), some (.int kd), some v1, none, none]) ?_ ?_
        rotate_left
        · intro N hN
          refine ⟨_, rfl, rfl, _, rfl, ite2 (fun e1 => ?_) (fun e1 => hN _ _ ⟨rfl, rfl⟩)⟩
          refine ⟨_, rfl, _, rfl, _, _, rfl, rfl, _, rfl, v1, .ref pi, d - 1, nms, rws, hds, a, b, c, rfl, CellOk.or w1 c2, by omega, by omega, I2, hn, hw, o1, fun H5 r e k5 c5 dp wf => ?_⟩
          have k5' : Kp (cellS v) H4 H5 := k5.mono sub1
          refine mk H5 [.str "not", e.d] _ (.no e) (k12.trans k5') (cell_after w1 c2 k5 c5) (.cons (.str _) (.cons dp .nil)) rfl (by simp [nLs, nLd, e.noL]) ?_
          rw [← wf2]
          exact wf
        rintro σ' H5 ⟨rfl, rfl⟩
        -- a word of seven
        refine ⟨(by show 7 ≤ sizeLine; rw [sizeLine_eq]; decide), fun L nL => ?_⟩
        have s6 := same_new (o := .lst (wds7.map V.str)) nL
        have c6 : CellOk _ v := c2.same s6
        have nc : ¬ cellS v L := c2.fresh nL
        refine ⟨_, rfl, v, 5, 7, rfl, c6, by decide, by decide, by decide, by decide, fun H7 j k7 c7 j0 j1 => ?_⟩
        obtain ⟨wd, hwd, ew⟩ := in_strs_at (zs := wds7) j0 j1
        have k7' : Kp (cellS v) H5 H7 := (Kp.of_same s6).trans k7
        refine ⟨L, _, j, _, rfl, rfl, .of (k7 _ _ upd_same fun z => absurd z nc), ew, ?_⟩
        have I7 := I2.kp k7' ho
        refine ⟨_, rfl, v, 6, rfl, c7, by decide, by decide, fun H8 v2 k8 c8 c8' w2 => ?_⟩
        have sub2 := cellS_sub w2
        have I8 := I7.kp k8 ho
        refine ⟨_, rfl, _, _, rfl, rfl, _, rfl, v2, .ref pi, d - 1, nms, rws, hds, a, b, c, rfl, c8', by omega, by omega, I8, hn, hw, ho.sub sub2, fun H9 r2 e2 k9 c9 dp2 wf2' => ?_⟩
        have k9' : Kp (cellS v) H8 H9 := k9.mono sub2
        have c9' := cell_after w2 c8 k9 c9
        have I9 := I8.kp k9' ho
        refine ⟨_, rfl, _, rfl, _, rfl, _, _, rfl, rfl, _, rfl, v1, .ref pi, d - 1, nms, rws, hds, a, b, c, rfl, CellOk.or w1 c9', by omega, by omega, I9, hn, hw, o1, fun H10 r1 e1 k10 c10 dp1 wf1 => ?_⟩
        have k10' : Kp (cellS v) H9 H10 := k10.mono sub1
        refine ⟨_, rfl, ?_⟩
        refine mk H10 [.str wd, e1.d, e2.d] _ (.op wd e1 e2) ((((k12.trans k7').trans k8).trans k9').trans k10') (cell_after w1 c9' k10 c10) (.cons (.str _) (.cons dp1 (.cons (dp_kp k10' _ _ e2.noL dp2) .nil))) rfl (by simp [nLs, nLd, e1.noL, e2.noL]) ?_
        rw [← wf2]
        exact ⟨hwd, wf1, wf2'⟩
      · intro N hN
        refine ⟨_, rfl, _, _, rfl, rfl, _, rfl, ite_share ?_ fun e1 leaf => ?_⟩
        · refine ifs_by (fun σ' H' => H' = H2 ∧ 0 < nms.length ∧ σ' = [some v, some (.int d), some (.ref pi), some (.ref a), some (.ref b), some (.int kd), some v1, none, none]) ?_ ?_
          · rintro σ' H3 ⟨rfl, n0, rfl⟩
            refine ⟨_, rfl, _, rfl, _, rfl, a, _, rfl, .inl (.of I2.a), v, 2, (nms.map V.str).length, rfl, c2, by decide, by decide, by rw [List.length_map]; omega, by rw [List.length_map]; omega, fun H4 j k4 c4 j0 j1 => ?_⟩
            rw [List.length_map] at j1
            obtain ⟨z, hz, ez⟩ := in_strs_at j0 j1
            refine ⟨a, _, j, _, rfl, rfl, .of (I2.kp k4 ho).a, ez, ?_⟩
            refine mk H4 [.str "name", .str z] _ (.nam z) (k12.trans k4) c4 (.cons (.str _) (.cons (.str _) .nil)) rfl rfl ?_
            rw [hn1]
            exact hz
          · intro M hM
            refine ⟨_, rfl, a, _, rfl, .inl (.of I2.a), rfl, _, rfl, ite_share ?_ fun e2 leaf2 => ?_⟩
            · refine ⟨_, rfl, v, 1, rfl, c2, by decide, by decide, fun H4 x k4 c4 hx => ?_⟩
              refine mk H4 [.str "number", .int x] _ (.num x) (k12.trans k4) c4 (.cons (.str _) (.cons (.int _) .nil)) rfl rfl ?_
              rw [hn1]
              exact hx
            · refine ⟨_, rfl, _, _, rfl, rfl, (by show (0 : Int) < 3; decide), rfl, _, rfl, ite2 (fun _ => leaf2) fun e3 => ?_⟩
              refine hM _ _ ⟨rfl, ?_, rfl⟩
              rcases Nat.eq_zero_or_pos nms.length with z | z
              · exact absurd (decide_eq_true (congrArg V.int (by rw [List.length_map, z]; rfl))) e2
              · exact z
        · refine ⟨_, rfl, _, _, rfl, rfl, _, rfl, ite2 (fun _ => leaf) fun e2 => ?_⟩
          refine hN _ _ ⟨rfl, ?_, rfl⟩
          have e1' : ¬ d < 2 := fun z => e1 (decide_eq_true z)
          omega

end

section
variable {P : Program} {w : World} {K : PySem.W.Frag} {mg : Str → Option Value} {base : Heap}
/-- what is kept, but for an address that was free -/
theorem kp_upd_new {S : Addr → Prop} {H H' : Hp} {D : Addr} {o : HO} (k : Kp S H H') (h : H D = none) : Kp S H (upd H' D o) := fun b x e z => by
  rw [upd_ne (ne_of_none e h)]
  exact k b x e z
theorem kp_free {S : Addr → Prop} {H H' : Hp} {D : Addr} (k : Kp S H H') (h : H' D = none) (n : ¬ S D) : H D = none := by
  cases z : H D with
  | none => rfl
  | some o =>
    rw [k _ _ z fun y => absurd y n] at h
    cases h
def ExL (K : PySem.W.Frag) (H : Hp) (nms rws : List Str) (xs : List V) (es : List Ex) : Prop := DpAll K H xs (es.map Ex.d) ∧ ∀ e ∈ es, e.Wf nms rws 4
theorem exs_noL (es : List Ex) : nLs (es.map Ex.d) = true := noLs_all fun x hx => by
  obtain ⟨e, _, rfl⟩ := List.mem_map.mp hx
  exact e.noL
def sp__law_expressions (K : PySem.W.Frag) : Sp := fun vs H Q _ => ∃ (v vi : V) (m : Int) (nms rws : List Str) (hds : List (Str × Nat)) (a b c : Addr), vs = [v, .int m, vi] ∧ CellOk H v ∧ 0 ≤ m ∧ m ≤ 100 ∧ Info K H vi nms rws hds a b c ∧
  nms.length ≤ 16 ∧ rws.length ≤ 16 ∧ Off (cellS v) a b c ∧ ∀ H' p xs (es : List Ex), Kp (cellS v) H H' → CellOk H' v → H p = none → ¬ cellS v p → H' p = some (.lst xs) → ExL K H' nms rws xs es → es.length = m.toNat → Q (.ref p) H'
theorem ok__law_expressions (T : Top K mg) : FnOk P w K mg base CX0 8 (He.ga K "_law_expressions") T.fd__law_expressions ["_law_cell", "_law_many", "_law_info"] (sp__law_expressions K) := by
  have G__law_mixed := ok__law_mixed (P := P) (w := w) (base := base) T
  have G__law_within := ok__law_within (P := P) (w := w) (base := base) T
  have G__law_expression := ok__law_expression (P := P) (w := w) (base := base) T 4
  refine T.F__law_expressions.ok sc__law_expressions (fun vs H Q E h => ?_) (fun cdv A outer s H vs Q E hr h => ?_)
  · obtain ⟨v, vi, d, nms, rws, hds, a, b, c, rfl, _⟩ := h
    rfl
  · obtain ⟨v, vi, m, nms, rws, hds, a, b, c, rfl, hv, m0, m1, hI, hn, hw, ho, q⟩ := h
    refine ⟨_, PSs.nox (pss_one (ps_ret (pe_lc (own := [("_law_k", 3)]) (by rfl) sc__law_expressions.nd (pi_range1 (by rfl) T.m_range (pa_cons (pv 1) pa_nil)) (blkOk_by (own := [("_law_k", 3)]) (N := N__law_expressions) (sc := defScope s__law_expressions) (by decide +kernel)) (fun _ _ _ _ _ => (pg_name (i := 3) sc__law_expressions.nd rfl (Or.inl rfl))) (fun _ _ _ _ _ => pts_nil) (fun _ _ _ _ _ => (pe_call G__law_expression (hr.mono (by omega)) (by rfl) T.g__law_expression T.F__law_expression.kp T.b__law_expression .nil pass0 (pa_cons (pe_call G__law_within (hr.mono (by omega)) (by rfl) T.g__law_within T.F__law_within.kp T.b__law_within .nil pass0 (pa_cons (pv 0) (pa_cons (pv 3) pa_nil))) (pa_cons (pe_op op_add pe_int (pe_call G__law_mixed (hr.mono (by omega)) (by rfl) T.g__law_mixed T.F__law_mixed.kp T.b__law_mixed .nil pass0 (pa_cons (pv 0) (pa_cons (pe_op op_add (pv 3) pe_int) (pa_cons pe_int pa_nil))))) (pa_cons (pv 2) pa_nil)))))))), ?_⟩
    refine ⟨_, rfl, m, rfl, by omega, by omega, fun D nD => ?_⟩
    have nc : ¬ cellS v D := hv.fresh nD
    refine lc_range (lo := 0) (n := m.toNat) (fun i H' => Kp (cellS v) H H' ∧ CellOk H' v ∧ ∃ xs es, H' D = some (.lst xs) ∧ ExL K H' nms rws xs es ∧ es.length = i) ?_ ?_ ?_
    · exact ⟨kp_upd_new Kp.refl nD, hv.same (same_new nD), [], [], upd_same, ⟨.nil, fun e he => nomatch he⟩, rfl⟩
    · rintro i H1 hi ⟨k1, c1, xs, es, e1, ⟨x1, x2⟩, l1⟩
      refine ⟨rfl, _, rfl, _, rfl, v, 0 + (i : Int), rfl, c1, by omega, by omega, fun H2 v2 k2 c2 c2' w2 => ?_⟩
      refine ⟨_, rfl, _, rfl, _, _, rfl, rfl, v, 0 + (i : Int) + 4, 4, rfl, c2, by omega, by omega, by decide, by decide, fun H3 r k3 c3 r0 r1 => ?_⟩
      have sub2 := cellS_sub w2
      have I3 := hI.kp ((k1.trans k2).trans k3) ho
      refine ⟨_, _, rfl, rfl, _, rfl, v2, vi, 1 + r, nms, rws, hds, a, b, c, rfl, CellOk.or w2 c3, by omega, by omega, I3, hn, hw, ho.sub sub2, fun H4 x e k4 c4 dp wf => ?_⟩
      have k4' : Kp (cellS v) H3 H4 := k4.mono sub2
      have k14 := (k2.trans k3).trans k4'
      have e4 := k14 _ _ e1 fun z => absurd z nc
      have l2 := dpAll_len x1
      rw [List.length_map] at l2
      refine ⟨xs, e4, by rw [l2, l1, sizeLine_eq]; omega, kp_upd_new (k1.trans k14) nD, (cell_after w2 c3 k4 c4).upd nc, xs ++ [x], es ++ [e], upd_same, ⟨?_, ?_⟩, by rw [List.length_append, l1]; rfl⟩
      · rw [List.map_append]
        have ks : Kp (fun b => b = D) H4 (upd H4 D (.lst (xs ++ [x]))) := Kp.upd e4 trivial rfl
        exact dpAll_app (dpAll_kp ks _ _ (exs_noL es) (dpAll_kp k14 _ _ (exs_noL es) x1)) (.cons (dp_kp ks _ _ e.noL dp) .nil)
      · intro y hy
        rcases List.mem_append.mp hy with hy | hy
        · exact x2 y hy
        · rw [List.mem_singleton.mp hy]
          exact wf.mono (by omega)
    · rintro H1 ⟨k1, c1, xs, es, e1, h2, l1⟩
      exact q _ D xs es k1 c1 nD nc e1 h2 l1
end

/-! statements: what they may be -/
def Sm.ends : Sm → Bool
  | .give _ => true
  | .fail _ => true
  | _ => false
mutual
def Sm.Wf (nms rws : List Str) (hds : List (Str × Nat)) : Sm → Nat → Prop
  | .set x e, _ => x ∈ nms ∧ e.Wf nms rws 4
  | .put r e f, _ => r ∈ rws ∧ e.Wf nms rws 4 ∧ f.Wf nms rws 4
  | .tell e, _ => e.Wf nms rws 4
  | .ite e ys ns, k => 0 < k ∧ e.Wf nms rws 4 ∧ Sm.Wfs nms rws hds ys (k - 1) ∧ Sm.Wfs nms rws hds ns (k - 1)
  | .loop e b, k => 0 < k ∧ e.Wf nms rws 4 ∧ Sm.Wfs nms rws hds b (k - 1)
  | .call x h es, _ => x ∈ nms ∧ (h, es.length) ∈ hds ∧ ∀ e ∈ es, e.Wf nms rws 4
  | .fail n, _ => 0 ≤ n ∧ n < 100
  | .give e, _ => e.Wf nms rws 4
def Sm.Wfs (nms rws : List Str) (hds : List (Str × Nat)) : List Sm → Nat → Prop
  | [], _ => True
  | s :: r, k => s.Wf nms rws hds k ∧ (r ≠ [] → s.ends = false) ∧ Sm.Wfs nms rws hds r k
end
mutual
def Sm.size : Sm → Nat
  | .ite _ ys ns => 1 + Sm.sizes ys + Sm.sizes ns
  | .loop _ b => 1 + Sm.sizes b
  | _ => 1
def Sm.sizes : List Sm → Nat
  | [] => 0
  | s :: r => s.size + Sm.sizes r
end
section
variable {P : Program} {w : World} {K : PySem.W.Frag} {mg : Str → Option Value} {base : Heap}
/-- what the drawer of a statement has at hand -/
structure PSt (K : PySem.W.Frag) (H0 H : Hp) (v vi : V) (nms rws : List Str) (hds : List (Str × Nat)) (a b c p6 : Addr) (xs : List V) (es : List Ex) (p7 : Addr) (xl : List Str) : Prop where
  k : Kp (cellS v) H0 H
  cell : CellOk H v
  info : Info K H vi nms rws hds a b c
  l6 : H p6 = some (.lst xs)
  ex : ExL K H nms rws xs es
  l7 : H p7 = some (.lst (xl.map V.str))
theorem PSt.kp {H0 H H' : Hp} {v vi : V} {nms rws : List Str} {hds : List (Str × Nat)} {a b c p6 : Addr} {xs : List V} {es : List Ex} {p7 : Addr} {xl : List Str} (h : PSt K H0 H v vi nms rws hds a b c p6 xs es p7 xl)
    (k : Kp (cellS v) H H') (c' : CellOk H' v) (o : Off (cellS v) a b c) (n6 : ¬ cellS v p6) (n7 : ¬ cellS v p7) : PSt K H0 H' v vi nms rws hds a b c p6 xs es p7 xl :=
  ⟨h.k.trans k, c', h.info.kp k o, k _ _ h.l6 fun z => absurd z n6, ⟨dpAll_kp k _ _ (exs_noL es) h.ex.1, h.ex.2⟩, k _ _ h.l7 fun z => absurd z n7⟩
theorem PSt.same {H0 H : Hp} {v vi : V} {nms rws : List Str} {hds : List (Str × Nat)} {a b c p6 : Addr} {xs : List V} {es : List Ex} {p7 : Addr} {xl : List Str} (h : PSt K H0 H v vi nms rws hds a b c p6 xs es p7 xl)
    (o' : Off (cellS v) a b c) {p : Addr} {o : HO} (np : H p = none) : PSt K H0 (upd H p o) v vi nms rws hds a b c p6 xs es p7 xl := by
  have s := same_new (o := o) np
  exact ⟨h.k.trans (.of_same s), h.cell.same s, h.info.kp (Kp.of_same (S := cellS v) s) o', s _ _ h.l6, ⟨dpAll_same h.ex.1 s (exs_noL es), h.ex.2⟩, s _ _ h.l7⟩
def sp__law_plain (K : PySem.W.Frag) : Sp := fun vs H Q _ => ∃ (v vi : V) (nms rws : List Str) (hds : List (Str × Nat)) (a b c : Addr), vs = [v, vi] ∧ CellOk H v ∧ Info K H vi nms rws hds a b c ∧
  nms.length ≤ 16 ∧ rws.length ≤ 16 ∧ hds.length ≤ 16 ∧ (∀ q ∈ hds, q.2 ≤ 4) ∧ (∀ z ∈ nms, PyData.strOk z = true) ∧ Off (cellS v) a b c ∧ ∀ H' r (s : Sm), Kp (cellS v) H H' → CellOk H' v → Dp K H' r s.d → s.Wf nms rws hds 0 → s.size = 1 → Q r H'
def plainW : List Str := ["set", "tell", "put", "set", "call", "tell", "set", "put", "give", "fail"]
theorem eqv_strs_nil (xl : List Str) : PyData.eqv (.list (xl.map PyData.str)) (.list []) = xl.isEmpty := by
  cases xl with
  | nil => exact SeqAt.eqv_refl _ rfl
  | cons x r => rfl
theorem strs_shaped (xl : List Str) (hk : ∀ z ∈ xl, PyData.strOk z = true) : SeqAt.shaped (.list (xl.map PyData.str)) = true := by
  have h1 : ∀ l : List Str, (∀ z ∈ l, PyData.strOk z = true) → PyData.canLayAll0 (l.map PyData.str) = true := by
    intro l
    induction l with
    | nil => intro _; rfl
    | cons x r ih =>
      intro hl
      show PyData.canLayAll0 (PyData.str x :: r.map PyData.str) = true
      unfold PyData.canLayAll0
      rw [ih fun z hz => hl z (List.mem_cons_of_mem _ hz)]
      unfold PyData.canLay0
      rw [hl x (List.mem_cons_self ..)]
      rfl
  have h2 : ∀ l : List Str, PyData.depthAll (l.map PyData.str) ≤ 1 := by
    intro l
    induction l with
    | nil => decide
    | cons x r ih =>
      show PyData.depthAll (PyData.str x :: r.map PyData.str) ≤ 1
      unfold PyData.depthAll
      have : (PyData.str x).depth ≤ 1 := by unfold PyData.depth; decide
      omega
  unfold SeqAt.shaped
  rw [Bool.and_eq_true]
  refine ⟨?_, decide_eq_true ?_⟩
  · unfold PyData.canLay0
    exact h1 xl hk
  · have := h2 xl
    unfold PyData.depth
    omega
theorem ok__law_plain (T : Top K mg) : FnOk P w K mg base CX0 9 (He.ga K "_law_plain") T.fd__law_plain ["_law_cell", "_law_info"] (sp__law_plain K) := by
  have G__law_mixed := ok__law_mixed (P := P) (w := w) (base := base) T
  have G__law_within := ok__law_within (P := P) (w := w) (base := base) T
  have G__law_expressions := ok__law_expressions (P := P) (w := w) (base := base) T
  refine T.F__law_plain.ok sc__law_plain (fun vs H Q E h => ?_) (fun cdv A outer s H vs Q E hr h => ?_)
  · obtain ⟨v, vi, nms, rws, hds, a, b, c, rfl, _⟩ := h
    rfl
  · obtain ⟨v, vi, nms, rws, hds, a, b, c, rfl, hv, hI, hn, hw, hh, hq, hk, ho, q⟩ := h
    refine ⟨_, PSs.nox (pss_cons (ps_asg (pv 1) (pg_tup (by rfl) (pgs_cons (pg_name (i := 2) sc__law_plain.nd rfl (Or.inl rfl)) (pgs_cons (pg_name (i := 3) sc__law_plain.nd rfl (Or.inl rfl)) (pgs_cons (pg_name (i := 4) sc__law_plain.nd rfl (Or.inl rfl)) pgs_nil)))))
        (pss_cons (ps_set (i := 5) sc__law_plain.nd rfl (Or.inl rfl) (pe_ix ix_list (pe_lst (pa_cons pe_str (pa_cons pe_str (pa_cons pe_str (pa_cons pe_str (pa_cons pe_str (pa_cons pe_str (pa_cons pe_str (pa_cons pe_str (pa_cons pe_str (pa_cons pe_str pa_nil))))))))))) (pe_call G__law_mixed (hr.mono (by omega)) (by rfl) T.g__law_mixed T.F__law_mixed.kp T.b__law_mixed .nil pass0 (pa_cons (pv 0) (pa_cons pe_int (pa_cons pe_int pa_nil)))) (fun _ _ => rfl)))
        (pss_cons (ps_set (i := 6) sc__law_plain.nd rfl (Or.inl rfl) (pe_call G__law_expressions (hr.mono (by omega)) (by rfl) T.g__law_expressions T.F__law_expressions.kp T.b__law_expressions .nil pass0 (pa_cons (pe_call G__law_within (hr.mono (by omega)) (by rfl) T.g__law_within T.F__law_within.kp T.b__law_within .nil pass0 (pa_cons (pv 0) (pa_cons pe_int pa_nil))) (pa_cons pe_int (pa_cons (pv 1) pa_nil)))))
        (pss_cons (ps_set (i := 7) sc__law_plain.nd rfl (Or.inl rfl) (pe_slice sl_list (pe_slice sl_list (pv 2) (po_some (pe_call G__law_mixed (hr.mono (by omega)) (by rfl) T.g__law_mixed T.F__law_mixed.kp T.b__law_mixed .nil pass0 (pa_cons (pv 0) (pa_cons pe_int (pa_cons (pe_callB (call_max2 rfl) (by rfl) T.m_max (by decide +kernel) (pa_cons pe_int (pa_cons (pe_callB call_len_seq (by rfl) T.m_len (by decide +kernel) (pa_cons (pv 2) pa_nil)) pa_nil))) pa_nil))))) po_none) po_none (po_some pe_int)))
        (pss_cons (ps_if (PW.pt (pw_and (pt_cmpR op_eq (pv 5) pe_str (nomark _)) (pw_and1 (pt_cmpR op_gt (pe_callB call_len_seq (by rfl) T.m_len (by decide +kernel) (pa_cons (pv 3) pa_nil)) pe_int (nomark _))))) (pss_cons (ps_set (i := 8) sc__law_plain.nd rfl (Or.inl rfl) (pe_ix ix_list (pe_lst (pa_cons (pe_ix ix_list (pv 6) pe_int (fun _ _ => rfl)) (pa_cons (pe_tup (pa_cons pe_str (pa_cons (pe_call G__law_mixed (hr.mono (by omega)) (by rfl) T.g__law_mixed T.F__law_mixed.kp T.b__law_mixed .nil pass0 (pa_cons (pv 0) (pa_cons pe_int (pa_cons pe_int pa_nil)))) pa_nil))) pa_nil))) (pe_call G__law_mixed (hr.mono (by omega)) (by rfl) T.g__law_mixed T.F__law_mixed.kp T.b__law_mixed .nil pass0 (pa_cons (pv 0) (pa_cons pe_int (pa_cons pe_int pa_nil)))) (fun _ _ => rfl)))
        (pss_one (ps_ret (pe_tup (pa_cons pe_str (pa_cons (pe_ix ix_list (pv 3) (pe_call G__law_mixed (hr.mono (by omega)) (by rfl) T.g__law_mixed T.F__law_mixed.kp T.b__law_mixed .nil pass0 (pa_cons (pv 0) (pa_cons pe_int (pa_cons (pe_callB call_len_seq (by rfl) T.m_len (by decide +kernel) (pa_cons (pv 3) pa_nil)) pa_nil)))) (fun _ _ => rfl)) (pa_cons (pv 8) (pa_cons (pe_ix ix_list (pv 6) pe_int (fun _ _ => rfl)) pa_nil)))))))) pss_nil)
        (pss_cons (ps_if (PW.pt (pw_and (pt_cmpR op_eq (pv 5) pe_str (nomark _)) (pw_and (pt_cmpR op_gt (pe_callB call_len_seq (by rfl) T.m_len (by decide +kernel) (pa_cons (pv 4) pa_nil)) pe_int (nomark _)) (pw_and1 (pt_cmpR (op_neD hr.units) (pv 7) (pe_lst pa_nil) (nomark _)))))) (pss_cons (ps_set (i := 9) sc__law_plain.nd rfl (Or.inl rfl) (pe_ix ix_list (pv 4) (pe_call G__law_mixed (hr.mono (by omega)) (by rfl) T.g__law_mixed T.F__law_mixed.kp T.b__law_mixed .nil pass0 (pa_cons (pv 0) (pa_cons pe_int (pa_cons (pe_callB call_len_seq (by rfl) T.m_len (by decide +kernel) (pa_cons (pv 4) pa_nil)) pa_nil)))) (fun _ _ => rfl)))
        (pss_one (ps_ret (pe_tup (pa_cons pe_str (pa_cons (pe_ix ix_list (pv 7) pe_int (fun _ _ => rfl)) (pa_cons (pe_ix ix_tup (pv 9) pe_int (fun _ _ => rfl)) (pa_cons (pe_callTy call_tuple_of (by rfl) T.m_tuple (by decide +kernel) (pa_cons (pe_slice sl_list (pv 6) po_none (po_some (pe_ix ix_tup (pv 9) pe_int (fun _ _ => rfl)))) pa_nil)) pa_nil)))))))) pss_nil)
        (pss_cons (ps_if (PW.pt (pw_and (pt_cmpR op_eq (pv 5) pe_str (nomark _)) (pw_and1 (pt_cmpR op_eq (pe_call G__law_mixed (hr.mono (by omega)) (by rfl) T.g__law_mixed T.F__law_mixed.kp T.b__law_mixed .nil pass0 (pa_cons (pv 0) (pa_cons pe_int (pa_cons pe_int pa_nil)))) pe_int (nomark _))))) (pss_one (ps_ret (pe_tup (pa_cons pe_str (pa_cons (pe_call G__law_mixed (hr.mono (by omega)) (by rfl) T.g__law_mixed T.F__law_mixed.kp T.b__law_mixed .nil pass0 (pa_cons (pv 0) (pa_cons pe_int (pa_cons pe_int pa_nil)))) pa_nil))))) pss_nil)
        (pss_cons (ps_if (PW.pt (pw_and (pt_cmpR op_eq (pv 5) pe_str (nomark _)) (pw_and1 (pt_cmpR op_eq (pe_call G__law_mixed (hr.mono (by omega)) (by rfl) T.g__law_mixed T.F__law_mixed.kp T.b__law_mixed .nil pass0 (pa_cons (pv 0) (pa_cons pe_int (pa_cons pe_int pa_nil)))) pe_int (nomark _))))) (pss_one (ps_ret (pe_tup (pa_cons pe_str (pa_cons (pe_ix ix_list (pv 6) pe_int (fun _ _ => rfl)) pa_nil))))) pss_nil)
        (pss_cons (ps_if (PW.pt (pw_and (pt_cmpR op_eq (pv 5) pe_str (nomark _)) (pw_and1 (pt_cmpR (op_neD hr.units) (pv 7) (pe_lst pa_nil) (nomark _))))) (pss_one (ps_ret (pe_tup (pa_cons pe_str (pa_cons (pe_ix ix_list (pv 7) pe_int (fun _ _ => rfl)) (pa_cons (pe_ix ix_list (pv 6) pe_int (fun _ _ => rfl)) pa_nil)))))) pss_nil)
        (pss_one (ps_ret (pe_tup (pa_cons pe_str (pa_cons (pe_ix ix_list (pv 6) pe_int (fun _ _ => rfl)) pa_nil)))))))))))))), ?_⟩
    obtain ⟨pi, rfl, hT⟩ := hI.tup
    refine ⟨_, rfl, pi, _, rfl, hT, rfl, _, _, rfl, _, _, rfl, _, _, rfl, rfl, ?_⟩
    refine ⟨(by show 10 ≤ sizeLine; rw [sizeLine_eq]; decide), fun L nL => ?_⟩
    have s1 := same_new (o := .lst (plainW.map V.str)) nL
    have c1 : CellOk _ v := hv.same s1
    have nc : ¬ cellS v L := hv.fresh nL
    refine ⟨_, rfl, v, 1, 10, rfl, c1, by decide, by decide, by decide, by decide, fun H2 j k2 c2 j0 j1 => ?_⟩
    obtain ⟨wd, hwd, ew⟩ := in_strs_at (zs := plainW) j0 j1
    have k02 : Kp (cellS v) H H2 := (Kp.of_same s1).trans k2
    refine ⟨L, _, j, _, rfl, rfl, .of (k2 _ _ upd_same fun z => absurd z nc), ew, ?_⟩
    refine ⟨_, rfl, v, 2, rfl, c2, by decide, by decide, fun H3 v3 k3 c3 c3' w3 => ?_⟩
    have sub3 := cellS_sub w3
    have k03 := k02.trans k3
    refine ⟨_, rfl, v3, .ref pi, 4, nms, rws, hds, a, b, c, rfl, c3', by decide, by decide, hI.kp k03 ho, hn, hw, ho.sub sub3, fun H4 p6 xs es k4 c4 np6 nc6 l6 ex len => ?_⟩
    have k04 := k03.trans (k4.mono sub3)
    have c4' := cell_after w3 c3 k4 c4
    have nc6' : ¬ cellS v p6 := c3.fresh np6
    have I4 := hI.kp k04 ho
    have mx : ∀ n : Int, 0 ≤ n → n ≤ 16 → (if n > 1 then n else 1) > 0 ∧ (if n > 1 then n else 1) < 2 ^ 64 := by
      intro n h0 h1
      split <;> omega
    have mx2 := mx (nms.map V.str).length (by omega) (by rw [List.length_map]; omega)
    refine ⟨_, rfl, _, rfl, _, rfl, a, _, rfl, .inl (.of I4.a), _, _, rfl, v, 3, _, rfl, c4', by decide, by decide, mx2.1, mx2.2, fun H5 i k5 c5 i0 _ => ?_⟩
    obtain ⟨i, rfl⟩ := Int.eq_ofNat_of_zero_le i0
    have I5 := I4.kp k5 ho
    refine ⟨_, rfl, a, _, rfl, .of I5.a, fun p8 n8 => ?_⟩
    have s6 := same_new (o := .lst (cutV (nms.map V.str) (some (i : Int)) none)) n8
    refine ⟨_, rfl, p8, _, rfl, .of upd_same, fun p7 n7 => ?_⟩
    have s7 := same_new (o := .lst (cutV (cutV (nms.map V.str) (some (i : Int)) none) none (some 1))) n7
    have s57 := s6.trans s7
    have ecut : cutV (cutV (nms.map V.str) (some (i : Int)) none) none (some 1) = ((nms.drop i).take 1).map V.str := by
      rw [cutV_from, show (1 : Int) = ((1 : Nat) : Int) from rfl, cutV_to, List.map_take, List.map_drop]
    rw [ecut] at s7 s57 ⊢
    have hxl : ∀ z ∈ (nms.drop i).take 1, z ∈ nms := fun z hz => List.mem_of_mem_drop (List.mem_of_mem_take hz)
    generalize (nms.drop i).take 1 = xl at hxl s7 s57 ⊢
    have l6' : H5 p6 = some (.lst xs) := k5 _ _ l6 fun z => absurd z nc6'
    have nc7 : ¬ cellS v p7 := (c5.same s6).fresh n7
    have st0 : PSt K H _ v (.ref pi) nms rws hds a b c p6 xs es p7 xl := ⟨(k04.trans k5).trans (.of_same s57), c5.same s57, I5.kp (Kp.of_same (S := cellS v) s57) ho, s57 _ _ l6', ⟨dpAll_same (dpAll_kp k5 _ _ (exs_noL es) ex.1) s57 (exs_noL es), ex.2⟩, upd_same⟩
    have hk7 : ∀ z ∈ xl, PyData.strOk z = true := fun z hz => hk z (hxl z hz)
    have mk : ∀ (H' : Hp) (ds : List PyData) (ys : List V) (s : Sm), Kp (cellS v) H H' → CellOk H' v → DpAll K H' ys ds → s.d = .tuple ds → nLs ds = true → ds.length ≤ 4 → s.Wf nms rws hds 0 → s.size = 1 → ys.length ≤ sizeLine ∧ ∀ p, H' p = none → Q (.ref p) (upd H' p (.tup ys)) := by
      intro H' ds ys s k' c' h' he hno hl wf sz
      refine ⟨?_, fun p np => q _ _ s (k'.trans (.of_same (same_new np))) (c'.same (same_new np)) ?_ wf sz⟩
      · rw [dpAll_len h', sizeLine_eq]
        omega
      · rw [he]
        exact .tup (.of upd_same) (dpAll_same h' (same_new np) hno)
    obtain ⟨e0, e1, e2, e3, rfl⟩ : ∃ e0 e1 e2 e3, es = [e0, e1, e2, e3] := by
      match es, len with
      | [e0, e1, e2, e3], _ => exact ⟨_, _, _, _, rfl⟩
    obtain ⟨x0, x1, x2, x3, rfl⟩ : ∃ x0 x1 x2 x3, xs = [x0, x1, x2, x3] := by
      obtain ⟨x0, r0, rfl, _, h1⟩ := dpAll_cons ex.1
      obtain ⟨x1, r1, rfl, _, h2⟩ := dpAll_cons h1
      obtain ⟨x2, r2, rfl, _, h3⟩ := dpAll_cons h2
      obtain ⟨x3, r3, rfl, _, h4⟩ := dpAll_cons h3
      rw [dpAll_nil h4]
      exact ⟨_, _, _, _, rfl⟩
    have wf0 : e0.Wf nms rws 4 := ex.2 e0 (by simp)
    have wf1 : e1.Wf nms rws 4 := ex.2 e1 (by simp)
    have ex2 := ex.2
    clear ex l6 l6' I4 I5 hI hT
    generalize upd (upd H5 p8 _) p7 _ = H7 at st0
    -- what comes of an expression at its place
    have dpx : ∀ {H' : Hp}, PSt K H H' v (.ref pi) nms rws hds a b c p6 [x0, x1, x2, x3] [e0, e1, e2, e3] p7 xl → Dp K H' x0 e0.d ∧ Dp K H' x1 e1.d := by
      intro H' st
      obtain ⟨_, _, z, h0, h1⟩ := dpAll_cons st.ex.1
      obtain ⟨_, _, z1, h2, h3⟩ := dpAll_cons h1
      injection z with z z'
      subst z z'
      injection z1 with z1 z1'
      subst z1
      exact ⟨h0, h2⟩
    have slots : List (Option V) := [some v, some (.ref pi), some (.ref a), some (.ref b), some (.ref c), some (.str wd), some (.ref p6), some (.ref p7), none, none]
    dsimp only [gName]
    -- put
    refine ifs_by (fun σ' H' => H' = H7 ∧ σ' = [some v, some (.ref pi), some (.ref a), some (.ref b), some (.ref c), some (.str wd), some (.ref p6), some (.ref p7), none, none]) ?_ ?_
    rotate_left
    · intro N hN
      refine ⟨_, rfl, rfl, _, rfl, ite2 (fun _ => ?_) (fun _ => hN _ _ ⟨rfl, rfl⟩)⟩
      refine ⟨_, rfl, b, _, rfl, .inl (.of st0.info.b), _, _, rfl, rfl, _, rfl, ite2 (fun e2 => ?_) (fun _ => hN _ _ ⟨rfl, rfl⟩)⟩
      have r0 : 0 < rws.length := by
        have := of_decide_eq_true e2
        rw [List.length_map] at this
        omega
      refine ⟨_, rfl, p6, _, 0, _, rfl, rfl, .of st0.l6, atI_nat (j := 0) rfl, ?_⟩
      refine ⟨_, rfl, v, 4, 4, rfl, st0.cell, by decide, by decide, by decide, by decide, fun H8 r k8 c8 r0' r1' => ?_⟩
      have st8 := st0.kp k8 c8 ho nc6' nc7
      refine ⟨(by show 2 ≤ sizeLine; rw [sizeLine_eq]; decide), fun pt npt => ?_⟩
      have st9 := st8.same ho (o := .tup [.str "number", .int r]) npt
      refine ⟨(by show 2 ≤ sizeLine; rw [sizeLine_eq]; decide), fun pl npl => ?_⟩
      have st10 := st9.same ho (o := .lst [x0, .ref pt]) npl
      have ncl : ¬ cellS v pl := st9.cell.fresh npl
      refine ⟨_, rfl, v, 5, 2, rfl, st10.cell, by decide, by decide, by decide, by decide, fun H11 j k11 c11 j0 j1 => ?_⟩
      have st11 := st10.kp k11 c11 ho nc6' nc7
      have dnum : Dp K H11 (.ref pt) (Ex.num r).d := .tup (sqT_kp k11 (sqT_kp (Kp.of_same (S := cellS v) (same_new npl)) (.of upd_same))) (.cons (.str _) (.cons (.int _) .nil))
      obtain ⟨y, hy, ey⟩ := at_list (ns := [x0, V.ref pt]) j0 j1
      obtain ⟨ye, dy, wy⟩ : ∃ ye : Ex, Dp K H11 y ye.d ∧ ye.Wf nms rws 4 := by
        simp only [List.mem_cons, List.not_mem_nil, or_false] at hy
        rcases hy with rfl | rfl
        · exact ⟨e0, (dpx st11).1, wf0⟩
        · exact ⟨.num r, dnum, ⟨by omega, by omega⟩⟩
      refine ⟨pl, _, j, _, rfl, rfl, .of (k11 _ _ upd_same fun z => absurd z ncl), ey, ?_⟩
      refine ⟨_, rfl, _, rfl, _, rfl, b, _, rfl, .inl (.of st11.info.b), v, 6, (rws.map V.str).length, rfl, c11, by decide, by decide, by rw [List.length_map]; omega, by rw [List.length_map]; omega, fun H12 i k12 c12 i0 i1 => ?_⟩
      rw [List.length_map] at i1
      have st12 := st11.kp k12 c12 ho nc6' nc7
      obtain ⟨z, hz, ez⟩ := in_strs_at i0 i1
      refine ⟨b, _, i, _, rfl, rfl, .of st12.info.b, ez, _, rfl, _, rfl, p6, _, 1, _, rfl, rfl, .of st12.l6, atI_nat (j := 1) rfl, ?_⟩
      exact mk H12 [.str "put", .str z, ye.d, e1.d] _ (.put z ye e1) st12.k st12.cell (.cons (.str _) (.cons (.str _) (.cons (dp_kp k12 _ _ ye.noL dy) (.cons (dpx st12).2 .nil)))) (by simp [Sm.d]) (by simp [nLs, nLd, ye.noL, e1.noL]) (by simp) (by simp [Sm.Wf]; exact ⟨hz, wy, wf1⟩) (by simp [Sm.size])
    rintro σ' H8 ⟨rfl, rfl⟩
    -- call
    refine ifs_by (fun σ' H' => Same H8 H' ∧ σ' = [some v, some (.ref pi), some (.ref a), some (.ref b), some (.ref c), some (.str wd), some (.ref p6), some (.ref p7), none, none]) ?_ ?_
    rotate_left
    · intro N hN
      obtain ⟨hs, hc, hdp⟩ := st0.info.c
      refine ⟨_, rfl, rfl, _, rfl, ite2 (fun _ => ?_) (fun _ => hN _ _ ⟨Same.refl _, rfl⟩)⟩
      refine ⟨_, rfl, c, _, rfl, .inl (.of hc), _, _, rfl, rfl, _, rfl, ite2 (fun g2 => ?_) (fun _ => hN _ _ ⟨Same.refl _, rfl⟩)⟩
      have l0 : hs.length = hds.length := by rw [dpAll_len hdp, List.length_map]
      have h0 : 0 < hds.length := by
        have := of_decide_eq_true g2
        omega
      refine ⟨_, rfl, Nat.zero_le _, fun pn npn => ?_⟩
      have sn := same_new (o := .lst []) npn
      have stn := st0.same ho (o := .lst []) npn
      refine ⟨.list (xl.map PyData.str), .list [], .lst (.of stn.l7) (strs_dpAll xl), .lst (.of upd_same) .nil, strs_shaped xl hk7, strs_shaped [] (fun z hz => nomatch hz), _, rfl, ?_⟩
      rw [eqv_strs_nil]
      cases xl with
      | nil => exact hN _ _ ⟨sn, rfl⟩
      | cons x xr =>
        obtain ⟨hs', hc', hdp'⟩ := stn.info.c
        have eh : hs' = hs := by
          have := sn _ _ hc
          rw [hc'] at this
          injection this with this
          injection this
        subst eh
        refine ⟨_, rfl, _, rfl, _, rfl, c, _, rfl, .inl (.of hc'), v, 7, hs'.length, rfl, stn.cell, by decide, by decide, by omega, by omega, fun H9 j k9 c9 j0 j1 => ?_⟩
        have st9 := stn.kp k9 c9 ho nc6' nc7
        have hc9 : H9 c = some (.lst hs') := k9 _ _ hc' fun z => absurd z ho.2.2
        obtain ⟨j, rfl⟩ := Int.eq_ofNat_of_zero_le j0
        have hj : j < hds.length := by omega
        obtain ⟨hv', ev', dv'⟩ := dpAll_get (i := j) (dpAll_kp k9 _ _ (heads_noL hds) hdp') (by rw [List.getElem?_map, List.getElem?_eq_getElem hj]; rfl)
        obtain ⟨ph, yh, rfl, sh, dh⟩ := dp_tup dv'
        obtain ⟨y1, yr, rfl, d1, dh⟩ := dpAll_cons dh
        obtain ⟨y2, yr, rfl, d2, dh⟩ := dpAll_cons dh
        rw [dpAll_nil dh] at sh
        rw [dp_str d1, dp_int d2] at sh
        have hm : hds[j] ∈ hds := List.getElem_mem _
        have hq2 := hq _ hm
        refine ⟨c, _, j, _, rfl, rfl, .of hc9, atI_nat ev', ?_⟩
        refine ⟨_, rfl, p7, _, 0, _, rfl, rfl, .of st9.l7, atI_nat (j := 0) rfl, ?_⟩
        refine ⟨_, rfl, ph, _, 0, _, rfl, rfl, sh, atI_nat (j := 0) rfl, ?_⟩
        refine ⟨_, rfl, _, rfl, ph, _, 1, _, rfl, rfl, sh, atI_nat (j := 1) rfl, _, rfl, p6, _, rfl, .of st9.l6, fun pc npc => ?_⟩
        have st10 := st9.same ho (o := .lst (cutV [x0, x1, x2, x3] none (some (hds[j].2 : Int)))) npc
        refine ⟨pc, _, rfl, .inl ⟨.of upd_same, fun pd npd => ?_⟩⟩
        have st11 := st10.same ho (o := .tup (cutV [x0, x1, x2, x3] none (some (hds[j].2 : Int)))) npd
        rw [cutV_to] at st11
        rw [cutV_to]
        have dargs : Dp K _ (.ref pd) (.tuple (([e0, e1, e2, e3].take hds[j].2).map Ex.d)) := .tup (.of (upd_same (H := upd H9 pc _) (a := pd) (o := .tup ([x0, x1, x2, x3].take hds[j].2)))) (by rw [List.map_take]; exact dpAll_take _ st11.ex.1)
        refine mk _ [.str "call", .str x, .str hds[j].1, .tuple (([e0, e1, e2, e3].take hds[j].2).map Ex.d)] _ (.call x hds[j].1 ([e0, e1, e2, e3].take hds[j].2)) st11.k st11.cell (.cons (.str _) (.cons (.str _) (.cons (.str _) (.cons dargs .nil)))) (by simp only [Sm.d]) (by simp only [nLs, nLd, exs_noL]; rfl) (by show 4 ≤ 4; decide) ?_ (by simp [Sm.size])
        unfold Sm.Wf
        refine ⟨hxl _ (by simp), ?_, fun e he => ex2 e (List.mem_of_mem_take he)⟩
        rw [List.length_take, show ([e0, e1, e2, e3] : List Ex).length = 4 from rfl, Nat.min_eq_left hq2]
        exact hm
    rintro σ' H9 ⟨s9, rfl⟩
    have st9 : PSt K H H9 v (.ref pi) nms rws hds a b c p6 [x0, x1, x2, x3] [e0, e1, e2, e3] p7 xl :=
      ⟨st0.k.trans (.of_same s9), st0.cell.same s9, st0.info.kp (Kp.of_same (S := cellS v) s9) ho, s9 _ _ st0.l6, ⟨dpAll_same st0.ex.1 s9 (exs_noL _), st0.ex.2⟩, s9 _ _ st0.l7⟩
    -- fail
    refine ifs_by (fun σ' H' => PSt K H H' v (.ref pi) nms rws hds a b c p6 [x0, x1, x2, x3] [e0, e1, e2, e3] p7 xl ∧ σ' = [some v, some (.ref pi), some (.ref a), some (.ref b), some (.ref c), some (.str wd), some (.ref p6), some (.ref p7), none, none]) ?_ ?_
    rotate_left
    · intro N hN
      refine ⟨_, rfl, rfl, _, rfl, ite2 (fun _ => ?_) (fun _ => hN _ _ ⟨st9, rfl⟩)⟩
      refine ⟨_, rfl, v, 8, 3, rfl, st9.cell, by decide, by decide, by decide, by decide, fun H10 r k10 c10 _ _ => ?_⟩
      have st10 := st9.kp k10 c10 ho nc6' nc7
      refine ⟨rfl, _, rfl, ite2 (fun _ => ?_) (fun _ => hN _ _ ⟨st10, rfl⟩)⟩
      refine ⟨_, rfl, v, 9, 100, rfl, c10, by decide, by decide, by decide, by decide, fun H11 n k11 c11 n0 n1 => ?_⟩
      have st11 := st10.kp k11 c11 ho nc6' nc7
      exact mk H11 [.str "fail", .int n] _ (.fail n) st11.k st11.cell (.cons (.str _) (.cons (.int _) .nil)) (by simp only [Sm.d]) rfl (by show 2 ≤ 4; decide) (by unfold Sm.Wf; exact ⟨n0, n1⟩) (by simp [Sm.size])
    rintro σ' H10 ⟨st10, rfl⟩
    -- give
    refine ifs_by (fun σ' H' => PSt K H H' v (.ref pi) nms rws hds a b c p6 [x0, x1, x2, x3] [e0, e1, e2, e3] p7 xl ∧ σ' = [some v, some (.ref pi), some (.ref a), some (.ref b), some (.ref c), some (.str wd), some (.ref p6), some (.ref p7), none, none]) ?_ ?_
    rotate_left
    · intro N hN
      refine ⟨_, rfl, rfl, _, rfl, ite2 (fun _ => ?_) (fun _ => hN _ _ ⟨st10, rfl⟩)⟩
      refine ⟨_, rfl, v, 8, 2, rfl, st10.cell, by decide, by decide, by decide, by decide, fun H11 r k11 c11 _ _ => ?_⟩
      have st11 := st10.kp k11 c11 ho nc6' nc7
      refine ⟨rfl, _, rfl, ite2 (fun _ => ?_) (fun _ => hN _ _ ⟨st11, rfl⟩)⟩
      refine ⟨_, rfl, p6, _, 0, _, rfl, rfl, .of st11.l6, atI_nat (j := 0) rfl, ?_⟩
      exact mk H11 [.str "give", e0.d] _ (.give e0) st11.k st11.cell (.cons (.str _) (.cons (dpx st11).1 .nil)) (by simp only [Sm.d]) (by simp [nLs, nLd, e0.noL]) (by show 2 ≤ 4; decide) (by unfold Sm.Wf; exact wf0) (by simp [Sm.size])
    rintro σ' H11 ⟨st11, rfl⟩
    -- set
    refine ifs_by (fun σ' H' => PSt K H H' v (.ref pi) nms rws hds a b c p6 [x0, x1, x2, x3] [e0, e1, e2, e3] p7 xl ∧ σ' = [some v, some (.ref pi), some (.ref a), some (.ref b), some (.ref c), some (.str wd), some (.ref p6), some (.ref p7), none, none]) ?_ ?_
    rotate_left
    · intro N hN
      refine ⟨_, rfl, rfl, _, rfl, ite2 (fun _ => ?_) (fun _ => hN _ _ ⟨st11, rfl⟩)⟩
      refine ⟨_, rfl, Nat.zero_le _, fun pn npn => ?_⟩
      have stn := st11.same ho (o := .lst []) npn
      refine ⟨.list (xl.map PyData.str), .list [], .lst (.of stn.l7) (strs_dpAll xl), .lst (.of upd_same) .nil, strs_shaped xl hk7, strs_shaped [] (fun z hz => nomatch hz), _, rfl, ?_⟩
      rw [eqv_strs_nil]
      cases xl with
      | nil => exact hN _ _ ⟨stn, rfl⟩
      | cons x xr =>
        refine ⟨_, rfl, p7, _, 0, _, rfl, rfl, .of stn.l7, atI_nat (j := 0) rfl, _, rfl, p6, _, 0, _, rfl, rfl, .of stn.l6, atI_nat (j := 0) rfl, ?_⟩
        exact mk _ [.str "set", .str x, e0.d] _ (.set x e0) stn.k stn.cell (.cons (.str _) (.cons (.str _) (.cons (dpx stn).1 .nil))) (by simp only [Sm.d]) (by simp [nLs, nLd, e0.noL]) (by show 3 ≤ 4; decide) (by unfold Sm.Wf; exact ⟨hxl _ (by simp), wf0⟩) (by simp [Sm.size])
    rintro σ' H12 ⟨st12, rfl⟩
    refine ⟨_, rfl, p6, _, 0, _, rfl, rfl, .of st12.l6, atI_nat (j := 0) rfl, ?_⟩
    exact mk H12 [.str "tell", e0.d] _ (.tell e0) st12.k st12.cell (.cons (.str _) (.cons (dpx st12).1 .nil)) (by simp only [Sm.d]) (by simp [nLs, nLd, e0.noL]) (by show 2 ≤ 4; decide) (by unfold Sm.Wf; exact wf0) (by simp [Sm.size])
end

section
variable {P : Program} {w : World} {K : PySem.W.Frag} {mg : Str → Option Value} {base : Heap}
/-- the cells that are left, in a list -/
structure CellsOk (H : Hp) (pc : Addr) (cs : List V) : Prop where
  at_ : H pc = some (.lst cs)
  ok : ∀ x ∈ cs, CellOk H x
  off : ∀ x ∈ cs, x ≠ .ref pc
def cellsS (pc : Addr) (cs : List V) : Addr → Prop := fun b => b = pc ∨ ∃ x ∈ cs, cellS x b
theorem CellOk.kp {H H' : Hp} {S : Addr → Prop} {x : V} (c : CellOk H x) (k : Kp S H H') (h : ∀ b, x = .ref b → S b → CellOk H' x) : CellOk H' x := by
  rcases c with ⟨n, rfl⟩ | ⟨a, l, t, rfl, ha, h1, h2⟩
  · exact .inl ⟨n, rfl⟩
  · by_cases z : S a
    · exact h a rfl z
    · exact .inr ⟨a, l, t, rfl, k _ _ ha fun y => absurd y z, h1, h2⟩
theorem CellsOk.cell {H H' : Hp} {pc : Addr} {cs : List V} {v : V} (h : CellsOk H pc cs) (k : Kp (cellS v) H H') (c : CellOk H' v) (n : v ≠ .ref pc) : CellsOk H' pc cs :=
  ⟨k _ _ h.at_ fun z => absurd z n, fun x hx => (h.ok x hx).kp k fun b e z => by rw [e, ← show v = .ref b from z]; exact c, h.off⟩
theorem CellsOk.same {H H' : Hp} {pc : Addr} {cs : List V} (h : CellsOk H pc cs) (k : Same H H') : CellsOk H' pc cs :=
  ⟨k _ _ h.at_, fun x hx => (h.ok x hx).same k, h.off⟩
theorem cellsS_drop {pc : Addr} {cs : List V} (n : Nat) : ∀ b, cellsS pc (cs.drop n) b → cellsS pc cs b := by
  rintro b (e | ⟨x, hx, e⟩)
  · exact .inl e
  · exact .inr ⟨x, List.mem_of_mem_drop hx, e⟩
theorem CellsOk.pop {H : Hp} {pc : Addr} {y : V} {cs : List V} (h : CellsOk H pc (y :: cs)) : CellsOk (upd H pc (.lst cs)) pc cs ∧ CellOk (upd H pc (.lst cs)) y :=
  ⟨⟨upd_same, fun x hx => (h.ok x (List.mem_cons_of_mem _ hx)).upd (h.off x (List.mem_cons_of_mem _ hx)), fun x hx => h.off x (List.mem_cons_of_mem _ hx)⟩, (h.ok y (List.mem_cons_self ..)).upd (h.off y (List.mem_cons_self ..))⟩
theorem nLs_app : ∀ {a b : List PyData}, nLs a = true → nLs b = true → nLs (a ++ b) = true
  | [], _, _, h => h
  | x :: r, b, h, h' => by
    simp only [nLs, Bool.and_eq_true] at h
    show nLs (x :: (r ++ b)) = true
    simp only [nLs, Bool.and_eq_true]
    exact ⟨h.1, nLs_app h.2 h'⟩
theorem cat_use {H : Hp} {va vb : V} {ds es : List PyData} {Q : VK} (ha : Dp K H va (.tuple ds)) (hb : Dp K H vb (.tuple es)) (hn : nLs ds = true) (hm : nLs es = true) (hl : ds.length + es.length ≤ sizeLine)
    (q : ∀ H' r, Same H H' → Dp K H' r (.tuple (ds ++ es)) → Q r H') : rCatA K va vb H Q := by
  obtain ⟨a, xs, rfl, ha, da⟩ := dp_tup ha
  obtain ⟨b, ys, rfl, hb, db⟩ := dp_tup hb
  refine ⟨a, b, xs, ys, rfl, rfl, ha, hb, by rw [dpAll_len da, dpAll_len db]; exact hl, fun e => ?_, fun _ e => ?_, fun _ _ p np => ?_⟩
  · subst e
    cases da
    exact q _ _ (Same.refl _) (.tup hb db)
  · subst e
    cases db
    rw [List.append_nil] at q
    exact q _ _ (Same.refl _) (.tup ha da)
  · exact q _ _ (same_new np) (.tup (.of upd_same) (dpAll_same (dpAll_app da db) (same_new np) (nLs_app hn hm)))
theorem dp_new {H : Hp} {p : Addr} {xs : List V} {ds : List PyData} (np : H p = none) (h : DpAll K H xs ds) (n : nLs ds = true) : Dp K (upd H p (.tup xs)) (.ref p) (.tuple ds) := .tup (.of upd_same) (dpAll_same h (same_new np) n)
theorem Sm.ds_append (a b : List Sm) : Sm.ds (a ++ b) = Sm.ds a ++ Sm.ds b := by rw [Sm.ds_eq, Sm.ds_eq, Sm.ds_eq, List.map_append]
theorem Sm.ds_len (a : List Sm) : (Sm.ds a).length = a.length := by rw [Sm.ds_eq, List.length_map]
theorem Sm.size_pos (s : Sm) : 1 ≤ s.size := by cases s <;> simp only [Sm.size] <;> omega
theorem Sm.sizes_len : ∀ a : List Sm, a.length ≤ Sm.sizes a
  | [] => Nat.zero_le _
  | s :: r => by
    simp only [Sm.sizes, List.length_cons]
    have := Sm.sizes_len r
    have := s.size_pos
    omega
theorem Sm.sizes_append : ∀ a b : List Sm, Sm.sizes (a ++ b) = Sm.sizes a + Sm.sizes b
  | [], b => by simp [Sm.sizes]
  | s :: r, b => by
    show Sm.sizes (s :: (r ++ b)) = _
    simp only [Sm.sizes, Sm.sizes_append r b]
    omega
def sp_body (K : PySem.W.Frag) (D : Nat) : Sp := fun vs H Q _ => ∃ (pc : Addr) (cs : List V) (dp : Int) (vi : V) (nms rws : List Str) (hds : List (Str × Nat)) (a b c : Addr), vs = [.ref pc, .int dp, vi] ∧ CellsOk H pc cs ∧ 0 ≤ dp ∧ dp ≤ 4 ∧ 4 - dp ≤ D ∧
  cs.length ≤ 1000 ∧ Info K H vi nms rws hds a b c ∧ nms.length ≤ 16 ∧ rws.length ≤ 16 ∧ hds.length ≤ 16 ∧ (∀ q ∈ hds, q.2 ≤ 4) ∧ (∀ z ∈ nms, PyData.strOk z = true) ∧ Off (cellsS pc cs) a b c ∧
  ∀ H' r n (bd : List Sm), Kp (cellsS pc cs) H H' → CellsOk H' pc (cs.drop n) → n ≤ cs.length → Dp K H' r (.tuple (Sm.ds bd)) → Sm.Wfs nms rws hds bd (4 - dp).toNat → Sm.sizes bd ≤ n → Q r H'
def sp_nest (K : PySem.W.Frag) (D : Nat) : Sp := fun vs H Q _ => ∃ (v : V) (way : Int) (pc : Addr) (cs : List V) (dp : Int) (vi : V) (nms rws : List Str) (hds : List (Str × Nat)) (a b c : Addr), vs = [v, .int way, .ref pc, .int dp, vi] ∧ CellOk H v ∧ v ≠ .ref pc ∧ CellsOk H pc cs ∧ 0 ≤ dp ∧ dp ≤ 3 ∧ 4 - dp ≤ D ∧
  cs.length ≤ 1000 ∧ Info K H vi nms rws hds a b c ∧ nms.length ≤ 16 ∧ rws.length ≤ 16 ∧ hds.length ≤ 16 ∧ (∀ q ∈ hds, q.2 ≤ 4) ∧ (∀ z ∈ nms, PyData.strOk z = true) ∧ Off (cellS v) a b c ∧ Off (cellsS pc cs) a b c ∧
  ∀ H' r n (s : Sm), Kp (fun x => cellS v x ∨ cellsS pc cs x) H H' → CellsOk H' pc (cs.drop n) → n ≤ cs.length → Dp K H' r s.d → s.Wf nms rws hds (4 - dp).toNat → s.ends = false → s.size ≤ n + 1 → Q r H'
theorem ok_nest0 (T : Top K mg) : FnOk P w K mg base CX0 11 (He.ga K "_law_nest") T.fd__law_nest ["_law_cell", "_law_way", "_law_cells", "_law_deep", "_law_info"] (sp_nest K 0) := by
  refine T.F__law_nest.ok sc__law_nest (fun vs H Q E h => ?_) (fun cdv A outer s H vs Q E hr h => ?_)
  · obtain ⟨v, way, pc, cs, dp, vi, nms, rws, hds, a, b, c, rfl, _⟩ := h
    rfl
  · obtain ⟨v, way, pc, cs, dp, vi, nms, rws, hds, a, b, c, rfl, _, _, _, h1, h2, h3, _⟩ := h
    exfalso
    have : (4 : Int) - dp ≤ 0 := h3
    omega
theorem ok_nest_of (T : Top K mg) (D : Nat) (G__law_body : FnOk P w K mg base CX0 (2 * D + 12) (He.ga K "_law_body") T.fd__law_body ["_law_cells", "_law_deep", "_law_info"] (sp_body K D)) :
    FnOk P w K mg base CX0 (2 * D + 13) (He.ga K "_law_nest") T.fd__law_nest ["_law_cell", "_law_way", "_law_cells", "_law_deep", "_law_info"] (sp_nest K (D + 1)) := by
  have G__law_mixed := ok__law_mixed (P := P) (w := w) (base := base) T
  have G__law_within := ok__law_within (P := P) (w := w) (base := base) T
  have G__law_expressions := ok__law_expressions (P := P) (w := w) (base := base) T
  refine T.F__law_nest.ok sc__law_nest (fun vs H Q E h => ?_) (fun cdv A outer s H vs Q E hr h => ?_)
  · obtain ⟨v, way, pc, cs, dp, vi, nms, rws, hds, a, b, c, rfl, _⟩ := h
    rfl
  · obtain ⟨v, way, pc, cs, dp, vi, nms, rws, hds, a, b, c, rfl, hv, vpc, hC, d0, d1, d2, hcl, hI, hn, hw, hh, hq, hk, ho, hoC, q⟩ := h
    refine ⟨_, PSs.nox (pss_cons (ps_set (i := 5) sc__law_nest.nd rfl (Or.inl rfl) (pe_ix ix_list (pe_call G__law_expressions (hr.mono (by omega)) (by rfl) T.g__law_expressions T.F__law_expressions.kp T.b__law_expressions .nil pass0 (pa_cons (pe_call G__law_within (hr.mono (by omega)) (by rfl) T.g__law_within T.F__law_within.kp T.b__law_within .nil pass0 (pa_cons (pv 0) (pa_cons pe_int pa_nil))) (pa_cons pe_int (pa_cons (pv 4) pa_nil)))) pe_int (fun _ _ => rfl)))
        (pss_cons (ps_if (pt_cmpR op_lt (pv 1) pe_int (nomark _)) (pss_cons (ps_set (i := 6) sc__law_nest.nd rfl (Or.inl rfl) (pe_call G__law_body (hr.mono (by omega)) (by rfl) T.g__law_body T.F__law_body.kp T.b__law_body .nil pass0 (pa_cons (pv 2) (pa_cons (pe_op op_add (pv 3) pe_int) (pa_cons (pv 4) pa_nil)))))
        (pss_cons (ps_set (i := 7) sc__law_nest.nd rfl (Or.inl rfl) (pe_tup pa_nil))
        (pss_cons (ps_if (pt_cmpR op_eq (pv 1) pe_int (nomark _)) (pss_one (ps_set (i := 7) sc__law_nest.nd rfl (Or.inl rfl) (pe_call G__law_body (hr.mono (by omega)) (by rfl) T.g__law_body T.F__law_body.kp T.b__law_body .nil pass0 (pa_cons (pv 2) (pa_cons (pe_op op_add (pv 3) pe_int) (pa_cons (pv 4) pa_nil)))))) pss_nil)
        (pss_one (ps_ret (pe_tup (pa_cons pe_str (pa_cons (pv 5) (pa_cons (pv 6) (pa_cons (pv 7) pa_nil)))))))))) pss_nil)
        (pss_cons (ps_set (i := 8) sc__law_nest.nd rfl (Or.inl rfl) (pe_tup pa_nil))
        (pss_cons (ps_if (PW.pt (pw_and (pt_cmpR op_gt (pe_call G__law_mixed (hr.mono (by omega)) (by rfl) T.g__law_mixed T.F__law_mixed.kp T.b__law_mixed .nil pass0 (pa_cons (pv 0) (pa_cons pe_int (pa_cons pe_int pa_nil)))) pe_int (nomark _)) (pw_and (pt_cmpR op_gt (pe_callB call_len_seq (by rfl) T.m_len (by decide +kernel) (pa_cons (pe_ix ix_tup (pv 4) pe_int (fun _ _ => rfl)) pa_nil)) pe_int (nomark _)) (pw_and1 (pt_cmpR op_gt (pe_callB call_len_seq (by rfl) T.m_len (by decide +kernel) (pa_cons (pv 2) pa_nil)) pe_int (nomark _)))))) (pss_cons (ps_expr (pe_bm PySem.F.plainAttrs_list PySem.F.slot_list_pop PySem.F.type_list_pop mt_popAt (pv 2) (pa_cons pe_int pa_nil)))
        (pss_cons (ps_set (i := 9) sc__law_nest.nd rfl (Or.inl rfl) (pe_ix ix_list (pe_ix ix_tup (pv 4) pe_int (fun _ _ => rfl)) (pe_call G__law_mixed (hr.mono (by omega)) (by rfl) T.g__law_mixed T.F__law_mixed.kp T.b__law_mixed .nil pass0 (pa_cons (pv 0) (pa_cons pe_int (pa_cons (pe_callB call_len_seq (by rfl) T.m_len (by decide +kernel) (pa_cons (pe_ix ix_tup (pv 4) pe_int (fun _ _ => rfl)) pa_nil)) pa_nil)))) (fun _ _ => rfl)))
        (pss_cons (ps_set (i := 5) sc__law_nest.nd rfl (Or.inl rfl) (pe_tup (pa_cons pe_str (pa_cons (pe_tup (pa_cons pe_str (pa_cons (pv 9) pa_nil))) (pa_cons (pe_tup (pa_cons pe_str (pa_cons (pe_call G__law_mixed (hr.mono (by omega)) (by rfl) T.g__law_mixed T.F__law_mixed.kp T.b__law_mixed .nil pass0 (pa_cons (pv 0) (pa_cons pe_int (pa_cons pe_int pa_nil)))) pa_nil))) pa_nil)))))
        (pss_one (ps_set (i := 8) sc__law_nest.nd rfl (Or.inl rfl) (pe_tup (pa_cons (pe_tup (pa_cons pe_str (pa_cons (pv 9) (pa_cons (pe_tup (pa_cons pe_str (pa_cons (pe_tup (pa_cons pe_str (pa_cons (pv 9) pa_nil))) (pa_cons (pe_tup (pa_cons pe_str (pa_cons (pe_op op_add pe_int (pe_call G__law_mixed (hr.mono (by omega)) (by rfl) T.g__law_mixed T.F__law_mixed.kp T.b__law_mixed .nil pass0 (pa_cons (pv 0) (pa_cons pe_int (pa_cons pe_int pa_nil))))) pa_nil))) pa_nil)))) pa_nil)))) pa_nil))))))) pss_nil)
        (pss_one (ps_ret (pe_tup (pa_cons pe_str (pa_cons (pv 5) (pa_cons (pe_op op_catA (pv 8) (pe_call G__law_body (hr.mono (by omega)) (by rfl) T.g__law_body T.F__law_body.kp T.b__law_body .nil pass0 (pa_cons (pv 2) (pa_cons (pe_op op_add (pv 3) pe_int) (pa_cons (pv 4) pa_nil))))) pa_nil)))))))))), ?_⟩
    have d3 : (4 - (dp + 1)).toNat + 1 = (4 - dp).toNat := by omega
    have mono1 : ∀ {H1 H2 : Hp}, Kp (cellS v) H1 H2 → Kp (fun x => cellS v x ∨ cellsS pc cs x) H1 H2 := fun k => k.mono fun _ z => .inl z
    have monoC : ∀ {H1 H2 : Hp} {n : Nat}, Kp (cellsS pc (cs.drop n)) H1 H2 → Kp (fun x => cellS v x ∨ cellsS pc cs x) H1 H2 := fun k => k.mono fun b z => .inr (cellsS_drop _ b z)
    have hoA : Off (fun x => cellS v x ∨ cellsS pc cs x) a b c := ⟨fun z => z.elim ho.1 hoC.1, fun z => z.elim ho.2.1 hoC.2.1, fun z => z.elim ho.2.2 hoC.2.2⟩
    refine ⟨_, rfl, v, 2, rfl, hv, by decide, by decide, fun H1 v1 k1 c1 c1' w1 => ?_⟩
    have sub1 := cellS_sub w1
    refine ⟨_, rfl, v1, vi, 1, nms, rws, hds, a, b, c, rfl, c1', by decide, by decide, hI.kp k1 ho, hn, hw, ho.sub sub1, fun H2 p2 xs es k2 c2 np2 nc2 l2 ex len => ?_⟩
    obtain ⟨e0, rfl⟩ : ∃ e0, es = [e0] := by
      match es, len with
      | [e0], _ => exact ⟨_, rfl⟩
    obtain ⟨x0, r0, rfl, dx0, h1⟩ := dpAll_cons ex.1
    rw [dpAll_nil h1] at l2
    have wf0 : e0.Wf nms rws 4 := ex.2 e0 (by simp)
    refine ⟨p2, _, 0, _, rfl, rfl, .of l2, atI_nat (j := 0) rfl, ?_⟩
    have k02 : Kp (cellS v) H H2 := k1.trans (k2.mono sub1)
    have c2' := cell_after w1 c1 k2 c2
    have C2 := hC.cell k02 c2' vpc
    have I2 := hI.kp k02 ho
    have kA2 := mono1 k02
    clear ex l2 c2 k2
    dsimp only [gName]
    refine ifs_by (fun σ' H' => H' = H2 ∧ σ' = [some v, some (.int way), some (.ref pc), some (.int dp), some vi, some x0, none, none, none, none]) ?_ ?_
    rotate_left
    · intro N hN
      refine ⟨_, rfl, _, _, rfl, rfl, _, rfl, ite2 (fun _ => ?_) (fun _ => hN _ _ ⟨rfl, rfl⟩)⟩
      -- if
      refine ⟨_, rfl, _, rfl, _, _, rfl, rfl, _, rfl, pc, cs, dp + 1, vi, nms, rws, hds, a, b, c, rfl, C2, by omega, by omega, by omega, hcl, I2, hn, hw, hh, hq, hk, hoC, fun H3 ry n ys k3 C3 hn3 dy wy sy => ?_⟩
      have kA3 := kA2.trans (monoC (n := 0) k3)
      have I3 := I2.kp k3 hoC
      refine ⟨Nat.zero_le _, fun pe npe => ?_⟩
      have s4 := same_new (o := .tup []) npe
      have de : Dp K (upd H3 pe (.tup [])) (.ref pe) (.tuple (Sm.ds [])) := .tup (.of upd_same) (by simp only [Sm.ds]; exact .nil)
      dsimp only [gName]
      refine ifs_by (fun σ' H' => ∃ rn m ns, Kp (fun x => cellS v x ∨ cellsS pc cs x) H3 H' ∧ CellsOk H' pc (cs.drop m) ∧ n ≤ m ∧ m ≤ cs.length ∧ Dp K H' rn (.tuple (Sm.ds ns)) ∧ Sm.Wfs nms rws hds ns (4 - (dp + 1)).toNat ∧ Sm.sizes ns + n ≤ m ∧ σ' = [some v, some (.int way), some (.ref pc), some (.int dp), some vi, some x0, some ry, some rn, none, none]) ?_ ?_
      · rintro σ' H5 ⟨rn, m, ns, k5, C5, nm, hm, dn, wn, sn, rfl⟩
        have kA5 := kA3.trans k5
        refine ⟨_, rfl, _, rfl, _, rfl, (by show 4 ≤ sizeLine; rw [sizeLine_eq]; decide), fun pr npr => ?_⟩
        have s6 := same_new (o := .tup [.str "if", x0, ry, rn]) npr
        refine q _ _ m (.ite e0 ys ns) (kA5.trans (.of_same s6)) (C5.same s6) hm ?_ ?_ rfl ?_
        · simp only [Sm.d]
          refine .tup (.of upd_same) (.cons (.str _) (.cons ?_ (.cons ?_ (.cons ?_ .nil))))
          · exact dp_same (dp_kp ((monoC (n := 0) k3).trans k5) _ _ e0.noL dx0) s6 e0.noL
          · have nn : nLd (.tuple (Sm.ds ys)) = true := by simp only [nLd]; exact Sm.noLs ys
            exact dp_same (dp_kp k5 _ _ nn dy) s6 nn
          · have nn : nLd (.tuple (Sm.ds ns)) = true := by simp only [nLd]; exact Sm.noLs ns
            exact dp_same dn s6 nn
        · unfold Sm.Wf
          refine ⟨by omega, wf0, ?_, ?_⟩
          · rw [← d3]
            exact wy
          · rw [← d3]
            exact wn
        · simp only [Sm.size]
          omega
      · intro M hM
        refine ⟨_, rfl, rfl, _, rfl, ite2 (fun _ => ?_) (fun _ => ?_)⟩
        · refine ⟨_, rfl, _, rfl, _, _, rfl, rfl, _, rfl, pc, cs.drop n, dp + 1, vi, nms, rws, hds, a, b, c, rfl, C3.same s4, by omega, by omega, by omega, by rw [List.length_drop]; omega, I3.kp (Kp.of_same (S := cellS v) s4) ho, hn, hw, hh, hq, hk, hoC.sub (cellsS_drop n), fun H6 rn m ns k6 C6 hm6 dn wn sn => ?_⟩
          rw [List.length_drop] at hm6
          rw [List.drop_drop] at C6
          exact hM _ _ ⟨rn, n + m, ns, (Kp.of_same s4).trans (monoC k6), C6, by omega, by omega, dn, wn, by omega, rfl⟩
        · exact hM _ _ ⟨.ref pe, n, [], .of_same s4, C3.same s4, by omega, hn3, de, by simp [Sm.Wfs], by simp [Sm.sizes], rfl⟩
    rintro σ' H3 ⟨rfl, rfl⟩
    -- while
    refine ⟨Nat.zero_le _, fun pe npe => ?_⟩
    have s4 := same_new (o := .tup []) npe
    have c4 := c2'.same s4
    have C4 := C2.same s4
    have I4 := I2.kp (Kp.of_same (S := cellS v) s4) ho
    have kA4 := kA2.trans (.of_same s4)
    have dx4 := dp_same dx0 s4 e0.noL
    have de : Dp K (upd H3 pe (.tup [])) (.ref pe) (.tuple (Sm.ds [])) := .tup (.of upd_same) (by simp only [Sm.ds]; exact .nil)
    generalize upd H3 pe (.tup []) = H4 at c4 C4 I4 kA4 dx4 de
    dsimp only [gName]
    refine ifs_by (fun σ' H' => ∃ xa ea pf fs n x9, Kp (fun x => cellS v x ∨ cellsS pc cs x) H H' ∧ CellsOk H' pc (cs.drop n) ∧ n ≤ cs.length ∧ Info K H' vi nms rws hds a b c ∧ Dp K H' xa (Ex.d ea) ∧ ea.Wf nms rws 4 ∧ Dp K H' (.ref pf) (.tuple (Sm.ds fs)) ∧ Sm.sizes fs ≤ n ∧ (∀ bd k, Sm.Wfs nms rws hds bd k → Sm.Wfs nms rws hds (fs ++ bd) k) ∧
      σ' = [some v, some (.int way), some (.ref pc), some (.int dp), some vi, some xa, none, none, some (.ref pf), x9]) ?_ ?_
    · rintro σ' H5 ⟨xa, ea, pf, fs, n, x9, k5, C5, hn5, I5, da, wa, df, sf, wf, rfl⟩
      refine ⟨_, rfl, _, rfl, _, rfl, _, rfl, _, _, rfl, rfl, _, rfl, pc, cs.drop n, dp + 1, vi, nms, rws, hds, a, b, c, rfl, C5, by omega, by omega, by omega, by rw [List.length_drop]; omega, I5, hn, hw, hh, hq, hk, hoC.sub (cellsS_drop n), fun H6 rb m bd k6 C6 hm6 db wb sb => ?_⟩
      rw [List.length_drop] at hm6
      rw [List.drop_drop] at C6
      have nf := Sm.noLs fs
      have nb := Sm.noLs bd
      have lf := Sm.sizes_len fs
      have lb := Sm.sizes_len bd
      refine cat_use (dp_kp k6 _ _ (by simp only [nLd]; exact nf) df) db nf nb (by rw [Sm.ds_len, Sm.ds_len, sizeLine_eq]; omega) fun H7 rc s7 dc => ?_
      rw [← Sm.ds_append] at dc
      refine ⟨(by show 3 ≤ sizeLine; rw [sizeLine_eq]; decide), fun pr npr => ?_⟩
      have s8 := same_new (o := .tup [.str "while", xa, rc]) npr
      refine q _ _ (n + m) (.loop ea (fs ++ bd)) (((k5.trans (monoC k6)).trans (.of_same s7)).trans (.of_same s8)) ((C6.same s7).same s8) (by omega) ?_ ?_ rfl ?_
      · simp only [Sm.d]
        refine .tup (.of upd_same) (.cons (.str _) (.cons ?_ (.cons ?_ .nil)))
        · exact dp_same (dp_same (dp_kp k6 _ _ ea.noL da) s7 ea.noL) s8 ea.noL
        · exact dp_same dc s8 (by simp only [nLd]; exact Sm.noLs _)
      · unfold Sm.Wf
        refine ⟨by omega, wa, ?_⟩
        rw [← d3]
        exact wf _ _ wb
      · simp only [Sm.size, Sm.sizes_append]
        omega
    · intro N hN
      have no : ∀ H' , Kp (cellS v) H4 H' → CellOk H' v → N [some v, some (.int way), some (.ref pc), some (.int dp), some vi, some x0, none, none, some (.ref pe), none] H' := fun H' k' c' =>
        hN _ _ ⟨x0, e0, pe, [], 0, none, kA4.trans (mono1 k'), C4.cell k' c' vpc, Nat.zero_le _, I4.kp k' ho, dp_kp k' _ _ e0.noL dx4, wf0, dp_kp k' _ _ (by simp only [nLd, Sm.ds, nLs]) de, by simp [Sm.sizes], fun bd k h => h, rfl⟩
      obtain ⟨pi, rfl, hT⟩ := I4.tup
      refine ⟨_, rfl, v, 3, 4, rfl, c4, by decide, by decide, by decide, by decide, fun H5 r5 k5 c5 _ _ => ?_⟩
      have I5 := I4.kp k5 ho
      have hT5 := sqT_kp k5 hT
      refine ⟨_, _, rfl, rfl, _, rfl, ite2 (fun _ => ?_) (fun _ => no _ k5 c5)⟩
      refine ⟨_, rfl, pi, _, 0, _, rfl, rfl, hT5, atI_nat (j := 0) rfl, a, _, rfl, .inl (.of I5.a), _, _, rfl, rfl, _, rfl, ite2 (fun g1 => ?_) (fun _ => no _ k5 c5)⟩
      have n0 : 0 < nms.length := by
        have := of_decide_eq_true g1
        rw [List.length_map] at this
        omega
      have C5 := C4.cell k5 c5 vpc
      refine ⟨_, rfl, pc, _, rfl, .inl (.of C5.at_), _, _, rfl, rfl, _, rfl, ite2 (fun g2 => ?_) (fun _ => no _ k5 c5)⟩
      cases cs with
      | nil =>
        have := of_decide_eq_true g2
        simp at this
      | cons y cs1 =>
        refine ⟨_, rfl, .inl ⟨rfl, _, .of C5.at_⟩, pc, _, 0, 0, y, rfl, rfl, C5.at_, by decide, by decide, ?_, rfl, ?_⟩
        · unfold seqIndex?
          simp
        show tSeq _ _ _ _ (upd H5 pc (.lst cs1))
        obtain ⟨C6, _⟩ := C5.pop
        have c6 : CellOk (upd H5 pc (.lst cs1)) v := c5.upd vpc
        have k6 : Kp (fun x => cellS v x ∨ cellsS pc (y :: cs1) x) H5 (upd H5 pc (.lst cs1)) := Kp.upd C5.at_ trivial (.inr (.inl rfl))
        have I6 := I5.kp k6 hoA
        have kA6 := (kA4.trans (mono1 k5)).trans k6
        have hT6 := sqT_kp k6 hT5
        generalize upd H5 pc (.lst cs1) = H6 at C6 c6 k6 I6 kA6 hT6
        refine ⟨_, rfl, pi, _, 0, _, rfl, rfl, hT6, atI_nat (j := 0) rfl, _, rfl, _, rfl, pi, _, 0, _, rfl, rfl, hT6, atI_nat (j := 0) rfl, a, _, rfl, .inl (.of I6.a), v, 4, (nms.map V.str).length, rfl, c6, by decide, by decide, by rw [List.length_map]; omega, by rw [List.length_map]; omega, fun H7 j k7 c7 j0 j1 => ?_⟩
        rw [List.length_map] at j1
        have I7 := I6.kp k7 ho
        have C7 := C6.cell k7 c7 vpc
        obtain ⟨x, hx, ex⟩ := in_strs_at j0 j1
        refine ⟨a, _, j, _, rfl, rfl, .of I7.a, ex, ?_⟩
        -- asked
        refine ⟨_, rfl, (by show 2 ≤ sizeLine; rw [sizeLine_eq]; decide), fun p1 n1 => ?_⟩
        have s1 := same_new (o := .tup [.str "name", .str x]) n1
        refine ⟨_, rfl, v, 5, 5, rfl, c7.same s1, by decide, by decide, by decide, by decide, fun H8 r8 k8 c8 r80 r81 => ?_⟩
        refine ⟨(by show 2 ≤ sizeLine; rw [sizeLine_eq]; decide), fun p2 n2 => ?_⟩
        have s2 := same_new (o := .tup [.str "number", .int r8]) n2
        refine ⟨(by show 3 ≤ sizeLine; rw [sizeLine_eq]; decide), fun p3 n3 => ?_⟩
        have s3 := same_new (o := .tup [.str "less", .ref p1, .ref p2]) n3
        have d1 : Dp K _ (.ref p1) (Ex.nam x).d := dp_same (dp_kp k8 _ _ rfl (dp_new n1 (.cons (.str _) (.cons (.str _) .nil)) rfl)) s2 rfl
        have d2 : Dp K _ (.ref p2) (Ex.num r8).d := dp_new n2 (.cons (.str _) (.cons (.int _) .nil)) rfl
        have dl : Dp K _ (.ref p3) (Ex.op "less" (.nam x) (.num r8)).d := dp_new n3 (.cons (.str _) (.cons d1 (.cons d2 .nil))) rfl
        have k78 : Kp (cellS v) H7 _ := ((Kp.of_same s1).trans k8).trans ((Kp.of_same s2).trans (.of_same s3))
        have c9 := (c8.same s2).same s3
        generalize upd (upd H8 p2 _) p3 _ = H9 at dl k78 c9
        have wl : (Ex.op "less" (.nam x) (.num r8)).Wf nms rws 4 := ⟨by decide +kernel, hx, ⟨by omega, by omega⟩⟩
        clear d1 d2
        -- first
        refine ⟨_, rfl, _, rfl, (by show 2 ≤ sizeLine; rw [sizeLine_eq]; decide), fun q1 m1 => ?_⟩
        have t1 := same_new (o := .tup [.str "name", .str x]) m1
        refine ⟨_, rfl, v, 6, 2, rfl, c9.same t1, by decide, by decide, by decide, by decide, fun H10 r10 k10 c10 r100 r101 => ?_⟩
        refine ⟨_, _, rfl, rfl, (by show 2 ≤ sizeLine; rw [sizeLine_eq]; decide), fun q2 m2 => ?_⟩
        have t2 := same_new (o := .tup [.str "number", .int (1 + r10)]) m2
        refine ⟨(by show 3 ≤ sizeLine; rw [sizeLine_eq]; decide), fun q3 m3 => ?_⟩
        have t3 := same_new (o := .tup [.str "add", .ref q1, .ref q2]) m3
        refine ⟨(by show 3 ≤ sizeLine; rw [sizeLine_eq]; decide), fun q4 m4 => ?_⟩
        have t4 := same_new (o := .tup [.str "set", .str x, .ref q3]) m4
        refine ⟨(by show 1 ≤ sizeLine; rw [sizeLine_eq]; decide), fun q5 m5 => ?_⟩
        have t5 := same_new (o := .tup [.ref q4]) m5
        have f1 : Dp K _ (.ref q1) (Ex.nam x).d := dp_same (dp_kp k10 _ _ rfl (dp_new m1 (.cons (.str _) (.cons (.str _) .nil)) rfl)) t2 rfl
        have f2 : Dp K _ (.ref q2) (Ex.num (1 + r10)).d := dp_new m2 (.cons (.str _) (.cons (.int _) .nil)) rfl
        have f3 : Dp K _ (.ref q3) (Ex.op "add" (.nam x) (.num (1 + r10))).d := dp_new m3 (.cons (.str _) (.cons f1 (.cons f2 .nil))) rfl
        have f4 : Dp K _ (.ref q4) (.tuple [.str "set", .str x, (Ex.op "add" (.nam x) (.num (1 + r10))).d]) := dp_new m4 (.cons (.str _) (.cons (.str _) (.cons f3 .nil))) (by simp [nLs, nLd, Ex.d])
        rw [show PyData.tuple [.str "set", .str x, (Ex.op "add" (.nam x) (.num (1 + r10))).d] = (Sm.set x (Ex.op "add" (.nam x) (.num (1 + r10)))).d by simp only [Sm.d]] at f4
        have f5 : Dp K _ (.ref q5) (.tuple [(Sm.set x (Ex.op "add" (.nam x) (.num (1 + r10)))).d]) := dp_new m5 (.cons f4 .nil) (by simp only [nLs, Sm.noL]; rfl)
        rw [show [(Sm.set x (Ex.op "add" (.nam x) (.num (1 + r10)))).d] = Sm.ds [Sm.set x (Ex.op "add" (.nam x) (.num (1 + r10)))] by simp only [Sm.ds]] at f5
        have k9e : Kp (cellS v) H9 _ := ((Kp.of_same t1).trans k10).trans ((Kp.of_same t2).trans ((Kp.of_same t3).trans ((Kp.of_same t4).trans (.of_same t5))))
        have cE := (((c10.same t2).same t3).same t4).same t5
        have kF := (k7.trans k78).trans k9e
        refine hN _ _ ⟨.ref p3, _, q5, _, 1, some (.str x), kA6.trans (mono1 kF), C6.cell kF cE vpc, by simp, I6.kp kF ho, dp_kp k9e _ _ (Ex.noL _) dl, wl, f5, by simp [Sm.sizes, Sm.size], fun bd k h => ?_, rfl⟩
        show Sm.Wfs nms rws hds (_ :: bd) k
        simp only [Sm.Wfs]
        refine ⟨?_, fun _ => rfl, h⟩
        unfold Sm.Wf
        exact ⟨hx, ⟨by decide +kernel, hx, ⟨by omega, by omega⟩⟩⟩
end

section
variable {P : Program} {w : World} {K : PySem.W.Frag} {mg : Str → Option Value} {base : Heap}
def opn (nms rws : List Str) (hds : List (Str × Nat)) (bd : List Sm) (k : Nat) : Prop := ∀ s ∈ bd, s.Wf nms rws hds k ∧ s.ends = false
theorem wfs_snoc {nms rws : List Str} {hds : List (Str × Nat)} {k : Nat} {s : Sm} (h : s.Wf nms rws hds k) : ∀ {bd : List Sm}, opn nms rws hds bd k → Sm.Wfs nms rws hds (bd ++ [s]) k
  | [], _ => by
    show Sm.Wfs nms rws hds [s] k
    simp only [Sm.Wfs]
    exact ⟨h, fun z => absurd rfl z, trivial⟩
  | t :: r, o => by
    show Sm.Wfs nms rws hds (t :: (r ++ [s])) k
    simp only [Sm.Wfs]
    obtain ⟨o1, o2⟩ := o t (List.mem_cons_self ..)
    exact ⟨o1, fun _ => o2, wfs_snoc h fun x hx => o x (List.mem_cons_of_mem _ hx)⟩
theorem wfs_opn {nms rws : List Str} {hds : List (Str × Nat)} {k : Nat} : ∀ {bd : List Sm}, opn nms rws hds bd k → Sm.Wfs nms rws hds bd k
  | [], _ => by simp only [Sm.Wfs]
  | t :: r, o => by
    simp only [Sm.Wfs]
    obtain ⟨o1, o2⟩ := o t (List.mem_cons_self ..)
    exact ⟨o1, fun _ => o2, wfs_opn fun x hx => o x (List.mem_cons_of_mem _ hx)⟩
theorem plain_any {nms rws : List Str} {hds : List (Str × Nat)} {s : Sm} (h : s.Wf nms rws hds 0) (z : s.size = 1) (k : Nat) : s.Wf nms rws hds k := by
  cases s <;> simp only [Sm.Wf] at h ⊢ <;> first | exact h | exact absurd h.1 (by decide)
/-- a statement's word -/
theorem sm_head {H : Hp} {v : V} {s : Sm} (h : Dp K H v s.d) : ∃ p wd xs, v = .ref p ∧ SqT K H p (.str wd :: xs) ∧ (inV (.str wd) [.str "give", .str "fail"] = s.ends) := by
  cases s <;> simp only [Sm.d] at h <;> (obtain ⟨p, xs, rfl, hs, da⟩ := dp_tup h; obtain ⟨x, r, rfl, dx, _⟩ := dpAll_cons da; rw [dp_str dx] at hs; exact ⟨p, _, r, rfl, hs, by rfl⟩)
theorem ok_body_of (T : Top K mg) (D : Nat) (G__law_nest : FnOk P w K mg base CX0 (2 * D + 11) (He.ga K "_law_nest") T.fd__law_nest ["_law_cell", "_law_way", "_law_cells", "_law_deep", "_law_info"] (sp_nest K D)) :
    FnOk P w K mg base CX0 (2 * D + 12) (He.ga K "_law_body") T.fd__law_body ["_law_cells", "_law_deep", "_law_info"] (sp_body K D) := by
  have G__law_mixed := ok__law_mixed (P := P) (w := w) (base := base) T
  have G__law_plain := ok__law_plain (P := P) (w := w) (base := base) T
  refine T.F__law_body.ok sc__law_body (fun vs H Q E h => ?_) (fun cdv A outer s H vs Q E hr h => ?_)
  · obtain ⟨pc, cs, dp, vi, nms, rws, hds, a, b, c, rfl, _⟩ := h
    rfl
  · obtain ⟨pc, cs, dp, vi, nms, rws, hds, a, b, c, rfl, hC, d0, d1, d2, hcl, hI, hn, hw, hh, hq, hk, ho, q⟩ := h
    refine ⟨_, PSs.nox (pss_cons (ps_set (i := 3) sc__law_body.nd rfl (Or.inl rfl) (pe_lst pa_nil))
        (pss_cons (ps_while PassesOwn.never (pt_cmpR op_gt (pe_callB call_len_seq (by rfl) T.m_len (by decide +kernel) (pa_cons (pv 0) pa_nil)) pe_int (nomark _)) (pss_cons (ps_set (i := 4) sc__law_body.nd rfl (Or.inl rfl) (pe_bm PySem.F.plainAttrs_list PySem.F.slot_list_pop PySem.F.type_list_pop mt_popAt (pv 0) (pa_cons pe_int pa_nil)))
        (pss_cons (ps_set (i := 5) sc__law_body.nd rfl (Or.inl rfl) (pe_call G__law_mixed (hr.mono (by omega)) (by rfl) T.g__law_mixed T.F__law_mixed.kp T.b__law_mixed .nil pass0 (pa_cons (pv 4) (pa_cons pe_int (pa_cons pe_int pa_nil)))))
        (pss_cons (ps_if (PW.pt (pw_and (pt_cmpR op_lt (pv 5) pe_int (nomark _)) (pw_and1 (pt_cmpR op_gt (pv 1) pe_int (nomark _))))) (pss_one (ps_ret (pe_callTy call_tuple_of (by rfl) T.m_tuple (by decide +kernel) (pa_cons (pv 3) pa_nil)))) pss_nil)
        (pss_cons (ps_if (PW.pt (pw_and (pt_cmpR op_in_seq (pv 5) (pe_lst (pa_cons pe_int (pa_cons pe_int (pa_cons pe_int pa_nil)))) (by rfl)) (pw_and1 (pt_cmpR op_lt (pv 1) pe_int (nomark _))))) (pss_one (ps_expr (pe_bm PySem.F.plainAttrs_list PySem.F.slot_list_append PySem.F.type_list_append mt_append (pv 3) (pa_cons (pe_call G__law_nest (hr.mono (by omega)) (by rfl) T.g__law_nest T.F__law_nest.kp T.b__law_nest .nil pass0 (pa_cons (pv 4) (pa_cons (pv 5) (pa_cons (pv 0) (pa_cons (pv 1) (pa_cons (pv 2) pa_nil)))))) pa_nil)))) (pss_one (ps_expr (pe_bm PySem.F.plainAttrs_list PySem.F.slot_list_append PySem.F.type_list_append mt_append (pv 3) (pa_cons (pe_call G__law_plain (hr.mono (by omega)) (by rfl) T.g__law_plain T.F__law_plain.kp T.b__law_plain .nil pass0 (pa_cons (pv 4) (pa_cons (pv 2) pa_nil))) pa_nil)))))
        (pss_one (ps_if (pt_cmpR op_in_seq (pe_ix ix_tup (pe_ix ix_list (pv 3) (pe_un un_neg pe_int) (fun _ _ => rfl)) pe_int (fun _ _ => rfl)) (pe_lst (pa_cons pe_str (pa_cons pe_str pa_nil))) (by rfl)) (pss_one (ps_ret (pe_callTy call_tuple_of (by rfl) T.m_tuple (by decide +kernel) (pa_cons (pv 3) pa_nil)))) pss_nil)))))))
        (pss_one (ps_ret (pe_callTy call_tuple_of (by rfl) T.m_tuple (by decide +kernel) (pa_cons (pv 3) pa_nil)))))), ?_⟩
    refine ⟨Nat.zero_le _, fun F nF => ?_⟩
    have s1 := same_new (o := .lst []) nF
    have Fpc : F ≠ pc := (ne_of_none hC.at_ nF).symm
    have nFS : ¬ cellsS pc cs F := by
      rintro (e | ⟨x, hx, e⟩)
      · exact Fpc e
      · exact (hC.ok x hx).fresh nF e
    -- the end: a tuple of what was found
    have fin : ∀ (H' : Hp) (rs : List V) (bd : List Sm) (n : Nat), Kp (cellsS pc cs) H H' → CellsOk H' pc (cs.drop n) → n ≤ cs.length → H' F = some (.lst rs) → DpAll K H' rs (Sm.ds bd) → Sm.Wfs nms rws hds bd (4 - dp).toNat → Sm.sizes bd ≤ n → ∀ p, H' p = none → Q (.ref p) (upd H' p (.tup rs)) := by
      intro H' rs bd n k' C' hn' e' da wf sz p np
      have s' := same_new (o := .tup rs) np
      exact q _ _ n bd (k'.trans (.of_same s')) (C'.same s') hn' (dp_new np da (Sm.noLs bd)) wf sz
    refine while_by (fun σ' H' => ∃ n rs bd x4 x5, Kp (cellsS pc cs) H H' ∧ CellsOk H' pc (cs.drop n) ∧ n ≤ cs.length ∧ H' F = some (.lst rs) ∧ DpAll K H' rs (Sm.ds bd) ∧ opn nms rws hds bd (4 - dp).toNat ∧ Sm.sizes bd ≤ n ∧ σ' = [some (.ref pc), some (.int dp), some vi, some (.ref F), x4, x5])
      (fun σ' H' => match H' pc with | some (.lst xs) => xs.length | _ => 0) ?_ ?_ ?_
    · exact ⟨0, [], [], none, none, kp_upd_new Kp.refl nF, hC.same s1, Nat.zero_le _, upd_same, by simp only [Sm.ds]; exact .nil, (fun s hs => nomatch hs), by simp [Sm.sizes], rfl⟩
    · rintro σ' H1 ⟨n, rs, bd, x4, x5, k1, C1, hn1, e1, da, op, sz, rfl⟩
      refine ⟨_, rfl, pc, _, rfl, .inl (.of C1.at_), _, _, rfl, rfl, _, rfl, ite2 (fun g1 => ?_) (fun _ => ?_)⟩
      · have wfin := wfs_opn op
        cases hcs : cs.drop n with
        | nil =>
          have := of_decide_eq_true g1
          rw [hcs] at this
          simp at this
        | cons v cs1 =>
          have hcs1 : cs1 = cs.drop (n + 1) := by rw [← List.drop_drop, hcs]; rfl
          have hn2 : n + 1 ≤ cs.length := by
            have := congrArg List.length hcs
            rw [List.length_drop, List.length_cons] at this
            omega
          rw [hcs] at C1
          have vin : v ∈ cs := List.mem_of_mem_drop (by rw [hcs]; exact List.mem_cons_self ..)
          have vpc : v ≠ .ref pc := hC.off v vin
          obtain ⟨C2, c2⟩ := C1.pop
          have mu : (match H1 pc with | some (.lst xs) => xs.length | _ => 0) = cs1.length + 1 := by
            rw [C1.at_]
            rfl
          refine ⟨_, rfl, .inl ⟨rfl, _, .of C1.at_⟩, pc, _, 0, 0, v, rfl, rfl, C1.at_, by decide, by decide, by unfold seqIndex?; simp, rfl, ?_⟩
          show tSeq _ _ _ _ (upd H1 pc (.lst cs1))
          have k2 : Kp (cellsS pc cs) H1 (upd H1 pc (.lst cs1)) := Kp.upd C1.at_ trivial (.inl rfl)
          have k02 := k1.trans k2
          have e2 : upd H1 pc (.lst cs1) F = some (.lst rs) := by rw [upd_ne Fpc]; exact e1
          have da2 := dpAll_kp k2 _ _ (Sm.noLs bd) da
          generalize upd H1 pc (.lst cs1) = H2 at C2 c2 k2 k02 e2 da2
          have subv : ∀ x, cellS v x → cellsS pc cs x := fun x z => .inr ⟨v, vin, z⟩
          have ov := ho.sub subv
          have nFv : ¬ cellS v F := fun z => nFS (subv _ z)
          refine ⟨_, rfl, v, 6, 16, rfl, c2, by decide, by decide, by decide, by decide, fun H3 way k3 c3 w0 w1 => ?_⟩
          have k03 := k02.trans (k3.mono subv)
          have C3 := C2.cell k3 c3 vpc
          have e3 := k3 _ _ e2 fun z => absurd z nFv
          have da3 := dpAll_kp k3 _ _ (Sm.noLs bd) da2
          have I3 := hI.kp k03 ho
          have rl : rs.length ≤ 1000 := by
            rw [dpAll_len da, Sm.ds_len]
            have := Sm.sizes_len bd
            omega
          dsimp only [gName]
          refine ifs_by (fun σ' H' => H' = H3 ∧ σ' = [some (.ref pc), some (.int dp), some vi, some (.ref F), some v, some (.int way)]) ?_ ?_
          rotate_left
          · intro N hN
            refine ⟨_, rfl, _, _, rfl, rfl, _, rfl, ite2 (fun _ => ?_) (fun _ => hN _ _ ⟨rfl, rfl⟩)⟩
            refine ⟨_, rfl, _, _, rfl, rfl, _, rfl, ite2 (fun _ => ?_) (fun _ => hN _ _ ⟨rfl, rfl⟩)⟩
            exact ⟨_, rfl, F, _, rfl, .inl ⟨.of e3, fin _ _ bd (n + 1) k03 (by rw [← hcs1]; exact C3) hn2 e3 da3 wfin (by omega)⟩⟩
          rintro σ' H4 ⟨rfl, rfl⟩
          -- one more statement
          refine ifs_by (fun σ' H' => ∃ m x s, Kp (cellsS pc cs) H H' ∧ CellsOk H' pc (cs.drop m) ∧ n + 1 ≤ m ∧ m ≤ cs.length ∧ H' F = some (.lst (rs ++ [x])) ∧ DpAll K H' rs (Sm.ds bd) ∧ Dp K H' x (Sm.d s) ∧ s.Wf nms rws hds (4 - dp).toNat ∧ Sm.sizes bd + s.size ≤ m ∧ σ' = [some (.ref pc), some (.int dp), some vi, some (.ref F), some v, some (.int way)]) ?_ ?_
          · rintro σ' H5 ⟨m, x, s, k5, C5, m0, m1, e5, da5, dx, wf, sz5, rfl⟩
            have da6 : DpAll K H5 (rs ++ [x]) (Sm.ds (bd ++ [s])) := by
              rw [Sm.ds_append]
              refine dpAll_app da5 ?_
              simp only [Sm.ds]
              exact .cons dx .nil
            have wf6 := wfs_snoc wf op
            have sz6 : Sm.sizes (bd ++ [s]) ≤ m := by
              rw [Sm.sizes_append]
              simp only [Sm.sizes]
              omega
            obtain ⟨ps, wd, xs, rfl, hs, hend⟩ := sm_head dx
            refine ⟨_, rfl, 1, rfl, F, _, -1, _, rfl, rfl, .of e5, atI_last _ _, ps, _, 0, _, rfl, rfl, hs, atI_nat (j := 0) rfl, (by show 2 ≤ sizeLine; rw [sizeLine_eq]; decide), fun pl npl => ?_⟩
            have sl := same_new (o := .lst [.str "give", .str "fail"]) npl
            refine ⟨pl, _, rfl, .inl (.of upd_same), rfl, by decide +kernel, _, rfl, ?_⟩
            dsimp only
            rw [if_neg Bool.false_ne_true, hend]
            have e7 := sl _ _ e5
            have da7 := dpAll_same da6 sl (Sm.noLs _)
            have k7 := k5.trans (.of_same sl)
            have C7 := C5.same sl
            cases hse : s.ends with
            | true =>
              exact ⟨_, rfl, F, _, rfl, .inl ⟨.of e7, fin _ _ (bd ++ [s]) m k7 C7 m1 e7 da7 wf6 sz6⟩⟩
            | false =>
              refine ⟨⟨m, rs ++ [.ref ps], bd ++ [s], _, _, k7, C7, m1, e7, da7, ?_, sz6, rfl⟩, ?_⟩
              · intro y hy
                rcases List.mem_append.mp hy with hy | hy
                · exact op y hy
                · rw [List.mem_singleton.mp hy]
                  exact ⟨wf, hse⟩
              · show (match (upd H5 pl _) pc with | some (.lst xs) => xs.length | _ => 0) < (match H1 pc with | some (.lst xs) => xs.length | _ => 0)
                rw [mu, C7.at_]
                show (cs.drop m).length < cs1.length + 1
                rw [hcs1, List.length_drop, List.length_drop]
                omega
          · intro N hN
            -- append
            have app : ∀ (H5 : Hp) (x : V) (s : Sm) (m : Nat), Kp (cellsS pc cs) H H5 → CellsOk H5 pc (cs.drop m) → n + 1 ≤ m → m ≤ cs.length → H5 F = some (.lst rs) → DpAll K H5 rs (Sm.ds bd) → Dp K H5 x s.d → s.Wf nms rws hds (4 - dp).toNat → Sm.sizes bd + s.size ≤ m → N [some (.ref pc), some (.int dp), some vi, some (.ref F), some v, some (.int way)] (upd H5 F (.lst (rs ++ [x]))) := by
              intro H5 x s m k5 C5 m0 m1 e5 da5 dx wf sz5
              have ku : Kp (fun y => y = F) H5 (upd H5 F (.lst (rs ++ [x]))) := Kp.upd e5 trivial rfl
              have nS' : ∀ y ∈ cs.drop m, ¬ cellS y F := fun y hy z => nFS (.inr ⟨y, List.mem_of_mem_drop hy, z⟩)
              refine hN _ _ ⟨m, x, s, kp_upd_new k5 nF, ⟨by rw [upd_ne Fpc.symm]; exact C5.at_, fun y hy => (C5.ok y hy).upd (nS' y hy), C5.off⟩, m0, m1, upd_same, dpAll_kp ku _ _ (Sm.noLs bd) da5, dp_kp ku _ _ s.noL dx, wf, sz5, rfl⟩
            refine ⟨_, rfl, (by show 3 ≤ sizeLine; rw [sizeLine_eq]; decide), fun pl npl => ?_⟩
            have sl := same_new (o := .lst [.int 2, .int 3, .int 4]) npl
            refine ⟨pl, _, rfl, .inl (.of upd_same), rfl, by decide +kernel, _, rfl, ?_⟩
            have c5 := c3.same sl
            have C5 := C3.same sl
            have I5 := I3.kp (Kp.of_same (S := cellS v) sl) ov
            have e5 := sl _ _ e3
            have da5 := dpAll_same da3 sl (Sm.noLs bd)
            have k5 := k03.trans (.of_same sl)
            generalize upd H4 pl (.lst [.int 2, .int 3, .int 4]) = H5 at c5 C5 I5 e5 da5 k5
            have rl2 : rs.length < sizeLine := by rw [sizeLine_eq]; omega
            refine ite_else ?_ fun _ leaf => ?_
            · refine ⟨_, rfl, .inl ⟨rfl, _, .of e5⟩, _, rfl, _, rfl, v, vi, nms, rws, hds, a, b, c, rfl, c5, I5, hn, hw, hh, hq, hk, ov, fun H6 x s k6 c6 dx wf sz6 => ?_⟩
              have e6 := k6 _ _ e5 fun z => absurd z nFv
              refine ⟨F, _, _, rfl, rfl, e6, rl2, ?_⟩
              exact app H6 x s (n + 1) (k5.trans (k6.mono subv)) (by rw [← hcs1]; exact C5.cell k6 c6 vpc) (Nat.le_refl _) hn2 e6 (dpAll_kp k6 _ _ (Sm.noLs bd) da5) dx (plain_any wf sz6 _) (by omega)
            · refine ⟨_, rfl, _, _, rfl, rfl, _, rfl, ite_else leaf fun g2 _ => ?_⟩
              have dp4 : dp < 4 := of_decide_eq_true g2
              refine ⟨_, rfl, .inl ⟨rfl, _, .of e5⟩, _, rfl, _, rfl, _, rfl, _, rfl, _, rfl, v, way, pc, cs1, dp, vi, nms, rws, hds, a, b, c, rfl, c5, vpc, C5, d0, by omega, d2, by rw [hcs1, List.length_drop]; omega, I5, hn, hw, hh, hq, hk, ov, ho.sub (fun x z => by rw [hcs1] at z; exact cellsS_drop _ x z), fun H6 x m s k6 C6 hm6 dx wf en sz6 => ?_⟩
              rw [hcs1, List.length_drop] at hm6
              rw [hcs1, List.drop_drop] at C6
              have sub6 : ∀ y, (cellS v y ∨ cellsS pc cs1 y) → cellsS pc cs y := by
                rintro y (z | z)
                · exact subv y z
                · rw [hcs1] at z
                  exact cellsS_drop _ y z
              have k6' := k6.mono sub6
              have e6 := k6' _ _ e5 fun z => absurd z nFS
              refine ⟨F, _, _, rfl, rfl, e6, rl2, ?_⟩
              exact app H6 x s (n + 1 + m) (k5.trans k6') C6 (by omega) (by omega) e6 (dpAll_kp k6 _ _ (Sm.noLs bd) da5) dx wf (by omega)
      · have C1' := C1
        exact ⟨_, rfl, F, _, rfl, .inl ⟨.of e1, fin _ _ bd n k1 C1 hn1 e1 da (wfs_opn op) sz⟩⟩
    · intro σ' H' Q1 Q2 h hc
      obtain ⟨v, h1, p, ys, h2, h3, i, j, h4, h5, k, h6, h7⟩ := hc
      exact ⟨v, h1, p, ys, h2, h3, i, j, h4, h5, k, h6, h _ _ h7⟩
theorem ok_body (T : Top K mg) : ∀ D : Nat, FnOk P w K mg base CX0 (2 * D + 12) (He.ga K "_law_body") T.fd__law_body ["_law_cells", "_law_deep", "_law_info"] (sp_body K D)
  | 0 => ok_body_of T 0 (ok_nest0 T)
  | D + 1 => ok_body_of T (D + 1) (ok_nest_of T D (ok_body T D))
end

section
variable {P : Program} {w : World} {K : PySem.W.Frag} {mg : Str → Option Value} {base : Heap}
theorem kp_int {H H' : Hp} {c : Int} (k : Kp (cellS (.int c)) H H') : Same H H' := fun b o e => k b o e fun z => nomatch z
def sp__law_inner_cell (K : PySem.W.Frag) : Sp := fun vs H Q _ => ∃ (a : Addr) (ns : List Int) (fi k j : Int), vs = [.ref a, .int fi, .int k, .int j] ∧ SqL K H a (ns.map V.int) ∧ 0 ≤ fi ∧ 0 ≤ k ∧ k < 1000 ∧ 0 ≤ j ∧ j < 1000 ∧
  ∀ H' v, Same H H' → CellOk H' v → (∀ p, v = .ref p → H p = none) → Q v H'
theorem ok__law_inner_cell (T : Top K mg) : FnOk P w K mg base CX0 2 (He.ga K "_law_inner_cell") T.fd__law_inner_cell ["_law_script", "_law_first", "_law_k", "_law_j"] (sp__law_inner_cell K) := by
  have G__law_mixed := ok__law_mixed (P := P) (w := w) (base := base) T
  have G__law_held := ok__law_held (P := P) (w := w) (base := base) T
  have G__law_cell_at := ok__law_cell_at (P := P) (w := w) (base := base) T
  refine T.F__law_inner_cell.ok sc__law_inner_cell (fun vs H Q E h => ?_) (fun cdv A outer s H vs Q E hr h => ?_)
  · obtain ⟨a, ns, fi, k, j, rfl, _⟩ := h
    rfl
  · obtain ⟨a, ns, fi, k, j, rfl, hS, f0, k0, k1, j0, j1, q⟩ := h
    refine ⟨_, PSs.nox (pss_cons (ps_set (i := 4) sc__law_inner_cell.nd rfl (Or.inl rfl) (pe_call G__law_held (hr.mono (by omega)) (by rfl) T.g__law_held T.F__law_held.kp T.b__law_held .nil pass0 (pa_cons (pe_call G__law_cell_at (hr.mono (by omega)) (by rfl) T.g__law_cell_at T.F__law_cell_at.kp T.b__law_cell_at .nil pass0 (pa_cons (pv 0) (pa_cons (pe_op op_add (pe_op op_add (pe_op op_add (pe_op op_add (pv 1) pe_int) (pe_op op_mul (pv 2) (pv 2))) (pv 2)) (pv 3)) pa_nil))) pa_nil)))
        (pss_cons (ps_if (pt_val (pe_callB call_isi (by rfl) T.m_isinstance (by decide +kernel) (pa_cons (pv 4) (pa_cons (pe_bltn (v := .ty "list") (by rfl) T.m_list (by decide +kernel) rfl) pa_nil)))) (pss_one (ps_ret (pv 4))) pss_nil)
        (pss_one (ps_ret (pe_call G__law_mixed (hr.mono (by omega)) (by rfl) T.g__law_mixed T.F__law_mixed.kp T.b__law_mixed .nil pass0 (pa_cons (pe_op op_add (pe_call G__law_cell_at (hr.mono (by omega)) (by rfl) T.g__law_cell_at T.F__law_cell_at.kp T.b__law_cell_at .nil pass0 (pa_cons (pv 0) (pa_cons (pe_op op_add (pe_op op_add (pv 1) pe_int) (pv 3)) pa_nil))) (pe_op op_mul pe_int (pv 3))) (pa_cons (pv 2) (pa_cons pe_int pa_nil)))))))), ?_⟩
    have kk : 0 ≤ k * k := Int.mul_nonneg k0 k0
    refine ⟨_, rfl, _, rfl, _, _, rfl, rfl, _, rfl, _, rfl, _, _, rfl, rfl, .inl ⟨by omega, by omega⟩, _, _, rfl, rfl, _, rfl, _, _, rfl, rfl, _, rfl, _, _, rfl, rfl, a, ns, _, rfl, by omega, hS, _, rfl, fun H1 v s1 c1 f1 => ?_⟩
    rcases c1 with ⟨c, rfl⟩ | ⟨p, l, t, rfl, hp, hl, ht⟩
    · refine ⟨_, rfl, _, _, _, _, false, rfl, .ty _, .base (.int c), kit_ty (by decide +kernel), false, rfl, ?_⟩
      refine ⟨_, rfl, _, rfl, _, _, rfl, rfl, _, rfl, _, _, rfl, rfl, a, ns, _, rfl, by omega, s1.seq hS, _, rfl, _, _, rfl, rfl, .inl ⟨by decide, by decide⟩, _, _, rfl, rfl, _, rfl, _, k, 1000003, rfl, .inl ⟨_, rfl⟩, k0, by omega, by decide, by decide, fun H2 r k2 _ _ _ => ?_⟩
      exact q _ _ (s1.trans (kp_int k2)) (.inl ⟨_, rfl⟩) fun p e => nomatch e
    · refine ⟨_, rfl, _, _, _, _, true, rfl, .ty _, .base (.lst hp), kit_ty (by decide +kernel), true, rfl, ?_⟩
      exact ⟨_, rfl, q _ _ s1 (.inr ⟨p, l, t, rfl, hp, hl, ht⟩) f1⟩
/-! a whole program -/
structure Pg where
  hs : List (Str × List Str × List Sm)
  ps : List Str
  rs : List (Str × Nat)
  bd : List Sm
def hpD (h : Str × List Str × List Sm) : PyData := .tuple [.str h.1, .tuple (h.2.1.map .str), .tuple (Sm.ds h.2.2)]
def rwD (r : Str × Nat) : PyData := .tuple [.str r.1, .int r.2]
def hdOf (h : Str × List Str × List Sm) : Str × Nat := (h.1, h.2.1.length)
def Pg.d (p : Pg) : PyData := .tuple [.tuple (p.hs.map hpD), .tuple (p.ps.map .str), .tuple (p.rs.map rwD), .tuple (Sm.ds p.bd)]
theorem strs_noL (zs : List Str) : nLs (zs.map PyData.str) = true := noLs_all fun x hx => by
  obtain ⟨z, _, rfl⟩ := List.mem_map.mp hx
  rfl
theorem hpD_noL (h : Str × List Str × List Sm) : nLd (hpD h) = true := by
  simp only [hpD, nLd, nLs, strs_noL, Sm.noLs]
  rfl
theorem hps_noL (hs : List (Str × List Str × List Sm)) : nLs (hs.map hpD) = true := noLs_all fun x hx => by
  obtain ⟨z, _, rfl⟩ := List.mem_map.mp hx
  exact hpD_noL z
theorem rws_noL (rs : List (Str × Nat)) : nLs (rs.map rwD) = true := noLs_all fun x hx => by
  obtain ⟨z, _, rfl⟩ := List.mem_map.mp hx
  rfl
theorem Pg.noL (p : Pg) : nLd p.d = true := by
  simp only [Pg.d, nLd, nLs, strs_noL, Sm.noLs, hps_noL, rws_noL]
  rfl
structure HpWf (hds : List (Str × Nat)) (h : Str × List Str × List Sm) : Prop where
  nm : IsNm h.1
  pl : h.2.1.length ≤ 4
  pn : h.2.1.Nodup
  pk : ∀ x ∈ h.2.1, IsNm x
  bd : ∃ vs : List Str, (∀ x ∈ vs, IsNm x) ∧ vs.length ≤ 12 ∧ (∀ x ∈ h.2.1, x ∈ vs) ∧ Sm.Wfs vs [] hds h.2.2 4
  sz : Sm.sizes h.2.2 ≤ 8
structure Pg.Wf (p : Pg) : Prop where
  hl : p.hs.length ≤ 4
  hn : (p.hs.map (·.1)).Nodup
  hok : ∀ (i : Nat) h, p.hs[i]? = some h → HpWf ((p.hs.take i).map hdOf) h
  pl : p.ps.length ≤ 4
  pn : p.ps.Nodup
  pk : ∀ x ∈ p.ps, IsNm x
  rl : p.rs.length ≤ 3
  rn : (p.rs.map (·.1)).Nodup
  rk : ∀ r ∈ p.rs, IsNm r.1 ∧ 1 ≤ r.2 ∧ r.2 ≤ 8 ∧ r.1 ∉ p.ps
  bd : ∃ vs : List Str, (∀ x ∈ vs, IsNm x) ∧ vs.length ≤ 12 ∧ (∀ x ∈ p.ps, x ∈ vs) ∧ (∀ r ∈ p.rs, r.1 ∉ vs) ∧ Sm.Wfs vs (p.rs.map (·.1)) (p.hs.map hdOf) p.bd 4
  sz : Sm.sizes p.bd ≤ 24
/-- what the drawer of a program has at hand -/
structure PW (H0 H : Hp) (Ln : Addr) (nm : List Str) (vh : V) : Prop where
  s : Same H0 H
  ln : H Ln = some (.lst (nm.map V.str))
  c : CellOk H vh
structure PF (H0 : Hp) (Ln : Addr) (vh : V) : Prop where
  l : H0 Ln = none
  v : ∀ b, cellS vh b → H0 b = none
  n : ¬ cellS vh Ln
section
variable {H0 H H' : Hp} {Ln : Addr} {nm : List Str} {vh : V}
theorem PW.kpS {S : Addr → Prop} (h : PW H0 H Ln nm vh) (k : Kp S H H') (h0 : ∀ b, S b → H0 b = none) (hn : ¬ S Ln) (c' : CellOk H' vh) : PW H0 H' Ln nm vh :=
  ⟨Kp.same h.s k h0, k _ _ h.ln fun z => absurd z hn, c'⟩
theorem PW.kp (h : PW H0 H Ln nm vh) (f : PF H0 Ln vh) (k : Kp (cellS vh) H H') (c' : CellOk H' vh) : PW H0 H' Ln nm vh := h.kpS k f.v f.n c'
theorem PW.same (h : PW H0 H Ln nm vh) (k : Same H H') : PW H0 H' Ln nm vh := ⟨h.s.trans k, k _ _ h.ln, h.c.same k⟩
theorem PW.upd (h : PW H0 H Ln nm vh) {p : Addr} {o : HO} (np : H0 p = none) (nl : p ≠ Ln) (nc : ¬ cellS vh p) : PW H0 (upd H p o) Ln nm vh :=
  ⟨fun b x e => by rw [upd_ne (ne_of_none e np)]; exact h.s b x e, by rw [upd_ne nl.symm]; exact h.ln, h.c.upd nc⟩
theorem PW.new (h : PW H0 H Ln nm vh) {p : Addr} {o : HO} (np : H p = none) : PW H0 (L2.upd H p o) Ln nm vh := h.same (same_new np)
theorem PW.free (h : PW H0 H Ln nm vh) {p : Addr} (np : H p = none) : H0 p = none ∧ p ≠ Ln ∧ ¬ cellS vh p := ⟨h.s.free np, (ne_of_none h.ln np).symm, h.c.fresh np⟩
end
end

section
variable {P : Program} {w : World} {K : PySem.W.Frag} {mg : Str → Option Value} {base : Heap}
def mosts : List Int := [1, 2, 3, 5, 8, 12]
def manys : List Int := [0, 0, 1, 2, 3, 4]
theorem getElem_mem' {α : Type} {l : List α} {i : Nat} {x : α} (h : l[i]? = some x) : x ∈ l := List.mem_of_getElem? h
theorem ints_at {l : List Int} {j : Int} (h0 : 0 ≤ j) (h1 : j < l.length) : ∃ x ∈ l, atI (l.map V.int) j = some (.int x) := by
  obtain ⟨x, hx, e⟩ := at_list (ns := l.map V.int) h0 (by rw [List.length_map]; exact h1)
  obtain ⟨z, hz, rfl⟩ := List.mem_map.mp hx
  exact ⟨z, hz, e⟩
theorem cutV_mid (xs : List V) {i j : Nat} (h1 : i ≤ j) (h2 : j ≤ xs.length) : cutV xs (some (i : Int)) (some (j : Int)) = (xs.drop i).take (j - i) := by
  unfold cutV
  rw [HT.sIx_nat, HT.sIx_nat, Nat.min_eq_left h2, Nat.min_eq_left (by omega)]
theorem CellsOk.fresh {H : Hp} {pc : Addr} {cs : List V} (h : CellsOk H pc cs) {p : Addr} (np : H p = none) : ¬ cellsS pc cs p := by
  rintro (e | ⟨x, hx, e⟩)
  · rw [e, h.at_] at np
    cases np
  · exact (h.ok x hx).fresh np e
/-- the helpers that were drawn -/
structure HsOk (nm : List Str) (hs : List (Str × List Str × List Sm)) : Prop where
  wf : ∀ (j : Nat) h, hs[j]? = some h → HpWf ((hs.take j).map hdOf) h
  nm : ∀ (j : Nat) h, hs[j]? = some h → nm[15 - j]? = some h.1 ∨ nm[j]? = some h.1
def hdD (q : Str × Nat) : PyData := .tuple [.str q.1, .int q.2]
theorem hds_noL (l : List (Str × Nat)) : nLs (l.map hdD) = true := heads_noL l
theorem hsOk_snoc {nm : List Str} {hs : List (Str × List Str × List Sm)} {h : Str × List Str × List Sm} (o : HsOk nm hs) (w : HpWf (hs.map hdOf) h) (e : nm[15 - hs.length]? = some h.1 ∨ nm[hs.length]? = some h.1) : HsOk nm (hs ++ [h]) := by
  have key : ∀ (j : Nat) x, (hs ++ [h])[j]? = some x → (j < hs.length ∧ hs[j]? = some x) ∨ (j = hs.length ∧ x = h) := by
    intro j x hx
    rcases Nat.lt_trichotomy j hs.length with hj | hj | hj
    · rw [List.getElem?_append_left hj] at hx
      exact .inl ⟨hj, hx⟩
    · subst hj
      rw [List.getElem?_append_right (Nat.le_refl _), Nat.sub_self] at hx
      exact .inr ⟨rfl, (Option.some.inj hx).symm⟩
    · rw [List.getElem?_eq_none (by rw [List.length_append]; simp; omega)] at hx
      cases hx
  refine ⟨fun j x hx => ?_, fun j x hx => ?_⟩
  · rcases key j x hx with ⟨hj, hx⟩ | ⟨rfl, rfl⟩
    · rw [List.take_append_of_le_length (by omega)]
      exact o.wf j x hx
    · rw [List.take_append_of_le_length (Nat.le_refl _), List.take_length]
      exact w
  · rcases key j x hx with ⟨hj, hx⟩ | ⟨rfl, rfl⟩
    · exact o.nm j x hx
    · exact e
structure LW (K : PySem.W.Frag) (H0 H : Hp) (Ln : Addr) (nm : List Str) (vh : V) (LR : Addr) (xr : List V) (rs : List (Str × Nat)) (LH LD : Addr) (xh xd : List V) (hs : List (Str × List Str × List Sm)) : Prop where
  w : PW H0 H Ln nm vh
  eR : H LR = some (.lst xr)
  dR : DpAll K H xr (rs.map rwD)
  eH : H LH = some (.lst xh)
  dH : DpAll K H xh (hs.map hpD)
  eD : H LD = some (.lst xd)
  dD : DpAll K H xd ((hs.map hdOf).map hdD)
theorem LW.kpS {H0 H H' : Hp} {Ln : Addr} {nm : List Str} {vh : V} {LR : Addr} {xr : List V} {rs : List (Str × Nat)} {LH LD : Addr} {xh xd : List V} {hs : List (Str × List Str × List Sm)} (h : LW K H0 H Ln nm vh LR xr rs LH LD xh xd hs) {S : Addr → Prop} (k : Kp S H H')
    (h0 : ∀ b, S b → H0 b = none) (n1 : ¬ S Ln) (n2 : ¬ S LR) (n3 : ¬ S LH) (n4 : ¬ S LD) (c' : CellOk H' vh) : LW K H0 H' Ln nm vh LR xr rs LH LD xh xd hs :=
  ⟨h.w.kpS k h0 n1 c', k _ _ h.eR fun z => absurd z n2, dpAll_kp k _ _ (rws_noL rs) h.dR, k _ _ h.eH fun z => absurd z n3, dpAll_kp k _ _ (hps_noL hs) h.dH, k _ _ h.eD fun z => absurd z n4, dpAll_kp k _ _ (hds_noL _) h.dD⟩
theorem LW.same {H0 H H' : Hp} {Ln : Addr} {nm : List Str} {vh : V} {LR : Addr} {xr : List V} {rs : List (Str × Nat)} {LH LD : Addr} {xh xd : List V} {hs : List (Str × List Str × List Sm)} (h : LW K H0 H Ln nm vh LR xr rs LH LD xh xd hs) (k : Same H H') : LW K H0 H' Ln nm vh LR xr rs LH LD xh xd hs :=
  h.kpS (S := fun _ => False) (Kp.of_same k) (fun _ z => z.elim) id id id id (h.w.c.same k)
theorem LW.new {H0 H : Hp} {Ln : Addr} {nm : List Str} {vh : V} {LR : Addr} {xr : List V} {rs : List (Str × Nat)} {LH LD : Addr} {xh xd : List V} {hs : List (Str × List Str × List Sm)} (h : LW K H0 H Ln nm vh LR xr rs LH LD xh xd hs) {p : Addr} {o : HO} (np : H p = none) : LW K H0 (upd H p o) Ln nm vh LR xr rs LH LD xh xd hs := h.same (same_new np)
/-- addresses that stand apart -/
structure LF (H0 : Hp) (Ln : Addr) (vh : V) (LR LH LD : Addr) : Prop where
  f : PF H0 Ln vh
  rc : ¬ cellS vh LR
  hc : ¬ cellS vh LH
  dc : ¬ cellS vh LD
  h0 : H0 LH = none
  d0 : H0 LD = none
  hl : LH ≠ Ln
  dl : LD ≠ Ln
  hr : LH ≠ LR
  dr : LD ≠ LR
  hd : LH ≠ LD
theorem LW.kp {H0 H H' : Hp} {Ln : Addr} {nm : List Str} {vh : V} {LR : Addr} {xr : List V} {rs : List (Str × Nat)} {LH LD : Addr} {xh xd : List V} {hs : List (Str × List Str × List Sm)} (h : LW K H0 H Ln nm vh LR xr rs LH LD xh xd hs) (f : LF H0 Ln vh LR LH LD) (k : Kp (cellS vh) H H') (c' : CellOk H' vh) : LW K H0 H' Ln nm vh LR xr rs LH LD xh xd hs :=
  h.kpS k f.f.v f.f.n f.rc f.hc f.dc c'
theorem nm_strOk {z : Str} (h : IsNm z) : PyData.strOk z = true := by
  unfold PyData.strOk
  rw [← Array.all_toList]
  refine List.all_eq_true.mpr fun c hc => decide_eq_true ?_
  have := (h.let_ c hc).2
  omega
theorem hs_nodup {nm : List Str} {hs : List (Str × List Str × List Sm)} (hN : Names nm) (o : HsOk nm hs) (hl : hs.length ≤ 4) : (hs.map (·.1)).Nodup := by
  have nl := hN.len
  have inj : ∀ (i j : Nat) z, nm[i]? = some z → nm[j]? = some z → i = j := by
    intro i j z hi hj
    obtain ⟨li, ei⟩ := List.getElem?_eq_some_iff.mp hi
    obtain ⟨lj, ej⟩ := List.getElem?_eq_some_iff.mp hj
    exact (List.getElem_inj hN.nd).mp (ei.trans ej.symm)
  refine List.pairwise_iff_getElem.mpr fun i j hi hj hij e => ?_
  rw [List.length_map] at hi hj
  rw [List.getElem_map, List.getElem_map] at e
  have e2 : hs[i].1 = hs[j].1 := e
  have h1 := o.nm i _ (List.getElem?_eq_getElem (by omega : i < hs.length))
  have h2 := o.nm j _ (List.getElem?_eq_getElem hj)
  rw [e2] at h1
  rcases h1 with h1 | h1 <;> rcases h2 with h2 | h2 <;> have := inj _ _ _ h1 h2 <;> omega
def sp__law_program (K : PySem.W.Frag) : Sp := fun vs H Q _ => ∃ (a : Addr) (ns : List Int) (fi : Int), vs = [.ref a, .int fi] ∧ SqL K H a (ns.map V.int) ∧ 0 ≤ fi ∧ fi ≤ 1000 ∧ ∀ H' r (p : Pg), Same H H' → Dp K H' r p.d → p.Wf → Q r H'
theorem ok__law_program (T : Top K mg) : FnOk P w K mg base CX0 21 (He.ga K "_law_program") T.fd__law_program ["_law_script", "_law_first"] (sp__law_program K) := by
  have G__law_mixed := ok__law_mixed (P := P) (w := w) (base := base) T
  have G__law_held := ok__law_held (P := P) (w := w) (base := base) T
  have G__law_cell_at := ok__law_cell_at (P := P) (w := w) (base := base) T
  have G__law_names := ok__law_names (P := P) (w := w) (base := base) T
  have G__law_inner_cell := ok__law_inner_cell (P := P) (w := w) (base := base) T
  have G__law_body := ok_body (P := P) (w := w) (base := base) T 4
  refine T.F__law_program.ok sc__law_program (fun vs H Q E h => ?_) (fun cdv A outer s H vs Q E hr h => ?_)
  · obtain ⟨a, ns, fi, rfl, _⟩ := h
    rfl
  · obtain ⟨a, ns, fi, rfl, hS, f0, f1, q⟩ := h
    refine ⟨_, PSs.nox (pss_cons (ps_set (i := 2) sc__law_program.nd rfl (Or.inl rfl) (pe_call G__law_cell_at (hr.mono (by omega)) (by rfl) T.g__law_cell_at T.F__law_cell_at.kp T.b__law_cell_at .nil pass0 (pa_cons (pv 0) (pa_cons (pv 1) pa_nil))))
        (pss_cons (ps_set (i := 3) sc__law_program.nd rfl (Or.inr rfl) (pe_call G__law_names (hr.mono (by omega)) (by rfl) T.g__law_names T.F__law_names.kp T.b__law_names .nil pass0 (pa_cons (pe_op op_fdivW (pv 2) pe_int) pa_nil)))
        (pss_cons (ps_set (i := 4) sc__law_program.nd rfl (Or.inr rfl) (pe_call G__law_held (hr.mono (by omega)) (by rfl) T.g__law_held T.F__law_held.kp T.b__law_held .nil pass0 (pa_cons (pe_op op_fdivW (pv 2) (pe_op op_pow pe_int pe_int)) pa_nil)))
        (pss_cons (ps_if (pt_not (pt_val (pe_callB call_isi (by rfl) T.m_isinstance (by decide +kernel) (pa_cons (pv 4) (pa_cons (pe_bltn (v := .ty "list") (by rfl) T.m_list (by decide +kernel) rfl) pa_nil))))) (pss_one (ps_set (i := 4) sc__law_program.nd rfl (Or.inr rfl) (pv 2))) pss_nil)
        (pss_cons (ps_set (i := 5) sc__law_program.nd rfl (Or.inl rfl) (pe_ix ix_list (pe_lst (pa_cons pe_int (pa_cons pe_int (pa_cons pe_int (pa_cons pe_int (pa_cons pe_int (pa_cons pe_int pa_nil))))))) (pe_call G__law_mixed (hr.mono (by omega)) (by rfl) T.g__law_mixed T.F__law_mixed.kp T.b__law_mixed .nil pass0 (pa_cons (pv 4) (pa_cons pe_int (pa_cons pe_int pa_nil)))) (fun _ _ => rfl)))
        (pss_cons (ps_setLc (i := 6) (own := [("_law_k", 9)]) (by rfl) sc__law_program.nd rfl rfl (sw_true rfl rfl rfl (by decide +kernel)) (pi_range1 (by rfl) T.m_range (pa_cons pe_int pa_nil)) (blkOk_by (own := [("_law_k", 9)]) (N := N__law_program) (sc := defScope s__law_program) (by decide +kernel)) (fun _ _ _ _ _ => (pg_name (i := 9) sc__law_program.nd rfl (Or.inl rfl))) (fun _ _ _ _ _ => pts_nil) (fun _ _ _ _ _ => (pe_tup (pa_cons (pe_ix (ix_listK (K := K) rfl) (pv 3) (pe_op op_add pe_int (pv 9)) (fun _ _ => rfl)) (pa_cons (pe_ix (ix_listK (K := K) rfl) (pe_lst (pa_cons pe_int (pa_cons pe_int (pa_cons pe_int (pa_cons (pe_op op_add pe_int (pe_call G__law_mixed (hr.mono (by omega)) (by rfl) T.g__law_mixed T.F__law_mixed.kp T.b__law_mixed .nil pass0 (pa_cons (pv 4) (pa_cons (pv 9) (pa_cons pe_int pa_nil))))) pa_nil))))) (pe_call G__law_mixed (hr.mono (by omega)) (by rfl) T.g__law_mixed T.F__law_mixed.kp T.b__law_mixed .nil pass0 (pa_cons (pv 4) (pa_cons (pe_op op_add pe_int (pv 9)) (pa_cons pe_int pa_nil)))) (fun _ _ => rfl)) pa_nil)))))
        (pss_cons (ps_set (i := 6) sc__law_program.nd rfl (Or.inl rfl) (pe_slice sl_list (pv 6) po_none (po_some (pe_call G__law_mixed (hr.mono (by omega)) (by rfl) T.g__law_mixed T.F__law_mixed.kp T.b__law_mixed .nil pass0 (pa_cons (pv 4) (pa_cons pe_int (pa_cons pe_int pa_nil)))))))
        (pss_cons (ps_set (i := 7) sc__law_program.nd rfl (Or.inl rfl) (pe_lst pa_nil))
        (pss_cons (ps_set (i := 8) sc__law_program.nd rfl (Or.inl rfl) (pe_lst pa_nil))
        (pss_cons (ps_for PassesOwn.never (by rfl) (pi_range1 (by rfl) T.m_range (pa_cons (pe_ix ix_list (pe_lst (pa_cons pe_int (pa_cons pe_int (pa_cons pe_int (pa_cons pe_int (pa_cons pe_int (pa_cons pe_int pa_nil))))))) (pe_call G__law_mixed (hr.mono (by omega)) (by rfl) T.g__law_mixed T.F__law_mixed.kp T.b__law_mixed .nil pass0 (pa_cons (pv 4) (pa_cons pe_int (pa_cons pe_int pa_nil)))) (fun _ _ => rfl)) pa_nil)) (pg_name (i := 9) sc__law_program.nd rfl (Or.inr rfl)) (pss_cons (ps_set (i := 10) sc__law_program.nd rfl (Or.inl rfl) (pe_ifExp (pt_val (pe_callB call_isi (by rfl) T.m_isinstance (by decide +kernel) (pa_cons (pv 4) (pa_cons (pe_bltn (v := .ty "list") (by rfl) T.m_list (by decide +kernel) rfl) pa_nil)))) (pv 4) (pe_op op_add (pv 2) (pv 9))))
        (pss_cons (ps_set (i := 11) sc__law_program.nd rfl (Or.inr rfl) (pe_callTy call_tuple_of (by rfl) T.m_tuple (by decide +kernel) (pa_cons (pe_slice sl_list (pv 3) (po_some (pv 9)) (po_some (pe_op op_add (pv 9) (pe_call G__law_mixed (hr.mono (by omega)) (by rfl) T.g__law_mixed T.F__law_mixed.kp T.b__law_mixed .nil pass0 (pa_cons (pv 10) (pa_cons pe_int (pa_cons pe_int pa_nil))))))) pa_nil)))
        (pss_cons (ps_setLc (i := 12) (own := [("_law_j", 16)]) (by rfl) sc__law_program.nd rfl rfl (sw_true rfl rfl rfl (by decide +kernel)) (pi_range1 (by rfl) T.m_range (pa_cons (pe_op op_add pe_int (pe_op op_mul pe_int (pv 9))) pa_nil)) (blkOk_by (own := [("_law_j", 16)]) (N := N__law_program) (sc := defScope s__law_program) (by decide +kernel)) (fun _ _ _ _ _ => (pg_name (i := 16) sc__law_program.nd rfl (Or.inl rfl))) (fun _ _ _ _ _ => pts_nil) (fun _ _ _ _ _ => (pe_call G__law_inner_cell (hr.mono (by omega)) (by rfl) T.g__law_inner_cell T.F__law_inner_cell.kp T.b__law_inner_cell .nil pass0 (pa_cons (pv 0) (pa_cons (pv 1) (pa_cons (pv 9) (pa_cons (pv 16) pa_nil)))))))
        (pss_cons (ps_set (i := 13) sc__law_program.nd rfl (Or.inl rfl) (pe_op op_cat (pe_callTy call_list_of (by rfl) T.m_list (by decide +kernel) (pa_cons (pv 11) pa_nil)) (pe_slice sl_list (pe_lc (own := [("_law_name", 14)]) (by rfl) sc__law_program.nd (pi_list (pe_slice sl_list (pv 3) po_none (po_some (pv 5)))) (blkOk_by (own := [("_law_name", 14)]) (N := N__law_program) (sc := defScope s__law_program) (by decide +kernel)) (fun _ _ _ _ _ => (pg_name (i := 14) sc__law_program.nd rfl (Or.inl rfl))) (fun _ _ _ _ _ => (pts_one (pt_cmpR (op_notIn_seqK (K := K) rfl) (pv 14) (pv 11) (by rfl)))) (fun _ _ _ _ _ => (pv 14))) po_none (po_some (pe_op op_sub pe_int (pe_callB call_len_seq (by rfl) T.m_len (by decide +kernel) (pa_cons (pv 11) pa_nil)))))))
        (pss_cons (ps_set (i := 14) sc__law_program.nd rfl (Or.inl rfl) (pe_ix ix_list (pv 3) (pe_ix ix_list (pe_lst (pa_cons (pe_op op_sub pe_int (pv 9)) (pa_cons (pv 9) pa_nil))) (pe_call G__law_mixed (hr.mono (by omega)) (by rfl) T.g__law_mixed T.F__law_mixed.kp T.b__law_mixed .nil pass0 (pa_cons (pv 4) (pa_cons (pv 9) (pa_cons pe_int pa_nil)))) (fun _ _ => rfl)) (fun _ _ => rfl)))
        (pss_cons (ps_expr (pe_bm PySem.F.plainAttrs_list PySem.F.slot_list_append PySem.F.type_list_append mt_append (pv 7) (pa_cons (pe_tup (pa_cons (pv 14) (pa_cons (pv 11) (pa_cons (pe_call G__law_body (hr.mono (by omega)) (by rfl) T.g__law_body T.F__law_body.kp T.b__law_body .nil pass0 (pa_cons (pv 12) (pa_cons pe_int (pa_cons (pe_tup (pa_cons (pv 13) (pa_cons (pe_lst pa_nil) (pa_cons (pe_callTy call_list_of (by rfl) T.m_list (by decide +kernel) (pa_cons (pv 8) pa_nil)) pa_nil)))) pa_nil)))) pa_nil)))) pa_nil)))
        (pss_one (ps_expr (pe_bm PySem.F.plainAttrs_list PySem.F.slot_list_append PySem.F.type_list_append mt_append (pv 8) (pa_cons (pe_tup (pa_cons (pv 14) (pa_cons (pe_callB call_len_seq (by rfl) T.m_len (by decide +kernel) (pa_cons (pv 11) pa_nil)) pa_nil))) pa_nil)))))))))))
        (pss_cons (ps_set (i := 11) sc__law_program.nd rfl (Or.inr rfl) (pe_callTy call_tuple_of (by rfl) T.m_tuple (by decide +kernel) (pa_cons (pe_slice sl_list (pv 3) po_none (po_some (pe_callB (call_min2 rfl) (by rfl) T.m_min (by decide +kernel) (pa_cons (pv 5) (pa_cons (pe_call G__law_mixed (hr.mono (by omega)) (by rfl) T.g__law_mixed T.F__law_mixed.kp T.b__law_mixed .nil pass0 (pa_cons (pv 4) (pa_cons pe_int (pa_cons pe_int pa_nil)))) pa_nil))))) pa_nil)))
        (pss_cons (ps_set (i := 15) sc__law_program.nd rfl (Or.inl rfl) (pe_tup (pa_cons (pe_slice sl_list (pv 3) po_none (po_some (pv 5))) (pa_cons (pe_lc (own := [("_law_row", 17)]) (by rfl) sc__law_program.nd (pi_list (pv 6)) (blkOk_by (own := [("_law_row", 17)]) (N := N__law_program) (sc := defScope s__law_program) (by decide +kernel)) (fun _ _ _ _ _ => (pg_name (i := 17) sc__law_program.nd rfl (Or.inl rfl))) (fun _ _ _ _ _ => pts_nil) (fun _ _ _ _ _ => (pe_ix (ix_tupK (K := K) rfl) (pv 17) pe_int (fun _ _ => rfl)))) (pa_cons (pv 8) pa_nil)))))
        (pss_cons (ps_setLc (i := 12) (own := [("_law_cell", 2)]) (by rfl) sc__law_program.nd rfl rfl (sw_true rfl rfl rfl (by decide +kernel)) (pi_list (pe_slice sl_list (pv 0) (po_some (pe_op op_add (pv 1) pe_int)) (po_some (pe_op op_add (pv 1) pe_int)))) (blkOk_by (own := [("_law_cell", 2)]) (N := N__law_program) (sc := defScope s__law_program) (by decide +kernel)) (fun _ _ _ _ _ => (pg_name (i := 2) sc__law_program.nd rfl (Or.inl rfl))) (fun _ _ _ _ _ => pts_nil) (fun _ _ _ _ _ => (pe_call G__law_held (hr.mono (by omega)) (by rfl) T.g__law_held T.F__law_held.kp T.b__law_held .nil pass0 (pa_cons (pv 2) pa_nil))))
        (pss_one (ps_ret (pe_tup (pa_cons (pe_callTy call_tuple_of (by rfl) T.m_tuple (by decide +kernel) (pa_cons (pv 7) pa_nil)) (pa_cons (pv 11) (pa_cons (pe_callTy call_tuple_of (by rfl) T.m_tuple (by decide +kernel) (pa_cons (pv 6) pa_nil)) (pa_cons (pe_call G__law_body (hr.mono (by omega)) (by rfl) T.g__law_body T.F__law_body.kp T.b__law_body .nil pass0 (pa_cons (pv 12) (pa_cons pe_int (pa_cons (pv 15) pa_nil)))) pa_nil)))))))))))))))))))), ?_⟩
    refine ⟨_, rfl, _, rfl, a, ns, fi, rfl, f0, hS, ?_⟩
    generalize cellA ns fi = c
    refine ⟨_, rfl, _, _, rfl, rfl, wide_div (b := 64) (by decide) (by decide) (by decide) (by decide), _, rfl, fun H1 Ln nm s1 nLn eLn hN => ?_⟩
    refine ⟨_, rfl, _, _, rfl, rfl, ⟨by decide, by decide, by decide⟩, _, _, rfl, rfl, wide_div (b := 80) (by decide) (by decide) (by decide) (by decide), _, rfl, fun H2 vh0 s2 c2 f2 => ?_⟩
    dsimp only [gName]
    refine ifs_by (fun σ' H' => H' = H2 ∧ ∃ vh, CellOk H2 vh ∧ (∀ p, vh = .ref p → H1 p = none) ∧ σ' = [some (.ref a), some (.int fi), some (.int c), some (.ref Ln), some vh, none, none, none, none, none, none, none, none, none, none, none, none, none]) ?_ ?_
    rotate_left
    · intro N hN'
      rcases c2 with ⟨x, rfl⟩ | ⟨p, l, t, rfl, hp, hl, ht⟩
      · refine ⟨_, rfl, _, _, _, _, false, rfl, .ty _, .base (.int x), kit_ty (by decide +kernel), false, rfl, ?_⟩
        exact ⟨_, rfl, hN' _ _ ⟨rfl, .int c, .inl ⟨_, rfl⟩, (fun p e => nomatch e), rfl⟩⟩
      · refine ⟨_, rfl, _, _, _, _, true, rfl, .ty _, .base (.lst hp), kit_ty (by decide +kernel), true, rfl, ?_⟩
        exact hN' _ _ ⟨rfl, .ref p, .inr ⟨p, l, t, rfl, hp, hl, ht⟩, f2, rfl⟩
    rintro σ' H3 ⟨rfl, vh, c3, f3, rfl⟩
    have pf : PF H Ln vh := ⟨nLn, fun b e => s1.free (f3 b e), fun e => by
      have := f3 Ln e
      rw [eLn] at this
      cases this⟩
    have w3 : PW H H3 Ln nm vh := ⟨s1.trans s2, s2 _ _ eLn, c3⟩
    clear s1 s2 c2 f2 c3 f3 eLn nLn
    have nl := hN.len
    -- most
    refine ⟨(by show 6 ≤ sizeLine; rw [sizeLine_eq]; decide), fun L1 n1 => ?_⟩
    have w4 := w3.new (o := .lst (mosts.map V.int)) n1
    have nc1 := (w3.free n1).2.2
    refine ⟨_, rfl, vh, 4, 6, rfl, w4.c, by decide, by decide, by decide, by decide, fun H5 j k5 c5 j0 j1 => ?_⟩
    have w5 := w4.kp pf k5 c5
    obtain ⟨m, hm, em⟩ := ints_at (l := mosts) j0 j1
    have m1 : 1 ≤ m ∧ m ≤ 12 := by
      have : ∀ x ∈ mosts, 1 ≤ x ∧ x ≤ 12 := by decide
      exact this m hm
    refine ⟨L1, _, j, _, rfl, rfl, .of (k5 _ _ upd_same fun z => absurd z nc1), em, ?_⟩
    clear w3 w4 hm em
    -- rows
    refine ⟨3, rfl, by decide, by decide, fun D nD => ?_⟩
    obtain ⟨nD0, nDL, nDc⟩ := w5.free nD
    refine lc_range (lo := 0) (n := 3) (fun i H' => PW H H' Ln nm vh ∧ ∃ (xs : List V) (rs : List (Str × Nat)), H' D = some (.lst xs) ∧ DpAll K H' xs (rs.map rwD) ∧ rs.map (·.1) = (nm.drop 12).take i ∧ ∀ r ∈ rs, 1 ≤ r.2 ∧ r.2 ≤ 8) ?_ ?_ ?_
    · exact ⟨w5.new nD, [], [], upd_same, .nil, rfl, fun r hr => nomatch hr⟩
    · rintro i H6 hi ⟨w6, xs, rs, e6, d6, r6, b6⟩
      have hi2 : 12 + i < nm.length := by omega
      have eN : atI (nm.map V.str) (12 + (0 + (i : Int))) = some (.str nm[12 + i]) := by
        rw [show (12 + (0 + (i : Int))) = ((12 + i : Nat) : Int) by omega]
        exact atI_nat (by rw [List.getElem?_map, List.getElem?_eq_getElem hi2]; rfl)
      refine ⟨rfl, _, rfl, _, rfl, _, _, rfl, rfl, Ln, _, _, _, rfl, rfl, .of w6.ln, eN, ?_⟩
      refine ⟨_, rfl, _, rfl, vh, 0 + (i : Int), 8, rfl, w6.c, by omega, by omega, by decide, by decide, fun H7 r7 k7 c7 r70 r71 => ?_⟩
      have w7 := w6.kp pf k7 c7
      refine ⟨_, _, rfl, rfl, (by show 4 ≤ sizeLine; rw [sizeLine_eq]; decide), fun L2 n2 => ?_⟩
      have w8 := w7.new (o := .lst (([1, 2, 8, 1 + r7] : List Int).map V.int)) n2
      have nc2 := (w7.free n2).2.2
      refine ⟨_, rfl, _, rfl, _, _, rfl, rfl, vh, 5 + (0 + (i : Int)), 4, rfl, w8.c, by omega, by omega, by decide, by decide, fun H9 j9 k9 c9 j90 j91 => ?_⟩
      have w9 := w8.kp pf k9 c9
      obtain ⟨sz, hsz, esz⟩ := ints_at (l := [1, 2, 8, 1 + r7]) j90 j91
      have sz1 : 1 ≤ sz ∧ sz ≤ 8 := by
        simp only [List.mem_cons, List.not_mem_nil, or_false] at hsz
        omega
      refine ⟨L2, _, j9, _, rfl, rfl, .of (k9 _ _ upd_same fun z => absurd z nc2), esz, ?_⟩
      refine ⟨(by show 2 ≤ sizeLine; rw [sizeLine_eq]; decide), fun p np => ?_⟩
      have w10 := w9.new (o := .tup [.str nm[12 + i], .int sz]) np
      have e10 : (upd H9 p (.tup [.str nm[12 + i], .int sz])) D = some (.lst xs) := by
        rw [upd_ne (fun z => ?_)]
        · exact k9 _ _ (same_new n2 _ _ (k7 _ _ e6 fun z => absurd z nDc)) fun z => absurd z nDc
        · have : H9 D = some (.lst xs) := k9 _ _ (same_new n2 _ _ (k7 _ _ e6 fun z => absurd z nDc)) fun z => absurd z nDc
          rw [z, np] at this
          cases this
      have d10 : DpAll K (upd H9 p (.tup [.str nm[12 + i], .int sz])) xs (rs.map rwD) := dpAll_same (dpAll_kp k9 _ _ (rws_noL rs) (dpAll_same (dpAll_kp k7 _ _ (rws_noL rs) d6) (same_new n2) (rws_noL rs))) (same_new np) (rws_noL rs)
      obtain ⟨szn, rfl⟩ := Int.eq_ofNat_of_zero_le (show 0 ≤ sz by omega)
      have dt : Dp K (upd H9 p (.tup [.str nm[12 + i], .int szn])) (.ref p) (rwD (nm[12 + i], szn)) := dp_new np (.cons (.str _) (.cons (.int _) .nil)) rfl
      generalize upd H9 p (.tup [.str nm[12 + i], .int szn]) = H10 at w10 e10 d10 dt
      have xl : xs.length ≤ 3 := by
        rw [dpAll_len d10, List.length_map]
        have := congrArg List.length r6
        rw [List.length_map, List.length_take] at this
        omega
      have ku : Kp (fun y => y = D) H10 (upd H10 D (.lst (xs ++ [.ref p]))) := Kp.upd e10 trivial rfl
      refine ⟨xs, e10, by rw [sizeLine_eq]; omega, w10.upd nD0 nDL nDc, xs ++ [.ref p], rs ++ [(nm[12 + i], szn)], upd_same, ?_, ?_, ?_⟩
      · rw [List.map_append]
        exact dpAll_app (dpAll_kp ku _ _ (rws_noL rs) d10) (.cons (dp_kp ku _ _ rfl dt) .nil)
      · rw [List.map_append, r6, List.take_add_one, List.getElem?_drop, List.getElem?_eq_getElem hi2]
        rfl
      · intro r hr
        rcases List.mem_append.mp hr with hr | hr
        · exact b6 r hr
        · rw [List.mem_singleton.mp hr]
          exact ⟨by show 1 ≤ szn; omega, by show szn ≤ 8; omega⟩
    rintro H6 ⟨w6, xs, rs, e6, d6, r6, b6⟩
    -- rows[:..]
    refine ⟨_, rfl, _, rfl, vh, 8, 4, rfl, w6.c, by decide, by decide, by decide, by decide, fun H7 j7 k7 c7 j70 j71 => ?_⟩
    have w7 := w6.kp pf k7 c7
    obtain ⟨j7, rfl⟩ := Int.eq_ofNat_of_zero_le j70
    refine ⟨_, rfl, D, _, rfl, .of (k7 _ _ e6 fun z => absurd z nDc), fun LR nLR => ?_⟩
    rw [cutV_to]
    have w8 := w7.new (o := .lst (xs.take j7)) nLR
    have dR : DpAll K (upd H7 LR (.lst (xs.take j7))) (xs.take j7) ((rs.take j7).map rwD) := by
      rw [List.map_take]
      exact dpAll_take _ (dpAll_same (dpAll_kp k7 _ _ (rws_noL rs) d6) (same_new nLR) (rws_noL rs))
    have eR : upd H7 LR (.lst (xs.take j7)) LR = some (.lst (xs.take j7)) := upd_same
    obtain ⟨rs', hrs'⟩ : ∃ rs', rs' = rs.take j7 := ⟨_, rfl⟩
    have rn : rs'.map (·.1) = (nm.drop 12).take (min j7 3) := by
      rw [hrs', List.map_take, r6, List.take_take]
    have rb' : ∀ r ∈ rs', 1 ≤ r.2 ∧ r.2 ≤ 8 := fun r hr => b6 r (List.mem_of_mem_take (by rw [← hrs']; exact hr))
    rw [← hrs'] at dR
    obtain ⟨nR0, nRL, nRc⟩ := w7.free nLR
    generalize xs.take j7 = xr at dR eR w8 ⊢
    generalize upd H7 LR (.lst xr) = H8 at w8 dR eR
    clear w6 w7 d6 e6 r6 b6 hrs'
    -- helpers, heads
    refine ⟨Nat.zero_le _, fun LH nLH => ?_⟩
    obtain ⟨nH0, nHL, nHc⟩ := w8.free nLH
    have sH := same_new (o := .lst []) nLH
    refine ⟨Nat.zero_le _, fun LD nLD => ?_⟩
    have w9 := w8.new (o := .lst []) nLH
    obtain ⟨nD0', nDL', nDc'⟩ := w9.free nLD
    have sD := same_new (o := .lst []) nLD
    have lf : LF H Ln vh LR LH LD := ⟨pf, nRc, nHc, nDc', nH0, nD0', nHL, nDL', (ne_of_none eR nLH).symm, (ne_of_none (sH _ _ eR) nLD).symm, ne_of_none (upd_same (H := H8) (a := LH) (o := .lst [])) nLD⟩
    have l10 : LW K H (upd (upd H8 LH (.lst [])) LD (.lst [])) Ln nm vh LR xr rs' LH LD [] [] [] := ⟨w9.new nLD, sD _ _ (sH _ _ eR), dpAll_same (dpAll_same dR sH (rws_noL _)) sD (rws_noL _), sD _ _ upd_same, .nil, upd_same, .nil⟩
    generalize upd (upd H8 LH (.lst [])) LD (.lst []) = H10 at l10
    clear w8 w9 dR eR sH sD nLH nLD
    refine ⟨(by show 6 ≤ sizeLine; rw [sizeLine_eq]; decide), fun L3 n3 => ?_⟩
    have l11 := l10.new (o := .lst (manys.map V.int)) n3
    have nc3 := (l10.w.free n3).2.2
    refine ⟨_, rfl, vh, 9, 6, rfl, l11.w.c, by decide, by decide, by decide, by decide, fun H12 j12 k12 c12 j120 j121 => ?_⟩
    have l12 := l11.kp lf k12 c12
    obtain ⟨many, hmany, emany⟩ := ints_at (l := manys) j120 j121
    have many1 : 0 ≤ many ∧ many ≤ 4 := by
      have : ∀ x ∈ manys, 0 ≤ x ∧ x ≤ 4 := by decide
      exact this many hmany
    refine ⟨L3, _, j12, _, rfl, rfl, .of (k12 _ _ upd_same fun z => absurd z nc3), emany, many, rfl, by omega, by omega, ?_⟩
    clear l10 l11 hmany emany
    refine for_range (lo := 0) (n := many.toNat) (fun i σ' H' => ∃ xh xd hs x9 x10 x11 x12 x13 x14 x16 x17, LW K H H' Ln nm vh LR xr rs' LH LD xh xd hs ∧ hs.length = i ∧ HsOk nm hs ∧
      σ' = [some (.ref a), some (.int fi), some (.int c), some (.ref Ln), some vh, some (.int m), some (.ref LR), some (.ref LH), some (.ref LD), x9, x10, x11, x12, x13, x14, none, x16, x17]) ?_ ?_ ?_
    · exact ⟨[], [], [], none, none, none, none, none, none, none, none, l12, rfl, ⟨fun j h e => by simp at e, fun j h e => by simp at e⟩, rfl⟩
    · rintro i σ' H13 hi ⟨xh, xd, hs, x9, x10, x11, x12, x13, x14, x16, x17, l13, hl13, ok13, rfl⟩
      have hi4 : i < 4 := by omega
      -- own
      have own : ∃ vo, (vo = vh ∨ ∃ x, vo = .int x) ∧ ∀ Q' : VK, Q' vo H13 → (fun σ H Q => (tIf (tB (tCB (rIsi K) (tCons (tVar 4) (tCons (tC (.ty "list")) tNil)))) (tVar 4) (tOp (rI0 fun i j => V.int (i + j)) (tVar 2) (tVar 9))) σ H Q) [some (.ref a), some (.int fi), some (.int c), some (.ref Ln), some vh, some (.int m), some (.ref LR), some (.ref LH), some (.ref LD), some (.int (0 + (i : Int))), x10, x11, x12, x13, x14, none, x16, x17] H13 Q' := by
        rcases l13.w.c with ⟨x, rfl⟩ | ⟨p, l, t, rfl, hp, hl, ht⟩
        · exact ⟨.int (c + (0 + (i : Int))), .inr ⟨_, rfl⟩, fun Q' h => ⟨_, rfl, _, _, _, _, false, rfl, .ty _, .base (.int x), kit_ty (by decide +kernel), false, rfl, _, rfl, _, rfl, _, _, rfl, rfl, h⟩⟩
        · exact ⟨.ref p, .inl rfl, fun Q' h => ⟨_, rfl, _, _, _, _, true, rfl, .ty _, .base (.lst hp), kit_ty (by decide +kernel), true, rfl, _, rfl, h⟩⟩
      obtain ⟨vo, wo, own⟩ := own
      refine own _ ?_
      have subo := cellS_sub wo
      -- params
      refine ⟨_, rfl, _, rfl, _, rfl, _, rfl, _, rfl, vo, 10, 5, rfl, CellOk.or wo l13.w.c, by decide, by decide, by decide, by decide, fun H14 n14 k14 c14 n140 n141 => ?_⟩
      have l14 := l13.kp lf (k14.mono subo) (cell_after wo l13.w.c k14 c14)
      obtain ⟨n14, rfl⟩ := Int.eq_ofNat_of_zero_le n140
      refine ⟨_, _, rfl, rfl, _, rfl, Ln, _, rfl, .of l14.w.ln, fun Lp nLp => ?_⟩
      rw [show (0 + (i : Int)) + (n14 : Int) = ((i + n14 : Nat) : Int) by omega, show (0 + (i : Int)) = ((i : Nat) : Int) by omega, cutV_mid _ (by omega) (by rw [List.length_map, nl]; omega), Nat.add_sub_cancel_left, ← List.map_drop, ← List.map_take]
      obtain ⟨pr, hpr⟩ : ∃ pr, pr = (nm.drop i).take n14 := ⟨_, rfl⟩
      rw [← hpr]
      have l15 := l14.new (o := .lst (pr.map V.str)) nLp
      refine ⟨Lp, _, rfl, .inl ⟨.of upd_same, fun Tp nTp => ?_⟩⟩
      have l16 := l15.new (o := .tup (pr.map V.str)) nTp
      have prl : pr.length ≤ 4 := by rw [hpr, List.length_take]; omega
      have prn : pr.Nodup := by
        rw [hpr]
        exact ((List.take_sublist _ _).trans (List.drop_sublist _ _)).nodup hN.nd
      have prk : ∀ x ∈ pr, x ∈ nm := fun x hx => List.mem_of_mem_drop (List.mem_of_mem_take (by rw [← hpr]; exact hx))
      have dTp : SqT K (upd (upd H14 Lp (.lst (pr.map V.str))) Tp (.tup (pr.map V.str))) Tp (pr.map V.str) := .of upd_same
      generalize upd (upd H14 Lp (.lst (pr.map V.str))) Tp (.tup (pr.map V.str)) = H16 at l16 dTp
      clear l14 l15
      -- cells
      refine ⟨_, rfl, _, _, rfl, rfl, .inl ⟨by decide, by decide⟩, _, _, rfl, rfl, 2 + 2 * (i : Int), rfl, by omega, by omega, fun pc npc => ?_⟩
      refine lc_range (lo := 0) (n := (2 + 2 * (i : Int)).toNat) (H1 := H16) (D := pc) (fun j H' => Same H16 H' ∧ ∃ cs, CellsOk H' pc cs ∧ cs.length = j ∧ ∀ x ∈ cs, ∀ b, cellS x b → H16 b = none) ?_ ?_ ?_
      · exact ⟨same_new npc, [], ⟨upd_same, (fun x hx => nomatch hx), fun x hx => nomatch hx⟩, rfl, fun x hx => nomatch hx⟩
      · rintro j H17 hj ⟨s17, cs, C17, lc, f17⟩
        refine ⟨rfl, _, rfl, _, rfl, _, rfl, _, rfl, a, ns, fi, (i : Int), 0 + (j : Int), rfl, (l16.w.s.trans s17).seq hS, f0, by omega, by omega, by omega, by omega, fun H18 v s18 c18 f18 => ?_⟩
        have C18 := C17.same s18
        have nv : v ≠ .ref pc := fun e => by
          have := f18 pc e
          rw [C17.at_] at this
          cases this
        have cup : ∀ x ∈ cs, ¬ cellS x pc := fun x hx e => C17.off x hx e
        refine ⟨cs, C18.at_, by rw [lc, sizeLine_eq]; omega, ?_, cs ++ [v], ⟨upd_same, fun x hx => ?_, fun x hx => ?_⟩, by rw [List.length_append, lc]; rfl, fun x hx b e => ?_⟩
        · intro b o hb
          rw [upd_ne (ne_of_none hb npc)]
          exact (s17.trans s18) b o hb
        · rcases List.mem_append.mp hx with hx | hx
          · exact (C18.ok x hx).upd (cup x hx)
          · rw [List.mem_singleton.mp hx]
            exact c18.upd nv
        · rcases List.mem_append.mp hx with hx | hx
          · exact C17.off x hx
          · rw [List.mem_singleton.mp hx]
            exact nv
        · rcases List.mem_append.mp hx with hx | hx
          · exact f17 x hx b e
          · rw [List.mem_singleton.mp hx] at e
            exact s17.free (f18 b e)
      rintro H17 ⟨s17, cs, C17, lc, f17⟩
      have fS : ∀ b, cellsS pc cs b → H16 b = none := by
        rintro b (e | ⟨x, hx, e⟩)
        · rw [e]
          exact npc
        · exact f17 x hx b e
      have l17 := l16.same s17
      have dTp17 := sqT_kp (Kp.of_same (S := cellS vh) s17) dTp
      -- variables
      refine ⟨_, rfl, Tp, _, rfl, .inr dTp17, fun L4 n4 => ?_⟩
      have s4 := same_new (o := .lst (pr.map V.str)) n4
      have m0 : ∃ mn : Nat, m = mn := Int.eq_ofNat_of_zero_le (by omega)
      obtain ⟨mn, rfl⟩ := m0
      refine ⟨_, rfl, _, rfl, _, rfl, Ln, _, rfl, .of (s4 _ _ l17.w.ln), fun L5 n5 => ?_⟩
      rw [cutV_to, ← List.map_take]
      have s5 := same_new (o := .lst ((nm.take mn).map V.str)) n5
      refine ⟨L5, rfl, ⟨_, .of upd_same⟩, fun L6 n6 => ?_⟩
      have s45 := s4.trans s5
      refine lc_list (K := K) (a := L5) (xs := (nm.take mn).map V.str) (fun j H' => Same (upd (upd H17 L4 (.lst (pr.map V.str))) L5 (.lst ((nm.take mn).map V.str))) H' ∧ ∃ fs : List Str, H' L6 = some (.lst (fs.map V.str)) ∧ (∀ x ∈ fs, x ∈ nm) ∧ fs.length ≤ j) ?_ ?_ ?_ ?_
      · exact ⟨same_new n6, [], upd_same, (fun x hx => nomatch hx), Nat.le_refl _⟩
      · rintro j H' _ ⟨s', _⟩
        exact .of (s' _ _ upd_same)
      · rintro j x H' hx ⟨s', fs, e6, f6, g6⟩
        rw [List.getElem?_map] at hx
        obtain ⟨z, hz, rfl⟩ := Option.map_eq_some_iff.mp hx
        have zin : z ∈ nm := List.mem_of_mem_take (List.mem_of_getElem? hz)
        have jl : j < mn := by
          have := (List.getElem?_eq_some_iff.mp hz).1
          rw [List.length_take] at this
          omega
        refine ⟨rfl, _, rfl, _, rfl, Tp, _, rfl, .inr (sqT_kp (Kp.of_same (S := cellS vh) (s45.trans s')) dTp17), rfl, flat_strs _, _, rfl, ?_⟩
        dsimp only
        rw [if_pos rfl, in_strs]
        refine ite2 (fun _ => ?_) (fun _ => ?_)
        · refine ⟨_, rfl, _, e6, by rw [List.length_map, sizeLine_eq]; omega, ?_, fs ++ [z], ?_, ?_, ?_⟩
          · intro b o hb
            rw [upd_ne (ne_of_none hb n6)]
            exact s' b o hb
          · rw [upd_same, List.map_append]
            rfl
          · intro y hy
            rcases List.mem_append.mp hy with hy | hy
            · exact f6 y hy
            · rw [List.mem_singleton.mp hy]
              exact zin
          · rw [List.length_append]
            show fs.length + 1 ≤ j + 1
            omega
        · exact ⟨s', fs, e6, f6, by omega⟩
      rintro H18 ⟨s18, fs, e18, f18, g18⟩
      refine ⟨_, rfl, Tp, _, rfl, .inr (sqT_kp (Kp.of_same (S := cellS vh) (s45.trans s18)) dTp17), _, _, rfl, rfl, _, rfl, L6, _, rfl, .of e18, fun L7 n7 => ?_⟩
      rw [List.length_map, show (12 : Int) - (pr.length : Int) = ((12 - pr.length : Nat) : Int) by omega, cutV_to, ← List.map_take]
      have s7 := same_new (o := .lst ((fs.take (12 - pr.length)).map V.str)) n7
      have e4 := s7 _ _ (s18 _ _ (s5 _ _ (upd_same (H := H17) (a := L4) (o := .lst (pr.map V.str)))))
      refine ⟨L4, L7, _, _, rfl, rfl, e4, upd_same, by rw [List.length_map, List.length_map, List.length_take, sizeLine_eq]; omega, fun LV nLV => ?_⟩
      rw [← List.map_append]
      obtain ⟨vs, hvs⟩ : ∃ vs, vs = pr ++ fs.take (12 - pr.length) := ⟨_, rfl⟩
      rw [← hvs]
      have sV := same_new (o := .lst (vs.map V.str)) nLV
      have vsl : vs.length ≤ 12 := by rw [hvs, List.length_append, List.length_take]; omega
      have vsn : ∀ x ∈ vs, x ∈ nm := fun x hx => by
        rw [hvs] at hx
        rcases List.mem_append.mp hx with hx | hx
        · exact prk x hx
        · exact f18 x (List.mem_of_mem_take hx)
      have vsp : ∀ x ∈ pr, x ∈ vs := fun x hx => by
        rw [hvs]
        exact List.mem_append_left _ hx
      have s19 := (s45.trans s18).trans (s7.trans sV)
      have eV : upd (upd H18 L7 (.lst ((fs.take (12 - pr.length)).map V.str))) LV (.lst (vs.map V.str)) LV = some (.lst (vs.map V.str)) := upd_same
      generalize upd (upd H18 L7 (.lst ((fs.take (12 - pr.length)).map V.str))) LV (.lst (vs.map V.str)) = H19 at s19 eV
      have C19 := C17.same s19
      have l19 := l17.same s19
      have nVS : ¬ cellsS pc cs LV := by
        have h1 : H17 LV = none := ((s45.trans s18).trans s7).free nLV
        exact C17.fresh h1
      have dTp19 := sqT_kp (Kp.of_same (S := cellS vh) s19) dTp17
      have s169 := s17.trans s19
      have nVh : ¬ cellS vh LV := l17.w.c.fresh (((s45.trans s18).trans s7).free nLV)
      clear sV s7 s45 s5 s4 e4 e18 s18 l17 C17 dTp17 n4 n5 n6 n7 nLV
      -- name
      refine ⟨_, rfl, _, rfl, _, _, rfl, rfl, _, rfl, (by show 2 ≤ sizeLine; rw [sizeLine_eq]; decide), fun L8 n8 => ?_⟩
      have s8 := same_new (o := .lst (([15 - (i : Int), (i : Int)] : List Int).map V.int)) n8
      have l20 := l19.same s8
      have nc8 : ¬ cellS vh L8 := l19.w.c.fresh n8
      refine ⟨_, rfl, _, rfl, vh, (i : Int), 2, rfl, l20.w.c, by omega, by omega, by decide, by decide, fun H21 j21 k21 c21 j210 j211 => ?_⟩
      have l21 := l20.kp lf k21 c21
      obtain ⟨ix, hix, eix⟩ := ints_at (l := [15 - (i : Int), (i : Int)]) j210 j211
      refine ⟨L8, _, j21, _, rfl, rfl, .of (k21 _ _ upd_same fun z => absurd z nc8), eix, ?_⟩
      have hix2 : ix = ((15 - i : Nat) : Int) ∨ ix = ((i : Nat) : Int) := by
        simp only [List.mem_cons, List.not_mem_nil, or_false] at hix
        omega
      obtain ⟨nmk, hnmk, enmk⟩ : ∃ z, (nm[15 - i]? = some z ∨ nm[i]? = some z) ∧ atI (nm.map V.str) ix = some (.str z) := by
        rcases hix2 with rfl | rfl
        · have h1 : 15 - i < nm.length := by omega
          exact ⟨nm[15 - i], .inl (List.getElem?_eq_getElem h1), atI_nat (by rw [List.getElem?_map, List.getElem?_eq_getElem h1]; rfl)⟩
        · have h1 : i < nm.length := by omega
          exact ⟨nm[i], .inr (List.getElem?_eq_getElem h1), atI_nat (by rw [List.getElem?_map, List.getElem?_eq_getElem h1]; rfl)⟩
      refine ⟨Ln, _, ix, _, rfl, rfl, .of l21.w.ln, enmk, ?_⟩
      have k19 : Kp (cellS vh) H19 H21 := (Kp.of_same s8).trans k21
      have vS : ∀ b, cellS vh b → ¬ cellsS pc cs b := fun b e z => by
        have h1 := fS b z
        rcases l16.w.c with ⟨x, rfl⟩ | ⟨p, l, t, rfl, hp, _, _⟩
        · cases e
        · cases e
          rw [hp] at h1
          cases h1
      have C21 : CellsOk H21 pc cs := ⟨k19 _ _ C19.at_ fun z => absurd (.inl rfl) (vS _ z), fun x hx => (C19.ok x hx).kp k19 fun b e z => absurd (.inr ⟨x, hx, e⟩) (vS b z), C19.off⟩
      have eV21 := k19 _ _ eV fun z => absurd z nVh
      have dTp21 := sqT_kp k19 dTp19
      clear l19 l20 C19 s8 n8 nc8 hix eix hix2 enmk
      -- helpers.append
      refine ⟨_, rfl, .inl ⟨rfl, _, .of l21.eH⟩, _, rfl, _, rfl, _, rfl, _, rfl, Nat.zero_le _, fun LE nLE => ?_⟩
      have sE := same_new (o := .lst []) nLE
      have l22 := l21.same sE
      refine ⟨_, rfl, LD, _, rfl, .inl (.of l22.eD), fun LC nLC => ?_⟩
      have sC := same_new (o := .lst xd) nLC
      have l23 := l22.same sC
      refine ⟨(by show 3 ≤ sizeLine; rw [sizeLine_eq]; decide), fun PI nPI => ?_⟩
      have sI := same_new (o := .tup [.ref LV, .ref LE, .ref LC]) nPI
      have l24 := l23.same sI
      have sECI := (sE.trans sC).trans sI
      have C24 := C21.same sECI
      have offI : Off (cellsS pc cs) LV LE LC := ⟨nVS, C21.fresh nLE, (C21.same sE).fresh nLC⟩
      have info : Info K (upd (upd (upd H21 LE (.lst [])) LC (.lst xd)) PI (.tup [.ref LV, .ref LE, .ref LC])) (.ref PI) vs [] (hs.map hdOf) LV LE LC :=
        ⟨⟨PI, rfl, .of upd_same⟩, sECI _ _ eV21, sI _ _ (sC _ _ upd_same), xd, sI _ _ upd_same, l24.dD⟩
      have dTp24 := sqT_kp (Kp.of_same (S := cellS vh) sECI) dTp21
      generalize upd (upd (upd H21 LE (.lst [])) LC (.lst xd)) PI (.tup [.ref LV, .ref LE, .ref LC]) = H24 at l24 C24 info dTp24 sECI
      have kq : ∀ q ∈ hs.map hdOf, q.2 ≤ 4 := fun q hq => by
        obtain ⟨h, hh, rfl⟩ := List.mem_map.mp hq
        obtain ⟨j, hj⟩ := List.getElem?_of_mem hh
        exact (ok13.wf j h hj).pl
      have hpc16 := fS
      have notS : ∀ b, (∃ o, H16 b = some o) → ¬ cellsS pc cs b := fun b ⟨o, e⟩ z => by
        rw [fS b z] at e
        cases e
      refine ⟨pc, cs, 0, .ref PI, vs, [], hs.map hdOf, LV, LE, LC, rfl, C24, by decide, by decide, by decide, by rw [lc]; omega, info, by omega, by decide, by rw [List.length_map]; omega, kq, fun z hz => nm_strOk (hN.nm z (vsn z hz)), offI, fun H25 rb nn bd k25 C25 hnn dB wB szB => ?_⟩
      have l25 : LW K H H25 Ln nm vh LR xr rs' LH LD xh xd hs := l24.kpS k25 (fun b z => l16.w.s.free (fS b z)) (notS _ ⟨_, l16.w.ln⟩) (notS _ ⟨_, l16.eR⟩) (notS _ ⟨_, l16.eH⟩) (notS _ ⟨_, l16.eD⟩) (l24.w.c.kp k25 fun b e z => absurd z (fun y => vS b e y))
      have dTp25 := sqT_kp k25 dTp24
      refine ⟨(by show 3 ≤ sizeLine; rw [sizeLine_eq]; decide), fun TU nTU => ?_⟩
      have l26 := l25.new (o := .tup [.str nmk, .ref Tp, rb]) nTU
      have dTU : Dp K (upd H25 TU (.tup [.str nmk, .ref Tp, rb])) (.ref TU) (hpD (nmk, pr, bd)) := dp_new nTU (.cons (.str _) (.cons (.tup dTp25 (strs_dpAll pr)) (.cons dB .nil))) (by simp only [nLs, nLd, strs_noL, Sm.noLs]; rfl)
      have dTp26 := sqT_kp (Kp.of_same (S := cellS vh) (same_new (o := .tup [.str nmk, .ref Tp, rb]) nTU)) dTp25
      generalize upd H25 TU (.tup [.str nmk, .ref Tp, rb]) = H26 at l26 dTU dTp26
      have hlen : hs.length ≤ 4 := by omega
      refine ⟨LH, _, _, rfl, rfl, l26.eH, by rw [dpAll_len l26.dH, List.length_map, sizeLine_eq]; omega, ?_⟩
      have kh : Kp (fun b => b = LH) H26 (upd H26 LH (.lst (xh ++ [.ref TU]))) := Kp.upd l26.eH trivial rfl
      have w27 : PW H (upd H26 LH (.lst (xh ++ [.ref TU]))) Ln nm vh := l26.w.upd lf.h0 lf.hl lf.hc
      have eR27 := kh _ _ l26.eR fun z => absurd z.symm lf.hr
      have eD27 := kh _ _ l26.eD fun z => absurd z.symm lf.hd
      have dR27 := dpAll_kp kh _ _ (rws_noL _) l26.dR
      have dH27 := dpAll_app (dpAll_kp kh _ _ (hps_noL _) l26.dH) (.cons (dp_kp kh _ _ (hpD_noL _) dTU) .nil)
      have dD27 := dpAll_kp kh _ _ (hds_noL _) l26.dD
      have eH27 : upd H26 LH (.lst (xh ++ [.ref TU])) LH = some (.lst (xh ++ [.ref TU])) := upd_same
      have dTp27 := sqT_kp kh dTp26
      have dH27' : DpAll K (upd H26 LH (.lst (xh ++ [.ref TU]))) (xh ++ [.ref TU]) ((hs ++ [(nmk, pr, bd)]).map hpD) := by
        rw [List.map_append]
        exact dH27
      generalize upd H26 LH (.lst (xh ++ [.ref TU])) = H27 at w27 eR27 eD27 dR27 dH27 dH27' dD27 eH27 dTp27
      -- heads.append
      refine ⟨_, rfl, .inl ⟨rfl, _, .of eD27⟩, _, rfl, _, rfl, Tp, _, rfl, .inr dTp27, (by show 2 ≤ sizeLine; rw [sizeLine_eq]; decide), fun TW nTW => ?_⟩
      have sW := same_new (o := .tup [.str nmk, .int (pr.map V.str).length]) nTW
      have eD28 := sW _ _ eD27
      refine ⟨LD, _, _, rfl, rfl, eD28, by rw [dpAll_len dD27, List.length_map, List.length_map, sizeLine_eq]; omega, ?_⟩
      have dTW : Dp K (upd H27 TW (.tup [.str nmk, .int (pr.map V.str).length])) (.ref TW) (hdD (nmk, pr.length)) := by
        have := dp_new (K := K) nTW (.cons (.str nmk) (.cons (.int ((pr.map V.str).length : Int)) .nil)) rfl
        rw [List.length_map] at this ⊢
        exact this
      have w28 := w27.same sW
      have kd : Kp (fun b => b = LD) (upd H27 TW (.tup [.str nmk, .int (pr.map V.str).length])) (upd (upd H27 TW (.tup [.str nmk, .int (pr.map V.str).length])) LD (.lst (xd ++ [.ref TW]))) := Kp.upd eD28 trivial rfl
      refine ⟨_, _, hs ++ [(nmk, pr, bd)], _, _, _, _, _, _, _, _, ⟨w28.upd lf.d0 lf.dl lf.dc, kd _ _ (sW _ _ eR27) fun z => absurd z.symm lf.dr, dpAll_kp kd _ _ (rws_noL _) (dpAll_same dR27 sW (rws_noL _)), kd _ _ (sW _ _ eH27) fun z => absurd z lf.hd, ?_, upd_same, ?_⟩, by rw [List.length_append, hl13]; rfl, ?_, rfl⟩
      · exact dpAll_kp kd _ _ (hps_noL _) (dpAll_same dH27' sW (hps_noL _))
      · rw [List.map_append, List.map_append]
        exact dpAll_app (dpAll_kp kd _ _ (hds_noL _) (dpAll_same dD27 sW (hds_noL _))) (.cons (dp_kp kd _ _ rfl dTW) .nil)
      · refine hsOk_snoc ok13 ⟨?_, prl, prn, fun x hx => hN.nm x (prk x hx), ⟨vs, fun x hx => hN.nm x (vsn x hx), vsl, vsp, wB⟩, ?_⟩ (by rw [hl13]; exact hnmk)
        · rcases hnmk with h | h
          · exact hN.nm _ (List.mem_of_getElem? h)
          · exact hN.nm _ (List.mem_of_getElem? h)
        · show Sm.sizes bd ≤ 8
          omega
    · rintro σ' H13 ⟨xh, xd, hs, x9, x10, x11, x12, x13, x14, x16, x17, l13, hl13, ok13, rfl⟩
      have hl4 : hs.length ≤ 4 := by omega
      -- params
      refine ⟨_, rfl, _, rfl, _, rfl, vh, 2, 5, rfl, l13.w.c, by decide, by decide, by decide, by decide, fun H14 n14 k14 c14 n140 n141 => ?_⟩
      have l14 := l13.kp lf k14 c14
      obtain ⟨n14, rfl⟩ := Int.eq_ofNat_of_zero_le n140
      obtain ⟨mn, rfl⟩ := Int.eq_ofNat_of_zero_le (show 0 ≤ m by omega)
      refine ⟨_, _, rfl, ?_⟩
      rw [show (if (n14 : Int) < (mn : Int) then (n14 : Int) else (mn : Int)) = ((min mn n14 : Nat) : Int) by split <;> omega]
      refine ⟨_, rfl, Ln, _, rfl, .of l14.w.ln, fun Lp nLp => ?_⟩
      rw [cutV_to, ← List.map_take]
      obtain ⟨pr, hpr⟩ : ∃ pr, pr = nm.take (min mn n14) := ⟨_, rfl⟩
      rw [← hpr]
      have l15 := l14.new (o := .lst (pr.map V.str)) nLp
      refine ⟨Lp, _, rfl, .inl ⟨.of upd_same, fun Tp nTp => ?_⟩⟩
      have l16 := l15.new (o := .tup (pr.map V.str)) nTp
      have prl : pr.length ≤ 4 := by rw [hpr, List.length_take]; omega
      have prn : pr.Nodup := by
        rw [hpr]
        exact (List.take_sublist _ _).nodup hN.nd
      have prm : ∀ x ∈ pr, x ∈ nm.take mn := fun x hx => by
        rw [hpr] at hx
        exact List.mem_of_mem_take (i := n14) (by rw [List.take_take, Nat.min_comm]; exact hx)
      have dTp : SqT K (upd (upd H14 Lp (.lst (pr.map V.str))) Tp (.tup (pr.map V.str))) Tp (pr.map V.str) := .of upd_same
      generalize upd (upd H14 Lp (.lst (pr.map V.str))) Tp (.tup (pr.map V.str)) = H16 at l16 dTp
      clear l14 l15
      -- info
      refine ⟨_, rfl, _, rfl, _, rfl, Ln, _, rfl, .of l16.w.ln, fun LV nLV => ?_⟩
      rw [cutV_to, ← List.map_take]
      have sV := same_new (o := .lst ((nm.take mn).map V.str)) nLV
      have l17 := l16.same sV
      have eV : upd H16 LV (.lst ((nm.take mn).map V.str)) LV = some (.lst ((nm.take mn).map V.str)) := upd_same
      have dTp17 := sqT_kp (Kp.of_same (S := cellS vh) sV) dTp
      generalize upd H16 LV (.lst ((nm.take mn).map V.str)) = H17 at l17 eV dTp17
      refine ⟨_, rfl, LR, rfl, ⟨_, .of l17.eR⟩, fun LB nLB => ?_⟩
      refine lc_list (K := K) (a := LR) (xs := xr) (fun j H' => Same H17 H' ∧ H' LB = some (.lst (((rs'.map (·.1)).take j).map V.str))) ?_ ?_ ?_ ?_
      · exact ⟨same_new nLB, upd_same⟩
      · rintro j H' _ ⟨s', _⟩
        exact .of (s' _ _ l17.eR)
      · rintro j x H' hx ⟨s', e'⟩
        obtain ⟨d, hd, dx⟩ := dpAll_getV (dpAll_same l17.dR s' (rws_noL _)) hx
        rw [List.getElem?_map] at hd
        obtain ⟨r, hr, rfl⟩ := Option.map_eq_some_iff.mp hd
        obtain ⟨p, ys, rfl, sp, da⟩ := dp_tup dx
        obtain ⟨y1, yr, rfl, d1, _⟩ := dpAll_cons da
        rw [dp_str d1] at sp
        have rlen : (rs'.map (·.1)).length ≤ 16 := by rw [rn, List.length_take]; omega
        refine ⟨rfl, _, rfl, p, _, 0, _, rfl, rfl, sp, atI_nat (j := 0) rfl, _, e', by rw [List.length_map, List.length_take, sizeLine_eq]; omega, ?_, ?_⟩
        · intro b o hb
          rw [upd_ne (ne_of_none hb nLB)]
          exact s' b o hb
        · rw [upd_same, List.take_add_one, List.getElem?_map, hr, List.map_append]
          rfl
      rintro H18 ⟨s18, e18⟩
      have xrl : xr.length = rs'.length := by rw [dpAll_len l17.dR, List.length_map]
      rw [xrl, ← List.length_map (f := fun r : Str × Nat => r.1), List.take_length] at e18
      have l18 := l17.same s18
      refine ⟨_, rfl, (by show 3 ≤ sizeLine; rw [sizeLine_eq]; decide), fun PI nPI => ?_⟩
      have sI := same_new (o := .tup [.ref LV, .ref LB, .ref LD]) nPI
      have l19 := l18.same sI
      have eV19 := sI _ _ (s18 _ _ eV)
      have eB19 := sI _ _ e18
      have tI : SqT K (upd H18 PI (.tup [.ref LV, .ref LB, .ref LD])) PI [.ref LV, .ref LB, .ref LD] := .of upd_same
      have dTp19 := sqT_kp (Kp.of_same (S := cellS vh) (s18.trans sI)) dTp17
      generalize upd H18 PI (.tup [.ref LV, .ref LB, .ref LD]) = H19 at l19 eV19 eB19 tI dTp19
      -- cells
      refine ⟨_, rfl, _, rfl, _, _, rfl, rfl, _, rfl, _, rfl, _, _, rfl, rfl, _, rfl, a, _, rfl, l19.w.s.seq hS, fun LS nLS => ?_⟩
      have sS := same_new (o := .lst (cutV (ns.map V.int) (some (fi + 1)) (some (fi + 25)))) nLS
      obtain ⟨ms, hms, lms⟩ : ∃ ms : List Int, cutV (ns.map V.int) (some (fi + 1)) (some (fi + 25)) = ms.map V.int ∧ ms.length ≤ 24 := by
        obtain ⟨fn, rfl⟩ := Int.eq_ofNat_of_zero_le f0
        refine ⟨((ns.drop (min (fn + 1) ns.length)).take (min (fn + 25) ns.length - min (fn + 1) ns.length)), ?_, ?_⟩
        · unfold cutV
          rw [show ((fn : Int) + 1) = ((fn + 1 : Nat) : Int) by omega, show ((fn : Int) + 25) = ((fn + 25 : Nat) : Int) by omega, HT.sIx_nat, HT.sIx_nat, List.length_map, List.map_take, List.map_drop]
        · rw [List.length_take]
          omega
      rw [hms] at sS ⊢
      refine ⟨LS, rfl, ⟨_, .of upd_same⟩, fun pc npc => ?_⟩
      refine lc_list (K := K) (a := LS) (xs := ms.map V.int) (fun j H' => Same (upd H19 LS (.lst (ms.map V.int))) H' ∧ ∃ cs, CellsOk H' pc cs ∧ cs.length = j ∧ ∀ x ∈ cs, ∀ b, cellS x b → H19 b = none) ?_ ?_ ?_ ?_
      · exact ⟨same_new npc, [], ⟨upd_same, (fun x hx => nomatch hx), fun x hx => nomatch hx⟩, rfl, fun x hx => nomatch hx⟩
      · rintro j H' _ ⟨s', _⟩
        exact .of (s' _ _ upd_same)
      · rintro j x H20 hx ⟨s20, cs, C20, lc, f20⟩
        rw [List.getElem?_map] at hx
        obtain ⟨z, hz, rfl⟩ := Option.map_eq_some_iff.mp hx
        have jl : j < 24 := by
          have := (List.getElem?_eq_some_iff.mp hz).1
          omega
        refine ⟨rfl, _, rfl, z, rfl, fun H21 v s21 c21 f21 => ?_⟩
        have C21 := C20.same s21
        have nv : v ≠ .ref pc := fun e => by
          have := f21 pc e
          rw [C20.at_] at this
          cases this
        have cup : ∀ x ∈ cs, ¬ cellS x pc := fun x hx e => C20.off x hx e
        refine ⟨cs, C21.at_, by rw [lc, sizeLine_eq]; omega, ?_, cs ++ [v], ⟨upd_same, fun x hx => ?_, fun x hx => ?_⟩, by rw [List.length_append, lc]; rfl, fun x hx b e => ?_⟩
        · intro b o hb
          rw [upd_ne (ne_of_none hb npc)]
          exact (s20.trans s21) b o hb
        · rcases List.mem_append.mp hx with hx | hx
          · exact (C21.ok x hx).upd (cup x hx)
          · rw [List.mem_singleton.mp hx]
            exact c21.upd nv
        · rcases List.mem_append.mp hx with hx | hx
          · exact C20.off x hx
          · rw [List.mem_singleton.mp hx]
            exact nv
        · rcases List.mem_append.mp hx with hx | hx
          · exact f20 x hx b e
          · rw [List.mem_singleton.mp hx] at e
            exact (sS.trans s20).free (f21 b e)
      rintro H20 ⟨s20, cs, C20, lc, f20⟩
      rw [List.length_map] at lc
      have s920 := sS.trans s20
      have fS : ∀ b, cellsS pc cs b → H19 b = none := by
        rintro b (e | ⟨x, hx, e⟩)
        · rw [e]
          exact sS.free npc
        · exact f20 x hx b e
      have notS : ∀ b, (∃ o, H19 b = some o) → ¬ cellsS pc cs b := fun b ⟨o, e⟩ z => by
        rw [fS b z] at e
        cases e
      have l20 := l19.same s920
      have dTp20 := sqT_kp (Kp.of_same (S := cellS vh) s920) dTp19
      -- the program
      refine ⟨_, rfl, LH, _, rfl, .inl ⟨.of l20.eH, fun TH nTH => ?_⟩⟩
      have sH := same_new (o := .tup xh) nTH
      refine ⟨_, rfl, _, rfl, LR, _, rfl, .inl ⟨.of (sH _ _ l20.eR), fun TR nTR => ?_⟩⟩
      have sR := same_new (o := .tup xr) nTR
      have sHR := sH.trans sR
      have tH : SqT K (upd (upd H20 TH (.tup xh)) TR (.tup xr)) TH xh := .of (sR _ _ upd_same)
      have tR : SqT K (upd (upd H20 TH (.tup xh)) TR (.tup xr)) TR xr := .of upd_same
      have l21 := l20.same sHR
      have C21 := C20.same sHR
      have dTp21 := sqT_kp (Kp.of_same (S := cellS vh) sHR) dTp20
      have s1921 := s920.trans sHR
      generalize upd (upd H20 TH (.tup xh)) TR (.tup xr) = H21 at tH tR l21 C21 dTp21 s1921
      have info : Info K H21 (.ref PI) (nm.take mn) (rs'.map (·.1)) (hs.map hdOf) LV LB LD := ⟨⟨PI, rfl, sqT_kp (Kp.of_same (S := cellS vh) s1921) tI⟩, s1921 _ _ eV19, s1921 _ _ eB19, xd, l21.eD, l21.dD⟩
      have kq : ∀ q ∈ hs.map hdOf, q.2 ≤ 4 := fun q hq => by
        obtain ⟨h, hh, rfl⟩ := List.mem_map.mp hq
        obtain ⟨j, hj⟩ := List.getElem?_of_mem hh
        exact (ok13.wf j h hj).pl
      have offI : Off (cellsS pc cs) LV LB LD := ⟨notS _ ⟨_, eV19⟩, notS _ ⟨_, eB19⟩, notS _ ⟨_, l19.eD⟩⟩
      have rl16 : (rs'.map (·.1)).length ≤ 3 := by rw [rn, List.length_take]; omega
      refine ⟨_, rfl, _, rfl, pc, cs, 0, .ref PI, nm.take mn, rs'.map (·.1), hs.map hdOf, LV, LB, LD, rfl, C21, by decide, by decide, by decide, by rw [lc]; omega, info, by rw [List.length_take]; omega, by omega, by rw [List.length_map]; omega, kq, fun z hz => nm_strOk (hN.nm z (List.mem_of_mem_take hz)), offI, fun H22 rb nn bd k22 C22 hnn dB wB szB => ?_⟩
      have nH19 : ∀ b, cellsS pc cs b → H b = none := fun b z => l19.w.s.free (fS b z)
      have sm22 : Same H H22 := Kp.same l21.w.s k22 nH19
      have tH22 := sqT_kp k22 tH
      have tR22 := sqT_kp k22 tR
      have dTp22 := sqT_kp k22 dTp21
      have dH22 := dpAll_kp k22 _ _ (hps_noL _) l21.dH
      have dR22 := dpAll_kp k22 _ _ (rws_noL _) l21.dR
      refine ⟨(by show 4 ≤ sizeLine; rw [sizeLine_eq]; decide), fun TP nTP => ?_⟩
      refine q _ _ ⟨hs, pr, rs', bd⟩ (sm22.trans (same_new nTP)) (dp_new nTP (.cons (.tup tH22 dH22) (.cons (.tup dTp22 (strs_dpAll pr)) (.cons (.tup tR22 dR22) (.cons dB .nil)))) (by simp only [nLs, nLd, strs_noL, Sm.noLs, hps_noL, rws_noL]; rfl)) ?_
      have rin : ∀ r ∈ rs', r.1 ∈ nm.drop 12 := fun r hr => List.mem_of_mem_take (by rw [← rn]; exact List.mem_map.mpr ⟨r, hr, rfl⟩)
      have apart : ∀ x, x ∈ nm.take mn → x ∉ nm.drop 12 := by
        intro x hx hy
        have nd := hN.nd
        rw [← List.take_append_drop 12 nm] at nd
        have hx2 : x ∈ nm.take 12 := List.mem_of_mem_take (i := mn) (by rw [List.take_take, Nat.min_eq_left (by omega : mn ≤ 12)]; exact hx)
        exact (List.nodup_append.mp nd).2.2 x hx2 x hy rfl
      refine ⟨hl4, ?_, fun i h e => ok13.wf i h e, prl, prn, fun x hx => hN.nm x (List.mem_of_mem_take (prm x hx)), by rw [← List.length_map (f := fun r : Str × Nat => r.1)]; exact rl16, ?_, fun r hr => ⟨hN.nm _ (List.mem_of_mem_drop (rin r hr)), (rb' r hr).1, (rb' r hr).2, fun z => apart _ (prm _ z) (rin r hr)⟩, ⟨nm.take mn, fun x hx => hN.nm x (List.mem_of_mem_take hx), by rw [List.length_take]; omega, prm, fun r hr z => apart _ z (rin r hr), wB⟩, by show Sm.sizes bd ≤ 24; omega⟩
      · exact hs_nodup hN ok13 hl4
      · show (rs'.map (·.1)).Nodup
        rw [rn]
        exact ((List.take_sublist _ _).trans (List.drop_sublist _ _)).nodup hN.nd
end

/-! texts of programs, in plain words -/
def numS (n : Int) : Str := Str.ofString (toString n)
def Ex.words : Ex → List Str
  | .num n => [numS n]
  | .nam x => [x]
  | .at_ r e => "at" :: r :: e.words
  | .no e => "not" :: e.words
  | .op w a b => w :: (a.words ++ b.words)
def wordsL (es : List Ex) : List Str := es.flatMap Ex.words
def Sm.words : Sm → List Str
  | .set x e => "set" :: x :: e.words
  | .put r e f => "put" :: r :: (e.words ++ f.words)
  | .tell e => "tell" :: e.words
  | .ite e _ _ => "if" :: e.words
  | .loop e _ => "while" :: e.words
  | .call x h es => "call" :: x :: h :: wordsL es
  | .fail n => ["fail", numS n]
  | .give e => "give" :: e.words
def rowS (ws : List Str) : Str := Txt.join " " ws
def kElse : Str := "else"
def kEnd : Str := "end"
def nlS : Str := "\n"
mutual
def Sm.lines : Sm → List Str
  | .ite e ys ns => rowS ("if" :: e.words) :: (Sm.linesL ys ++ ((if ns.isEmpty then [] else kElse :: Sm.linesL ns) ++ [kEnd]))
  | .loop e b => rowS ("while" :: e.words) :: (Sm.linesL b ++ [kEnd])
  | .set x e => [rowS ("set" :: x :: e.words)]
  | .put r e f => [rowS ("put" :: r :: (e.words ++ f.words))]
  | .tell e => [rowS ("tell" :: e.words)]
  | .call x h es => [rowS ("call" :: x :: h :: wordsL es)]
  | .fail n => [rowS ["fail", numS n]]
  | .give e => [rowS ("give" :: e.words)]
def Sm.linesL : List Sm → List Str
  | [] => []
  | s :: r => s.lines ++ Sm.linesL r
end
def hpL (h : Str × List Str × List Sm) : List Str := rowS ("helper" :: h.1 :: h.2.1) :: (Sm.linesL h.2.2 ++ [kEnd])
def rwL (r : Str × Nat) : Str := rowS ["row", r.1, numS r.2]
def Pg.lines (p : Pg) : List Str := p.hs.flatMap hpL ++ (rowS ("main" :: p.ps) :: (p.rs.map rwL ++ (Sm.linesL p.bd ++ [kEnd])))
def textOf (ls : List Str) : Str := Txt.join Str.empty (ls.map fun l => l ++ nlS)
/-! how long they are -/
theorem len_ofString (s : String) : (Str.ofString s).length = s.toList.length := by
  rw [len_list]
  have := TL.tl_ofString s
  rw [show (Str.ofString s).cps.toList = s.toList.map Char.toNat from this, List.length_map]
theorem numS_len {n : Int} (h : In32 n) : (numS n).length ≤ 40 := by
  obtain ⟨h1, h2⟩ := h
  unfold numS
  rw [len_ofString, String.length_toList]
  exact PySem.int_text_length_le (k := 39) (by decide) (PySem.Flt.log2_lt_of (by decide) (by omega))
theorem nat_log (n : Int) (h : In32 n) : n.natAbs.log2 < 1920 := by
  obtain ⟨h1, h2⟩ := h
  have := PySem.Flt.log2_lt_of (show 0 < 40 by decide) (show n.natAbs < 2 ^ 40 by omega)
  omega
def Shs (ws : List Str) : Prop := ∀ z ∈ ws, z.length ≤ 40
theorem Shs.app {a b : List Str} (h : Shs a) (h' : Shs b) : Shs (a ++ b) := fun z hz => (List.mem_append.mp hz).elim (h z) (h' z)
theorem Shs.cons {x : Str} {b : List Str} (h : x.length ≤ 40) (h' : Shs b) : Shs (x :: b) := fun z hz => (List.mem_cons.mp hz).elim (fun e => e ▸ h) (h' z)
theorem wds_len : ∀ x ∈ wds7, x.length ≤ 40 := by decide +kernel
theorem Ex.words_sh {nms rws : List Str} (hn : Shs nms) (hr : Shs rws) : ∀ {d : Nat} {e : Ex}, e.Wf nms rws d → Shs e.words
  | 0, _, h => h.elim
  | d + 1, .num n, h => fun z hz => by
    rw [List.mem_singleton.mp hz]
    exact numS_len h
  | d + 1, .nam x, h => fun z hz => by
    rw [List.mem_singleton.mp hz]
    exact hn x h
  | d + 1, .at_ r e, h => Shs.cons (by decide +kernel) (Shs.cons (hr r h.1) (Ex.words_sh hn hr h.2))
  | d + 1, .no e, h => Shs.cons (by decide +kernel) (Ex.words_sh hn hr (e := e) h)
  | d + 1, .op w a b, h => Shs.cons (wds_len w h.1) ((Ex.words_sh hn hr h.2.1).app (Ex.words_sh hn hr h.2.2))
theorem Ex.words_len {nms rws : List Str} : ∀ {d : Nat} {e : Ex}, e.Wf nms rws d → e.words.length + 2 ≤ 2 ^ (d + 1)
  | 0, _, h => h.elim
  | d + 1, .num n, h => by
    show 1 + 2 ≤ 2 ^ (d + 1 + 1)
    have : 2 ^ 2 ≤ 2 ^ (d + 1 + 1) := Nat.pow_le_pow_right (by decide) (by omega)
    omega
  | d + 1, .nam x, h => by
    show 1 + 2 ≤ 2 ^ (d + 1 + 1)
    have : 2 ^ 2 ≤ 2 ^ (d + 1 + 1) := Nat.pow_le_pow_right (by decide) (by omega)
    omega
  | d + 1, .at_ r e, h => by
    have i := Ex.words_len h.2
    show e.words.length + 1 + 1 + 2 ≤ 2 ^ (d + 1 + 1)
    rw [Nat.pow_succ 2 (d + 1)]
    have : 2 ^ 1 ≤ 2 ^ (d + 1) := Nat.pow_le_pow_right (by decide) (by omega)
    omega
  | d + 1, .no e, h => by
    have i := Ex.words_len (e := e) h
    show e.words.length + 1 + 2 ≤ 2 ^ (d + 1 + 1)
    rw [Nat.pow_succ 2 (d + 1)]
    omega
  | d + 1, .op w a b, h => by
    have i := Ex.words_len h.2.1
    have j := Ex.words_len h.2.2
    show (a.words ++ b.words).length + 1 + 2 ≤ 2 ^ (d + 1 + 1)
    rw [List.length_append, Nat.pow_succ 2 (d + 1)]
    omega
theorem Ex.words30 {nms rws : List Str} {e : Ex} (h : e.Wf nms rws 4) : e.words.length ≤ 30 := by
  have := Ex.words_len h
  omega
theorem wordsL_len {nms rws : List Str} : ∀ {es : List Ex}, (∀ e ∈ es, e.Wf nms rws 4) → (wordsL es).length ≤ 30 * es.length
  | [], _ => by simp [wordsL]
  | e :: r, h => by
    have i := wordsL_len fun x hx => h x (List.mem_cons_of_mem _ hx)
    have j := Ex.words30 (h e (List.mem_cons_self ..))
    show (e.words ++ wordsL r).length ≤ 30 * (r.length + 1)
    rw [List.length_append]
    omega
theorem wordsL_sh {nms rws : List Str} (hn : Shs nms) (hr : Shs rws) : ∀ {es : List Ex}, (∀ e ∈ es, e.Wf nms rws 4) → Shs (wordsL es)
  | [], _ => fun z hz => by simp [wordsL] at hz
  | e :: r, h => by
    show Shs (e.words ++ wordsL r)
    exact (Ex.words_sh hn hr (h e (List.mem_cons_self ..))).app (wordsL_sh hn hr fun x hx => h x (List.mem_cons_of_mem _ hx))
theorem sum_le (ws : List Str) (h : Shs ws) : (ws.map (·.length)).sum ≤ 40 * ws.length := by
  induction ws with
  | nil => simp
  | cons x r ih =>
    have i := ih fun z hz => h z (List.mem_cons_of_mem _ hz)
    have j := h x (List.mem_cons_self ..)
    rw [List.map_cons, List.sum_cons, List.length_cons]
    omega

section
variable {P : Program} {w : World} {K : PySem.W.Frag} {mg : Str → Option Value} {base : Heap}
theorem cutV_1 (x : V) (xs : List V) : cutV (x :: xs) (some 1) none = xs := cutV_from (x :: xs) 1
theorem not_whole (x : V) (xs : List V) : ¬ (HT.sIx (x :: xs).length 0 (some 1) = 0 ∧ HT.sIx (x :: xs).length (x :: xs).length none = (x :: xs).length) := by
  rintro ⟨h, _⟩
  rw [show (1 : Int) = ((1 : Nat) : Int) from rfl, HT.sIx_nat, List.length_cons] at h
  omega
theorem wordsL_snoc (es : List Ex) (e : Ex) : wordsL (es ++ [e]) = wordsL es ++ e.words := by simp [wordsL]
theorem wordsL_take {es : List Ex} {j : Nat} {e : Ex} (h : es[j]? = some e) : wordsL (es.take (j + 1)) = wordsL (es.take j) ++ e.words := by
  rw [List.take_add_one, h]
  exact wordsL_snoc _ _
theorem via {α β : Sort _} {C : Prop} (A : α → β → Prop) (h : ∀ a b, A a b → C) (k : (∀ a b, A a b → C) → C) : C := k h
def sp_words (K : PySem.W.Frag) (d : Nat) : Sp := fun vs H Q _ => ∃ (v : V) (e : Ex) (nms rws : List Str), vs = [v] ∧ Dp K H v e.d ∧ e.Wf nms rws d ∧ d ≤ 4 ∧ ∀ H' p, Same H H' → H p = none → H' p = some (.lst (e.words.map V.str)) → Q (.ref p) H'
theorem w7_a : ∀ x ∈ wds7, inV (.str x) [.str "number", .str "name"] = false ∧ x ≠ "at" := by decide +kernel
theorem ok_words_of (T : Top K mg) : ∀ d : Nat, FnOk P w K mg base CX0 (d + 1) (He.ga K "words_of") T.fd_words_of ["e"] (sp_words K d)
  | 0 => by
    refine T.F_words_of.ok sc_words_of (fun vs H Q E h => ?_) (fun cdv A outer s H vs Q E hr h => ?_)
    · obtain ⟨v, e, nms, rws, rfl, _⟩ := h
      rfl
    · obtain ⟨v, e, nms, rws, rfl, _, wf, _⟩ := h
      exact wf.elim
  | d + 1 => by
    have G_words_of := ok_words_of T d
    refine T.F_words_of.ok sc_words_of (fun vs H Q E h => ?_) (fun cdv A outer s H vs Q E hr h => ?_)
    · obtain ⟨v, e, nms, rws, rfl, _⟩ := h
      rfl
    · obtain ⟨v, e, nms, rws, rfl, dp, wf, hd, q⟩ := h
      refine ⟨_, PSs.nox (pss_cons (ps_if (pt_cmpR op_in_seq (pe_ix ix_tup (pv 0) pe_int (fun _ _ => rfl)) (pe_tup (pa_cons pe_str (pa_cons pe_str pa_nil))) (by rfl)) (pss_one (ps_ret (pe_lst (pa_cons (pe_callTy call_str_any (by rfl) T.m_str (by decide +kernel) (pa_cons (pe_ix ix_tup (pv 0) pe_int (fun _ _ => rfl)) pa_nil)) pa_nil)))) pss_nil)
        (pss_cons (ps_if (pt_cmpR op_eq (pe_ix ix_tup (pv 0) pe_int (fun _ _ => rfl)) pe_str (nomark _)) (pss_one (ps_ret (pe_op op_cat (pe_lst (pa_cons pe_str (pa_cons (pe_ix ix_tup (pv 0) pe_int (fun _ _ => rfl)) pa_nil))) (pe_call G_words_of (hr.mono (by omega)) (by rfl) T.g_words_of T.F_words_of.kp T.b_words_of .nil pass0 (pa_cons (pe_ix ix_tup (pv 0) pe_int (fun _ _ => rfl)) pa_nil))))) pss_nil)
        (pss_cons (ps_set (i := 1) sc_words_of.nd rfl (Or.inl rfl) (pe_lst (pa_cons (pe_ix ix_tup (pv 0) pe_int (fun _ _ => rfl)) pa_nil)))
        (pss_cons (ps_for PassesOwn.never (by rfl) (pi_tup (pe_slice sl_tupA (pv 0) (po_some pe_int) po_none)) (pg_name (i := 2) sc_words_of.nd rfl (Or.inl rfl)) (pss_one (ps_aug (i := 1) sc_words_of.nd rfl (Or.inl rfl) (pe_call G_words_of (hr.mono (by omega)) (by rfl) T.g_words_of T.F_words_of.kp T.b_words_of .nil pass0 (pa_cons (pv 2) pa_nil)) iop_ext)))
        (pss_one (ps_ret (pv 1))))))), ?_⟩
      have big : ∀ n : Nat, n ≤ 10000 → n ≤ sizeLine := fun n h => by rw [sizeLine_eq]; omega
      have wl2 : e.words.length ≤ 30 := Ex.words30 (wf.mono hd)
      -- a word with parts
      refine via (fun wd es => e.d = .tuple (.str wd :: es.map Ex.d) ∧ e.words = wd :: wordsL es ∧ (∀ x ∈ es, x.Wf nms rws d) ∧ es.length ≤ 2 ∧ inV (.str wd) [.str "number", .str "name"] = false ∧ wd ≠ "at") (fun wd es h => ?_) fun leaf' => ?_
      · obtain ⟨h1, h2, h3, h4, h5, h6⟩ := h
        rw [h1] at dp
        rw [h2] at q wl2
        obtain ⟨p, xs, rfl, hs, da⟩ := dp_tup dp
        obtain ⟨x0, xs, rfl, d0, da⟩ := dpAll_cons da
        rw [dp_str d0] at hs
        refine ⟨_, rfl, p, _, 0, _, rfl, rfl, hs, atI_nat (j := 0) rfl, big 2 (by decide), fun t nt => ?_⟩
        have st := same_new (o := .tup [.str "number", .str "name"]) nt
        have hs2 := sqT_kp (Kp.of_same (S := fun _ => False) st) hs
        refine ⟨t, _, rfl, .inr (.of upd_same), rfl, by decide +kernel, false, by show V.bl (inV _ _) = _; rw [h5], ?_⟩
        refine ⟨_, rfl, p, _, 0, _, rfl, rfl, hs2, atI_nat (j := 0) rfl, rfl, _, rfl, ifN (fun z => h6 (V.str.inj z)) ?_⟩
        refine ⟨_, rfl, p, _, 0, _, rfl, rfl, hs2, atI_nat (j := 0) rfl, big 1 (by decide), fun L nL => ?_⟩
        have sL := same_new (o := .lst [.str wd]) nL
        have hs3 := sqT_kp (Kp.of_same (S := fun _ => False) sL) hs2
        have s2 := st.trans sL
        have nL0 : H L = none := st.free nL
        refine ⟨_, rfl, 1, rfl, p, _, rfl, hs3, fun z => absurd z (not_whole _ _), fun _ S nS => ?_⟩
        rw [cutV_1]
        have sS := same_new (o := .tup xs) nS
        refine ⟨S, rfl, ⟨_, .of upd_same⟩, for_tup (K := K) (xs := xs) (fun j σ' H' => Same H H' ∧ SqT K H' S xs ∧ H' L = some (.lst ((wd :: wordsL (es.take j)).map V.str)) ∧ ∃ x2, σ' = [some (.ref p), some (.ref L), x2]) ?_ ?_ ?_ ?_⟩
        · exact ⟨s2.trans sS, .of upd_same, sS _ _ upd_same, none, rfl⟩
        · rintro j σ' H' _ ⟨_, h, _⟩
          exact h
        · rintro j x σ' H' hx ⟨s', hS', e', x2, rfl⟩
          obtain ⟨dd, hdd, dx⟩ := dpAll_getV (dpAll_same da s' (exs_noL es)) hx
          rw [List.getElem?_map] at hdd
          obtain ⟨ex, hex, rfl⟩ := Option.map_eq_some_iff.mp hdd
          have wfx := h3 ex (List.mem_of_getElem? hex)
          refine ⟨_, rfl, _, rfl, x, ex, nms, rws, rfl, dx, wfx, by omega, fun H3 m s3 nm em => ?_⟩
          have e3 := s3 _ _ e'
          have bnd : (wordsL (es.take j)).length ≤ 60 := by
            have := wordsL_len (nms := nms) (rws := rws) (es := es.take j) fun y hy => (h3 y (List.mem_of_mem_take hy)).mono (by omega)
            rw [List.length_take] at this
            omega
          have bx : ex.words.length ≤ 30 := Ex.words30 (wfx.mono (by omega))
          refine ⟨L, m, _, _, rfl, rfl, e3, em, by rw [List.length_map, List.length_map, List.length_cons, sizeLine_eq]; omega, ?_, ?_, ?_, _, rfl⟩
          · intro b o hb
            rw [upd_ne (ne_of_none hb nL0)]
            exact s3 _ _ (s' _ _ hb)
          · exact sqT_kp (Kp.upd (S := fun b => b = L) e3 trivial rfl) (sqT_kp (Kp.of_same (S := fun _ => False) s3) hS')
          · rw [upd_same, wordsL_take hex, ← List.map_append]
            rfl
        · rintro σ' H' ⟨s', _, e', x2, rfl⟩
          have el : es.take xs.length = es := List.take_of_length_le (by rw [dpAll_len da, List.length_map]; exact Nat.le_refl _)
          rw [el] at e'
          exact ⟨_, rfl, q _ L s' nL0 e'⟩
      have leaf := fun wd es h1 h2 h3 h4 h5 h6 => leaf' wd es ⟨h1, h2, h3, h4, h5, h6⟩
      cases e with
      | num n =>
        obtain ⟨p, xs, rfl, hs, da⟩ := dp_tup dp
        obtain ⟨x0, r0, rfl, d0, da⟩ := dpAll_cons da
        obtain ⟨x1, r1, rfl, d1, da⟩ := dpAll_cons da
        rw [dpAll_nil da, dp_str d0, dp_int d1] at hs
        refine ⟨_, rfl, p, _, 0, _, rfl, rfl, hs, atI_nat (j := 0) rfl, big 2 (by decide), fun t nt => ?_⟩
        have st := same_new (o := .tup [.str "number", .str "name"]) nt
        refine ⟨t, _, rfl, .inr (.of upd_same), rfl, by decide +kernel, true, by decide +kernel, ?_⟩
        refine ⟨_, rfl, p, _, 1, _, rfl, rfl, sqT_kp (Kp.of_same (S := fun _ => False) st) hs, atI_nat (j := 1) rfl, .inl ⟨_, rfl, nat_log n wf, big 1 (by decide), fun l nl => ?_⟩⟩
        exact q _ l (st.trans (same_new nl)) (st.free nl) upd_same
      | nam x =>
        obtain ⟨p, xs, rfl, hs, da⟩ := dp_tup dp
        obtain ⟨x0, r0, rfl, d0, da⟩ := dpAll_cons da
        obtain ⟨x1, r1, rfl, d1, da⟩ := dpAll_cons da
        rw [dpAll_nil da, dp_str d0, dp_str d1] at hs
        refine ⟨_, rfl, p, _, 0, _, rfl, rfl, hs, atI_nat (j := 0) rfl, big 2 (by decide), fun t nt => ?_⟩
        have st := same_new (o := .tup [.str "number", .str "name"]) nt
        refine ⟨t, _, rfl, .inr (.of upd_same), rfl, by decide +kernel, true, by decide +kernel, ?_⟩
        refine ⟨_, rfl, p, _, 1, _, rfl, rfl, sqT_kp (Kp.of_same (S := fun _ => False) st) hs, atI_nat (j := 1) rfl, .inr ⟨_, rfl, big 1 (by decide), fun l nl => ?_⟩⟩
        exact q _ l (st.trans (same_new nl)) (st.free nl) upd_same
      | at_ r e =>
        obtain ⟨p, xs, rfl, hs, da⟩ := dp_tup dp
        obtain ⟨x0, r0, rfl, d0, da⟩ := dpAll_cons da
        obtain ⟨x1, r1, rfl, d1, da⟩ := dpAll_cons da
        obtain ⟨x2, r2, rfl, d2, da⟩ := dpAll_cons da
        rw [dpAll_nil da, dp_str d0, dp_str d1] at hs
        refine ⟨_, rfl, p, _, 0, _, rfl, rfl, hs, atI_nat (j := 0) rfl, big 2 (by decide), fun t nt => ?_⟩
        have st := same_new (o := .tup [.str "number", .str "name"]) nt
        have hs2 := sqT_kp (Kp.of_same (S := fun _ => False) st) hs
        refine ⟨t, _, rfl, .inr (.of upd_same), rfl, by decide +kernel, false, by decide +kernel, ?_⟩
        refine ⟨_, rfl, p, _, 0, _, rfl, rfl, hs2, atI_nat (j := 0) rfl, rfl, _, rfl, ifD rfl ?_⟩
        refine ⟨_, rfl, p, _, 1, _, rfl, rfl, hs2, atI_nat (j := 1) rfl, big 2 (by decide), fun l nl => ?_⟩
        have sl := same_new (o := .lst [.str "at", .str r]) nl
        have s2 := st.trans sl
        refine ⟨_, rfl, p, _, 2, _, rfl, rfl, sqT_kp (Kp.of_same (S := fun _ => False) sl) hs2, atI_nat (j := 2) rfl, x2, e, nms, rws, rfl, dp_same d2 s2 e.noL, wf.2, by omega, fun H3 m s3 nm em => ?_⟩
        have wl3 : e.words.length ≤ 30 := Ex.words30 (Ex.Wf.mono (by omega) wf.2)
        refine ⟨l, m, _, _, rfl, rfl, s3 _ _ upd_same, em, by rw [List.length_map]; simp only [List.length_cons, List.length_nil]; rw [sizeLine_eq]; omega, fun o no => ?_⟩
        exact q _ o ((s2.trans s3).trans (same_new no)) ((s2.trans s3).free no) upd_same
      | no e =>
        exact leaf "not" [e] rfl (by simp [Ex.words, wordsL]) (fun x hx => by rw [List.mem_singleton.mp hx]; exact wf) (by show 1 ≤ 2; decide) (by decide +kernel) (by decide +kernel)
      | op wd a b =>
        refine leaf wd [a, b] rfl (by simp [Ex.words, wordsL]) (fun x hx => ?_) (by show 2 ≤ 2; decide) (w7_a wd wf.1).1 (w7_a wd wf.1).2
        rcases List.mem_cons.mp hx with rfl | hx
        · exact wf.2.1
        · rw [List.mem_singleton.mp hx]
          exact wf.2.2
end

section
variable {P : Program} {w : World} {K : PySem.W.Frag} {mg : Str → Option Value} {base : Heap}
structure Ctx (nms rws : List Str) (hds : List (Str × Nat)) : Prop where
  n : Shs nms
  r : Shs rws
  h : ∀ q ∈ hds, q.2 ≤ 4 ∧ q.1.length ≤ 40
theorem Sm.words_ok {nms rws : List Str} {hds : List (Str × Nat)} (c : Ctx nms rws hds) {s : Sm} {k : Nat} (h : s.Wf nms rws hds k) : Shs s.words ∧ s.words.length ≤ 130 := by
  cases s <;> simp only [Sm.Wf] at h
  case set x e => exact ⟨Shs.cons (by decide +kernel) (Shs.cons (c.n _ h.1) (Ex.words_sh c.n c.r h.2)), by have := Ex.words30 h.2; simp only [Sm.words, List.length_cons]; omega⟩
  case put r e f => exact ⟨Shs.cons (by decide +kernel) (Shs.cons (c.r _ h.1) ((Ex.words_sh c.n c.r h.2.1).app (Ex.words_sh c.n c.r h.2.2))), by have := Ex.words30 h.2.1; have := Ex.words30 h.2.2; simp only [Sm.words, List.length_cons, List.length_append]; omega⟩
  case tell e => exact ⟨Shs.cons (by decide +kernel) (Ex.words_sh c.n c.r h), by have := Ex.words30 h; simp only [Sm.words, List.length_cons]; omega⟩
  case ite e ys ns => exact ⟨Shs.cons (by decide +kernel) (Ex.words_sh c.n c.r h.2.1), by have := Ex.words30 h.2.1; simp only [Sm.words, List.length_cons]; omega⟩
  case loop e b => exact ⟨Shs.cons (by decide +kernel) (Ex.words_sh c.n c.r h.2.1), by have := Ex.words30 h.2.1; simp only [Sm.words, List.length_cons]; omega⟩
  case call x hp es =>
    have h4 := (c.h _ h.2.1)
    have := wordsL_len h.2.2
    exact ⟨Shs.cons (by decide +kernel) (Shs.cons (c.n _ h.1) (Shs.cons h4.2 (wordsL_sh c.n c.r h.2.2))), by simp only [Sm.words, List.length_cons]; have := h4.1; simp only at this; omega⟩
  case fail n => exact ⟨Shs.cons (by decide +kernel) (Shs.cons (numS_len ⟨by omega, by omega⟩) fun z hz => nomatch hz), by simp [Sm.words]⟩
  case give e => exact ⟨Shs.cons (by decide +kernel) (Ex.words_sh c.n c.r h), by have := Ex.words30 h; simp only [Sm.words, List.length_cons]; omega⟩
def sp_pw (K : PySem.W.Frag) : Sp := fun vs H Q _ => ∃ (v : V) (s : Sm) (k : Nat) (nms rws : List Str) (hds : List (Str × Nat)), vs = [v] ∧ Dp K H v s.d ∧ s.Wf nms rws hds k ∧ Ctx nms rws hds ∧ ∀ H' p, Same H H' → H p = none → H' p = some (.lst (s.words.map V.str)) → Q (.ref p) H'
theorem cat_new {H : Hp} {l m : Addr} {xs ys : List Str} {Q : VK} (hl : H l = some (.lst (xs.map V.str))) (hm : H m = some (.lst (ys.map V.str))) (hz : xs.length + ys.length ≤ 100000) (q : ∀ p, H p = none → Q (.ref p) (upd H p (.lst ((xs ++ ys).map V.str)))) :
    ∃ a b us ws, V.ref l = .ref a ∧ V.ref m = .ref b ∧ H a = some (.lst us) ∧ H b = some (.lst ws) ∧ us.length + ws.length ≤ sizeLine ∧ ∀ p, H p = none → Q (.ref p) (upd H p (.lst (us ++ ws))) := by
  refine ⟨l, m, _, _, rfl, rfl, hl, hm, by rw [List.length_map, List.length_map, sizeLine_eq]; omega, fun p np => ?_⟩
  rw [← List.map_append]
  exact q p np
theorem ok_plain_words (T : Top K mg) : FnOk P w K mg base CX0 6 (He.ga K "plain_words") T.fd_plain_words ["statement"] (sp_pw K) := by
  have G_words_of := ok_words_of (P := P) (w := w) (base := base) T 4
  refine T.F_plain_words.ok sc_plain_words (fun vs H Q E h => ?_) (fun cdv A outer s H vs Q E hr h => ?_)
  · obtain ⟨v, s, k, nms, rws, hds, rfl, _⟩ := h
    rfl
  · obtain ⟨v, s, k, nms, rws, hds, rfl, dp, wf, cx, q⟩ := h
    refine ⟨_, PSs.nox (pss_cons (ps_set (i := 1) sc_plain_words.nd rfl (Or.inl rfl) (pe_ix ix_tup (pv 0) pe_int (fun _ _ => rfl)))
        (pss_cons (ps_if (pt_cmpR op_eq (pv 1) pe_str (nomark _)) (pss_one (ps_ret (pe_lst (pa_cons (pv 1) (pa_cons (pe_callTy call_str_any (by rfl) T.m_str (by decide +kernel) (pa_cons (pe_ix ix_tup (pv 0) pe_int (fun _ _ => rfl)) pa_nil)) pa_nil))))) pss_nil)
        (pss_cons (ps_if (pt_cmpR op_in_seq (pv 1) (pe_tup (pa_cons pe_str (pa_cons pe_str (pa_cons pe_str (pa_cons pe_str pa_nil))))) (by rfl)) (pss_one (ps_ret (pe_op op_cat (pe_lst (pa_cons (pv 1) pa_nil)) (pe_call G_words_of (hr.mono (by omega)) (by rfl) T.g_words_of T.F_words_of.kp T.b_words_of .nil pass0 (pa_cons (pe_ix ix_tup (pv 0) pe_int (fun _ _ => rfl)) pa_nil))))) pss_nil)
        (pss_cons (ps_if (pt_cmpR op_eq (pv 1) pe_str (nomark _)) (pss_one (ps_ret (pe_op op_cat (pe_lst (pa_cons (pv 1) (pa_cons (pe_ix ix_tup (pv 0) pe_int (fun _ _ => rfl)) pa_nil))) (pe_call G_words_of (hr.mono (by omega)) (by rfl) T.g_words_of T.F_words_of.kp T.b_words_of .nil pass0 (pa_cons (pe_ix ix_tup (pv 0) pe_int (fun _ _ => rfl)) pa_nil))))) pss_nil)
        (pss_cons (ps_if (pt_cmpR op_eq (pv 1) pe_str (nomark _)) (pss_one (ps_ret (pe_op op_cat (pe_op op_cat (pe_lst (pa_cons (pv 1) (pa_cons (pe_ix ix_tup (pv 0) pe_int (fun _ _ => rfl)) pa_nil))) (pe_call G_words_of (hr.mono (by omega)) (by rfl) T.g_words_of T.F_words_of.kp T.b_words_of .nil pass0 (pa_cons (pe_ix ix_tup (pv 0) pe_int (fun _ _ => rfl)) pa_nil))) (pe_call G_words_of (hr.mono (by omega)) (by rfl) T.g_words_of T.F_words_of.kp T.b_words_of .nil pass0 (pa_cons (pe_ix ix_tup (pv 0) pe_int (fun _ _ => rfl)) pa_nil))))) pss_nil)
        (pss_cons (ps_set (i := 2) sc_plain_words.nd rfl (Or.inl rfl) (pe_lst (pa_cons (pv 1) (pa_cons (pe_ix ix_tup (pv 0) pe_int (fun _ _ => rfl)) (pa_cons (pe_ix ix_tup (pv 0) pe_int (fun _ _ => rfl)) pa_nil)))))
        (pss_cons (ps_for PassesOwn.never (by rfl) (pi_tup (pe_ix ix_tup (pv 0) pe_int (fun _ _ => rfl))) (pg_name (i := 3) sc_plain_words.nd rfl (Or.inl rfl)) (pss_one (ps_aug (i := 2) sc_plain_words.nd rfl (Or.inl rfl) (pe_call G_words_of (hr.mono (by omega)) (by rfl) T.g_words_of T.F_words_of.kp T.b_words_of .nil pass0 (pa_cons (pv 3) pa_nil)) iop_ext)))
        (pss_one (ps_ret (pv 2)))))))))), ?_⟩
    have big : ∀ n : Nat, n ≤ 10000 → n ≤ sizeLine := fun n h => by rw [sizeLine_eq]; omega
    have kS : ∀ {H1 H2 : Hp} {p : Addr} {xs : List V}, Same H1 H2 → SqT K H1 p xs → SqT K H2 p xs := fun s h => sqT_kp (Kp.of_same (S := fun _ => False) s) h
    have no : ∀ {x y : Str} {A B : Prop}, x ≠ y → B → if decide (V.str x = V.str y) = true then A else B := fun h hB => ifN (fun z => h (V.str.inj z)) hB
    have head : ∀ (wd : Str) (ds : List PyData), s.d = .tuple (.str wd :: ds) → ∃ p xs, v = .ref p ∧ SqT K H p (.str wd :: xs) ∧ DpAll K H xs ds := by
      intro wd ds e
      rw [e] at dp
      obtain ⟨p, xs, rfl, hs, da⟩ := dp_tup dp
      obtain ⟨x0, r0, rfl, d0, da⟩ := dpAll_cons da
      rw [dp_str d0] at hs
      exact ⟨p, r0, rfl, hs, da⟩
    have wlen := (Sm.words_ok cx wf).2
    -- a word and one expression
    refine via (fun (wd : Str) (e : Ex) => (∃ ds, s.d = .tuple (.str wd :: e.d :: ds)) ∧ s.words = wd :: e.words ∧ e.Wf nms rws 4 ∧ wd ≠ "fail" ∧ inV (.str wd) [.str "tell", .str "give", .str "if", .str "while"] = true) (fun wd e h => ?_) fun leaf => ?_
    · obtain ⟨⟨ds, h1⟩, h2, h3, h4, h5⟩ := h
      obtain ⟨p, xs, rfl, hs, da⟩ := head wd _ h1
      obtain ⟨x1, r1, rfl, d1, _⟩ := dpAll_cons da
      rw [h2] at q wlen
      rw [List.length_cons] at wlen
      refine ⟨_, rfl, p, _, 0, _, rfl, rfl, hs, atI_nat (j := 0) rfl, ?_⟩
      refine ⟨_, rfl, rfl, _, rfl, no h4 ?_⟩
      refine ⟨_, rfl, big 4 (by decide), fun t nt => ?_⟩
      have st := same_new (o := .tup [.str "tell", .str "give", .str "if", .str "while"]) nt
      refine ⟨t, _, rfl, .inr (.of upd_same), rfl, by decide +kernel, true, by show V.bl (inV _ _) = _; rw [h5], ?_⟩
      refine ⟨_, rfl, big 1 (by decide), fun l nl => ?_⟩
      have sl := same_new (o := .lst ([wd].map V.str)) nl
      have s2 := st.trans sl
      refine ⟨_, rfl, p, _, 1, _, rfl, rfl, kS s2 hs, atI_nat (j := 1) rfl, x1, e, nms, rws, rfl, dp_same d1 s2 e.noL, h3, Nat.le_refl _, fun H3 m s3 nm em => ?_⟩
      refine cat_new (xs := [wd]) (s3 _ _ upd_same) em (by simp only [List.length_cons, List.length_nil]; omega) fun o no => ?_
      exact q _ o ((s2.trans s3).trans (same_new no)) ((s2.trans s3).free no) upd_same
    cases s with
    | tell e => exact leaf "tell" e ⟨⟨[], by simp only [Sm.d]⟩, rfl, by simp only [Sm.Wf] at wf; exact wf, by decide +kernel, by decide +kernel⟩
    | give e => exact leaf "give" e ⟨⟨[], by simp only [Sm.d]⟩, rfl, by simp only [Sm.Wf] at wf; exact wf, by decide +kernel, by decide +kernel⟩
    | ite e ys ns => exact leaf "if" e ⟨⟨_, by simp only [Sm.d]; rfl⟩, rfl, by simp only [Sm.Wf] at wf; exact wf.2.1, by decide +kernel, by decide +kernel⟩
    | loop e b => exact leaf "while" e ⟨⟨_, by simp only [Sm.d]; rfl⟩, rfl, by simp only [Sm.Wf] at wf; exact wf.2.1, by decide +kernel, by decide +kernel⟩
    | fail n =>
      clear leaf
      simp only [Sm.Wf] at wf
      obtain ⟨p, xs, rfl, hs, da⟩ := head "fail" [.int n] (by simp only [Sm.d])
      obtain ⟨x1, r1, rfl, d1, _⟩ := dpAll_cons da
      rw [dp_int d1] at hs
      refine ⟨_, rfl, p, _, 0, _, rfl, rfl, hs, atI_nat (j := 0) rfl, _, rfl, rfl, _, rfl, ifD rfl ?_⟩
      refine ⟨_, rfl, _, rfl, p, _, 1, _, rfl, rfl, hs, atI_nat (j := 1) rfl, .inl ⟨_, rfl, nat_log n ⟨by omega, by omega⟩, big 2 (by decide), fun l nl => ?_⟩⟩
      exact q _ l (same_new nl) nl upd_same
    | set x e =>
      clear leaf
      simp only [Sm.Wf] at wf
      obtain ⟨p, xs, rfl, hs, da⟩ := head "set" [.str x, e.d] (by simp only [Sm.d])
      obtain ⟨x1, r1, rfl, d1, da⟩ := dpAll_cons da
      obtain ⟨x2, r2, rfl, d2, _⟩ := dpAll_cons da
      rw [dp_str d1] at hs
      refine ⟨_, rfl, p, _, 0, _, rfl, rfl, hs, atI_nat (j := 0) rfl, _, rfl, rfl, _, rfl, no (by decide +kernel) ?_⟩
      refine ⟨_, rfl, big 4 (by decide), fun t nt => ?_⟩
      have st := same_new (o := .tup [.str "tell", .str "give", .str "if", .str "while"]) nt
      refine ⟨t, _, rfl, .inr (.of upd_same), rfl, by decide +kernel, false, by decide +kernel, ?_⟩
      refine ⟨_, rfl, rfl, _, rfl, ifD rfl ?_⟩
      refine ⟨_, rfl, _, rfl, p, _, 1, _, rfl, rfl, kS st hs, atI_nat (j := 1) rfl, big 2 (by decide), fun l nl => ?_⟩
      have sl := same_new (o := .lst (([("set" : Str), x] : List Str).map V.str)) nl
      have s2 := st.trans sl
      refine ⟨_, rfl, p, _, 2, _, rfl, rfl, kS s2 hs, atI_nat (j := 2) rfl, x2, e, nms, rws, rfl, dp_same d2 s2 e.noL, wf.2, Nat.le_refl _, fun H3 m s3 nm em => ?_⟩
      have b1 := Ex.words30 wf.2
      refine cat_new (xs := ([("set" : Str), x] : List Str)) (s3 _ _ upd_same) em (by simp only [List.length_cons, List.length_nil]; omega) fun o no => ?_
      exact q _ o ((s2.trans s3).trans (same_new no)) ((s2.trans s3).free no) upd_same
    | put r e f =>
      clear leaf
      simp only [Sm.Wf] at wf
      obtain ⟨p, xs, rfl, hs, da⟩ := head "put" [.str r, e.d, f.d] (by simp only [Sm.d])
      obtain ⟨x1, r1, rfl, d1, da⟩ := dpAll_cons da
      obtain ⟨x2, r2, rfl, d2, da⟩ := dpAll_cons da
      obtain ⟨x3, r3, rfl, d3, _⟩ := dpAll_cons da
      rw [dp_str d1] at hs
      refine ⟨_, rfl, p, _, 0, _, rfl, rfl, hs, atI_nat (j := 0) rfl, _, rfl, rfl, _, rfl, no (by decide +kernel) ?_⟩
      refine ⟨_, rfl, big 4 (by decide), fun t nt => ?_⟩
      have st := same_new (o := .tup [.str "tell", .str "give", .str "if", .str "while"]) nt
      refine ⟨t, _, rfl, .inr (.of upd_same), rfl, by decide +kernel, false, by decide +kernel, ?_⟩
      refine ⟨_, rfl, rfl, _, rfl, no (by decide +kernel) ?_⟩
      refine ⟨_, rfl, rfl, _, rfl, ifD rfl ?_⟩
      refine ⟨_, rfl, _, rfl, p, _, 1, _, rfl, rfl, kS st hs, atI_nat (j := 1) rfl, big 2 (by decide), fun l nl => ?_⟩
      have sl := same_new (o := .lst (([("put" : Str), r] : List Str).map V.str)) nl
      have s2 := st.trans sl
      have b1 := Ex.words30 wf.2.1
      have b2 := Ex.words30 wf.2.2
      refine ⟨_, rfl, p, _, 2, _, rfl, rfl, kS s2 hs, atI_nat (j := 2) rfl, x2, e, nms, rws, rfl, dp_same d2 s2 e.noL, wf.2.1, Nat.le_refl _, fun H3 m s3 nm em => ?_⟩
      have e3 : H3 l = some (.lst (([("put" : Str), r] : List Str).map V.str)) := s3 _ _ upd_same
      refine ⟨l, m, ([("put" : Str), r] : List Str).map V.str, e.words.map V.str, rfl, rfl, e3, em, by rw [List.length_map, List.length_map, sizeLine_eq]; simp only [List.length_cons, List.length_nil]; omega, fun o no => ?_⟩
      rw [← List.map_append]
      have so := same_new (o := .lst ((([("put" : Str), r] : List Str) ++ e.words).map V.str)) no
      have s4 := (s2.trans s3).trans so
      refine ⟨_, rfl, p, _, 3, _, rfl, rfl, kS s4 hs, atI_nat (j := 3) rfl, x3, f, nms, rws, rfl, dp_same d3 s4 f.noL, wf.2.2, Nat.le_refl _, fun H5 m5 s5 nm5 em5 => ?_⟩
      refine cat_new (xs := ([("put" : Str), r] : List Str) ++ e.words) (s5 _ _ upd_same) em5 (by rw [List.length_append]; simp only [List.length_cons, List.length_nil]; omega) fun o2 no2 => ?_
      refine q _ o2 ((s4.trans s5).trans (same_new no2)) ((s4.trans s5).free no2) ?_
      rw [upd_same, List.append_assoc]
      rfl
    | call x hp es =>
      clear leaf
      have wl2 := wlen
      simp only [Sm.Wf] at wf
      obtain ⟨p, xs, rfl, hs, da⟩ := head "call" [.str x, .str hp, .tuple (es.map Ex.d)] (by simp only [Sm.d])
      obtain ⟨x1, r1, rfl, d1, da⟩ := dpAll_cons da
      obtain ⟨x2, r2, rfl, d2, da⟩ := dpAll_cons da
      obtain ⟨x3, r3, rfl, d3, _⟩ := dpAll_cons da
      rw [dp_str d1, dp_str d2] at hs
      obtain ⟨pe, ys, rfl, hse, dae⟩ := dp_tup d3
      refine ⟨_, rfl, p, _, 0, _, rfl, rfl, hs, atI_nat (j := 0) rfl, _, rfl, rfl, _, rfl, no (by decide +kernel) ?_⟩
      refine ⟨_, rfl, big 4 (by decide), fun t nt => ?_⟩
      have st := same_new (o := .tup [.str "tell", .str "give", .str "if", .str "while"]) nt
      refine ⟨t, _, rfl, .inr (.of upd_same), rfl, by decide +kernel, false, by decide +kernel, ?_⟩
      refine ⟨_, rfl, rfl, _, rfl, no (by decide +kernel) ?_⟩
      refine ⟨_, rfl, rfl, _, rfl, no (by decide +kernel) ?_⟩
      refine ⟨_, rfl, _, rfl, p, _, 1, _, rfl, rfl, kS st hs, atI_nat (j := 1) rfl, _, rfl, p, _, 2, _, rfl, rfl, kS st hs, atI_nat (j := 2) rfl, big 3 (by decide), fun L nL => ?_⟩
      have sL := same_new (o := .lst (([("call" : Str), x, hp] : List Str).map V.str)) nL
      have s2 := st.trans sL
      have nL0 : H L = none := st.free nL
      refine ⟨_, rfl, p, _, 3, _, rfl, rfl, kS s2 hs, atI_nat (j := 3) rfl, pe, rfl, ⟨_, kS s2 hse⟩, for_tup (K := K) (xs := ys) (fun j σ' H' => Same H H' ∧ H' L = some (.lst ((([("call" : Str), x, hp] : List Str) ++ wordsL (es.take j)).map V.str)) ∧ ∃ x2, σ' = [some (.ref p), some (.str "call"), some (.ref L), x2]) ?_ ?_ ?_ ?_⟩
      · exact ⟨s2, upd_same, none, rfl⟩
      · rintro j σ' H' _ ⟨s', _⟩
        exact kS s' hse
      · rintro j y σ' H' hy ⟨s', e', x2, rfl⟩
        obtain ⟨dd, hdd, dx⟩ := dpAll_getV (dpAll_same dae s' (exs_noL es)) hy
        rw [List.getElem?_map] at hdd
        obtain ⟨ex, hex, rfl⟩ := Option.map_eq_some_iff.mp hdd
        have wfx := wf.2.2 ex (List.mem_of_getElem? hex)
        refine ⟨_, rfl, _, rfl, y, ex, nms, rws, rfl, dx, wfx, Nat.le_refl _, fun H3 m s3 nm em => ?_⟩
        have e3 := s3 _ _ e'
        have h4 := (cx.h _ wf.2.1).1
        simp only at h4
        have bnd : (wordsL (es.take j)).length ≤ 120 := by
          have := wordsL_len (nms := nms) (rws := rws) (es := es.take j) fun y hy => wf.2.2 y (List.mem_of_mem_take hy)
          rw [List.length_take] at this
          omega
        have bx : ex.words.length ≤ 30 := Ex.words30 wfx
        refine ⟨L, m, _, _, rfl, rfl, e3, em, by rw [List.length_map, List.length_map, List.length_append, sizeLine_eq]; simp only [List.length_cons, List.length_nil]; omega, ?_, ?_, _, rfl⟩
        · intro b o hb
          rw [upd_ne (ne_of_none hb nL0)]
          exact s3 _ _ (s' _ _ hb)
        · rw [upd_same, wordsL_take hex, ← List.map_append, List.append_assoc]
      · rintro σ' H' ⟨s', e', x2, rfl⟩
        have el : es.take ys.length = es := List.take_of_length_le (by rw [dpAll_len dae, List.length_map]; exact Nat.le_refl _)
        rw [el] at e'
        exact ⟨_, rfl, q _ L s' nL0 e'⟩
end

/-! rows of statements: plain facts -/
theorem join_len (sep : Str) : ∀ l : List Str, (Str.join sep l).length ≤ (l.map (·.length)).sum + l.length * sep.length
  | [] => by simp [Str.join, Str.length, Str.empty]
  | [x] => by simp [Str.join]
  | x :: y :: r => by
    have i := join_len sep (y :: r)
    show (x ++ sep ++ Str.join sep (y :: r)).length ≤ _
    rw [Str.length_append, Str.length_append, List.map_cons, List.sum_cons, List.length_cons, Nat.add_mul, Nat.one_mul]
    omega
theorem rowS_len {ws : List Str} (h : Shs ws) (n : ws.length ≤ 130) : (rowS ws).length ≤ 6000 := by
  have a := join_len (" " : Str) ws
  have b := sum_le ws h
  unfold rowS
  rw [TL.join_eq]
  have e : (" " : Str).length = 1 := by decide +kernel
  rw [e] at a
  omega
theorem join_fits {ws : List Str} (h : Shs ws) (n : ws.length ≤ 130) : (ws.map (·.length)).sum + ws.length * (" " : Str).length ≤ 16777216 := by
  have b := sum_le ws h
  have e : (" " : Str).length = 1 := by decide +kernel
  rw [e]
  omega
mutual
theorem Sm.lines_len : ∀ s : Sm, s.lines.length ≤ 3 * s.size
  | .ite e ys ns => by
    have a := Sm.linesL_len ys
    have b := Sm.linesL_len ns
    simp only [Sm.lines, Sm.size, List.length_cons, List.length_append, List.length_nil]
    cases ns with
    | nil => simp; omega
    | cons x r => simp; omega
  | .loop e b => by
    have a := Sm.linesL_len b
    simp only [Sm.lines, Sm.size, List.length_cons, List.length_append, List.length_nil]
    omega
  | .set x e => by simp [Sm.lines, Sm.size]
  | .put r e f => by simp [Sm.lines, Sm.size]
  | .tell e => by simp [Sm.lines, Sm.size]
  | .call x h es => by simp [Sm.lines, Sm.size]
  | .fail n => by simp [Sm.lines, Sm.size]
  | .give e => by simp [Sm.lines, Sm.size]
theorem Sm.linesL_len : ∀ l : List Sm, (Sm.linesL l).length ≤ 3 * Sm.sizes l
  | [] => by simp [Sm.linesL, Sm.sizes]
  | s :: r => by
    have a := Sm.lines_len s
    have b := Sm.linesL_len r
    simp only [Sm.linesL, Sm.sizes, List.length_append]
    omega
end
theorem Sm.linesL_app : ∀ a b : List Sm, Sm.linesL (a ++ b) = Sm.linesL a ++ Sm.linesL b
  | [], b => by simp [Sm.linesL]
  | s :: r, b => by
    rw [List.cons_append, Sm.linesL, Sm.linesL, Sm.linesL_app r b, List.append_assoc]
theorem linesL_take {l : List Sm} {j : Nat} {s : Sm} (h : l[j]? = some s) : Sm.linesL (l.take (j + 1)) = Sm.linesL (l.take j) ++ s.lines := by
  rw [List.take_add_one, h, Sm.linesL_app]
  simp [Sm.linesL]
theorem sizes_app : ∀ a b : List Sm, Sm.sizes (a ++ b) = Sm.sizes a + Sm.sizes b
  | [], b => by simp [Sm.sizes]
  | s :: r, b => by
    rw [List.cons_append, Sm.sizes, Sm.sizes, sizes_app r b]
    omega
theorem sizes_take {l : List Sm} {j : Nat} {s : Sm} (h : l[j]? = some s) : Sm.sizes (l.take j) + s.size ≤ Sm.sizes l := by
  have e : l = l.take (j + 1) ++ l.drop (j + 1) := (List.take_append_drop _ _).symm
  have f : Sm.sizes l = Sm.sizes (l.take (j + 1)) + Sm.sizes (l.drop (j + 1)) := by rw [← sizes_app, ← e]
  rw [List.take_add_one, h, sizes_app] at f
  simp [Sm.sizes] at f
  omega
theorem wfs_mem {nms rws : List Str} {hds : List (Str × Nat)} {k : Nat} : ∀ {l : List Sm} {s : Sm}, Sm.Wfs nms rws hds l k → s ∈ l → s.Wf nms rws hds k
  | [], _, _, h => nomatch h
  | t :: r, s, h, m => by
    simp only [Sm.Wfs] at h
    rcases List.mem_cons.mp m with rfl | m
    · exact h.1
    · exact wfs_mem h.2.2 m
def elsL (ns : List Sm) : List Str := if ns.isEmpty then [] else kElse :: Sm.linesL ns
/-- a statement with parts -/
structure Nest (s : Sm) (wd : Str) (ed : PyData) (b ns : List Sm) (ds : List PyData) : Prop where
  d : s.d = .tuple (.str wd :: ed :: .tuple (Sm.ds b) :: ds)
  l : s.lines = rowS s.words :: (Sm.linesL b ++ (elsL ns ++ [kEnd]))
  k : (wd = "if" ∧ ds = [.tuple (Sm.ds ns)]) ∨ (wd = "while" ∧ ds = [] ∧ ns = [])
  w : ∀ nms rws hds k, s.Wf nms rws hds k → 0 < k ∧ Sm.Wfs nms rws hds b (k - 1) ∧ Sm.Wfs nms rws hds ns (k - 1)
  z : 1 + Sm.sizes b + Sm.sizes ns = s.size
theorem Sm.sort (s : Sm) : (∃ wd ds, s.d = .tuple (.str wd :: ds) ∧ inV (.str wd) [.str "if", .str "while"] = false ∧ s.lines = [rowS s.words]) ∨ ∃ wd ed b ns ds, Nest s wd ed b ns ds := by
  cases s with
  | ite e ys ns => exact .inr ⟨"if", e.d, ys, ns, _, by simp only [Sm.d], by simp only [Sm.lines, Sm.words, elsL], .inl ⟨rfl, rfl⟩, fun nms rws hds k h => by simp only [Sm.Wf] at h; exact ⟨h.1, h.2.2⟩, by simp only [Sm.size]⟩
  | loop e b => exact .inr ⟨"while", e.d, b, [], _, by simp only [Sm.d], by simp only [Sm.lines, Sm.words, elsL]; rfl, .inr ⟨rfl, rfl, rfl⟩, fun nms rws hds k h => by simp only [Sm.Wf] at h; exact ⟨h.1, h.2.2, by simp only [Sm.Wfs]⟩, by simp only [Sm.size, Sm.sizes]; omega⟩
  | set x e => exact .inl ⟨"set", _, by simp only [Sm.d]; rfl, by decide +kernel, by simp only [Sm.lines, Sm.words]⟩
  | put r e f => exact .inl ⟨"put", _, by simp only [Sm.d]; rfl, by decide +kernel, by simp only [Sm.lines, Sm.words]⟩
  | tell e => exact .inl ⟨"tell", _, by simp only [Sm.d]; rfl, by decide +kernel, by simp only [Sm.lines, Sm.words]⟩
  | call x hp es => exact .inl ⟨"call", _, by simp only [Sm.d]; rfl, by decide +kernel, by simp only [Sm.lines, Sm.words]⟩
  | fail n => exact .inl ⟨"fail", _, by simp only [Sm.d]; rfl, by decide +kernel, by simp only [Sm.lines, Sm.words]⟩
  | give e => exact .inl ⟨"give", _, by simp only [Sm.d]; rfl, by decide +kernel, by simp only [Sm.lines, Sm.words]⟩
theorem Sm.lines_head (s : Sm) : ∃ r, s.lines = rowS s.words :: r := by
  cases s <;> exact ⟨_, by simp only [Sm.lines, Sm.words]; rfl⟩
mutual
theorem Sm.lines_sh {nms rws : List Str} {hds : List (Str × Nat)} (c : Ctx nms rws hds) : ∀ {s : Sm} {k : Nat}, s.Wf nms rws hds k → ∀ z ∈ s.lines, z.length ≤ 6000
  | .ite e ys ns, k, h => by
    have hw := Sm.words_ok c h
    simp only [Sm.Wf] at h
    intro z hz
    simp only [Sm.lines] at hz
    rcases List.mem_cons.mp hz with rfl | hz
    · exact rowS_len hw.1 hw.2
    · rcases List.mem_append.mp hz with hz | hz
      · exact Sm.linesL_sh c h.2.2.1 z hz
      · rcases List.mem_append.mp hz with hz | hz
        · by_cases hn : ns.isEmpty = true
          · rw [if_pos hn] at hz
            exact nomatch hz
          · rw [if_neg hn] at hz
            rcases List.mem_cons.mp hz with rfl | hz
            · decide +kernel
            · exact Sm.linesL_sh c h.2.2.2 z hz
        · rw [List.mem_singleton.mp hz]
          decide +kernel
  | .loop e b, k, h => by
    have hw := Sm.words_ok c h
    simp only [Sm.Wf] at h
    intro z hz
    simp only [Sm.lines] at hz
    rcases List.mem_cons.mp hz with rfl | hz
    · exact rowS_len hw.1 hw.2
    · rcases List.mem_append.mp hz with hz | hz
      · exact Sm.linesL_sh c h.2.2 z hz
      · rw [List.mem_singleton.mp hz]
        decide +kernel
  | .set x e, k, h => fun z hz => by
    have hw := Sm.words_ok c h
    simp only [Sm.lines] at hz
    rw [List.mem_singleton.mp hz]
    exact rowS_len hw.1 hw.2
  | .put r e f, k, h => fun z hz => by
    have hw := Sm.words_ok c h
    simp only [Sm.lines] at hz
    rw [List.mem_singleton.mp hz]
    exact rowS_len hw.1 hw.2
  | .tell e, k, h => fun z hz => by
    have hw := Sm.words_ok c h
    simp only [Sm.lines] at hz
    rw [List.mem_singleton.mp hz]
    exact rowS_len hw.1 hw.2
  | .call x hp es, k, h => fun z hz => by
    have hw := Sm.words_ok c h
    simp only [Sm.lines] at hz
    rw [List.mem_singleton.mp hz]
    exact rowS_len hw.1 hw.2
  | .fail n, k, h => fun z hz => by
    have hw := Sm.words_ok c h
    simp only [Sm.lines] at hz
    rw [List.mem_singleton.mp hz]
    exact rowS_len hw.1 hw.2
  | .give e, k, h => fun z hz => by
    have hw := Sm.words_ok c h
    simp only [Sm.lines] at hz
    rw [List.mem_singleton.mp hz]
    exact rowS_len hw.1 hw.2
theorem Sm.linesL_sh {nms rws : List Str} {hds : List (Str × Nat)} (c : Ctx nms rws hds) : ∀ {l : List Sm} {k : Nat}, Sm.Wfs nms rws hds l k → ∀ z ∈ Sm.linesL l, z.length ≤ 6000
  | [], _, _ => fun z hz => by simp [Sm.linesL] at hz
  | s :: r, k, h => fun z hz => by
    simp only [Sm.Wfs] at h
    simp only [Sm.linesL] at hz
    rcases List.mem_append.mp hz with hz | hz
    · exact Sm.lines_sh c h.1 z hz
    · exact Sm.linesL_sh c h.2.2 z hz
end

section
variable {P : Program} {w : World} {K : PySem.W.Frag} {mg : Str → Option Value} {base : Heap}
theorem sts_noL (l : List Sm) : nLd (.tuple (Sm.ds l)) = true := by
  simp only [nLd]
  exact Sm.noLs l
theorem ds_get {H : Hp} {ys : List V} {l : List Sm} {j : Nat} {y : V} (da : DpAll K H ys (Sm.ds l)) (hy : ys[j]? = some y) : ∃ s, l[j]? = some s ∧ Dp K H y s.d := by
  obtain ⟨dd, hdd, dx⟩ := dpAll_getV da hy
  rw [Sm.ds_eq, List.getElem?_map] at hdd
  obtain ⟨s, hs, rfl⟩ := Option.map_eq_some_iff.mp hdd
  exact ⟨s, hs, dx⟩
theorem ds_len {H : Hp} {ys : List V} {l : List Sm} (da : DpAll K H ys (Sm.ds l)) : ys.length = l.length := by
  rw [dpAll_len da, Sm.ds_eq, List.length_map]
theorem snocS (xs : List Str) (z : Str) : xs.map V.str ++ [V.str z] = (xs ++ [z]).map V.str := by simp
def sp_bl (K : PySem.W.Frag) (D : Nat) : Sp := fun vs H Q _ => ∃ (v : V) (l : List Sm) (k : Nat) (nms rws : List Str) (hds : List (Str × Nat)), vs = [v] ∧ Dp K H v (.tuple (Sm.ds l)) ∧ Sm.Wfs nms rws hds l k ∧ k < D ∧ Ctx nms rws hds ∧ Sm.sizes l ≤ 24 ∧
  ∀ H' p, Same H H' → H p = none → H' p = some (.lst ((Sm.linesL l).map V.str)) → Q (.ref p) H'
theorem ok_body_lines (T : Top K mg) : ∀ D : Nat, FnOk P w K mg base CX0 (D + 6) (He.ga K "body_lines") T.fd_body_lines ["body"] (sp_bl K D)
  | 0 => by
    refine T.F_body_lines.ok sc_body_lines (fun vs H Q E h => ?_) (fun cdv A outer s H vs Q E hr h => ?_)
    · obtain ⟨v, l, k, nms, rws, hds, rfl, _⟩ := h
      rfl
    · obtain ⟨v, l, k, nms, rws, hds, rfl, _, _, hk, _⟩ := h
      exact absurd hk (by omega)
  | D + 1 => by
    have G_body_lines := ok_body_lines T D
    have G_plain_words := ok_plain_words (P := P) (w := w) (base := base) T
    refine T.F_body_lines.ok sc_body_lines (fun vs H Q E h => ?_) (fun cdv A outer s H vs Q E hr h => ?_)
    · obtain ⟨v, l, k, nms, rws, hds, rfl, _⟩ := h
      rfl
    · obtain ⟨v, l, k, nms, rws, hds, rfl, dp, wf, hk, cx, sz, q⟩ := h
      refine ⟨_, PSs.nox (pss_cons (ps_set (i := 1) sc_body_lines.nd rfl (Or.inl rfl) (pe_lst pa_nil))
        (pss_cons (ps_for PassesOwn.never (by rfl) (pi_tup (pv 0)) (pg_name (i := 2) sc_body_lines.nd rfl (Or.inl rfl)) (pss_cons (ps_expr (pe_bm PySem.F.plainAttrs_list PySem.F.slot_list_append PySem.F.type_list_append mt_append (pv 1) (pa_cons (pe_join pe_str (pe_call G_plain_words (hr.mono (by omega)) (by rfl) T.g_plain_words T.F_plain_words.kp T.b_plain_words .nil pass0 (pa_cons (pv 2) pa_nil))) pa_nil)))
        (pss_one (ps_if (pt_cmpR op_in_seq (pe_ix ix_tup (pv 2) pe_int (fun _ _ => rfl)) (pe_tup (pa_cons pe_str (pa_cons pe_str pa_nil))) (by rfl)) (pss_cons (ps_aug (i := 1) sc_body_lines.nd rfl (Or.inl rfl) (pe_call G_body_lines (hr.mono (by omega)) (by rfl) T.g_body_lines T.F_body_lines.kp T.b_body_lines .nil pass0 (pa_cons (pe_ix ix_tup (pv 2) pe_int (fun _ _ => rfl)) pa_nil)) iop_ext)
        (pss_cons (ps_if (PW.pt (pw_and (pt_cmpR op_eq (pe_ix ix_tup (pv 2) pe_int (fun _ _ => rfl)) pe_str (nomark _)) (pw_and1 (pt_truth (pe_ix ix_tup (pv 2) pe_int (fun _ _ => rfl)) (by intro _; rfl))))) (pss_one (ps_aug (i := 1) sc_body_lines.nd rfl (Or.inl rfl) (pe_op op_cat (pe_lst (pa_cons pe_str pa_nil)) (pe_call G_body_lines (hr.mono (by omega)) (by rfl) T.g_body_lines T.F_body_lines.kp T.b_body_lines .nil pass0 (pa_cons (pe_ix ix_tup (pv 2) pe_int (fun _ _ => rfl)) pa_nil))) iop_ext)) pss_nil)
        (pss_one (ps_expr (pe_bm PySem.F.plainAttrs_list PySem.F.slot_list_append PySem.F.type_list_append mt_append (pv 1) (pa_cons pe_str pa_nil)))))) pss_nil))))
        (pss_one (ps_ret (pv 1))))), ?_⟩
      have big : ∀ n : Nat, n ≤ 10000 → n ≤ sizeLine := fun n h => by rw [sizeLine_eq]; omega
      have kS : ∀ {H1 H2 : Hp} {p : Addr} {xs : List V}, Same H1 H2 → SqT K H1 p xs → SqT K H2 p xs := fun s h => sqT_kp (Kp.of_same (S := fun _ => False) s) h
      obtain ⟨p0, ys, rfl, hs0, da⟩ := dp_tup dp
      refine ⟨Nat.zero_le _, fun L nL => ?_⟩
      have sU : ∀ {H' : Hp} {o : HO}, Same H H' → Same H (upd H' L o) := fun {H' o} s b x hb => by
        rw [upd_ne (ne_of_none hb nL)]
        exact s _ _ hb
      refine ⟨_, rfl, p0, rfl, ⟨_, kS (same_new nL) hs0⟩, for_tup (K := K) (xs := ys) (fun j σ' H' => Same H H' ∧ H' L = some (.lst ((Sm.linesL (l.take j)).map V.str)) ∧ ∃ x2, σ' = [some (.ref p0), some (.ref L), x2]) ?_ ?_ ?_ ?_⟩
      · exact ⟨same_new nL, by rw [upd_same, List.take_zero]; simp [Sm.linesL], none, rfl⟩
      · rintro j σ' H' _ ⟨s', _⟩
        exact kS s' hs0
      · rintro j y σ' H1 hy ⟨s1, e1, x2, rfl⟩
        obtain ⟨s, hs, dx0⟩ := ds_get da hy
        have wfs := wfs_mem wf (List.mem_of_getElem? hs)
        have szt := sizes_take hs
        have wk := Sm.words_ok cx wfs
        have l1 := Sm.linesL_len (l.take j)
        refine ⟨_, rfl, .inl ⟨rfl, _, .of e1⟩, ⟨_, rfl⟩, _, rfl, y, s, k, nms, rws, hds, rfl, dp_same dx0 s1 s.noL, wfs, cx, fun H2 m s2 nm em => ?_⟩
        refine ⟨_, m, s.words, rfl, rfl, .inl (.of em), join_fits wk.1 wk.2, ?_⟩
        have e2 := s2 _ _ e1
        refine ⟨L, _, _, rfl, rfl, e2, by rw [List.length_map, sizeLine_eq]; omega, ?_⟩
        rw [snocS]
        have s3 := sU (o := .lst ((Sm.linesL (l.take j) ++ [Txt.join " " s.words]).map V.str)) (s1.trans s2)
        have e3 : (upd H2 L (.lst ((Sm.linesL (l.take j) ++ [Txt.join " " s.words]).map V.str))) L = some (.lst ((Sm.linesL (l.take j) ++ [Txt.join " " s.words]).map V.str)) := upd_same
        generalize upd H2 L (.lst ((Sm.linesL (l.take j) ++ [Txt.join " " s.words]).map V.str)) = H3 at s3 e3
        rcases s.sort with ⟨wd, ds, d1, i1, li⟩ | ⟨wd, ed, b, ns, ds, ne⟩
        · rw [d1] at dx0
          obtain ⟨p, xs, rfl, hp, dax⟩ := dp_tup dx0
          obtain ⟨x0, r0, rfl, d0, _⟩ := dpAll_cons dax
          rw [dp_str d0] at hp
          refine ⟨_, rfl, p, _, 0, _, rfl, rfl, kS s3 hp, atI_nat (j := 0) rfl, big 2 (by decide), fun t nt => ?_⟩
          have st := same_new (o := .tup [.str "if", .str "while"]) nt
          refine ⟨t, _, rfl, .inr (.of upd_same), rfl, by decide +kernel, false, by show V.bl (inV _ _) = _; rw [i1], ?_⟩
          exact ⟨s3.trans st, by rw [linesL_take hs, li]; exact st _ _ e3, _, rfl⟩
        · rw [ne.d] at dx0
          obtain ⟨p, xs, rfl, hp, dax⟩ := dp_tup dx0
          obtain ⟨x0, r0, rfl, d0, dax1⟩ := dpAll_cons dax
          obtain ⟨x1, r1, rfl, d1, dax2⟩ := dpAll_cons dax1
          obtain ⟨x2', r2, rfl, d2, dax3⟩ := dpAll_cons dax2
          rw [dp_str d0] at hp
          obtain ⟨k0, wb, wn⟩ := ne.w _ _ _ _ wfs
          have zz := ne.z
          refine ⟨_, rfl, p, _, 0, _, rfl, rfl, kS s3 hp, atI_nat (j := 0) rfl, big 2 (by decide), fun t nt => ?_⟩
          have st := same_new (o := .tup [.str "if", .str "while"]) nt
          have iw : inV (.str wd) [.str "if", .str "while"] = true := by
            rcases ne.k with ⟨rfl, _⟩ | ⟨rfl, _⟩ <;> decide +kernel
          refine ⟨t, _, rfl, .inr (.of upd_same), rfl, by decide +kernel, true, by show V.bl (inV _ _) = _; rw [iw], ?_⟩
          have s4 := s3.trans st
          have e4 := st _ _ e3
          generalize hH4 : upd H3 t (.tup [.str "if", .str "while"]) = H4 at st s4 e4
          refine ⟨_, rfl, _, rfl, p, _, 2, _, rfl, rfl, kS s4 hp, atI_nat (j := 2) rfl, x2', b, k - 1, nms, rws, hds, rfl, dp_same d2 s4 (sts_noL b), wb, by omega, cx, by omega, fun H5 m5 s5 n5 e5 => ?_⟩
          have lb := Sm.linesL_len b
          have ln := Sm.linesL_len ns
          refine ⟨L, m5, _, _, rfl, rfl, s5 _ _ e4, e5, by rw [List.length_map, List.length_map, List.length_append, sizeLine_eq]; simp only [List.length_cons, List.length_nil]; omega, ?_⟩
          rw [← List.map_append]
          generalize hA : Sm.linesL (l.take j) ++ [Txt.join " " s.words] ++ Sm.linesL b = A
          have lA : A.length ≤ 150 := by
            rw [← hA, List.length_append, List.length_append]
            simp only [List.length_cons, List.length_nil]
            omega
          have s6 := sU (o := .lst (A.map V.str)) (s4.trans s5)
          have e6 : (upd H5 L (.lst (A.map V.str))) L = some (.lst (A.map V.str)) := upd_same
          generalize upd H5 L (.lst (A.map V.str)) = H6 at s6 e6
          dsimp only [gName]
          refine ifs_by (fun σ' H' => Same H H' ∧ H' L = some (.lst ((A ++ elsL ns).map V.str)) ∧ σ' = [some (.ref p0), some (.ref L), some (.ref p)]) ?_ ?_
          · rintro σ' H7 ⟨s7, e7, rfl⟩
            have lE : (elsL ns).length ≤ 100 := by
              unfold elsL
              split
              · exact Nat.zero_le _
              · rw [List.length_cons]
                omega
            refine ⟨_, rfl, .inl ⟨rfl, _, .of e7⟩, L, _, _, rfl, rfl, e7, by rw [List.length_map, List.length_append, sizeLine_eq]; omega, sU s7, ?_, _, rfl⟩
            rw [upd_same, snocS, linesL_take hs, ne.l, ← hA]
            simp only [List.append_assoc, List.cons_append, List.nil_append]
            rfl
          · intro N hN
            refine ⟨_, rfl, p, _, 0, _, rfl, rfl, kS s6 hp, atI_nat (j := 0) rfl, rfl, _, rfl, ?_⟩
            rcases ne.k with ⟨rfl, rfl⟩ | ⟨rfl, rfl, rfl⟩
            · refine ifD rfl ?_
              obtain ⟨x3, r3, rfl, d3, _⟩ := dpAll_cons dax3
              obtain ⟨pn, zs, rfl, hz, dz⟩ := dp_tup d3
              refine ⟨_, rfl, p, _, 3, _, rfl, rfl, kS s6 hp, atI_nat (j := 3) rfl, _, .inr (.inl ⟨zs, kS s6 hz, rfl⟩), ?_⟩
              cases ns with
              | nil =>
                have : zs = [] := List.eq_nil_of_length_eq_zero (by rw [ds_len dz]; rfl)
                subst this
                exact hN _ _ ⟨s6, by rw [e6]; simp [elsL], rfl⟩
              | cons n1 nr =>
                have zl : zs.isEmpty = false := by
                  cases zs with
                  | nil => have := ds_len dz; simp at this
                  | cons _ _ => rfl
                rw [zl]
                refine ⟨_, rfl, big 1 (by decide), fun o no => ?_⟩
                have so := same_new (o := .lst [.str "else"]) no
                have s7 := s6.trans so
                refine ⟨_, rfl, p, _, 3, _, rfl, rfl, kS s7 hp, atI_nat (j := 3) rfl, _, n1 :: nr, k - 1, nms, rws, hds, rfl, dp_same d3 s7 (sts_noL _), wn, by omega, cx, by omega, fun H8 m8 s8 n8 e8 => ?_⟩
                refine ⟨o, m8, _, _, rfl, rfl, s8 _ _ upd_same, e8, by rw [List.length_map, sizeLine_eq]; simp only [List.length_cons, List.length_nil]; omega, fun o2 no2 => ?_⟩
                have so2 := same_new (o := .lst ([.str "else"] ++ (Sm.linesL (n1 :: nr)).map V.str)) no2
                refine ⟨L, o2, _, _, rfl, rfl, so2 _ _ (s8 _ _ (so _ _ e6)), upd_same, by rw [List.length_map, List.length_append, List.length_map, sizeLine_eq]; simp only [List.length_cons, List.length_nil]; omega, ?_⟩
                refine hN _ _ ⟨sU ((s7.trans s8).trans so2), ?_, rfl⟩
                rw [upd_same, List.map_append]
                rfl
            · refine ifN (fun z => absurd (V.str.inj z) (by decide +kernel)) ?_
              exact hN _ _ ⟨s6, by rw [e6]; simp [elsL], rfl⟩
      · rintro σ' H' ⟨s', e', x2, rfl⟩
        have el : l.take ys.length = l := List.take_of_length_le (by rw [ds_len da]; exact Nat.le_refl _)
        rw [el] at e'
        exact ⟨_, rfl, q _ L s' nL e'⟩
end

/-! the text of a program: plain facts -/
def BdT (l : List Sm) : Prop := ∃ nms rws hds, Ctx nms rws hds ∧ Sm.Wfs nms rws hds l 4 ∧ Sm.sizes l ≤ 24
structure HpT (h : Str × List Str × List Sm) : Prop where
  nm : h.1.length ≤ 40
  ps : Shs h.2.1
  pl : h.2.1.length ≤ 4
  bd : BdT h.2.2
structure PgT (p : Pg) : Prop where
  hl : p.hs.length ≤ 4
  hs : ∀ h ∈ p.hs, HpT h
  pl : p.ps.length ≤ 4
  ps : Shs p.ps
  rl : p.rs.length ≤ 3
  rs : ∀ r ∈ p.rs, r.1.length ≤ 40 ∧ r.2 ≤ 8
  bd : BdT p.bd
theorem BdT.len {l : List Sm} (h : BdT l) : (Sm.linesL l).length ≤ 72 := by
  obtain ⟨_, _, _, _, _, z⟩ := h
  have := Sm.linesL_len l
  omega
theorem BdT.sh {l : List Sm} (h : BdT l) : ∀ z ∈ Sm.linesL l, z.length ≤ 6000 := by
  obtain ⟨_, _, _, c, w, _⟩ := h
  exact Sm.linesL_sh c w
theorem HpT.len {h : Str × List Str × List Sm} (t : HpT h) : (hpL h).length ≤ 74 := by
  have := t.bd.len
  simp only [hpL, List.length_cons, List.length_append, List.length_nil]
  omega
theorem HpT.words {h : Str × List Str × List Sm} (t : HpT h) : Shs ("helper" :: h.1 :: h.2.1) ∧ ("helper" :: h.1 :: h.2.1 : List Str).length ≤ 130 :=
  ⟨Shs.cons (by decide +kernel) (Shs.cons t.nm t.ps), by have := t.pl; simp only [List.length_cons]; omega⟩
theorem HpT.sh {h : Str × List Str × List Sm} (t : HpT h) : ∀ z ∈ hpL h, z.length ≤ 6000 := by
  intro z hz
  simp only [hpL] at hz
  rcases List.mem_cons.mp hz with rfl | hz
  · exact rowS_len t.words.1 t.words.2
  · rcases List.mem_append.mp hz with hz | hz
    · exact t.bd.sh z hz
    · rw [List.mem_singleton.mp hz]
      decide +kernel
theorem hpsL_len : ∀ {hs : List (Str × List Str × List Sm)}, (∀ h ∈ hs, HpT h) → (hs.flatMap hpL).length ≤ 74 * hs.length
  | [], _ => by simp
  | h :: r, t => by
    have a := (t h (List.mem_cons_self ..)).len
    have b := hpsL_len fun x hx => t x (List.mem_cons_of_mem _ hx)
    rw [List.flatMap_cons, List.length_append, List.length_cons]
    omega
theorem hpsL_take {hs : List (Str × List Str × List Sm)} {j : Nat} {h : Str × List Str × List Sm} (e : hs[j]? = some h) : (hs.take (j + 1)).flatMap hpL = (hs.take j).flatMap hpL ++ hpL h := by
  rw [List.take_add_one, e, List.flatMap_append]
  simp
theorem PgT.main {p : Pg} (t : PgT p) : Shs ("main" :: p.ps) ∧ ("main" :: p.ps : List Str).length ≤ 130 :=
  ⟨Shs.cons (by decide +kernel) t.ps, by have := t.pl; simp only [List.length_cons]; omega⟩
theorem rw32 {n : Nat} (h : n ≤ 8) : In32 (n : Int) := ⟨by omega, by omega⟩
theorem row_ok {r : Str × Nat} (h : r.1.length ≤ 40 ∧ r.2 ≤ 8) : Shs ["row", r.1, numS r.2] := Shs.cons (by decide +kernel) (Shs.cons h.1 (Shs.cons (numS_len (rw32 h.2)) fun z hz => nomatch hz))
theorem PgT.sh {p : Pg} (t : PgT p) : ∀ z ∈ p.lines, z.length ≤ 6000 := by
  intro z hz
  simp only [Pg.lines] at hz
  rcases List.mem_append.mp hz with hz | hz
  · obtain ⟨h, hh, hz⟩ := List.mem_flatMap.mp hz
    exact (t.hs h hh).sh z hz
  · rcases List.mem_cons.mp hz with rfl | hz
    · exact rowS_len t.main.1 t.main.2
    · rcases List.mem_append.mp hz with hz | hz
      · obtain ⟨r, hr, rfl⟩ := List.mem_map.mp hz
        exact rowS_len (row_ok (t.rs r hr)) (by simp)
      · rcases List.mem_append.mp hz with hz | hz
        · exact t.bd.sh z hz
        · rw [List.mem_singleton.mp hz]
          decide +kernel
theorem PgT.len {p : Pg} (t : PgT p) : p.lines.length ≤ 400 := by
  have a := hpsL_len t.hs
  have b := t.bd.len
  have c := t.hl
  have d := t.rl
  simp only [Pg.lines, List.length_append, List.length_cons, List.length_map, List.length_nil]
  omega
theorem sum_le' {B : Nat} (ws : List Str) (h : ∀ z ∈ ws, z.length ≤ B) : (ws.map (·.length)).sum ≤ B * ws.length := by
  induction ws with
  | nil => simp
  | cons x r ih =>
    have i := ih fun z hz => h z (List.mem_cons_of_mem _ hz)
    have j := h x (List.mem_cons_self ..)
    rw [List.map_cons, List.sum_cons, List.length_cons, Nat.mul_add, Nat.mul_one]
    omega
theorem PgT.join {p : Pg} (t : PgT p) : (((p.lines.map fun l => l ++ nlS)).map (·.length)).sum + (p.lines.map fun l => l ++ nlS).length * (Str.ofString "").length ≤ 16777216 := by
  have a := sum_le' (B := 6001) (p.lines.map fun l => l ++ nlS) fun z hz => by
    obtain ⟨l, hl, rfl⟩ := List.mem_map.mp hz
    have := t.sh l hl
    rw [Str.length_append]
    have e : nlS.length = 1 := by decide +kernel
    omega
  have b := t.len
  have e : (Str.ofString "").length = 0 := by decide +kernel
  rw [List.length_map] at a ⊢
  rw [e]
  omega
theorem row_text (a b : Str) : ("row " : Str) ++ a ++ " " ++ b = rowS ["row", a, b] := by
  unfold rowS
  rw [TL.join_eq]
  show _ = (Str.ofString "row" ++ Str.ofString " " ++ (a ++ Str.ofString " " ++ b))
  have e : ("row " : Str) = Str.ofString "row" ++ Str.ofString " " := by decide +kernel
  rw [e]
  simp only [Str.append_assoc]
theorem textOf_eq (ls : List Str) : Txt.join (Str.ofString "") (ls.map fun l => l ++ Str.ofString "\n") = textOf ls := by
  have e : (Str.ofString "") = Str.empty := by decide +kernel
  rw [e]
  rfl

section
variable {P : Program} {w : World} {K : PySem.W.Frag} {mg : Str → Option Value} {base : Heap}
theorem hp_get {H : Hp} {ys : List V} {l : List (Str × List Str × List Sm)} {j : Nat} {y : V} (da : DpAll K H ys (l.map hpD)) (hy : ys[j]? = some y) : ∃ h py pp b, l[j]? = some h ∧ y = .ref py ∧ SqT K H py [.str h.1, .ref pp, b] ∧ SqT K H pp (h.2.1.map V.str) ∧ Dp K H b (.tuple (Sm.ds h.2.2)) := by
  obtain ⟨dd, hdd, dx⟩ := dpAll_getV da hy
  rw [List.getElem?_map] at hdd
  obtain ⟨h, hh, rfl⟩ := Option.map_eq_some_iff.mp hdd
  obtain ⟨py, ws, rfl, hw, daw⟩ := dp_tup dx
  obtain ⟨x0, r0, rfl, d0, da1⟩ := dpAll_cons daw
  obtain ⟨x1, r1, rfl, d1, da2⟩ := dpAll_cons da1
  obtain ⟨x2, r2, rfl, d2, da3⟩ := dpAll_cons da2
  obtain ⟨pp, zs, rfl, hz, dz⟩ := dp_tup d1
  rw [dpAll_nil da3, dp_str d0] at hw
  rw [dpAll_strs dz] at hz
  exact ⟨h, py, pp, x2, hh, rfl, hw, hz, d2⟩
theorem rw_get {H : Hp} {ys : List V} {l : List (Str × Nat)} {j : Nat} {y : V} (da : DpAll K H ys (l.map rwD)) (hy : ys[j]? = some y) : ∃ r py, l[j]? = some r ∧ y = .ref py ∧ SqT K H py [.str r.1, .int r.2] := by
  obtain ⟨dd, hdd, dx⟩ := dpAll_getV da hy
  rw [List.getElem?_map] at hdd
  obtain ⟨h, hh, rfl⟩ := Option.map_eq_some_iff.mp hdd
  obtain ⟨py, ws, rfl, hw, daw⟩ := dp_tup dx
  obtain ⟨x0, r0, rfl, d0, da1⟩ := dpAll_cons daw
  obtain ⟨x1, r1, rfl, d1, da2⟩ := dpAll_cons da1
  rw [dpAll_nil da2, dp_str d0, dp_int d1] at hw
  exact ⟨h, py, hh, rfl, hw⟩
/-- a program on the heap -/
theorem pg_at {H : Hp} {v : V} {p : Pg} (dp : Dp K H v p.d) : ∃ p0 ph pp pr pb hv rv bv, v = .ref p0 ∧ SqT K H p0 [.ref ph, .ref pp, .ref pr, .ref pb] ∧ SqT K H ph hv ∧ DpAll K H hv (p.hs.map hpD) ∧ SqT K H pp (p.ps.map V.str) ∧
    SqT K H pr rv ∧ DpAll K H rv (p.rs.map rwD) ∧ SqT K H pb bv ∧ DpAll K H bv (Sm.ds p.bd) := by
  obtain ⟨p0, xs, rfl, hs, da⟩ := dp_tup dp
  obtain ⟨x0, r0, rfl, d0, da1⟩ := dpAll_cons da
  obtain ⟨x1, r1, rfl, d1, da2⟩ := dpAll_cons da1
  obtain ⟨x2, r2, rfl, d2, da3⟩ := dpAll_cons da2
  obtain ⟨x3, r3, rfl, d3, da4⟩ := dpAll_cons da3
  obtain ⟨ph, hv, rfl, h1, h2⟩ := dp_tup d0
  obtain ⟨pp, zs, rfl, hz, dz⟩ := dp_tup d1
  obtain ⟨pr, rv, rfl, h3, h4⟩ := dp_tup d2
  obtain ⟨pb, bv, rfl, h5, h6⟩ := dp_tup d3
  rw [dpAll_nil da4] at hs
  rw [dpAll_strs dz] at hz
  exact ⟨p0, ph, pp, pr, pb, hv, rv, bv, rfl, hs, h1, h2, hz, h3, h4, h5, h6⟩
def sp_wr (K : PySem.W.Frag) : Sp := fun vs H Q _ => ∃ (v : V) (p : Pg), vs = [v] ∧ Dp K H v p.d ∧ PgT p ∧ ∀ H', Same H H' → Q (.str (textOf p.lines)) H'
theorem ok_written (T : Top K mg) : FnOk P w K mg base CX0 12 (He.ga K "written") T.fd_written ["program"] (sp_wr K) := by
  have G_body_lines := ok_body_lines (P := P) (w := w) (base := base) T 5
  refine T.F_written.ok sc_written (fun vs H Q E h => ?_) (fun cdv A outer s H vs Q E hr h => ?_)
  · obtain ⟨v, p, rfl, _⟩ := h
    rfl
  · obtain ⟨v, p, rfl, dp, pt, q⟩ := h
    refine ⟨_, PSs.nox (pss_cons (ps_set (i := 1) sc_written.nd rfl (Or.inl rfl) (pe_lst pa_nil))
        (pss_cons (ps_for PassesOwn.never (by rfl) (pi_tup (pe_ix ix_tup (pv 0) pe_int (fun _ _ => rfl))) (pg_tup (by rfl) (pgs_cons (pg_name (i := 2) sc_written.nd rfl (Or.inl rfl)) (pgs_cons (pg_name (i := 3) sc_written.nd rfl (Or.inl rfl)) (pgs_cons (pg_name (i := 4) sc_written.nd rfl (Or.inl rfl)) pgs_nil)))) (pss_one (ps_aug (i := 1) sc_written.nd rfl (Or.inl rfl) (pe_op op_cat (pe_op op_cat (pe_lst (pa_cons (pe_join pe_str (pe_op op_cat (pe_lst (pa_cons pe_str (pa_cons (pv 2) pa_nil))) (pe_callTy call_list_of (by rfl) T.m_list (by decide +kernel) (pa_cons (pv 3) pa_nil)))) pa_nil)) (pe_call G_body_lines (hr.mono (by omega)) (by rfl) T.g_body_lines T.F_body_lines.kp T.b_body_lines .nil pass0 (pa_cons (pv 4) pa_nil))) (pe_lst (pa_cons pe_str pa_nil))) iop_ext)))
        (pss_cons (ps_expr (pe_bm PySem.F.plainAttrs_list PySem.F.slot_list_append PySem.F.type_list_append mt_append (pv 1) (pa_cons (pe_join pe_str (pe_op op_cat (pe_lst (pa_cons pe_str pa_nil)) (pe_callTy call_list_of (by rfl) T.m_list (by decide +kernel) (pa_cons (pe_ix ix_tup (pv 0) pe_int (fun _ _ => rfl)) pa_nil)))) pa_nil)))
        (pss_cons (ps_for PassesOwn.never (by rfl) (pi_tup (pe_ix ix_tup (pv 0) pe_int (fun _ _ => rfl))) (pg_tup (by rfl) (pgs_cons (pg_name (i := 2) sc_written.nd rfl (Or.inl rfl)) (pgs_cons (pg_name (i := 5) sc_written.nd rfl (Or.inl rfl)) pgs_nil))) (pss_one (ps_expr (pe_bm PySem.F.plainAttrs_list PySem.F.slot_list_append PySem.F.type_list_append mt_append (pv 1) (pa_cons (pe_joined (.cons pe_str (.cons (pe_fmt (pv 2)) (.cons pe_str (.cons (pe_fmt (pv 5)) .nil))))) pa_nil)))))
        (pss_cons (ps_aug (i := 1) sc_written.nd rfl (Or.inl rfl) (pe_op op_cat (pe_call G_body_lines (hr.mono (by omega)) (by rfl) T.g_body_lines T.F_body_lines.kp T.b_body_lines .nil pass0 (pa_cons (pe_ix ix_tup (pv 0) pe_int (fun _ _ => rfl)) pa_nil)) (pe_lst (pa_cons pe_str pa_nil))) iop_ext)
        (pss_one (ps_ret (pe_join pe_str (pe_lc (own := [("line", 6)]) (by rfl) sc_written.nd (pi_list (pv 1)) (blkOk_by (own := [("line", 6)]) (N := N_written) (sc := defScope s_written) (by decide +kernel)) (fun _ _ _ _ _ => (pg_name (i := 6) sc_written.nd rfl (Or.inl rfl))) (fun _ _ _ _ _ => pts_nil) (fun _ _ _ _ _ => (pe_op op_add_str (pv 6) pe_str))))))))))), ?_⟩
    have big : ∀ n : Nat, n ≤ 10000 → n ≤ sizeLine := fun n h => by rw [sizeLine_eq]; omega
    have kS : ∀ {H1 H2 : Hp} {p : Addr} {xs : List V}, Same H1 H2 → SqT K H1 p xs → SqT K H2 p xs := fun s h => sqT_kp (Kp.of_same (S := fun _ => False) s) h
    obtain ⟨p0, ph, pp, pr, pb, hv, rv, bv, rfl, h0, hh, dh, hp, hr2, dr, hb, db⟩ := pg_at dp
    refine ⟨Nat.zero_le _, fun L nL => ?_⟩
    have sU : ∀ {H' : Hp} {o : HO}, Same H H' → Same H (upd H' L o) := fun {H' o} s b x hb => by
      rw [upd_ne (ne_of_none hb nL)]
      exact s _ _ hb
    have s0 := same_new (o := .lst []) nL
    refine ⟨_, rfl, p0, _, 0, _, rfl, rfl, kS s0 h0, atI_nat (j := 0) rfl, ph, rfl, ⟨_, kS s0 hh⟩, for_tup (K := K) (xs := hv) (fun j σ' H' => Same H H' ∧ H' L = some (.lst (((p.hs.take j).flatMap hpL).map V.str)) ∧ ∃ x2 x3 x4, σ' = [some (.ref p0), some (.ref L), x2, x3, x4, none, none]) ?_ ?_ ?_ ?_⟩
    · exact ⟨s0, upd_same, none, none, none, rfl⟩
    · rintro j σ' H' _ ⟨s', _⟩
      exact kS s' hh
    · rintro j y σ' H1 hy ⟨s1, e1, x2, x3, x4, rfl⟩
      obtain ⟨h, py, pq, b, hj, rfl, hw, hq, hb2⟩ := hp_get dh hy
      have ht := pt.hs h (List.mem_of_getElem? hj)
      have ln1 : ((p.hs.take j).flatMap hpL).length ≤ 300 := by
        have := hpsL_len (hs := p.hs.take j) fun x hx => pt.hs x (List.mem_of_mem_take hx)
        rw [List.length_take] at this
        have := pt.hl
        omega
      obtain ⟨nms, rws, hds, cx, wfb, szb⟩ := ht.bd
      refine ⟨py, _, rfl, kS s1 hw, rfl, _, _, rfl, _, _, rfl, _, _, rfl, rfl, ?_⟩
      refine ⟨_, rfl, ⟨_, rfl⟩, _, rfl, big 2 (by decide), fun l1 n1 => ?_⟩
      have t1 := same_new (o := .lst (([("helper" : Str), h.1] : List Str).map V.str)) n1
      have s2 := s1.trans t1
      refine ⟨_, rfl, pq, _, rfl, .inr (kS s2 hq), fun l2 n2 => ?_⟩
      have t2 := same_new (o := .lst (h.2.1.map V.str)) n2
      have s3 := s2.trans t2
      have pl := ht.pl
      refine ⟨l1, l2, ([("helper" : Str), h.1] : List Str).map V.str, _, rfl, rfl, t2 _ _ upd_same, upd_same, by rw [List.length_map, List.length_map, sizeLine_eq]; simp only [List.length_cons, List.length_nil]; omega, fun l3 n3 => ?_⟩
      rw [← List.map_append]
      have t3 := same_new (o := .lst ((([("helper" : Str), h.1] : List Str) ++ h.2.1).map V.str)) n3
      have s4 := s3.trans t3
      refine ⟨_, l3, _, rfl, rfl, .inl (.of upd_same), join_fits ht.words.1 ht.words.2, ?_⟩
      refine ⟨big 1 (by decide), fun l4 n4 => ?_⟩
      have t4 := same_new (o := .lst (([rowS ("helper" :: h.1 :: h.2.1)] : List Str).map V.str)) n4
      have s5 := s4.trans t4
      refine ⟨_, rfl, b, h.2.2, 4, nms, rws, hds, rfl, dp_same hb2 s5 (sts_noL _), wfb, by omega, cx, szb, fun H6 m6 s6 n6 e6 => ?_⟩
      have lb := ht.bd.len
      have e64 : H6 l4 = some (.lst (([rowS ("helper" :: h.1 :: h.2.1)] : List Str).map V.str)) := s6 _ _ upd_same
      refine ⟨l4, m6, _, _, rfl, rfl, e64, e6, by rw [List.length_map, List.length_map, sizeLine_eq]; simp only [List.length_cons, List.length_nil]; omega, fun l7 n7 => ?_⟩
      rw [← List.map_append]
      have t7 := same_new (o := .lst ((([rowS ("helper" :: h.1 :: h.2.1)] : List Str) ++ Sm.linesL h.2.2).map V.str)) n7
      refine ⟨big 1 (by decide), fun l8 n8 => ?_⟩
      have t8 := same_new (o := .lst (([kEnd] : List Str).map V.str)) n8
      refine ⟨l7, l8, _, ([kEnd] : List Str).map V.str, rfl, rfl, t8 _ _ upd_same, upd_same, by rw [List.length_map, List.length_map, List.length_append, sizeLine_eq]; simp only [List.length_cons, List.length_nil]; omega, fun l9 n9 => ?_⟩
      rw [← List.map_append]
      have t9 := same_new (o := .lst (((([rowS ("helper" :: h.1 :: h.2.1)] : List Str) ++ Sm.linesL h.2.2) ++ [kEnd]).map V.str)) n9
      have s9 := (((s5.trans s6).trans t7).trans t8).trans t9
      have e9 := t9 _ _ (t8 _ _ (t7 _ _ (s6 _ _ (t4 _ _ (t3 _ _ (t2 _ _ (t1 _ _ e1)))))))
      refine ⟨L, l9, _, _, rfl, rfl, e9, upd_same, by rw [List.length_map, List.length_map, List.length_append, List.length_append, sizeLine_eq]; simp only [List.length_cons, List.length_nil]; omega, sU s9, ?_, _, _, _, rfl⟩
      rw [upd_same, hpsL_take hj, ← List.map_append]
      rfl
    rintro σ' H1 ⟨s1, e1, x2, x3, x4, rfl⟩
    have el : p.hs.take hv.length = p.hs := List.take_of_length_le (by rw [dpAll_len dh, List.length_map]; exact Nat.le_refl _)
    rw [el] at e1
    have lh : (p.hs.flatMap hpL).length ≤ 300 := by
      have := hpsL_len pt.hs
      have := pt.hl
      omega
    refine ⟨_, rfl, .inl ⟨rfl, _, .of e1⟩, ⟨_, rfl⟩, big 1 (by decide), fun l1 n1 => ?_⟩
    have t1 := same_new (o := .lst (([("main" : Str)] : List Str).map V.str)) n1
    have s2 := s1.trans t1
    refine ⟨_, rfl, p0, _, 1, _, rfl, rfl, kS s2 h0, atI_nat (j := 1) rfl, pp, _, rfl, .inr (kS s2 hp), fun l2 n2 => ?_⟩
    have t2 := same_new (o := .lst (p.ps.map V.str)) n2
    have s3 := s2.trans t2
    have pl := pt.pl
    refine ⟨l1, l2, ([("main" : Str)] : List Str).map V.str, _, rfl, rfl, t2 _ _ upd_same, upd_same, by rw [List.length_map, List.length_map, sizeLine_eq]; simp only [List.length_cons, List.length_nil]; omega, fun l3 n3 => ?_⟩
    rw [← List.map_append]
    have t3 := same_new (o := .lst ((([("main" : Str)] : List Str) ++ p.ps).map V.str)) n3
    have s4 := s3.trans t3
    refine ⟨_, l3, _, rfl, rfl, .inl (.of upd_same), join_fits pt.main.1 pt.main.2, ?_⟩
    have e4 := t3 _ _ (t2 _ _ (t1 _ _ e1))
    refine ⟨L, _, _, rfl, rfl, e4, by rw [List.length_map, sizeLine_eq]; omega, ?_⟩
    rw [snocS]
    generalize hA : p.hs.flatMap hpL ++ [Txt.join (Str.ofString " ") (([("main" : Str)] : List Str) ++ p.ps)] = A
    have lA : A.length ≤ 301 := by
      rw [← hA, List.length_append]
      simp only [List.length_cons, List.length_nil]
      omega
    have s5 := sU (o := .lst (A.map V.str)) s4
    have e5 : (upd (upd (upd (upd H1 l1 (.lst [V.str (Str.ofString "main")])) l2 (.lst (p.ps.map V.str))) l3 (.lst ((([("main" : Str)] : List Str) ++ p.ps).map V.str))) L (.lst (A.map V.str))) L = some (.lst (A.map V.str)) := upd_same
    generalize upd (upd (upd (upd H1 l1 (.lst [V.str (Str.ofString "main")])) l2 (.lst (p.ps.map V.str))) l3 (.lst ((([("main" : Str)] : List Str) ++ p.ps).map V.str))) L (.lst (A.map V.str)) = H5 at s5 e5
    have rl := pt.rl
    refine ⟨_, rfl, p0, _, 2, _, rfl, rfl, kS s5 h0, atI_nat (j := 2) rfl, pr, rfl, ⟨_, kS s5 hr2⟩, for_tup (K := K) (xs := rv) (fun j σ' H' => Same H H' ∧ H' L = some (.lst ((A ++ (p.rs.take j).map rwL).map V.str)) ∧ ∃ x2 x3 x4 x5, σ' = [some (.ref p0), some (.ref L), x2, x3, x4, x5, none]) ?_ ?_ ?_ ?_⟩
    · exact ⟨s5, by rw [e5]; simp, _, _, _, _, rfl⟩
    · rintro j σ' H' _ ⟨s', _⟩
      exact kS s' hr2
    · rintro j y σ' H6 hy ⟨s6, e6, x2, x3, x4, x5, rfl⟩
      obtain ⟨r, py, hj, rfl, hw⟩ := rw_get dr hy
      have rk := pt.rs r (List.mem_of_getElem? hj)
      have nl := nat_log (r.2 : Int) (rw32 rk.2)
      have nl2 := numS_len (rw32 rk.2)
      refine ⟨py, _, rfl, kS s6 hw, rfl, _, _, rfl, _, _, rfl, rfl, ?_⟩
      refine ⟨_, rfl, .inl ⟨rfl, _, .of e6⟩, ?_⟩
      have z1 : (Str.ofString "row ").length = 4 := by decide +kernel
      have z2 : (Str.ofString " ").length = 1 := by decide +kernel
      have z0 : Str.empty.length = 0 := by decide +kernel
      have rk1 := rk.1
      unfold numS at nl2
      refine ⟨_, rfl, by rw [Str.length_append, sizeLine_eq]; omega, ?_⟩
      refine ⟨_, rfl, .inl ⟨_, rfl, by rw [sizeLine_eq]; omega, ?_⟩⟩
      refine ⟨_, rfl, by rw [Str.length_append, Str.length_append, sizeLine_eq]; omega, ?_⟩
      refine ⟨_, rfl, by rw [Str.length_append, Str.length_append, Str.length_append, sizeLine_eq]; omega, ?_⟩
      refine ⟨_, rfl, .inr ⟨_, rfl, nl, ?_⟩⟩
      refine ⟨_, rfl, by rw [Str.length_append, Str.length_append, Str.length_append, Str.length_append, sizeLine_eq]; omega, ?_⟩
      refine ⟨L, _, _, rfl, rfl, e6, by rw [List.length_map, List.length_append, List.length_map, List.length_take, sizeLine_eq]; omega, sU s6, ?_, _, _, _, _, rfl⟩
      rw [upd_same, snocS, List.take_add_one, hj, List.map_append]
      have : Str.empty ++ Str.ofString "row " ++ r.1 ++ Str.ofString " " ++ Str.ofString (toString (r.2 : Int)) = rwL r := by
        have e : Str.empty ++ Str.ofString "row " = Str.ofString "row " := by decide +kernel
        rw [e, row_text]
        rfl
      rw [this]
      simp
    rintro σ' H6 ⟨s6, e6, x2, x3, x4, x5, rfl⟩
    have el : p.rs.take rv.length = p.rs := List.take_of_length_le (by rw [dpAll_len dr, List.length_map]; exact Nat.le_refl _)
    rw [el] at e6
    obtain ⟨nms, rws, hds, cx, wfb, szb⟩ := pt.bd
    have lb := pt.bd.len
    have dbt : Dp K H (.ref pb) (.tuple (Sm.ds p.bd)) := .tup hb db
    refine ⟨_, rfl, _, rfl, p0, _, 3, _, rfl, rfl, kS s6 h0, atI_nat (j := 3) rfl, _, p.bd, 4, nms, rws, hds, rfl, dp_same dbt s6 (sts_noL _), wfb, by omega, cx, szb, fun H7 m7 s7 n7 e7 => ?_⟩
    refine ⟨big 1 (by decide), fun l8 n8 => ?_⟩
    have t8 := same_new (o := .lst (([kEnd] : List Str).map V.str)) n8
    refine ⟨m7, l8, _, ([kEnd] : List Str).map V.str, rfl, rfl, t8 _ _ e7, upd_same, by rw [List.length_map, List.length_map, sizeLine_eq]; simp only [List.length_cons, List.length_nil]; omega, fun l9 n9 => ?_⟩
    rw [← List.map_append]
    have t9 := same_new (o := .lst ((Sm.linesL p.bd ++ [kEnd]).map V.str)) n9
    have s9 := ((s6.trans s7).trans t8).trans t9
    have e9 := t9 _ _ (t8 _ _ (s7 _ _ e6))
    refine ⟨L, l9, _, _, rfl, rfl, e9, upd_same, by rw [List.length_map, List.length_map, List.length_append, List.length_append, List.length_map, sizeLine_eq]; simp only [List.length_cons, List.length_nil]; omega, ?_⟩
    rw [← List.map_append]
    have whole : A ++ p.rs.map rwL ++ (Sm.linesL p.bd ++ [kEnd]) = p.lines := by
      rw [← hA]
      simp only [Pg.lines, List.append_assoc, List.cons_append, List.nil_append]
      rfl
    rw [whole]
    have s10 := sU (o := .lst (p.lines.map V.str)) s9
    have e10 : (upd (upd (upd H7 l8 (.lst [V.str (Str.ofString "end")])) l9 (.lst ((Sm.linesL p.bd ++ [kEnd]).map V.str))) L (.lst (p.lines.map V.str))) L = some (.lst (p.lines.map V.str)) := upd_same
    generalize upd (upd (upd H7 l8 (.lst [V.str (Str.ofString "end")])) l9 (.lst ((Sm.linesL p.bd ++ [kEnd]).map V.str))) L (.lst (p.lines.map V.str)) = H10 at s10 e10
    refine ⟨⟨_, rfl⟩, _, rfl, L, rfl, ⟨_, .of e10⟩, fun D nD => ?_⟩
    have pln := pt.len
    refine lc_list (K := K) (a := L) (xs := p.lines.map V.str) (fun j H' => Same H10 H' ∧ H' D = some (.lst (((p.lines.take j).map fun l => l ++ Str.ofString "\n").map V.str))) ?_ ?_ ?_ ?_
    · exact ⟨same_new nD, upd_same⟩
    · rintro j H' _ ⟨s', _⟩
      exact .of (s' _ _ e10)
    · rintro j x H' hx ⟨s', e'⟩
      rw [List.getElem?_map] at hx
      obtain ⟨z, hz, rfl⟩ := Option.map_eq_some_iff.mp hx
      have zl := pt.sh z (List.mem_of_getElem? hz)
      have z1 : (Str.ofString "\n").length = 1 := by decide +kernel
      refine ⟨rfl, _, rfl, _, _, rfl, rfl, by rw [sizeLine_eq]; omega, _, e', by rw [List.length_map, List.length_map, List.length_take, sizeLine_eq]; omega, ?_, ?_⟩
      · intro b o hb
        rw [upd_ne (ne_of_none hb nD)]
        exact s' b o hb
      · rw [upd_same, List.take_add_one, hz, snocS]
        simp
    rintro H11 ⟨s11, e11⟩
    rw [List.length_map, List.take_length] at e11
    refine ⟨_, D, _, rfl, rfl, .inl (.of e11), pt.join, ?_⟩
    rw [textOf_eq]
    exact q _ (s10.trans s11)
end

section
variable {P : Program} {w : World} {K : PySem.W.Frag} {mg : Str → Option Value} {base : Heap}
theorem ok__law_words_of (T : Top K mg) : ∀ d : Nat, FnOk P w K mg base CX0 (d + 1) (He.ga K "_law_words_of") T.fd__law_words_of ["_law_e"] (sp_words K d)
  | 0 => by
    refine T.F__law_words_of.ok sc__law_words_of (fun vs H Q E h => ?_) (fun cdv A outer s H vs Q E hr h => ?_)
    · obtain ⟨v, e, nms, rws, rfl, _⟩ := h
      rfl
    · obtain ⟨v, e, nms, rws, rfl, _, wf, _⟩ := h
      exact wf.elim
  | d + 1 => by
    have G__law_words_of := ok__law_words_of T d
    refine T.F__law_words_of.ok sc__law_words_of (fun vs H Q E h => ?_) (fun cdv A outer s H vs Q E hr h => ?_)
    · obtain ⟨v, e, nms, rws, rfl, _⟩ := h
      rfl
    · obtain ⟨v, e, nms, rws, rfl, dp, wf, hd, q⟩ := h
      refine ⟨_, PSs.nox (pss_cons (ps_if (pt_cmpR op_in_seq (pe_ix ix_tup (pv 0) pe_int (fun _ _ => rfl)) (pe_lst (pa_cons pe_str (pa_cons pe_str pa_nil))) (by rfl)) (pss_one (ps_ret (pe_lst (pa_cons (pe_callTy call_str_any (by rfl) T.m_str (by decide +kernel) (pa_cons (pe_ix ix_tup (pv 0) pe_int (fun _ _ => rfl)) pa_nil)) pa_nil)))) pss_nil)
        (pss_cons (ps_if (pt_cmpR op_eq (pe_ix ix_tup (pv 0) pe_int (fun _ _ => rfl)) pe_str (nomark _)) (pss_one (ps_ret (pe_op op_cat (pe_lst (pa_cons pe_str (pa_cons (pe_ix ix_tup (pv 0) pe_int (fun _ _ => rfl)) pa_nil))) (pe_call G__law_words_of (hr.mono (by omega)) (by rfl) T.g__law_words_of T.F__law_words_of.kp T.b__law_words_of .nil pass0 (pa_cons (pe_ix ix_tup (pv 0) pe_int (fun _ _ => rfl)) pa_nil))))) pss_nil)
        (pss_cons (ps_set (i := 1) sc__law_words_of.nd rfl (Or.inl rfl) (pe_lst (pa_cons (pe_ix ix_tup (pv 0) pe_int (fun _ _ => rfl)) pa_nil)))
        (pss_cons (ps_for PassesOwn.never (by rfl) (pi_tup (pe_slice sl_tupA (pv 0) (po_some pe_int) po_none)) (pg_name (i := 2) sc__law_words_of.nd rfl (Or.inl rfl)) (pss_one (ps_set (i := 1) sc__law_words_of.nd rfl (Or.inl rfl) (pe_op op_cat (pv 1) (pe_call G__law_words_of (hr.mono (by omega)) (by rfl) T.g__law_words_of T.F__law_words_of.kp T.b__law_words_of .nil pass0 (pa_cons (pv 2) pa_nil))))))
        (pss_one (ps_ret (pv 1))))))), ?_⟩
      have big : ∀ n : Nat, n ≤ 10000 → n ≤ sizeLine := fun n h => by rw [sizeLine_eq]; omega
      have wl2 : e.words.length ≤ 30 := Ex.words30 (wf.mono hd)
      -- a word with parts
      refine via (fun wd es => e.d = .tuple (.str wd :: es.map Ex.d) ∧ e.words = wd :: wordsL es ∧ (∀ x ∈ es, x.Wf nms rws d) ∧ es.length ≤ 2 ∧ inV (.str wd) [.str "number", .str "name"] = false ∧ wd ≠ "at") (fun wd es h => ?_) fun leaf' => ?_
      · obtain ⟨h1, h2, h3, h4, h5, h6⟩ := h
        rw [h1] at dp
        rw [h2] at q wl2
        obtain ⟨p, xs, rfl, hs, da⟩ := dp_tup dp
        obtain ⟨x0, xs, rfl, d0, da⟩ := dpAll_cons da
        rw [dp_str d0] at hs
        refine ⟨_, rfl, p, _, 0, _, rfl, rfl, hs, atI_nat (j := 0) rfl, big 2 (by decide), fun t nt => ?_⟩
        have st := same_new (o := .lst [.str "number", .str "name"]) nt
        have hs2 := sqT_kp (Kp.of_same (S := fun _ => False) st) hs
        refine ⟨t, _, rfl, .inl (.of upd_same), rfl, by decide +kernel, false, by show V.bl (inV _ _) = _; rw [h5], ?_⟩
        refine ⟨_, rfl, p, _, 0, _, rfl, rfl, hs2, atI_nat (j := 0) rfl, rfl, _, rfl, ifN (fun z => h6 (V.str.inj z)) ?_⟩
        refine ⟨_, rfl, p, _, 0, _, rfl, rfl, hs2, atI_nat (j := 0) rfl, big 1 (by decide), fun L nL => ?_⟩
        have sL := same_new (o := .lst [.str wd]) nL
        have hs3 := sqT_kp (Kp.of_same (S := fun _ => False) sL) hs2
        have s2 := st.trans sL
        have nL0 : H L = none := st.free nL
        refine ⟨_, rfl, 1, rfl, p, _, rfl, hs3, fun z => absurd z (not_whole _ _), fun _ S nS => ?_⟩
        rw [cutV_1]
        have sS := same_new (o := .tup xs) nS
        refine ⟨S, rfl, ⟨_, .of upd_same⟩, for_tup (K := K) (xs := xs) (fun j σ' H' => Same H H' ∧ SqT K H' S xs ∧ ∃ Lj x2, H Lj = none ∧ H' Lj = some (.lst ((wd :: wordsL (es.take j)).map V.str)) ∧ σ' = [some (.ref p), some (.ref Lj), x2]) ?_ ?_ ?_ ?_⟩
        · exact ⟨s2.trans sS, .of upd_same, L, none, nL0, sS _ _ upd_same, rfl⟩
        · rintro j σ' H' _ ⟨_, h, _⟩
          exact h
        · rintro j x σ' H' hx ⟨s', hS', Lj, x2, nj, e', rfl⟩
          obtain ⟨dd, hdd, dx⟩ := dpAll_getV (dpAll_same da s' (exs_noL es)) hx
          rw [List.getElem?_map] at hdd
          obtain ⟨ex, hex, rfl⟩ := Option.map_eq_some_iff.mp hdd
          have wfx := h3 ex (List.mem_of_getElem? hex)
          refine ⟨_, rfl, _, rfl, x, ex, nms, rws, rfl, dx, wfx, by omega, fun H3 m s3 nm em => ?_⟩
          have e3 := s3 _ _ e'
          have bnd : (wordsL (es.take j)).length ≤ 60 := by
            have := wordsL_len (nms := nms) (rws := rws) (es := es.take j) fun y hy => (h3 y (List.mem_of_mem_take hy)).mono (by omega)
            rw [List.length_take] at this
            omega
          have bx : ex.words.length ≤ 30 := Ex.words30 (wfx.mono (by omega))
          refine ⟨Lj, m, _, _, rfl, rfl, e3, em, by rw [List.length_map, List.length_map, List.length_cons, sizeLine_eq]; omega, fun o no => ?_⟩
          rw [← List.map_append, List.cons_append, ← wordsL_take hex]
          have so := same_new (o := .lst ((wd :: wordsL (es.take (j + 1))).map V.str)) no
          have s4 := (s'.trans s3).trans so
          exact ⟨s4, sqT_kp (Kp.of_same (S := fun _ => False) (s3.trans so)) hS', o, _, (s'.trans s3).free no, upd_same, rfl⟩
        · rintro σ' H' ⟨s', _, Lj, x2, nj, e', rfl⟩
          have el : es.take xs.length = es := List.take_of_length_le (by rw [dpAll_len da, List.length_map]; exact Nat.le_refl _)
          rw [el] at e'
          exact ⟨_, rfl, q _ Lj s' nj e'⟩
      have leaf := fun wd es h1 h2 h3 h4 h5 h6 => leaf' wd es ⟨h1, h2, h3, h4, h5, h6⟩
      cases e with
      | num n =>
        obtain ⟨p, xs, rfl, hs, da⟩ := dp_tup dp
        obtain ⟨x0, r0, rfl, d0, da⟩ := dpAll_cons da
        obtain ⟨x1, r1, rfl, d1, da⟩ := dpAll_cons da
        rw [dpAll_nil da, dp_str d0, dp_int d1] at hs
        refine ⟨_, rfl, p, _, 0, _, rfl, rfl, hs, atI_nat (j := 0) rfl, big 2 (by decide), fun t nt => ?_⟩
        have st := same_new (o := .lst [.str "number", .str "name"]) nt
        refine ⟨t, _, rfl, .inl (.of upd_same), rfl, by decide +kernel, true, by decide +kernel, ?_⟩
        refine ⟨_, rfl, p, _, 1, _, rfl, rfl, sqT_kp (Kp.of_same (S := fun _ => False) st) hs, atI_nat (j := 1) rfl, .inl ⟨_, rfl, nat_log n wf, big 1 (by decide), fun l nl => ?_⟩⟩
        exact q _ l (st.trans (same_new nl)) (st.free nl) upd_same
      | nam x =>
        obtain ⟨p, xs, rfl, hs, da⟩ := dp_tup dp
        obtain ⟨x0, r0, rfl, d0, da⟩ := dpAll_cons da
        obtain ⟨x1, r1, rfl, d1, da⟩ := dpAll_cons da
        rw [dpAll_nil da, dp_str d0, dp_str d1] at hs
        refine ⟨_, rfl, p, _, 0, _, rfl, rfl, hs, atI_nat (j := 0) rfl, big 2 (by decide), fun t nt => ?_⟩
        have st := same_new (o := .lst [.str "number", .str "name"]) nt
        refine ⟨t, _, rfl, .inl (.of upd_same), rfl, by decide +kernel, true, by decide +kernel, ?_⟩
        refine ⟨_, rfl, p, _, 1, _, rfl, rfl, sqT_kp (Kp.of_same (S := fun _ => False) st) hs, atI_nat (j := 1) rfl, .inr ⟨_, rfl, big 1 (by decide), fun l nl => ?_⟩⟩
        exact q _ l (st.trans (same_new nl)) (st.free nl) upd_same
      | at_ r e =>
        obtain ⟨p, xs, rfl, hs, da⟩ := dp_tup dp
        obtain ⟨x0, r0, rfl, d0, da⟩ := dpAll_cons da
        obtain ⟨x1, r1, rfl, d1, da⟩ := dpAll_cons da
        obtain ⟨x2, r2, rfl, d2, da⟩ := dpAll_cons da
        rw [dpAll_nil da, dp_str d0, dp_str d1] at hs
        refine ⟨_, rfl, p, _, 0, _, rfl, rfl, hs, atI_nat (j := 0) rfl, big 2 (by decide), fun t nt => ?_⟩
        have st := same_new (o := .lst [.str "number", .str "name"]) nt
        have hs2 := sqT_kp (Kp.of_same (S := fun _ => False) st) hs
        refine ⟨t, _, rfl, .inl (.of upd_same), rfl, by decide +kernel, false, by decide +kernel, ?_⟩
        refine ⟨_, rfl, p, _, 0, _, rfl, rfl, hs2, atI_nat (j := 0) rfl, rfl, _, rfl, ifD rfl ?_⟩
        refine ⟨_, rfl, p, _, 1, _, rfl, rfl, hs2, atI_nat (j := 1) rfl, big 2 (by decide), fun l nl => ?_⟩
        have sl := same_new (o := .lst [.str "at", .str r]) nl
        have s2 := st.trans sl
        refine ⟨_, rfl, p, _, 2, _, rfl, rfl, sqT_kp (Kp.of_same (S := fun _ => False) sl) hs2, atI_nat (j := 2) rfl, x2, e, nms, rws, rfl, dp_same d2 s2 e.noL, wf.2, by omega, fun H3 m s3 nm em => ?_⟩
        have wl3 : e.words.length ≤ 30 := Ex.words30 (Ex.Wf.mono (by omega) wf.2)
        refine ⟨l, m, _, _, rfl, rfl, s3 _ _ upd_same, em, by rw [List.length_map]; simp only [List.length_cons, List.length_nil]; rw [sizeLine_eq]; omega, fun o no => ?_⟩
        exact q _ o ((s2.trans s3).trans (same_new no)) ((s2.trans s3).free no) upd_same
      | no e =>
        exact leaf "not" [e] rfl (by simp [Ex.words, wordsL]) (fun x hx => by rw [List.mem_singleton.mp hx]; exact wf) (by show 1 ≤ 2; decide) (by decide +kernel) (by decide +kernel)
      | op wd a b =>
        refine leaf wd [a, b] rfl (by simp [Ex.words, wordsL]) (fun x hx => ?_) (by show 2 ≤ 2; decide) (w7_a wd wf.1).1 (w7_a wd wf.1).2
        rcases List.mem_cons.mp hx with rfl | hx
        · exact wf.2.1
        · rw [List.mem_singleton.mp hx]
          exact wf.2.2
end

/-! a statement's parts -/
inductive Pt where
  | s (z : Str)
  | n (i : Int)
  | e (x : Ex)
  | es (l : List Ex)
  | b (l : List Sm)
def Pt.d : Pt → PyData
  | .s z => .str z
  | .n i => .int i
  | .e x => x.d
  | .es l => .tuple (l.map Ex.d)
  | .b l => .tuple (Sm.ds l)
def Pt.words : Pt → List Str
  | .s z => [z]
  | .n i => [numS i]
  | .e x => x.words
  | .es l => wordsL l
  | .b _ => []
def Sm.wd : Sm → Str
  | .set _ _ => "set"
  | .put _ _ _ => "put"
  | .tell _ => "tell"
  | .ite _ _ _ => "if"
  | .loop _ _ => "while"
  | .call _ _ _ => "call"
  | .fail _ => "fail"
  | .give _ => "give"
def Sm.parts : Sm → List Pt
  | .set x e => [.s x, .e e]
  | .put r e f => [.s r, .e e, .e f]
  | .tell e => [.e e]
  | .ite e ys ns => [.e e, .b ys, .b ns]
  | .loop e b => [.e e, .b b]
  | .call x h es => [.s x, .s h, .es es]
  | .fail n => [.n n]
  | .give e => [.e e]
theorem Sm.d_parts (s : Sm) : s.d = .tuple (.str s.wd :: s.parts.map Pt.d) := by
  cases s <;> simp only [Sm.d, Sm.wd, Sm.parts, List.map_cons, List.map_nil, Pt.d]
theorem Sm.words_parts (s : Sm) : s.words = s.wd :: s.parts.flatMap Pt.words := by
  cases s <;> simp [Sm.words, Sm.wd, Sm.parts, Pt.words]
def nests : List V := [.str "if", .str "while"]
def PartOk (nms rws : List Str) (wd : Str) (pre : List Pt) : Pt → Prop
  | .s _ => True
  | .n i => In32 i
  | .e x => x.Wf nms rws 4 ∧ wd ≠ "call" ∧ (inV (.str wd) nests = false ∨ pre = [])
  | .es l => wd = "call" ∧ l.length ≤ 4 ∧ ∀ x ∈ l, x.Wf nms rws 4
  | .b _ => wd ≠ "call" ∧ inV (.str wd) nests = true ∧ 1 ≤ (pre.flatMap Pt.words).length
theorem Ex.words_pos (e : Ex) : 1 ≤ e.words.length := by
  cases e <;> simp [Ex.words]
theorem Sm.parts_ok {nms rws : List Str} {hds : List (Str × Nat)} (c : Ctx nms rws hds) {s : Sm} {k : Nat} (h : s.Wf nms rws hds k) : ∀ (j : Nat) p, s.parts[j]? = some p → PartOk nms rws s.wd (s.parts.take j) p := by
  intro j p hp
  cases s <;> simp only [Sm.Wf] at h <;> simp only [Sm.parts, Sm.wd] at hp ⊢
  case set x e =>
    match j, hp with
    | 0, hp => cases hp; trivial
    | 1, hp => cases hp; exact ⟨h.2, by decide +kernel, .inl (by decide +kernel)⟩
    | j + 2, hp => cases hp
  case put r e f =>
    match j, hp with
    | 0, hp => cases hp; trivial
    | 1, hp => cases hp; exact ⟨h.2.1, by decide +kernel, .inl (by decide +kernel)⟩
    | 2, hp => cases hp; exact ⟨h.2.2, by decide +kernel, .inl (by decide +kernel)⟩
    | j + 3, hp => cases hp
  case tell e =>
    match j, hp with
    | 0, hp => cases hp; exact ⟨h, by decide +kernel, .inl (by decide +kernel)⟩
    | j + 1, hp => cases hp
  case give e =>
    match j, hp with
    | 0, hp => cases hp; exact ⟨h, by decide +kernel, .inl (by decide +kernel)⟩
    | j + 1, hp => cases hp
  case fail n =>
    match j, hp with
    | 0, hp => cases hp; exact ⟨by omega, by omega⟩
    | j + 1, hp => cases hp
  case ite e ys ns =>
    have := e.words_pos
    match j, hp with
    | 0, hp => cases hp; exact ⟨h.2.1, by decide +kernel, .inr rfl⟩
    | 1, hp => cases hp; exact ⟨by decide +kernel, by decide +kernel, by simpa [Pt.words] using this⟩
    | 2, hp => cases hp; exact ⟨by decide +kernel, by decide +kernel, by simpa [Pt.words] using this⟩
    | j + 3, hp => cases hp
  case loop e b =>
    have := e.words_pos
    match j, hp with
    | 0, hp => cases hp; exact ⟨h.2.1, by decide +kernel, .inr rfl⟩
    | 1, hp => cases hp; exact ⟨by decide +kernel, by decide +kernel, by simpa [Pt.words] using this⟩
    | j + 2, hp => cases hp
  case call x hp' es =>
    match j, hp with
    | 0, hp => cases hp; trivial
    | 1, hp => cases hp; trivial
    | 2, hp => cases hp; exact ⟨rfl, (c.h _ h.2.1).1, h.2.2⟩
    | j + 3, hp => cases hp
theorem partsL_take {ps : List Pt} {j : Nat} {p : Pt} (h : ps[j]? = some p) : (ps.take (j + 1)).flatMap Pt.words = (ps.take j).flatMap Pt.words ++ p.words := by
  rw [List.take_add_one, h, List.flatMap_append]
  simp
theorem flatMap_take_le (ps : List Pt) (j : Nat) : ((ps.take j).flatMap Pt.words).length ≤ (ps.flatMap Pt.words).length := by
  have e : ps.flatMap Pt.words = (ps.take j).flatMap Pt.words ++ (ps.drop j).flatMap Pt.words := by rw [← List.flatMap_append, List.take_append_drop]
  rw [e, List.length_append]
  omega
theorem ty_tup {K : PySem.W.Frag} {H : Hp} {a : Addr} {xs : List V} (h : SqT K H a xs) : TyX K H (.ref a) (.type "tuple") := by
  rcases h with (h | ⟨ob, h⟩) | ⟨o, its, n, hk, hc, _⟩
  · exact .base (.tup h)
  · exact .fTuple h
  · exact .kTuple hk hc
theorem isi_str {K : PySem.W.Frag} : PySem.W.kitAny K (.type "str") [.type "str", .type "int"] = some true := kitAny_cons (kit_ty (r := true) (by decide +kernel)) (fun z => nomatch z) fun _ => rfl
theorem isi_int {K : PySem.W.Frag} : PySem.W.kitAny K (.type "int") [.type "str", .type "int"] = some true := kitAny_cons (kit_ty (r := false) (by decide +kernel)) (fun _ => kitAny_cons (kit_ty (r := true) (by decide +kernel)) (fun z => nomatch z) fun _ => rfl) (fun z => nomatch z)
theorem isi_tup {K : PySem.W.Frag} : PySem.W.kitAny K (.type "tuple") [.type "str", .type "int"] = some false := kitAny_cons (kit_ty (r := false) (by decide +kernel)) (fun _ => kitAny_cons (kit_ty (r := false) (by decide +kernel)) (fun _ => rfl) (fun z => nomatch z)) (fun z => nomatch z)
theorem Pt.noL : ∀ p : Pt, nLd p.d = true
  | .s _ => rfl
  | .n _ => rfl
  | .e x => x.noL
  | .es l => by simp only [Pt.d, nLd]; exact exs_noL l
  | .b l => sts_noL l
theorem pts_noL (l : List Pt) : nLs (l.map Pt.d) = true := noLs_all fun x hx => by
  obtain ⟨z, _, rfl⟩ := List.mem_map.mp hx
  exact z.noL

section
variable {P : Program} {w : World} {K : PySem.W.Frag} {mg : Str → Option Value} {base : Heap}
theorem ex_at {H : Hp} {v : V} {e : Ex} (h : Dp K H v e.d) : ∃ a xs, v = .ref a ∧ SqT K H a xs := by
  cases e <;> (obtain ⟨a, xs, rfl, hs, _⟩ := dp_tup h; exact ⟨a, xs, rfl, hs⟩)
def sp_sl (K : PySem.W.Frag) (D : Nat) : Sp := fun vs H Q _ => ∃ (v : V) (s : Sm) (k : Nat) (nms rws : List Str) (hds : List (Str × Nat)), vs = [v] ∧ Dp K H v s.d ∧ s.Wf nms rws hds k ∧ k < D ∧ Ctx nms rws hds ∧ s.size ≤ 24 ∧
  ∀ H' p, Same H H' → H p = none → H' p = some (.lst (s.lines.map V.str)) → Q (.ref p) H'
theorem ok_sl (T : Top K mg) : ∀ D : Nat, FnOk P w K mg base CX0 (D + 6) (He.ga K "_law_statement_lines") T.fd__law_statement_lines ["_law_s"] (sp_sl K D)
  | 0 => by
    refine T.F__law_statement_lines.ok sc__law_statement_lines (fun vs H Q E h => ?_) (fun cdv A outer s H vs Q E hr h => ?_)
    · obtain ⟨v, l, k, nms, rws, hds, rfl, _⟩ := h
      rfl
    · obtain ⟨v, l, k, nms, rws, hds, rfl, _, _, hk, _⟩ := h
      exact absurd hk (by omega)
  | D + 1 => by
    have G__law_statement_lines := ok_sl T D
    have G__law_words_of := ok__law_words_of (P := P) (w := w) (base := base) T 4
    refine T.F__law_statement_lines.ok sc__law_statement_lines (fun vs H Q E h => ?_) (fun cdv A outer s H vs Q E hr h => ?_)
    · obtain ⟨v, s, k, nms, rws, hds, rfl, _⟩ := h
      rfl
    · obtain ⟨v, s, k, nms, rws, hds, rfl, dp, wf, hk, cx, sz, q⟩ := h
      refine ⟨_, PSs.nox (pss_cons (ps_set (i := 1) sc__law_statement_lines.nd rfl (Or.inl rfl) (pe_lst (pa_cons (pe_ix ix_tup (pv 0) pe_int (fun _ _ => rfl)) pa_nil)))
        (pss_cons (ps_for PassesOwn.never (by rfl) (pi_tup (pe_slice sl_tupA (pv 0) (po_some pe_int) po_none)) (pg_name (i := 2) sc__law_statement_lines.nd rfl (Or.inl rfl)) (pss_one (ps_if (pt_val (pe_callB call_isiT (by rfl) T.m_isinstance (by decide +kernel) (pa_cons (pv 2) (pa_cons (pe_tup (pa_cons (pe_bltn (v := .ty "str") (by rfl) T.m_str (by decide +kernel) rfl) (pa_cons (pe_bltn (v := .ty "int") (by rfl) T.m_int (by decide +kernel) rfl) pa_nil))) pa_nil)))) (pss_one (ps_expr (pe_bm PySem.F.plainAttrs_list PySem.F.slot_list_append PySem.F.type_list_append mt_append (pv 1) (pa_cons (pe_callTy call_str_any (by rfl) T.m_str (by decide +kernel) (pa_cons (pv 2) pa_nil)) pa_nil)))) (pss_one (ps_if (pt_cmpR op_eq (pe_ix ix_tup (pv 0) pe_int (fun _ _ => rfl)) pe_str (nomark _)) (pss_one (ps_for PassesOwn.never (by rfl) (pi_tup (pv 2)) (pg_name (i := 3) sc__law_statement_lines.nd rfl (Or.inl rfl)) (pss_one (ps_set (i := 1) sc__law_statement_lines.nd rfl (Or.inl rfl) (pe_op op_cat (pv 1) (pe_call G__law_words_of (hr.mono (by omega)) (by rfl) T.g__law_words_of T.F__law_words_of.kp T.b__law_words_of .nil pass0 (pa_cons (pv 3) pa_nil))))))) (pss_one (ps_if (PW.pt (pw_or (pt_cmpR op_notIn_seq (pe_ix ix_tup (pv 0) pe_int (fun _ _ => rfl)) (pe_lst (pa_cons pe_str (pa_cons pe_str pa_nil))) (by rfl)) (pw_or1 (pt_cmpR op_eq (pe_callB call_len_seq (by rfl) T.m_len (by decide +kernel) (pa_cons (pv 1) pa_nil)) pe_int (nomark _))))) (pss_one (ps_set (i := 1) sc__law_statement_lines.nd rfl (Or.inl rfl) (pe_op op_cat (pv 1) (pe_call G__law_words_of (hr.mono (by omega)) (by rfl) T.g__law_words_of T.F__law_words_of.kp T.b__law_words_of .nil pass0 (pa_cons (pv 2) pa_nil))))) pss_nil)))))))
        (pss_cons (ps_set (i := 4) sc__law_statement_lines.nd rfl (Or.inl rfl) (pe_lst (pa_cons (pe_join pe_str (pv 1)) pa_nil)))
        (pss_cons (ps_if (pt_cmpR op_in_seq (pe_ix ix_tup (pv 0) pe_int (fun _ _ => rfl)) (pe_lst (pa_cons pe_str (pa_cons pe_str pa_nil))) (by rfl)) (pss_cons (ps_for PassesOwn.never (by rfl) (pi_tup (pe_ix ix_tup (pv 0) pe_int (fun _ _ => rfl))) (pg_name (i := 5) sc__law_statement_lines.nd rfl (Or.inl rfl)) (pss_one (ps_set (i := 4) sc__law_statement_lines.nd rfl (Or.inl rfl) (pe_op op_cat (pv 4) (pe_call G__law_statement_lines (hr.mono (by omega)) (by rfl) T.g__law_statement_lines T.F__law_statement_lines.kp T.b__law_statement_lines .nil pass0 (pa_cons (pv 5) pa_nil))))))
        (pss_cons (ps_if (PW.pt (pw_and (pt_cmpR op_eq (pe_ix ix_tup (pv 0) pe_int (fun _ _ => rfl)) pe_str (nomark _)) (pw_and1 (pt_cmpR op_gt (pe_callB call_len_seq (by rfl) T.m_len (by decide +kernel) (pa_cons (pe_ix ix_tup (pv 0) pe_int (fun _ _ => rfl)) pa_nil)) pe_int (nomark _))))) (pss_cons (ps_expr (pe_bm PySem.F.plainAttrs_list PySem.F.slot_list_append PySem.F.type_list_append mt_append (pv 4) (pa_cons pe_str pa_nil)))
        (pss_one (ps_for PassesOwn.never (by rfl) (pi_tup (pe_ix ix_tup (pv 0) pe_int (fun _ _ => rfl))) (pg_name (i := 5) sc__law_statement_lines.nd rfl (Or.inl rfl)) (pss_one (ps_set (i := 4) sc__law_statement_lines.nd rfl (Or.inl rfl) (pe_op op_cat (pv 4) (pe_call G__law_statement_lines (hr.mono (by omega)) (by rfl) T.g__law_statement_lines T.F__law_statement_lines.kp T.b__law_statement_lines .nil pass0 (pa_cons (pv 5) pa_nil)))))))) pss_nil)
        (pss_one (ps_expr (pe_bm PySem.F.plainAttrs_list PySem.F.slot_list_append PySem.F.type_list_append mt_append (pv 4) (pa_cons pe_str pa_nil)))))) pss_nil)
        (pss_one (ps_ret (pv 4))))))), ?_⟩
      have big : ∀ n : Nat, n ≤ 10000 → n ≤ sizeLine := fun n h => by rw [sizeLine_eq]; omega
      have kS : ∀ {H1 H2 : Hp} {p : Addr} {xs : List V}, Same H1 H2 → SqT K H1 p xs → SqT K H2 p xs := fun s h => sqT_kp (Kp.of_same (S := fun _ => False) s) h
      have sU : ∀ {H' : Hp} {L : Addr} {o : HO}, Same H H' → H L = none → Same H (upd H' L o) := fun {H' L o} s nL b x hb => by
        rw [upd_ne (ne_of_none hb nL)]
        exact s _ _ hb
      have wk := Sm.words_ok cx wf
      have dp0 := dp
      rw [s.d_parts] at dp
      obtain ⟨p, xs0, rfl, hp, da0⟩ := dp_tup dp
      obtain ⟨x0, xs, rfl, d0, da⟩ := dpAll_cons da0
      rw [dp_str d0] at hp
      refine ⟨_, rfl, p, _, 0, _, rfl, rfl, hp, atI_nat (j := 0) rfl, big 1 (by decide), fun L nL => ?_⟩
      have s1 := same_new (o := .lst [.str s.wd]) nL
      refine ⟨_, rfl, 1, rfl, p, _, rfl, kS s1 hp, fun z => absurd z (not_whole _ _), fun _ S nS => ?_⟩
      rw [cutV_1]
      have sS := same_new (o := .tup xs) nS
      refine ⟨S, rfl, ⟨_, .of upd_same⟩, for_tup (K := K) (xs := xs) (fun j σ' H' => Same H H' ∧ SqT K H' S xs ∧ ∃ Lj x2 x3, H Lj = none ∧ H' Lj = some (.lst ((s.wd :: (s.parts.take j).flatMap Pt.words).map V.str)) ∧ σ' = [some (.ref p), some (.ref Lj), x2, x3, none, none]) ?_ ?_ ?_ ?_⟩
      · exact ⟨s1.trans sS, .of upd_same, L, none, none, nL, sS _ _ upd_same, rfl⟩
      · rintro j σ' H' _ ⟨_, h, _⟩
        exact h
      · rintro j y σ' H1 hy ⟨s1, hS1, Lj, x2, x3, nj, e1, rfl⟩
        obtain ⟨dd, hdd, dx⟩ := dpAll_getV da hy
        rw [List.getElem?_map] at hdd
        obtain ⟨pt, hpt, rfl⟩ := Option.map_eq_some_iff.mp hdd
        have po := Sm.parts_ok cx wf j pt hpt
        have wl : ((s.parts.take (j + 1)).flatMap Pt.words).length ≤ 130 := by
          have := flatMap_take_le s.parts (j + 1)
          have w2 := wk.2
          rw [s.words_parts, List.length_cons] at w2
          omega
        have pt1 := partsL_take hpt
        rw [pt1, List.length_append] at wl
        refine ⟨_, rfl, big 2 (by decide), fun tp np => ?_⟩
        have st := same_new (o := .tup [.ty "str", .ty "int"]) np
        have s2 := s1.trans st
        have e2 := st _ _ e1
        have hS2 := kS st hS1
        cases pt with
        | s z =>
          rw [dp_str dx]
          refine ⟨_, tp, _, _, _, true, rfl, upd_same, .cons (.ty _) (.cons (.ty _) .nil), .base (.str z), isi_str, true, rfl, ?_⟩
          refine ⟨_, rfl, .inl ⟨rfl, _, .of e2⟩, _, rfl, .inr ⟨_, rfl, ?_⟩⟩
          refine ⟨Lj, _, _, rfl, rfl, e2, by rw [List.length_map, List.length_cons, sizeLine_eq]; omega, sU s2 nj, sqT_kp (Kp.upd (S := fun b => b = Lj) e2 trivial rfl) hS2, Lj, _, _, nj, ?_, rfl⟩
          rw [upd_same, snocS, pt1]
          rfl
        | n i =>
          rw [dp_int dx]
          refine ⟨_, tp, _, _, _, true, rfl, upd_same, .cons (.ty _) (.cons (.ty _) .nil), .base (.int i), isi_int, true, rfl, ?_⟩
          refine ⟨_, rfl, .inl ⟨rfl, _, .of e2⟩, _, rfl, .inl ⟨_, rfl, nat_log i po, ?_⟩⟩
          refine ⟨Lj, _, _, rfl, rfl, e2, by rw [List.length_map, List.length_cons, sizeLine_eq]; omega, sU s2 nj, sqT_kp (Kp.upd (S := fun b => b = Lj) e2 trivial rfl) hS2, Lj, _, _, nj, ?_, rfl⟩
          rw [upd_same, snocS, pt1]
          rfl
        | e x =>
          obtain ⟨px, zs, rfl, hz⟩ := ex_at dx
          refine ⟨_, tp, _, _, _, false, rfl, upd_same, .cons (.ty _) (.cons (.ty _) .nil), ty_tup (kS s2 hz), isi_tup, false, rfl, ?_⟩
          refine ⟨_, rfl, p, _, 0, _, rfl, rfl, kS s2 hp, atI_nat (j := 0) rfl, rfl, _, rfl, ifN (fun z => po.2.1 (V.str.inj z)) ?_⟩
          refine ⟨_, rfl, p, _, 0, _, rfl, rfl, kS s2 hp, atI_nat (j := 0) rfl, big 2 (by decide), fun tl ntl => ?_⟩
          have sl := same_new (o := .lst nests) ntl
          have s3 := s2.trans sl
          refine ⟨tl, _, rfl, .inl (.of upd_same), rfl, by decide +kernel, !inV (.str s.wd) nests, rfl, ?_⟩
          have e3 := sl _ _ e2
          have hS3 := kS sl hS2
          refine ite_share ?_ fun hc leaf => ?_
          · refine ⟨_, rfl, _, rfl, _, x, nms, rws, rfl, dp_same dx s3 x.noL, po.1, Nat.le_refl _, fun H4 m s4 nm em => ?_⟩
            refine ⟨Lj, m, _, _, rfl, rfl, s4 _ _ e3, em, by rw [List.length_map, List.length_map, List.length_cons, sizeLine_eq]; have : x.words.length = (Pt.e x).words.length := rfl; omega, fun o no => ?_⟩
            rw [← List.map_append, List.cons_append]
            have so := same_new (o := .lst ((s.wd :: ((s.parts.take j).flatMap Pt.words ++ x.words)).map V.str)) no
            refine ⟨(s3.trans s4).trans so, kS (s4.trans so) hS3, o, _, _, (s3.trans s4).free no, ?_, rfl⟩
            rw [upd_same, pt1]
            rfl
          · refine ⟨_, rfl, Lj, _, rfl, .inl (.of e3), rfl, _, rfl, ifD ?_ leaf⟩
            rcases po.2.2 with iv | pre
            · rw [iv] at hc
              exact absurd rfl hc
            · rw [pre]
              rfl
        | es l =>
          obtain ⟨px, zs, rfl, hz, daz⟩ := dp_tup dx
          refine ⟨_, tp, _, _, _, false, rfl, upd_same, .cons (.ty _) (.cons (.ty _) .nil), ty_tup (kS s2 hz), isi_tup, false, rfl, ?_⟩
          refine ⟨_, rfl, p, _, 0, _, rfl, rfl, kS s2 hp, atI_nat (j := 0) rfl, rfl, _, rfl, ifD (by rw [po.1]) ?_⟩
          have bl := wordsL_len po.2.2
          have pl := po.2.1
          have wl0 : ((s.parts.take j).flatMap Pt.words).length ≤ 130 := by omega
          refine ⟨_, rfl, px, rfl, ⟨_, kS s2 hz⟩, for_tup (K := K) (xs := zs) (fun i σ' H' => Same H H' ∧ SqT K H' S xs ∧ ∃ Lj x3, H Lj = none ∧ H' Lj = some (.lst ((s.wd :: ((s.parts.take j).flatMap Pt.words ++ wordsL (l.take i))).map V.str)) ∧ σ' = [some (.ref p), some (.ref Lj), some (.ref px), x3, none, none]) ?_ ?_ ?_ ?_⟩
          · exact ⟨s2, hS2, Lj, _, nj, e2.trans (by simp [wordsL]), rfl⟩
          · rintro i σ' H' _ ⟨s', _⟩
            exact kS s' hz
          · rintro i y σ' H3 hy ⟨s3, hS3, Li, x3, ni, e3, rfl⟩
            obtain ⟨dd, hdd, dy⟩ := dpAll_getV daz hy
            rw [List.getElem?_map] at hdd
            obtain ⟨ex, hex, rfl⟩ := Option.map_eq_some_iff.mp hdd
            have wfx := po.2.2 ex (List.mem_of_getElem? hex)
            have bx := Ex.words30 wfx
            have bi := wordsL_len (es := l.take i) fun y hy => po.2.2 y (List.mem_of_mem_take hy)
            rw [List.length_take] at bi
            refine ⟨_, rfl, _, rfl, y, ex, nms, rws, rfl, dp_same dy s3 ex.noL, wfx, Nat.le_refl _, fun H4 m s4 nm em => ?_⟩
            refine ⟨Li, m, _, _, rfl, rfl, s4 _ _ e3, em, by rw [List.length_map, List.length_map, List.length_cons, List.length_append, sizeLine_eq]; omega, fun o no => ?_⟩
            rw [← List.map_append, List.cons_append, List.append_assoc, ← wordsL_take hex]
            have so := same_new (o := .lst ((s.wd :: ((s.parts.take j).flatMap Pt.words ++ wordsL (l.take (i + 1)))).map V.str)) no
            exact ⟨(s3.trans s4).trans so, kS (s4.trans so) hS3, o, _, (s3.trans s4).free no, upd_same, rfl⟩
          · rintro σ' H3 ⟨s3, hS3, Li, x3, ni, e3, rfl⟩
            have el : l.take zs.length = l := List.take_of_length_le (by rw [dpAll_len daz, List.length_map]; exact Nat.le_refl _)
            rw [el] at e3
            exact ⟨s3, hS3, Li, _, _, ni, e3.trans (by rw [pt1]; rfl), rfl⟩
        | b l =>
          obtain ⟨px, zs, rfl, hz, _⟩ := dp_tup dx
          refine ⟨_, tp, _, _, _, false, rfl, upd_same, .cons (.ty _) (.cons (.ty _) .nil), ty_tup (kS s2 hz), isi_tup, false, rfl, ?_⟩
          refine ⟨_, rfl, p, _, 0, _, rfl, rfl, kS s2 hp, atI_nat (j := 0) rfl, rfl, _, rfl, ifN (fun z => po.1 (V.str.inj z)) ?_⟩
          refine ⟨_, rfl, p, _, 0, _, rfl, rfl, kS s2 hp, atI_nat (j := 0) rfl, big 2 (by decide), fun tl ntl => ?_⟩
          have sl := same_new (o := .lst nests) ntl
          have s3 := s2.trans sl
          have e3 := sl _ _ e2
          refine ⟨tl, _, rfl, .inl (.of upd_same), rfl, by decide +kernel, false, by show V.bl (!inV (V.str s.wd) nests) = _; rw [po.2.1]; rfl, ?_⟩
          refine ⟨_, rfl, Lj, _, rfl, .inl (.of e3), rfl, _, rfl, ifN (fun z => ?_) ?_⟩
          · have := V.int.inj z
            rw [List.length_map, List.length_cons] at this
            have := po.2.2
            omega
          · exact ⟨s3, kS sl hS2, Lj, _, _, nj, e3.trans (by rw [pt1]; simp [Pt.words]), rfl⟩
      · rintro σ' H1 ⟨s1, _, Lj, x2, x3, nj, e1, rfl⟩
        have el : s.parts.take xs.length = s.parts := List.take_of_length_le (by rw [dpAll_len da, List.length_map]; exact Nat.le_refl _)
        rw [el, ← s.words_parts] at e1
        refine ⟨⟨_, rfl⟩, _, rfl, _, Lj, s.words, rfl, rfl, .inl (.of e1), join_fits wk.1 wk.2, big 1 (by decide), fun M nM => ?_⟩
        have sM := same_new (o := .lst (([rowS s.words] : List Str).map V.str)) nM
        have s2 := s1.trans sM
        have e2 : (upd H1 M (.lst (([rowS s.words] : List Str).map V.str))) M = some (.lst (([rowS s.words] : List Str).map V.str)) := upd_same
        have nM0 : H M = none := s1.free nM
        refine ⟨_, rfl, p, _, 0, _, rfl, rfl, kS s2 hp, atI_nat (j := 0) rfl, big 2 (by decide), fun t nt => ?_⟩
        have st := same_new (o := .lst nests) nt
        have s3 := s2.trans st
        have e3 := st _ _ e2
        rcases s.sort with ⟨wd, ds, d1, i1, li⟩ | ⟨wd, ed, b, ns, ds, ne⟩
        · have hwd : wd = s.wd := by
            have := s.d_parts
            rw [d1] at this
            injection this with this
            injection this with this
            injection this
          rw [hwd] at i1
          refine ⟨t, _, rfl, .inl (.of upd_same), rfl, by decide +kernel, false, by show V.bl (inV _ _) = _; rw [i1], ?_⟩
          exact ⟨_, rfl, q _ M s3 nM0 (e3.trans (by rw [li]))⟩
        · have hwd : wd = s.wd := by
            have := s.d_parts
            rw [ne.d] at this
            injection this with this
            injection this with this
            injection this
          have iw : inV (.str s.wd) nests = true := by
            rw [← hwd]
            rcases ne.k with ⟨rfl, _⟩ | ⟨rfl, _⟩ <;> decide +kernel
          rw [ne.d] at dp0
          obtain ⟨p', ws, hpe, hp', dw⟩ := dp_tup dp0
          cases hpe
          obtain ⟨y0, r0, rfl, f0, dw1⟩ := dpAll_cons dw
          obtain ⟨y1, r1, rfl, f1, dw2⟩ := dpAll_cons dw1
          obtain ⟨y2, r2, rfl, f2, dw3⟩ := dpAll_cons dw2
          rw [dp_str f0] at hp'
          obtain ⟨pb, bv, rfl, hb, db⟩ := dp_tup f2
          obtain ⟨k0, wb, wn⟩ := ne.w _ _ _ _ wf
          have zz := ne.z
          have lb := Sm.linesL_len b
          have ln := Sm.linesL_len ns
          refine ⟨t, _, rfl, .inl (.of upd_same), rfl, by decide +kernel, true, by show V.bl (inV (V.str s.wd) nests) = _; rw [iw], ?_⟩
          refine ⟨_, rfl, p, _, 2, _, rfl, rfl, kS s3 hp', atI_nat (j := 2) rfl, pb, rfl, ⟨_, kS s3 hb⟩, for_tup (K := K) (xs := bv) (fun j σ' H' => Same H H' ∧ ∃ Mj x5, H Mj = none ∧ H' Mj = some (.lst ((rowS s.words :: Sm.linesL (b.take j)).map V.str)) ∧ σ' = [some (.ref p), some (.ref Lj), x2, x3, some (.ref Mj), x5]) ?_ ?_ ?_ ?_⟩
          · exact ⟨s3, M, none, nM0, e3.trans (by simp [Sm.linesL]), rfl⟩
          · rintro j σ' H' _ ⟨s', _⟩
            exact kS s' hb
          · rintro j y σ' H4 hy ⟨s4, Mj, x5, nj4, e4, rfl⟩
            obtain ⟨sx, hsx, dx⟩ := ds_get db hy
            have szt := sizes_take hsx
            have l1 := Sm.linesL_len (b.take j)
            have l2 := Sm.lines_len sx
            refine ⟨_, rfl, _, rfl, y, sx, k - 1, nms, rws, hds, rfl, dp_same dx s4 sx.noL, wfs_mem wb (List.mem_of_getElem? hsx), by omega, cx, by omega, fun H5 m s5 n5 e5 => ?_⟩
            refine ⟨Mj, m, _, _, rfl, rfl, s5 _ _ e4, e5, by rw [List.length_map, List.length_map, List.length_cons, sizeLine_eq]; omega, fun o no => ?_⟩
            rw [← List.map_append, List.cons_append, ← linesL_take hsx]
            have so := same_new (o := .lst ((rowS s.words :: Sm.linesL (b.take (j + 1))).map V.str)) no
            exact ⟨(s4.trans s5).trans so, o, _, (s4.trans s5).free no, upd_same, rfl⟩
          rintro σ' H4 ⟨s4, Mj, x5, nj4, e4, rfl⟩
          have elb : b.take bv.length = b := List.take_of_length_le (by rw [ds_len db]; exact Nat.le_refl _)
          rw [elb] at e4
          dsimp only
          refine ifs_by (fun σ' H' => Same H H' ∧ ∃ Mj x5, H Mj = none ∧ H' Mj = some (.lst ((rowS s.words :: (Sm.linesL b ++ elsL ns)).map V.str)) ∧ σ' = [some (.ref p), some (.ref Lj), x2, x3, some (.ref Mj), x5]) ?_ ?_
          · rintro σ' H7 ⟨s7, Mk, x5, nk, e7, rfl⟩
            have lE : (elsL ns).length ≤ 100 := by
              unfold elsL
              split
              · exact Nat.zero_le _
              · rw [List.length_cons]
                omega
            refine ⟨_, rfl, .inl ⟨rfl, _, .of e7⟩, Mk, _, _, rfl, rfl, e7, by rw [List.length_map, List.length_cons, List.length_append, sizeLine_eq]; omega, ?_⟩
            refine ⟨_, rfl, q _ Mk (sU s7 nk) nk ?_⟩
            rw [upd_same, snocS, ne.l]
            simp only [List.append_assoc, List.cons_append]
            rfl
          · intro N hN
            refine ⟨_, rfl, p, _, 0, _, rfl, rfl, kS s4 hp', atI_nat (j := 0) rfl, rfl, _, rfl, ?_⟩
            rcases ne.k with ⟨rfl, rfl⟩ | ⟨rfl, rfl, rfl⟩
            · refine ifD rfl ?_
              obtain ⟨y3, r3, rfl, f3, _⟩ := dpAll_cons dw3
              obtain ⟨pn, zs, rfl, hz, dz⟩ := dp_tup f3
              refine ⟨_, rfl, p, _, 3, _, rfl, rfl, kS s4 hp', atI_nat (j := 3) rfl, pn, zs, rfl, .inr (kS s4 hz), _, _, rfl, rfl, _, rfl, ?_⟩
              have zl := ds_len dz
              cases ns with
              | nil =>
                refine ifN (by rw [zl]; decide) ?_
                exact hN _ _ ⟨s4, Mj, _, nj4, e4.trans (by simp [elsL]), rfl⟩
              | cons n1 nr =>
                refine ifD (by rw [zl, List.length_cons]; omega) ?_
                refine ⟨_, rfl, .inl ⟨rfl, _, .of e4⟩, Mj, _, _, rfl, rfl, e4, by rw [List.length_map, List.length_cons, sizeLine_eq]; omega, ?_⟩
                rw [snocS]
                have lA : (rowS s.words :: Sm.linesL b ++ [Str.ofString "else"]).length ≤ 100 := by
                  rw [List.length_append, List.length_cons]
                  simp only [List.length_cons, List.length_nil]
                  omega
                have hA : rowS s.words :: (Sm.linesL b ++ elsL (n1 :: nr)) = (rowS s.words :: Sm.linesL b ++ [Str.ofString "else"]) ++ Sm.linesL (n1 :: nr) := by simp [elsL, kElse]
                rw [hA] at hN
                generalize (rowS s.words :: Sm.linesL b ++ [Str.ofString "else"]) = A at hN lA ⊢
                have s5 := sU (o := .lst (A.map V.str)) s4 nj4
                have e5 : (upd H4 Mj (.lst (A.map V.str))) Mj = some (.lst (A.map V.str)) := upd_same
                generalize upd H4 Mj (.lst (A.map V.str)) = H5 at s5 e5
                refine ⟨_, rfl, p, _, 3, _, rfl, rfl, kS s5 hp', atI_nat (j := 3) rfl, pn, rfl, ⟨_, kS s5 hz⟩, for_tup (K := K) (xs := zs) (fun j σ' H' => Same H H' ∧ ∃ Mj x5, H Mj = none ∧ H' Mj = some (.lst ((A ++ Sm.linesL ((n1 :: nr).take j)).map V.str)) ∧ σ' = [some (.ref p), some (.ref Lj), x2, x3, some (.ref Mj), x5]) ?_ ?_ ?_ ?_⟩
                · exact ⟨s5, Mj, _, nj4, e5.trans (by simp [Sm.linesL]), rfl⟩
                · rintro j σ' H' _ ⟨s', _⟩
                  exact kS s' hz
                · rintro j y σ' H6 hy ⟨s6, Mi, x6, ni6, e6, rfl⟩
                  obtain ⟨sx, hsx, dx⟩ := ds_get dz hy
                  have szt := sizes_take hsx
                  have l1 := Sm.linesL_len ((n1 :: nr).take j)
                  have l2 := Sm.lines_len sx
                  refine ⟨_, rfl, _, rfl, y, sx, k - 1, nms, rws, hds, rfl, dp_same dx s6 sx.noL, wfs_mem wn (List.mem_of_getElem? hsx), by omega, cx, by omega, fun H7 m s7 n7 e7 => ?_⟩
                  refine ⟨Mi, m, _, _, rfl, rfl, s7 _ _ e6, e7, by rw [List.length_map, List.length_map, List.length_append, sizeLine_eq]; omega, fun o no => ?_⟩
                  rw [← List.map_append, List.append_assoc, ← linesL_take hsx]
                  have so := same_new (o := .lst ((A ++ Sm.linesL ((n1 :: nr).take (j + 1))).map V.str)) no
                  exact ⟨(s6.trans s7).trans so, o, _, (s6.trans s7).free no, upd_same, rfl⟩
                · rintro σ' H6 ⟨s6, Mi, x6, ni6, e6, rfl⟩
                  have eln : (n1 :: nr).take zs.length = n1 :: nr := List.take_of_length_le (by rw [zl]; exact Nat.le_refl _)
                  rw [eln] at e6
                  exact hN _ _ ⟨s6, Mi, _, ni6, e6, rfl⟩
            · refine ifN (fun z => absurd (V.str.inj z) (by decide +kernel)) ?_
              exact hN _ _ ⟨s4, Mj, _, nj4, e4.trans (by simp [elsL]), rfl⟩
end

section
variable {P : Program} {w : World} {K : PySem.W.Frag} {mg : Str → Option Value} {base : Heap}
def sp_ll (K : PySem.W.Frag) : Sp := fun vs H Q _ => ∃ (v : V) (p : Pg), vs = [v] ∧ Dp K H v p.d ∧ PgT p ∧ ∀ H' a, Same H H' → H a = none → H' a = some (.lst (p.lines.map V.str)) → Q (.ref a) H'
theorem ok__law_lines (T : Top K mg) : FnOk P w K mg base CX0 12 (He.ga K "_law_lines") T.fd__law_lines ["_law_program_here"] (sp_ll K) := by
  have G__law_statement_lines := ok_sl (P := P) (w := w) (base := base) T 5
  refine T.F__law_lines.ok sc__law_lines (fun vs H Q E h => ?_) (fun cdv A outer s H vs Q E hr h => ?_)
  · obtain ⟨v, p, rfl, _⟩ := h
    rfl
  · obtain ⟨v, p, rfl, dp, pt, q⟩ := h
    refine ⟨_, PSs.nox (pss_cons (ps_set (i := 1) sc__law_lines.nd rfl (Or.inl rfl) (pe_lst pa_nil))
        (pss_cons (ps_for PassesOwn.never (by rfl) (pi_tup (pe_ix ix_tup (pv 0) pe_int (fun _ _ => rfl))) (pg_tup (by rfl) (pgs_cons (pg_name (i := 2) sc__law_lines.nd rfl (Or.inl rfl)) (pgs_cons (pg_name (i := 3) sc__law_lines.nd rfl (Or.inl rfl)) (pgs_cons (pg_name (i := 4) sc__law_lines.nd rfl (Or.inl rfl)) pgs_nil)))) (pss_cons (ps_expr (pe_bm PySem.F.plainAttrs_list PySem.F.slot_list_append PySem.F.type_list_append mt_append (pv 1) (pa_cons (pe_join pe_str (pe_op op_cat (pe_lst (pa_cons pe_str (pa_cons (pv 2) pa_nil))) (pe_callTy call_list_of (by rfl) T.m_list (by decide +kernel) (pa_cons (pv 3) pa_nil)))) pa_nil)))
        (pss_cons (ps_for PassesOwn.never (by rfl) (pi_tup (pv 4)) (pg_name (i := 5) sc__law_lines.nd rfl (Or.inl rfl)) (pss_one (ps_set (i := 1) sc__law_lines.nd rfl (Or.inl rfl) (pe_op op_cat (pv 1) (pe_call G__law_statement_lines (hr.mono (by omega)) (by rfl) T.g__law_statement_lines T.F__law_statement_lines.kp T.b__law_statement_lines .nil pass0 (pa_cons (pv 5) pa_nil))))))
        (pss_one (ps_expr (pe_bm PySem.F.plainAttrs_list PySem.F.slot_list_append PySem.F.type_list_append mt_append (pv 1) (pa_cons pe_str pa_nil)))))))
        (pss_cons (ps_expr (pe_bm PySem.F.plainAttrs_list PySem.F.slot_list_append PySem.F.type_list_append mt_append (pv 1) (pa_cons (pe_join pe_str (pe_op op_cat (pe_lst (pa_cons pe_str pa_nil)) (pe_callTy call_list_of (by rfl) T.m_list (by decide +kernel) (pa_cons (pe_ix ix_tup (pv 0) pe_int (fun _ _ => rfl)) pa_nil)))) pa_nil)))
        (pss_cons (ps_for PassesOwn.never (by rfl) (pi_tup (pe_ix ix_tup (pv 0) pe_int (fun _ _ => rfl))) (pg_tup (by rfl) (pgs_cons (pg_name (i := 2) sc__law_lines.nd rfl (Or.inl rfl)) (pgs_cons (pg_name (i := 6) sc__law_lines.nd rfl (Or.inl rfl)) pgs_nil))) (pss_one (ps_expr (pe_bm PySem.F.plainAttrs_list PySem.F.slot_list_append PySem.F.type_list_append mt_append (pv 1) (pa_cons (pe_op op_add_str (pe_op op_add_str (pe_op op_add_str pe_str (pv 2)) pe_str) (pe_callTy call_str_any (by rfl) T.m_str (by decide +kernel) (pa_cons (pv 6) pa_nil))) pa_nil)))))
        (pss_cons (ps_for PassesOwn.never (by rfl) (pi_tup (pe_ix ix_tup (pv 0) pe_int (fun _ _ => rfl))) (pg_name (i := 5) sc__law_lines.nd rfl (Or.inl rfl)) (pss_one (ps_set (i := 1) sc__law_lines.nd rfl (Or.inl rfl) (pe_op op_cat (pv 1) (pe_call G__law_statement_lines (hr.mono (by omega)) (by rfl) T.g__law_statement_lines T.F__law_statement_lines.kp T.b__law_statement_lines .nil pass0 (pa_cons (pv 5) pa_nil))))))
        (pss_one (ps_ret (pe_op op_cat (pv 1) (pe_lst (pa_cons pe_str pa_nil)))))))))), ?_⟩
    have big : ∀ n : Nat, n ≤ 10000 → n ≤ sizeLine := fun n h => by rw [sizeLine_eq]; omega
    have kS : ∀ {H1 H2 : Hp} {p : Addr} {xs : List V}, Same H1 H2 → SqT K H1 p xs → SqT K H2 p xs := fun s h => sqT_kp (Kp.of_same (S := fun _ => False) s) h
    have sU : ∀ {H' : Hp} {L : Addr} {o : HO}, Same H H' → H L = none → Same H (upd H' L o) := fun {H' L o} s nL b x hb => by
      rw [upd_ne (ne_of_none hb nL)]
      exact s _ _ hb
    obtain ⟨p0, ph, pp, pr, pb, hv, rv, bv, rfl, h0, hh, dh, hp, hr2, dr, hb, db⟩ := pg_at dp
    refine ⟨Nat.zero_le _, fun L nL => ?_⟩
    have s0 := same_new (o := .lst []) nL
    refine ⟨_, rfl, p0, _, 0, _, rfl, rfl, kS s0 h0, atI_nat (j := 0) rfl, ph, rfl, ⟨_, kS s0 hh⟩, for_tup (K := K) (xs := hv) (fun j σ' H' => Same H H' ∧ ∃ Lj x2 x3 x4 x5, H Lj = none ∧ H' Lj = some (.lst (((p.hs.take j).flatMap hpL).map V.str)) ∧ σ' = [some (.ref p0), some (.ref Lj), x2, x3, x4, x5, none]) ?_ ?_ ?_ ?_⟩
    · exact ⟨s0, L, none, none, none, none, nL, upd_same, rfl⟩
    · rintro j σ' H' _ ⟨s', _⟩
      exact kS s' hh
    · rintro j y σ' H1 hy ⟨s1, Lj, x2, x3, x4, x5, nj, e1, rfl⟩
      obtain ⟨h, py, pq, b, hj, rfl, hw, hq, hb2⟩ := hp_get dh hy
      obtain ⟨pbd, bvs, rfl, hbs, dbs⟩ := dp_tup hb2
      have ht := pt.hs h (List.mem_of_getElem? hj)
      have ln1 : ((p.hs.take j).flatMap hpL).length ≤ 300 := by
        have := hpsL_len (hs := p.hs.take j) fun x hx => pt.hs x (List.mem_of_mem_take hx)
        rw [List.length_take] at this
        have := pt.hl
        omega
      obtain ⟨nms, rws, hds, cx, wfb, szb⟩ := ht.bd
      refine ⟨py, _, rfl, kS s1 hw, rfl, _, _, rfl, _, _, rfl, _, _, rfl, rfl, ?_⟩
      refine ⟨_, rfl, .inl ⟨rfl, _, .of e1⟩, ⟨_, rfl⟩, _, rfl, big 2 (by decide), fun l1 n1 => ?_⟩
      have t1 := same_new (o := .lst (([("helper" : Str), h.1] : List Str).map V.str)) n1
      have s2 := s1.trans t1
      refine ⟨_, rfl, pq, _, rfl, .inr (kS s2 hq), fun l2 n2 => ?_⟩
      have t2 := same_new (o := .lst (h.2.1.map V.str)) n2
      have s3 := s2.trans t2
      have pl := ht.pl
      refine ⟨l1, l2, ([("helper" : Str), h.1] : List Str).map V.str, _, rfl, rfl, t2 _ _ upd_same, upd_same, by rw [List.length_map, List.length_map, sizeLine_eq]; simp only [List.length_cons, List.length_nil]; omega, fun l3 n3 => ?_⟩
      rw [← List.map_append]
      have t3 := same_new (o := .lst ((([("helper" : Str), h.1] : List Str) ++ h.2.1).map V.str)) n3
      have s4 := s3.trans t3
      refine ⟨_, l3, _, rfl, rfl, .inl (.of upd_same), join_fits ht.words.1 ht.words.2, ?_⟩
      have e4 := t3 _ _ (t2 _ _ (t1 _ _ e1))
      refine ⟨Lj, _, _, rfl, rfl, e4, by rw [List.length_map, sizeLine_eq]; omega, ?_⟩
      rw [snocS]
      have hA : (p.hs.take j).flatMap hpL ++ hpL h = ((p.hs.take j).flatMap hpL ++ [Txt.join (Str.ofString " ") (([("helper" : Str), h.1] : List Str) ++ h.2.1)]) ++ (Sm.linesL h.2.2 ++ [kEnd]) := by
        simp only [hpL, List.append_assoc, List.cons_append, List.nil_append]
        rfl
      have lA : ((p.hs.take j).flatMap hpL ++ [Txt.join (Str.ofString " ") (([("helper" : Str), h.1] : List Str) ++ h.2.1)]).length ≤ 301 := by
        rw [List.length_append]
        simp only [List.length_cons, List.length_nil]
        omega
      generalize ((p.hs.take j).flatMap hpL ++ [Txt.join (Str.ofString " ") (([("helper" : Str), h.1] : List Str) ++ h.2.1)]) = A at hA lA ⊢
      have s5 := sU (o := .lst (A.map V.str)) s4 nj
      have lb := ht.bd.len
      refine ⟨_, rfl, pbd, rfl, ⟨_, kS s5 hbs⟩, for_tup (K := K) (xs := bvs) (fun i σ' H' => Same H H' ∧ ∃ Li x5, H Li = none ∧ H' Li = some (.lst ((A ++ Sm.linesL (h.2.2.take i)).map V.str)) ∧ σ' = [some (.ref p0), some (.ref Li), some (.str h.1), some (.ref pq), some (.ref pbd), x5, none]) ?_ ?_ ?_ ?_⟩
      · exact ⟨s5, Lj, _, nj, upd_same.trans (by simp [Sm.linesL]), rfl⟩
      · rintro i σ' H' _ ⟨s', _⟩
        exact kS s' hbs
      · rintro i y σ' H6 hy ⟨s6, Li, x5, ni, e6, rfl⟩
        obtain ⟨sx, hsx, dx⟩ := ds_get dbs hy
        have szt := sizes_take hsx
        have l1 := Sm.linesL_len (h.2.2.take i)
        have l2 := Sm.lines_len sx
        refine ⟨_, rfl, _, rfl, y, sx, 4, nms, rws, hds, rfl, dp_same dx s6 sx.noL, wfs_mem wfb (List.mem_of_getElem? hsx), by omega, cx, by omega, fun H7 m s7 n7 e7 => ?_⟩
        refine ⟨Li, m, _, _, rfl, rfl, s7 _ _ e6, e7, by rw [List.length_map, List.length_map, List.length_append, sizeLine_eq]; omega, fun o no => ?_⟩
        rw [← List.map_append, List.append_assoc, ← linesL_take hsx]
        have so := same_new (o := .lst ((A ++ Sm.linesL (h.2.2.take (i + 1))).map V.str)) no
        exact ⟨(s6.trans s7).trans so, o, _, (s6.trans s7).free no, upd_same, rfl⟩
      rintro σ' H6 ⟨s6, Li, x5', ni, e6, rfl⟩
      have elb : h.2.2.take bvs.length = h.2.2 := List.take_of_length_le (by rw [ds_len dbs]; exact Nat.le_refl _)
      rw [elb] at e6
      refine ⟨_, rfl, .inl ⟨rfl, _, .of e6⟩, Li, _, _, rfl, rfl, e6, by rw [List.length_map, List.length_append, sizeLine_eq]; omega, sU s6 ni, Li, _, _, _, _, ni, ?_, rfl⟩
      rw [upd_same, snocS, hpsL_take hj, hA, List.append_assoc]
      rfl
    rintro σ' H1 ⟨s1, Lj, x2, x3, x4, x5, nj, e1, rfl⟩
    have el : p.hs.take hv.length = p.hs := List.take_of_length_le (by rw [dpAll_len dh, List.length_map]; exact Nat.le_refl _)
    rw [el] at e1
    have lh : (p.hs.flatMap hpL).length ≤ 300 := by
      have := hpsL_len pt.hs
      have := pt.hl
      omega
    refine ⟨_, rfl, .inl ⟨rfl, _, .of e1⟩, ⟨_, rfl⟩, big 1 (by decide), fun l1 n1 => ?_⟩
    have t1 := same_new (o := .lst (([("main" : Str)] : List Str).map V.str)) n1
    have s2 := s1.trans t1
    refine ⟨_, rfl, p0, _, 1, _, rfl, rfl, kS s2 h0, atI_nat (j := 1) rfl, pp, _, rfl, .inr (kS s2 hp), fun l2 n2 => ?_⟩
    have t2 := same_new (o := .lst (p.ps.map V.str)) n2
    have s3 := s2.trans t2
    have pl := pt.pl
    refine ⟨l1, l2, ([("main" : Str)] : List Str).map V.str, _, rfl, rfl, t2 _ _ upd_same, upd_same, by rw [List.length_map, List.length_map, sizeLine_eq]; simp only [List.length_cons, List.length_nil]; omega, fun l3 n3 => ?_⟩
    rw [← List.map_append]
    have t3 := same_new (o := .lst ((([("main" : Str)] : List Str) ++ p.ps).map V.str)) n3
    have s4 := s3.trans t3
    refine ⟨_, l3, _, rfl, rfl, .inl (.of upd_same), join_fits pt.main.1 pt.main.2, ?_⟩
    have e4 := t3 _ _ (t2 _ _ (t1 _ _ e1))
    refine ⟨Lj, _, _, rfl, rfl, e4, by rw [List.length_map, sizeLine_eq]; omega, ?_⟩
    rw [snocS]
    have hA : p.lines = p.hs.flatMap hpL ++ [Txt.join (Str.ofString " ") (([("main" : Str)] : List Str) ++ p.ps)] ++ p.rs.map rwL ++ Sm.linesL p.bd ++ [kEnd] := by
      simp only [Pg.lines, List.append_assoc, List.cons_append, List.nil_append]
      rfl
    have lA : (p.hs.flatMap hpL ++ [Txt.join (Str.ofString " ") (([("main" : Str)] : List Str) ++ p.ps)]).length ≤ 301 := by
      rw [List.length_append]
      simp only [List.length_cons, List.length_nil]
      omega
    generalize (p.hs.flatMap hpL ++ [Txt.join (Str.ofString " ") (([("main" : Str)] : List Str) ++ p.ps)]) = A at hA lA ⊢
    have s5 := sU (o := .lst (A.map V.str)) s4 nj
    have rl := pt.rl
    refine ⟨_, rfl, p0, _, 2, _, rfl, rfl, kS s5 h0, atI_nat (j := 2) rfl, pr, rfl, ⟨_, kS s5 hr2⟩, for_tup (K := K) (xs := rv) (fun j σ' H' => Same H H' ∧ H' Lj = some (.lst ((A ++ (p.rs.take j).map rwL).map V.str)) ∧ ∃ x2 x3 x4 x5 x6, σ' = [some (.ref p0), some (.ref Lj), x2, x3, x4, x5, x6]) ?_ ?_ ?_ ?_⟩
    · exact ⟨s5, upd_same.trans (by simp), _, _, _, _, _, rfl⟩
    · rintro j σ' H' _ ⟨s', _⟩
      exact kS s' hr2
    · rintro j y σ' H6 hy ⟨s6, e6, x2, x3, x4, x5, x6, rfl⟩
      obtain ⟨r, py, hj, rfl, hw⟩ := rw_get dr hy
      have rk := pt.rs r (List.mem_of_getElem? hj)
      have nl := nat_log (r.2 : Int) (rw32 rk.2)
      have nl2 := numS_len (rw32 rk.2)
      refine ⟨py, _, rfl, kS s6 hw, rfl, _, _, rfl, _, _, rfl, rfl, ?_⟩
      have z1 : (Str.ofString "row ").length = 4 := by decide +kernel
      have z2 : (Str.ofString " ").length = 1 := by decide +kernel
      have rk1 := rk.1
      refine ⟨_, rfl, .inl ⟨rfl, _, .of e6⟩, _, rfl, _, _, rfl, rfl, by rw [sizeLine_eq]; omega, _, _, rfl, rfl, by rw [Str.length_append, sizeLine_eq]; omega, _, rfl, .inl ⟨_, rfl, nl, _, _, rfl, rfl, ?_, ?_⟩⟩
      · rw [Str.length_append, Str.length_append, sizeLine_eq]
        unfold numS at nl2
        omega
      refine ⟨Lj, _, _, rfl, rfl, e6, by rw [List.length_map, List.length_append, List.length_map, List.length_take, sizeLine_eq]; omega, sU s6 nj, ?_, _, _, _, _, _, rfl⟩
      rw [upd_same, snocS, List.take_add_one, hj, List.map_append]
      have : Str.ofString "row " ++ r.1 ++ Str.ofString " " ++ Str.ofString (toString (r.2 : Int)) = rwL r := by
        rw [row_text]
        rfl
      rw [this]
      simp
    rintro σ' H6 ⟨s6, e6, y2, y3, y4, y5, y6, rfl⟩
    have elr : p.rs.take rv.length = p.rs := List.take_of_length_le (by rw [dpAll_len dr, List.length_map]; exact Nat.le_refl _)
    rw [elr] at e6
    have lB : (A ++ p.rs.map rwL).length ≤ 304 := by
      rw [List.length_append, List.length_map]
      omega
    generalize A ++ p.rs.map rwL = B at e6 lB hA
    obtain ⟨nms, rws, hds, cx, wfb, szb⟩ := pt.bd
    have lb := pt.bd.len
    refine ⟨_, rfl, p0, _, 3, _, rfl, rfl, kS s6 h0, atI_nat (j := 3) rfl, pb, rfl, ⟨_, kS s6 hb⟩, for_tup (K := K) (xs := bv) (fun i σ' H' => Same H H' ∧ ∃ Li x5, H Li = none ∧ H' Li = some (.lst ((B ++ Sm.linesL (p.bd.take i)).map V.str)) ∧ σ' = [some (.ref p0), some (.ref Li), y2, y3, y4, x5, y6]) ?_ ?_ ?_ ?_⟩
    · exact ⟨s6, Lj, _, nj, e6.trans (by simp [Sm.linesL]), rfl⟩
    · rintro i σ' H' _ ⟨s', _⟩
      exact kS s' hb
    · rintro i y σ' H7 hy ⟨s7, Li, x5, ni, e7, rfl⟩
      obtain ⟨sx, hsx, dx⟩ := ds_get db hy
      have szt := sizes_take hsx
      have l1 := Sm.linesL_len (p.bd.take i)
      have l2 := Sm.lines_len sx
      refine ⟨_, rfl, _, rfl, y, sx, 4, nms, rws, hds, rfl, dp_same dx s7 sx.noL, wfs_mem wfb (List.mem_of_getElem? hsx), by omega, cx, by omega, fun H8 m s8 n8 e8 => ?_⟩
      refine ⟨Li, m, _, _, rfl, rfl, s8 _ _ e7, e8, by rw [List.length_map, List.length_map, List.length_append, sizeLine_eq]; omega, fun o no => ?_⟩
      rw [← List.map_append, List.append_assoc, ← linesL_take hsx]
      have so := same_new (o := .lst ((B ++ Sm.linesL (p.bd.take (i + 1))).map V.str)) no
      exact ⟨(s7.trans s8).trans so, o, _, (s7.trans s8).free no, upd_same, rfl⟩
    rintro σ' H7 ⟨s7, Li, x5', ni, e7, rfl⟩
    have elb : p.bd.take bv.length = p.bd := List.take_of_length_le (by rw [ds_len db]; exact Nat.le_refl _)
    rw [elb] at e7
    refine ⟨_, rfl, big 1 (by decide), fun l8 n8 => ?_⟩
    have t8 := same_new (o := .lst (([kEnd] : List Str).map V.str)) n8
    refine ⟨Li, l8, _, ([kEnd] : List Str).map V.str, rfl, rfl, t8 _ _ e7, upd_same, by rw [List.length_map, List.length_map, List.length_append, sizeLine_eq]; simp only [List.length_cons, List.length_nil]; omega, fun l9 n9 => ?_⟩
    rw [← List.map_append, ← hA]
    have t9 := same_new (o := .lst (p.lines.map V.str)) n9
    exact q _ l9 ((s7.trans t8).trans t9) ((s7.trans t8).free n9) upd_same
end

/-! defs that ask for a repr: nothing is being shown around them -/
structure FnG (P : Program) (w : World) (K : PySem.W.Frag) (mg : Str → Option Value) (base : Heap) (CX : CXT) (k : Nat) (f : Addr) (fd : FuncData) (ps : List Str) (sp : Sp) : Prop where
  len : ∀ vs H Q E, sp vs H Q E → vs.length = ps.length
  run : ∀ (A : Around) (outer : List Env) (s : Shared) (H : Hp) (args : Args) (us : List Value) (vs : List V) (Q : VK) (E : XK), A.guards = some [] → Room k A →
    Env0 P w K mg base A outer s H → BindsTo s fd args (ps.zip us) → Vals vs us → sp vs H Q E → codeAny (model P w) A (.call (.ref f) args) (CR CX outer P w H s Q E) s
theorem FnG.of {P : Program} {w : World} {K : PySem.W.Frag} {mg : Str → Option Value} {base : Heap} {CX : CXT} {k : Nat} {f : Addr} {fd : FuncData} {ps : List Str} {sp : Sp} (G : FnOk P w K mg base CX k f fd ps sp) : FnG P w K mg base CX k f fd ps sp :=
  ⟨G.len, fun A outer s H args us vs Q E _ => G.run A outer s H args us vs Q E⟩
section
variable {P : Program} {w : World} {K : PySem.W.Frag} {mg : Str → Option Value} {base : Heap} {x qual : Str} {params : Arguments} {body : List Stmt} {scope : Scope} {dvs : List V} {kws : List (Str × V)} {f : Addr} {fd : FuncData}
theorem FnG.mk' {CX : CXT} {N ps : List Str} {k : Nat} {sp : Sp} (F : FunD K x qual params body scope dvs kws f fd) (S : FnScope N ps scope) (len : ∀ vs H Q E, sp vs H Q E → vs.length = ps.length)
    (hbody : ∀ (cdv : Value) (A : Around) (outer : List Env) (s : Shared) (H : Hp) (vs : List V) (Q : VK) (E : XK), A.guards = some [] → Room k (A.deeper (envOfC qual scope s.heap.objs.size f cdv)) →
      sp vs H Q E → ∃ t, PSs (cxOf CX P w K mg base N qual scope f cdv A outer s H E) body t ∧ t { nx := fun _ H' => Q .non H', rt := Q } (start N vs) H) : FnG P w K mg base CX (k + 1) f fd ps sp := by
  obtain ⟨oc, od, dV, kV, doc, pm, an, cdv, ct, osl, rfl, at_, code, -, -⟩ := F.ex
  refine ⟨len, fun A outer s H args us vs Q E gd room e0 bind rel want => ?_⟩
  have kin : K.In s.heap := e0.mod.kin.keeps fun b o e => (e0.bs b o e).1
  have nol : s.heap.NoLimit := e0.mod.nolimit.keeps fun b o e => (e0.bs b o e).1
  refine codeAny_call_function room.depth (kin _ _ at_) rfl S.co S.gen rfl (PySem.W.codeRec_of kin code) (bind _ _ _ _ ?_)
  refine wpAny_newFunctionEnv_cells S.kind ?pars fun env he s1 y => ?go
  case pars =>
    rintro ⟨n, v⟩ hn
    exact (S.par n (List.of_mem_zip hn).1).imp id fun c => ⟨c, PySem.W.cellsFrom_some _ _ _ (.inl c)⟩
  case go =>
    subst he
    obtain ⟨t, ht, go⟩ := hbody cdv A outer s H vs Q E gd (room.deeper _) want
    have I := inv_start (CX := CX) (E := E) (cd := cdv) (qual := qual) (f := f) S room.hd e0 (len _ _ _ _ want) rel y
    refine ⟨nol.keeps y.toInCall.keep, codeAny_func (wpAny_mono (ht.run [] s1 (start N vs) H _ I go) (fun fl s' z => ?_) fun e s' z => z)⟩
    cases fl with
    | ret u => obtain ⟨v, σ', H', J, rv, qv⟩ := z; exact ⟨v, H', J.os, J.bare, J.base, J.hok, rv, qv⟩
    | next => obtain ⟨σ', H', J, qv⟩ := z; exact ⟨.non, H', J.os, J.bare, J.base, J.hok, rfl, qv⟩
    | brk => exact z.elim fun _ h => h.elim fun _ h => h.2.elim
    | cont => exact z.elim fun _ h => h.elim fun _ h => h.2.elim
end
section
variable {X : Cx} {CX : CXT} {k : Nat} {f : Addr} {fd : FuncData} {ps : List Str} {sp : Sp} {dvs : List V} {ds : List Value} {E : XK} {x : Str} {p pos : Pos} {e : Expr} {es : List Expr} {t : TA}
theorem run_fnG {pins : List (Addr × Obj)} {σ : L2.St} {H : Hp} {s : Shared} {us : List Value} {vs : List V} {Q : VK} (F : FnG X.prog X.w X.K X.mg X.base CX k f fd ps sp) (gd : X.A.guards = some []) (hr : Room k X.A) (hb : Binds X.K fd ps ds) (hd : Vals dvs ds)
    (hx : Passes CX X E) (I : L2.Inv X pins σ H s) (r : Vals vs us) (q : sp (vs ++ dvs) H Q E) : wpAny (model X.prog X.w) X.A (call (.ref f) us) (EP X pins σ Q) X.xe s := by
  have both := r.append hd
  have ln : (us ++ ds).length = ps.length := both.length.symm.trans (F.len _ _ _ _ q)
  apply wpAny_call
  refine codeAny_mono (F.run X.A X.stack s H ⟨us, []⟩ _ _ Q E gd hr I.env0 (hb s us I.kIn ln) both q) ?_
  rintro (e | fl) s' z
  · exact hx pins σ H s e s' I z
  · cases fl with
    | ret u => exact I.after z
    | _ => exact z.elim
theorem pe_callG (F : FnG X.prog X.w X.K X.mg X.base CX k f fd ps sp) (gd : X.A.guards = some []) (hr : Room k X.A) (hg : Gl X x) (hm : X.mg x = some (.ref f)) (hk : PySem.W.keepIn X.K (.ref f) = true) (hb : Binds X.K fd ps ds) (hd : Vals dvs ds) (hx : Passes CX X E)
    (ha : PA X (e :: es) t) (hdb : (x == ("__debug__" : Str)) = false := by decide) (he : starEach (e :: es) X.env = (false, eval e X.env) :: starEach es X.env := by rfl) (hpl : (backTo pos (starEach es X.env)).any (·.1) = false := by rfl) :
    PE X (.Call (.Name x p) (e :: es) [] pos) (tCall sp dvs E t) := ⟨fun pins s σ H Q I h => wpAny_Call_Name_kw (ld_glob I hg hm
      (PySem.W.callWith_K (h₀ := X.base) I.ok.mod.kin hk (thn (ha.run pos pins s σ H _ I h) fun us s1 ⟨vs, H1, I1, r, q⟩ => ⟨I1.kIn, run_fnG F gd hr hb hd hx I1 r q⟩) he hpl) hdb)⟩
/-- repr of data -/
def rRepr (K : PySem.W.Frag) : List V → Hp → VK → Prop := fun xs H Q => ∃ (v : V) (ds : List PyData), xs = [v] ∧ Dp K H v (.tuple ds) ∧ (PyData.tuple ds).showable = true ∧ (PyData.tuple ds).canLay0 = true ∧ (PyData.tuple ds).depth ≤ 60 ∧
  (PyData.tuple ds).shown.length ≤ sizeLine ∧ Q (.str (PyData.tuple ds).shown) H
theorem call_reprD (gd : X.A.guards = some []) (hr : Room k X.A) : CallR X (.builtin "repr") (rRepr X.K) := by
  intro pins s σ H xs us Q I r h
  obtain ⟨v, ds, rfl, dp, sh, cl, de, sz, q⟩ := h
  obtain ⟨u, rfl, ru⟩ := vals1 r
  obtain ⟨as, rd⟩ := Dp.reads I _ v u dp ru
  obtain ⟨a, xs, rfl, -, -⟩ := dp_tup dp
  cases ru
  have un := hr.un
  refine repr_of_reads' rd sh (PyData.noDict_hsm (PyData.hasDict_of_canLay _ cl)) gd (by omega) (fun _ _ e => e) (fun h' z tk keep => ?_) sz
  exact ⟨.str _, H, I.kept keep, ⟨_, rfl⟩, q⟩
end
/-- a law's end for a law that asks for a repr -/
theorem walk_bitsG {l : PySem.W.OpenLaw} {n k : Nat} {q : Program} {loose : List Str} {XP : (Str → Option Value) → Heap → Prop} {YP : World → Heap → Prop} {d : DefRec} {CX : CXT} {x : Str}
    (hn : l.most = some n) (hn2 : n ≤ sizeLine) (hdf : d.params.defaults = []) (hr : Room k callerA)
    (F : ∀ (w : World) (mg : Str → Option Value) (fa : Addr) (h : Heap), YP w h → h.Ns mainGlobals mg → mg d.name = some (.ref fa) →
      ∃ (K : PySem.W.Frag) (fd : FuncData) (sp : Sp), K.In h ∧ (∀ (s : Shared) (u : Value), BindsTo s fd ⟨[u], []⟩ [(x, u)]) ∧
        (∀ (H : Hp) (a : Addr) (ns : List Int), ns.length ≤ n → (∀ z ∈ ns, Builtin.Int.intBits z ≤ 1048576) → Only H → SqL K H a (ns.map V.int) →
          sp [.ref a] H (fun v _ => v = .bl true) fun _ _ _ => False) ∧
        ∀ base : Heap, K.In base → base.Ns mainGlobals mg → FnG l.prog w K mg base CX k fa fd [x] sp)
    (hCX : ∀ (H : Hp) (s : Shared) (e : Value) (s' : Shared), CX [] H s (fun _ _ _ => False) e s' → False) :
    PySem.W.WalkO q loose XP YP l.row.toRowW d [] (fun f vs => PySem.call f vs) := by
  apply Att.attach_callB hn hdf
  intro w s0 s1 mg mb fa o pm cd doc a vs ns G Y ho hd hcd hmg hobj hints hlen hbits hg
  obtain ⟨K, fd, sp, KX, hb, hsp, hF⟩ := F w mg fa _ Y G.T.g hmg
  -- from an abstract heap that tracks the script at most
  have core : ∀ H : Hp, Only H → SqL K H a (ns.map V.int) → HOk l.prog w H s1.heap → (∀ b u, H b = some u → b = a) → ((∃ u, H a = some u) → K.lookup a = none) →
      codeAny (model l.prog w) callerA (.call (.ref fa) ⟨[.ref a], []⟩) (fun r s' => r = .ok (.ret (.bool true)) ∧ OldK s1.heap s'.heap ∧ s'.os = s1.os ∧ AllBare s'.gens) s1 := by
    intro H hO hS hok only own
    have dict : ∀ {b : Addr} {ob : Obj} {es : Array DictEntry} {ep : Nat}, s1.heap.get? b = some ob → ob.data = .dict es ep → H b = none := by
      intro b ob es ep e de
      cases z : H b with
      | none => rfl
      | some u =>
        obtain rfl := only b u z
        cases hobj.symm.trans e
        cases de
    have ns_ : ∀ {b : Addr} {m : Str → Option Value}, s1.heap.Ns b m → (hidT s1.heap H).Ns b m := by
      rintro b m ⟨ob, es, ep, e, de, z⟩
      exact ⟨ob, es, ep, hidT_get e (dict e de), de, z⟩
    have kin : K.In (hidT s1.heap H) := by
      intro b ob e
      refine hidT_get (KX b ob e) ?_
      cases z : H b with
      | none => rfl
      | some u =>
        obtain rfl := only b u z
        cases (own ⟨u, z⟩).symm.trans e
    obtain ⟨mc, c1, c2⟩ := G.T.nolimit
    have e0 : Env0 l.prog w K mg (hidT s1.heap H) callerA [] s1 H :=
      ⟨rfl, ⟨kin, ns_ G.T.g, ⟨mb, ns_ G.T.b, G.T.builtins⟩, mc, ns_ c1, c2⟩, fun b ob e => of_hidT e, Nat.le_of_eq (hidT_size _ _), trivial, (fun b z => nomatch z), hok, .of_eq hg⟩
    refine codeAny_mono ((hF _ kin (ns_ G.T.g)).run callerA [] s1 H ⟨[.ref a], []⟩ [.ref a] [.ref a] _ _ rfl hr e0 (hb s1 (.ref a)) (.cons rfl .nil) (hsp H a ns hlen hbits hO hS)) ?_
    rintro (e | fl) s' z
    · exact (hCX H s1 e s' z).elim
    · cases fl with
      | ret u =>
        obtain ⟨v, H', os, bare, un, ok', rv, rfl⟩ := z
        cases rv
        refine ⟨rfl, OldK.of_keep fun b ob e => ?_, os, bare⟩
        rcases hO b with y | ⟨oz, xs, y⟩
        · exact un.keep b ob e y (fun z => nomatch z) (fun z => nomatch z)
        · have t1 := (hok b _ y).1
          have t2 := (ok' b _ (un.frzs b oz _ y)).1
          cases e.symm.trans t1
          exact t2
      | _ => exact z.elim
  have rv := vals_ints hints
  have bound : (ns.map V.int).length ≤ sizeLine := by rw [List.length_map]; exact Nat.le_trans hlen hn2
  cases hk : K.lookup a with
  | some ob =>
    cases hobj.symm.trans (KX a ob hk)
    exact core (fun _ => none) (fun _ => .inl rfl) (.inr ⟨_, vs.toArray, _, hk, rfl, rfl, rfl, by rw [List.size_toArray, ← rv.length]; exact bound, by simpa using rv⟩) (fun b u z => nomatch z) (fun b u z => nomatch z) (fun ⟨u, z⟩ => nomatch z)
  | none =>
    refine core (fun b => if b = a then some (.frz { cls := .type "list", data := .seq vs.toArray } (.lst (ns.map V.int))) else none) (fun b => ?_) (.inl (.inr ⟨_, if_pos rfl⟩)) (fun b u z => ?_) (fun b u z => ?_) fun _ => hk
    · by_cases e : b = a
      · exact .inr ⟨_, _, if_pos e⟩
      · exact .inl (if_neg e)
    · by_cases e : b = a
      · subst e
        cases (if_pos rfl).symm.trans z
        exact ⟨hobj, bound, vs, _, rv, hobj⟩
      · cases (if_neg e).symm.trans z
    · by_cases e : b = a
      · exact e
      · cases (if_neg e).symm.trans z

/-! programs as data: what a repr asks -/
def Okd (n w : Nat) (d : PyData) : Prop := d.showable = true ∧ d.canLay0 = true ∧ d.intsShort 13 = true ∧ d.depth ≤ n ∧ d.weight ≤ w
def OkdL (n w : Nat) (ds : List PyData) : Prop := PyData.showableAll ds = true ∧ PyData.canLayAll0 ds = true ∧ PyData.intsShortAll 13 ds = true ∧ PyData.depthAll ds ≤ n ∧ PyData.weightAll ds ≤ w
theorem Okd.mono {n w n' w' : Nat} {d : PyData} (h : Okd n w d) (hn : n ≤ n') (hw : w ≤ w') : Okd n' w' d := ⟨h.1, h.2.1, h.2.2.1, Nat.le_trans h.2.2.2.1 hn, Nat.le_trans h.2.2.2.2 hw⟩
theorem OkdL.mono {n w n' w' : Nat} {d : List PyData} (h : OkdL n w d) (hn : n ≤ n') (hw : w ≤ w') : OkdL n' w' d := ⟨h.1, h.2.1, h.2.2.1, Nat.le_trans h.2.2.2.1 hn, Nat.le_trans h.2.2.2.2 hw⟩
theorem OkdL.nil {n w : Nat} : OkdL n w [] := ⟨rfl, rfl, rfl, Nat.zero_le _, Nat.zero_le _⟩
theorem OkdL.cons {n w w' : Nat} {d : PyData} {ds : List PyData} (h : Okd n w d) (h' : OkdL n w' ds) : OkdL n (w + 1 + w') (d :: ds) := by
  refine ⟨?_, ?_, ?_, ?_, ?_⟩
  · simp only [PyData.showableAll, h.1, h'.1, Bool.and_self]
  · simp only [PyData.canLayAll0, h.2.1, h'.2.1, Bool.and_self]
  · simp only [PyData.intsShortAll, h.2.2.1, h'.2.2.1, Bool.and_self]
  · simp only [PyData.depthAll]
    exact Nat.max_le.mpr ⟨h.2.2.2.1, h'.2.2.2.1⟩
  · simp only [PyData.weightAll]
    have := h.2.2.2.2
    have := h'.2.2.2.2
    omega
theorem Okd.tup {n w : Nat} {ds : List PyData} (h : OkdL n w ds) : Okd (n + 1) w (.tuple ds) := by
  refine ⟨?_, ?_, ?_, ?_, ?_⟩
  · simp only [PyData.showable]; exact h.1
  · simp only [PyData.canLay0]; exact h.2.1
  · simp only [PyData.intsShort]; exact h.2.2.1
  · simp only [PyData.depth]; have := h.2.2.2.1; omega
  · simp only [PyData.weight]; exact h.2.2.2.2
theorem Okd.kw {n : Nat} {z : Str} (h : PyData.strOk z = true) (l : z.length ≤ 8) : Okd n 8 (.str z) := ⟨by simp only [PyData.showable], by simp only [PyData.canLay0]; exact h, by simp only [PyData.intsShort], by simp only [PyData.depth]; exact Nat.zero_le _, by simp only [PyData.weight]; exact l⟩
theorem Okd.int {n : Nat} {i : Int} (h : In32 i) : Okd n 40 (.int i) := by
  refine ⟨?_, rfl, ?_, Nat.zero_le _, ?_⟩
  · simp only [PyData.showable]
    exact decide_eq_true (nat_log i h)
  · simp only [PyData.intsShort, PyData.shown]
    refine decide_eq_true ?_
    obtain ⟨h1, h2⟩ := h
    have : (Str.ofString (toString i)).length ≤ 13 := by
      rw [len_ofString, String.length_toList]
      exact Nat.le_trans (PySem.int_text_length_le10 (k := 10) (by decide) (by omega)) (by decide)
    exact this
  · simp only [PyData.weight]
    split
    · exact Nat.zero_le _
    · have := PySem.Flt.log2_lt_of (show 0 < 39 by decide) (show i.natAbs < 2 ^ 39 by obtain ⟨h1, h2⟩ := h; omega)
      omega

theorem Okd.nm {n : Nat} {z : Str} (h : IsNm z) : Okd n 8 (.str z) := by
  refine Okd.kw ?_ h.hi
  unfold PyData.strOk
  rw [← Array.all_toList, List.all_eq_true]
  intro c hc
  have := h.let_ c hc
  unfold isLet at this
  exact decide_eq_true (by omega)
structure NCtx (nms rws : List Str) (hds : List (Str × Nat)) : Prop where
  n : ∀ x ∈ nms, IsNm x
  r : ∀ x ∈ rws, IsNm x
  h : ∀ q ∈ hds, IsNm q.1 ∧ q.2 ≤ 4
theorem NCtx.ctx {nms rws : List Str} {hds : List (Str × Nat)} (c : NCtx nms rws hds) : Ctx nms rws hds :=
  ⟨fun x hx => Nat.le_trans (c.n x hx).hi (by decide), fun x hx => Nat.le_trans (c.r x hx).hi (by decide), fun q hq => ⟨(c.h q hq).2, Nat.le_trans (c.h q hq).1.hi (by decide)⟩⟩
theorem w7_ok : ∀ x ∈ wds7, PyData.strOk x = true ∧ x.length ≤ 8 := by decide +kernel
theorem Ex.okd {nms rws : List Str} (hn : ∀ x ∈ nms, IsNm x) (hr : ∀ x ∈ rws, IsNm x) : ∀ {d : Nat} {e : Ex}, e.Wf nms rws d → ∃ w, w + 60 ≤ 100 * 2 ^ d ∧ Okd d w e.d
  | 0, _, h => h.elim
  | d + 1, .num n, h => by
    have p : 1 ≤ 2 ^ d := Nat.one_le_two_pow
    refine ⟨_, ?_, (Okd.tup (OkdL.cons (Okd.kw (by decide +kernel) (by decide +kernel)) (OkdL.cons (Okd.int h) (OkdL.nil (w := 0))))).mono (n := 0 + 1) (by omega) (Nat.le_refl _)⟩
    rw [Nat.pow_succ]
    omega
  | d + 1, .nam x, h => by
    have p : 1 ≤ 2 ^ d := Nat.one_le_two_pow
    refine ⟨_, ?_, (Okd.tup (OkdL.cons (Okd.kw (by decide +kernel) (by decide +kernel)) (OkdL.cons (Okd.nm (hn x h)) (OkdL.nil (w := 0))))).mono (n := 0 + 1) (by omega) (Nat.le_refl _)⟩
    rw [Nat.pow_succ]
    omega
  | d + 1, .at_ r e, h => by
    obtain ⟨w, hw, o⟩ := Ex.okd hn hr h.2
    refine ⟨_, ?_, Okd.tup (OkdL.cons (Okd.kw (by decide +kernel) (by decide +kernel)) (OkdL.cons (Okd.nm (hr r h.1)) (OkdL.cons o (OkdL.nil (w := 0)))))⟩
    rw [Nat.pow_succ]
    omega
  | d + 1, .no e, h => by
    obtain ⟨w, hw, o⟩ := Ex.okd hn hr (e := e) h
    refine ⟨_, ?_, Okd.tup (OkdL.cons (Okd.kw (by decide +kernel) (by decide +kernel)) (OkdL.cons o (OkdL.nil (w := 0))))⟩
    rw [Nat.pow_succ]
    omega
  | d + 1, .op wd a b, h => by
    obtain ⟨w, hw, o⟩ := Ex.okd hn hr h.2.1
    obtain ⟨w', hw', o'⟩ := Ex.okd hn hr h.2.2
    have k7 := w7_ok wd h.1
    refine ⟨_, ?_, Okd.tup (OkdL.cons (Okd.kw k7.1 k7.2) (OkdL.cons o (OkdL.cons o' (OkdL.nil (w := 0)))))⟩
    rw [Nat.pow_succ]
    omega
theorem Ex.okd4 {nms rws : List Str} (hn : ∀ x ∈ nms, IsNm x) (hr : ∀ x ∈ rws, IsNm x) {e : Ex} (h : e.Wf nms rws 4) : Okd 4 1540 e.d := by
  obtain ⟨w, hw, o⟩ := Ex.okd hn hr h
  exact o.mono (Nat.le_refl _) (by omega)
theorem exs_okd {nms rws : List Str} (hn : ∀ x ∈ nms, IsNm x) (hr : ∀ x ∈ rws, IsNm x) : ∀ {es : List Ex}, (∀ e ∈ es, e.Wf nms rws 4) → OkdL 4 (1541 * es.length) (es.map Ex.d)
  | [], _ => OkdL.nil
  | e :: r, h => by
    have i := exs_okd hn hr fun x hx => h x (List.mem_cons_of_mem _ hx)
    have j := Ex.okd4 hn hr (h e (List.mem_cons_self ..))
    refine (OkdL.cons j i).mono (Nat.le_refl _) ?_
    rw [List.length_cons]
    omega
mutual
theorem Sm.okd {nms rws : List Str} {hds : List (Str × Nat)} (c : NCtx nms rws hds) : ∀ {s : Sm} {k : Nat}, s.Wf nms rws hds k → Okd (2 * k + 6) (8000 * s.size - 1) s.d
  | .set x e, k, h => by
    simp only [Sm.Wf] at h
    simp only [Sm.d, Sm.size]
    exact (Okd.tup (OkdL.cons (Okd.kw (by decide +kernel) (by decide +kernel)) (OkdL.cons (Okd.nm (c.n x h.1)) (OkdL.cons (Ex.okd4 c.n c.r h.2) (OkdL.nil (w := 0)))))).mono (by omega) (by omega)
  | .put r e f, k, h => by
    simp only [Sm.Wf] at h
    simp only [Sm.d, Sm.size]
    exact (Okd.tup (OkdL.cons (Okd.kw (by decide +kernel) (by decide +kernel)) (OkdL.cons (Okd.nm (c.r r h.1)) (OkdL.cons (Ex.okd4 c.n c.r h.2.1) (OkdL.cons (Ex.okd4 c.n c.r h.2.2) (OkdL.nil (w := 0))))))).mono (by omega) (by omega)
  | .tell e, k, h => by
    simp only [Sm.Wf] at h
    simp only [Sm.d, Sm.size]
    exact (Okd.tup (OkdL.cons (Okd.kw (by decide +kernel) (by decide +kernel)) (OkdL.cons (Ex.okd4 c.n c.r h) (OkdL.nil (w := 0))))).mono (by omega) (by omega)
  | .give e, k, h => by
    simp only [Sm.Wf] at h
    simp only [Sm.d, Sm.size]
    exact (Okd.tup (OkdL.cons (Okd.kw (by decide +kernel) (by decide +kernel)) (OkdL.cons (Ex.okd4 c.n c.r h) (OkdL.nil (w := 0))))).mono (by omega) (by omega)
  | .fail n, k, h => by
    simp only [Sm.Wf] at h
    simp only [Sm.d, Sm.size]
    exact (Okd.tup (n := 0) (OkdL.cons (Okd.kw (by decide +kernel) (by decide +kernel)) (OkdL.cons (Okd.int ⟨by omega, by omega⟩) (OkdL.nil (w := 0))))).mono (by omega) (by omega)
  | .call x hp es, k, h => by
    simp only [Sm.Wf] at h
    simp only [Sm.d, Sm.size]
    have h4 := c.h _ h.2.1
    have l4 : es.length ≤ 4 := h4.2
    exact (Okd.tup (OkdL.cons (Okd.kw (by decide +kernel) (by decide +kernel)) (OkdL.cons (Okd.nm (c.n x h.1)) (OkdL.cons (Okd.nm h4.1) (OkdL.cons (Okd.tup (exs_okd c.n c.r h.2.2)) (OkdL.nil (w := 0))))))).mono (by omega) (by omega)
  | .ite e ys ns, k, h => by
    simp only [Sm.Wf] at h
    simp only [Sm.d, Sm.size]
    have a := Sm.okdL c h.2.2.1
    have b := Sm.okdL c h.2.2.2
    have k0 := h.1
    exact (Okd.tup (n := 2 * k + 5) (OkdL.cons (Okd.kw (by decide +kernel) (by decide +kernel)) (OkdL.cons ((Ex.okd4 c.n c.r h.2.1).mono (by omega) (Nat.le_refl _)) (OkdL.cons ((Okd.tup a).mono (by omega) (Nat.le_refl _)) (OkdL.cons ((Okd.tup b).mono (by omega) (Nat.le_refl _)) (OkdL.nil (w := 0))))))).mono (by omega) (by omega)
  | .loop e b, k, h => by
    simp only [Sm.Wf] at h
    simp only [Sm.d, Sm.size]
    have a := Sm.okdL c h.2.2
    have k0 := h.1
    exact (Okd.tup (n := 2 * k + 5) (OkdL.cons (Okd.kw (by decide +kernel) (by decide +kernel)) (OkdL.cons ((Ex.okd4 c.n c.r h.2.1).mono (by omega) (Nat.le_refl _)) (OkdL.cons ((Okd.tup a).mono (by omega) (Nat.le_refl _)) (OkdL.nil (w := 0)))))).mono (by omega) (by omega)
theorem Sm.okdL {nms rws : List Str} {hds : List (Str × Nat)} (c : NCtx nms rws hds) : ∀ {l : List Sm} {k : Nat}, Sm.Wfs nms rws hds l k → OkdL (2 * k + 6) (8000 * Sm.sizes l) (Sm.ds l)
  | [], _, _ => by simp only [Sm.ds]; exact OkdL.nil
  | s :: r, k, h => by
    simp only [Sm.Wfs] at h
    simp only [Sm.ds, Sm.sizes]
    have a := Sm.okd c h.1
    have b := Sm.okdL c h.2.2
    have p := Sm.size_pos s
    exact (OkdL.cons a b).mono (Nat.le_refl _) (by omega)
end

theorem strs_okd {n : Nat} : ∀ {zs : List Str}, (∀ x ∈ zs, IsNm x) → OkdL n (9 * zs.length) (zs.map PyData.str)
  | [], _ => OkdL.nil
  | z :: r, h => by
    have i := strs_okd (n := n) fun x hx => h x (List.mem_cons_of_mem _ hx)
    refine (OkdL.cons (Okd.nm (h z (List.mem_cons_self ..))) i).mono (Nat.le_refl _) ?_
    rw [List.length_cons]
    omega
theorem all_okd {α : Type} {f : α → PyData} {n w : Nat} : ∀ {l : List α}, (∀ x ∈ l, Okd n w (f x)) → OkdL n ((w + 1) * l.length) (l.map f)
  | [], _ => OkdL.nil
  | z :: r, h => by
    have i := all_okd fun x hx => h x (List.mem_cons_of_mem _ hx)
    refine (OkdL.cons (h z (List.mem_cons_self ..)) i).mono (Nat.le_refl _) ?_
    rw [List.length_cons, Nat.mul_add]
    omega
theorem Pg.Wf.heads {p : Pg} (w : p.Wf) : ∀ q ∈ p.hs.map hdOf, IsNm q.1 ∧ q.2 ≤ 4 := by
  intro q hq
  obtain ⟨h, hh, rfl⟩ := List.mem_map.mp hq
  obtain ⟨i, hi⟩ := List.mem_iff_getElem?.mp hh
  have := w.hok i h hi
  exact ⟨this.nm, this.pl⟩
theorem Pg.Wf.hp {p : Pg} (w : p.Wf) {h : Str × List Str × List Sm} (hh : h ∈ p.hs) : HpT h ∧ Okd 16 64100 (hpD h) := by
  obtain ⟨i, hi⟩ := List.mem_iff_getElem?.mp hh
  have k := w.hok i h hi
  obtain ⟨vs, v1, v2, v3, v4⟩ := k.bd
  have c : NCtx vs [] ((p.hs.take i).map hdOf) := ⟨v1, (fun x hx => nomatch hx), fun q hq => by
    obtain ⟨h', hh', rfl⟩ := List.mem_map.mp hq
    exact w.heads _ (List.mem_map.mpr ⟨h', List.mem_of_mem_take hh', rfl⟩)⟩
  have sz := k.sz
  have pl := k.pl
  refine ⟨⟨Nat.le_trans k.nm.hi (by decide), fun x hx => Nat.le_trans (k.pk x hx).hi (by decide), k.pl, vs, [], _, c.ctx, v4, by omega⟩, ?_⟩
  have o := Sm.okdL c v4
  unfold hpD
  exact (Okd.tup (OkdL.cons (Okd.nm k.nm) (OkdL.cons ((Okd.tup (strs_okd (n := 14) k.pk)).mono (by omega) (Nat.le_refl _)) (OkdL.cons (Okd.tup o) (OkdL.nil (w := 0)))))).mono (by omega) (by omega)
theorem Pg.Wf.body {p : Pg} (w : p.Wf) : BdT p.bd ∧ OkdL 14 192000 (Sm.ds p.bd) := by
  obtain ⟨vs, v1, v2, v3, v4, v5⟩ := w.bd
  have c : NCtx vs (p.rs.map (·.1)) (p.hs.map hdOf) := ⟨v1, fun x hx => by
    obtain ⟨r, hr, rfl⟩ := List.mem_map.mp hx
    exact (w.rk r hr).1, w.heads⟩
  have sz := w.sz
  exact ⟨⟨vs, _, _, c.ctx, v5, sz⟩, (Sm.okdL c v5).mono (by omega) (by omega)⟩
theorem Pg.Wf.t {p : Pg} (w : p.Wf) : PgT p :=
  ⟨w.hl, fun h hh => (w.hp hh).1, w.pl, fun x hx => Nat.le_trans (w.pk x hx).hi (by decide), w.rl, fun r hr => ⟨Nat.le_trans (w.rk r hr).1.hi (by decide), (w.rk r hr).2.2.1⟩, w.body.1⟩
theorem Pg.Wf.okd {p : Pg} (w : p.Wf) : Okd 18 600000 p.d := by
  have o := w.body.2
  have hl := w.hl
  have pl := w.pl
  have rl := w.rl
  have a := all_okd (f := hpD) (l := p.hs) fun h hh => (w.hp hh).2
  have b := all_okd (f := rwD) (n := 1) (w := 60) (l := p.rs) fun r hr => by
    unfold rwD
    have k := w.rk r hr
    exact (Okd.tup (n := 0) (OkdL.cons (Okd.nm k.1) (OkdL.cons (Okd.int (rw32 k.2.2.1)) (OkdL.nil (w := 0))))).mono (by omega) (by omega)
  unfold Pg.d
  refine (Okd.tup (n := 17) (OkdL.cons (Okd.tup a) (OkdL.cons ((Okd.tup (strs_okd (n := 14) w.pk)).mono (by omega) (Nat.le_refl _)) (OkdL.cons ((Okd.tup b).mono (by omega) (Nat.le_refl _)) (OkdL.cons ((Okd.tup o).mono (by omega) (Nat.le_refl _)) (OkdL.nil (w := 0))))))).mono (by omega) ?_
  have e : (64100 + 1) * p.hs.length ≤ 64101 * 4 := Nat.mul_le_mul_left _ hl
  omega
theorem Okd.shown_len {n : Nat} {d : PyData} (h : Okd n 1000000 d) (hn : n ≤ 64) : d.shown.length ≤ sizeLine := by
  have := PyProof.Rows.shown_le13 (d := d) (by
    unfold PyData.layable0
    rw [h.2.1, decide_eq_true (Nat.le_trans h.2.2.2.1 hn), decide_eq_true (Nat.le_trans h.2.2.2.2 (by decide))]
    rfl) h.2.2.1
  rw [sizeLine_eq]
  omega
/-- the helpers alone -/
def Pg.small (p : Pg) : Pg := ⟨p.hs, [], [], []⟩
theorem PgT.small {p : Pg} (t : PgT p) : PgT p.small :=
  ⟨t.hl, t.hs, Nat.zero_le _, (fun x hx => nomatch hx), Nat.zero_le _, (fun x hx => nomatch hx), [], [], [], ⟨(fun x hx => nomatch hx), (fun x hx => nomatch hx), (fun x hx => nomatch hx)⟩, by simp only [Pg.small, Sm.Wfs], by simp [Pg.small, Sm.sizes]⟩

section
variable {P : Program} {w : World} {K : PySem.W.Frag} {mg : Str → Option Value} {base : Heap}
theorem dec_self (z : V) : decide (z = z) = true := decide_eq_true rfl
def sp_law (K : PySem.W.Frag) : Sp := fun vs H Q _ => ∃ (a : Addr) (ns : List Int), vs = [.ref a] ∧ SqL K H a (ns.map V.int) ∧ ∀ H', Q (.bl true) H'
theorem ok_law (T : Top K mg) : FnG P w K mg base CX0 22 (He.ga K "law") T.fd_law ["_law_script"] (sp_law K) := by
  have G__law_program := ok__law_program (P := P) (w := w) (base := base) T
  have G__law_lines := ok__law_lines (P := P) (w := w) (base := base) T
  have G_written := ok_written (P := P) (w := w) (base := base) T
  refine FnG.mk' T.F_law sc_law (fun vs H Q E h => ?_) (fun cdv A outer s H vs Q E gd hr h => ?_)
  · obtain ⟨a, ns, rfl, _⟩ := h
    rfl
  · obtain ⟨a, ns, rfl, hS, q⟩ := h
    refine ⟨_, PSs.nox (pss_cons (ps_set (i := 1) sc_law.nd rfl (Or.inl rfl) (pe_call G__law_program (hr.mono (by omega)) (by rfl) T.g__law_program T.F__law_program.kp T.b__law_program .nil pass0 (pa_cons (pv 0) (pa_cons pe_int pa_nil))))
        (pss_cons (ps_set (i := 2) sc_law.nd rfl (Or.inl rfl) (pe_callB (call_reprD gd hr) (by rfl) T.m_repr (by decide +kernel) (pa_cons (pv 1) pa_nil)))
        (pss_cons (ps_set (i := 3) sc_law.nd rfl (Or.inl rfl) (pe_join pe_str (pe_lc (own := [("_law_line", 6)]) (by rfl) sc_law.nd (pi_list (pe_call G__law_lines (hr.mono (by omega)) (by rfl) T.g__law_lines T.F__law_lines.kp T.b__law_lines .nil pass0 (pa_cons (pv 1) pa_nil))) (blkOk_by (own := [("_law_line", 6)]) (N := N_law) (sc := defScope s_law) (by decide +kernel)) (fun _ _ _ _ _ => (pg_name (i := 6) sc_law.nd rfl (Or.inl rfl))) (fun _ _ _ _ _ => pts_nil) (fun _ _ _ _ _ => (pe_op op_add_str (pv 6) pe_str)))))
        (pss_cons (ps_set (i := 4) sc_law.nd rfl (Or.inl rfl) (pe_call G_written (hr.mono (by omega)) (by rfl) T.g_written T.F_written.kp T.b_written .nil pass0 (pa_cons (pv 1) pa_nil)))
        (pss_cons (ps_if (PW.pt (pw_or (pt_not (pt_val (pe_callB call_isi (by rfl) T.m_isinstance (by decide +kernel) (pa_cons (pv 4) (pa_cons (pe_bltn (v := .ty "str") (by rfl) T.m_str (by decide +kernel) rfl) pa_nil))))) (pw_or (pt_cmpR op_ne (pv 4) (pv 3) (nomark _)) (pw_or1 (pt_cmpR op_ne (pe_callB (call_reprD gd hr) (by rfl) T.m_repr (by decide +kernel) (pa_cons (pv 1) pa_nil)) (pv 2) (nomark _)))))) (pss_one (ps_ret pe_bl)) pss_nil)
        (pss_cons (ps_set (i := 5) sc_law.nd rfl (Or.inl rfl) (pe_tup (pa_cons (pe_ix ix_tup (pv 1) pe_int (fun _ _ => rfl)) (pa_cons (pe_tup pa_nil) (pa_cons (pe_tup pa_nil) (pa_cons (pe_tup pa_nil) pa_nil))))))
        (pss_one (ps_ret (pe_and (pe_cmpR op_eq (pe_call G_written (hr.mono (by omega)) (by rfl) T.g_written T.F_written.kp T.b_written .nil pass0 (pa_cons (pv 5) pa_nil)) (pe_join pe_str (pe_lc (own := [("_law_line", 6)]) (by rfl) sc_law.nd (pi_list (pe_call G__law_lines (hr.mono (by omega)) (by rfl) T.g__law_lines T.F__law_lines.kp T.b__law_lines .nil pass0 (pa_cons (pv 5) pa_nil))) (blkOk_by (own := [("_law_line", 6)]) (N := N_law) (sc := defScope s_law) (by decide +kernel)) (fun _ _ _ _ _ => (pg_name (i := 6) sc_law.nd rfl (Or.inl rfl))) (fun _ _ _ _ _ => pts_nil) (fun _ _ _ _ _ => (pe_op op_add_str (pv 6) pe_str)))) (nomark _)) (pe_one (pe_cmpR op_eq (pe_call G_written (hr.mono (by omega)) (by rfl) T.g_written T.F_written.kp T.b_written .nil pass0 (pa_cons (pv 1) pa_nil)) (pv 3) (nomark _)))))))))))), ?_⟩
    have kS : ∀ {H1 H2 : Hp} {p : Addr} {xs : List V}, Same H1 H2 → SqT K H1 p xs → SqT K H2 p xs := fun s h => sqT_kp (Kp.of_same (S := fun _ => False) s) h
    refine ⟨_, rfl, a, ns, 0, rfl, hS, by decide, by decide, fun H1 r p s1 dp wf => ?_⟩
    have ok := wf.okd
    have pt := wf.t
    refine ⟨_, rfl, r, _, rfl, dp, ok.1, ok.2.1, Nat.le_trans ok.2.2.2.1 (by decide), (ok.mono (Nat.le_refl _) (by decide)).shown_len (by decide), ?_⟩
    refine ⟨⟨_, rfl⟩, _, rfl, r, p, rfl, dp, pt, fun H2 L s2 nL e2 => ?_⟩
    refine ⟨L, rfl, ⟨_, .of e2⟩, fun D nD => ?_⟩
    have pln := pt.len
    refine lc_list (K := K) (a := L) (xs := p.lines.map V.str) (fun j H' => Same H2 H' ∧ H' D = some (.lst (((p.lines.take j).map fun l => l ++ Str.ofString "\n").map V.str))) ?_ ?_ ?_ ?_
    · exact ⟨same_new nD, upd_same⟩
    · rintro j H' _ ⟨s', _⟩
      exact .of (s' _ _ e2)
    · rintro j x H' hx ⟨s', e'⟩
      rw [List.getElem?_map] at hx
      obtain ⟨z, hz, rfl⟩ := Option.map_eq_some_iff.mp hx
      have zl := pt.sh z (List.mem_of_getElem? hz)
      have z1 : (Str.ofString "\n").length = 1 := by decide +kernel
      refine ⟨rfl, _, rfl, _, _, rfl, rfl, by rw [sizeLine_eq]; omega, _, e', by rw [List.length_map, List.length_map, List.length_take, sizeLine_eq]; omega, ?_, ?_⟩
      · intro b o hb
        rw [upd_ne (ne_of_none hb nD)]
        exact s' b o hb
      · rw [upd_same, List.take_add_one, hz, snocS]
        simp
    rintro H3 ⟨s3, e3⟩
    rw [List.length_map, List.take_length] at e3
    refine ⟨_, D, _, rfl, rfl, .inl (.of e3), pt.join, ?_⟩
    rw [textOf_eq]
    have s13 := s2.trans s3
    have dp3 := dp_same dp s13 p.noL
    refine ⟨_, rfl, r, p, rfl, dp3, pt, fun H4 s4 => ?_⟩
    have dp4 := dp_same dp3 s4 p.noL
    refine ⟨_, rfl, _, _, _, _, true, rfl, .ty _, .base (.str _), kit_ty (by decide +kernel), true, rfl, ?_⟩
    refine ⟨_, rfl, _, rfl, rfl, _, rfl, ?_⟩
    rw [dec_self]
    refine ⟨_, rfl, r, _, rfl, dp4, ok.1, ok.2.1, Nat.le_trans ok.2.2.2.1 (by decide), (ok.mono (Nat.le_refl _) (by decide)).shown_len (by decide), ?_⟩
    refine ⟨_, rfl, rfl, _, rfl, ?_⟩
    rw [dec_self]
    obtain ⟨p0, ph, pp, pr, pb, hv, rv, bv, rfl, h0, hh, dh, -⟩ := pg_at dp4
    refine ⟨_, rfl, p0, _, 0, _, rfl, rfl, h0, atI_nat (j := 0) rfl, Nat.zero_le _, fun t1 n1 => ?_⟩
    have u1 := same_new (o := .tup []) n1
    refine ⟨Nat.zero_le _, fun t2 n2 => ?_⟩
    have u2 := same_new (o := .tup []) n2
    refine ⟨Nat.zero_le _, fun t3 n3 => ?_⟩
    have u3 := same_new (o := .tup []) n3
    refine ⟨by show 4 ≤ sizeLine; rw [sizeLine_eq]; decide, fun sm nsm => ?_⟩
    have u4 := same_new (o := .tup [.ref ph, .ref t1, .ref t2, .ref t3]) nsm
    have k4 := (u2.trans u3).trans u4
    have ds : Dp K (upd (upd (upd (upd H4 t1 (.tup [])) t2 (.tup [])) t3 (.tup [])) sm (.tup [.ref ph, .ref t1, .ref t2, .ref t3])) (.ref sm) p.small.d := by
      refine .tup (.of upd_same) (.cons (.tup (kS (u1.trans k4) hh) (dpAll_same dh (u1.trans k4) (hps_noL _))) (.cons (.tup (.of (k4 _ _ upd_same)) .nil) (.cons (.tup (.of ((u3.trans u4) _ _ upd_same)) .nil) (.cons (.tup (.of (u4 _ _ upd_same)) ?_) .nil))))
      simp only [Pg.small, Sm.ds]
      exact .nil
    have dp5 := dp_same dp4 (u1.trans k4) p.noL
    generalize upd (upd (upd (upd H4 t1 (.tup [])) t2 (.tup [])) t3 (.tup [])) sm (.tup [.ref ph, .ref t1, .ref t2, .ref t3]) = H5 at ds dp5
    have ps := pt.small
    refine ⟨_, rfl, _, p.small, rfl, ds, ps, fun H6 s6 => ?_⟩
    refine ⟨⟨_, rfl⟩, _, rfl, _, p.small, rfl, dp_same ds s6 p.small.noL, ps, fun H7 L7 s7 n7 e7 => ?_⟩
    refine ⟨L7, rfl, ⟨_, .of e7⟩, fun D7 nD7 => ?_⟩
    have pln := ps.len
    refine lc_list (K := K) (a := L7) (xs := p.small.lines.map V.str) (fun j H' => Same H7 H' ∧ H' D7 = some (.lst (((p.small.lines.take j).map fun l => l ++ Str.ofString "\n").map V.str))) ?_ ?_ ?_ ?_
    · exact ⟨same_new nD7, upd_same⟩
    · rintro j H' _ ⟨s', _⟩
      exact .of (s' _ _ e7)
    · rintro j x H' hx ⟨s', e'⟩
      rw [List.getElem?_map] at hx
      obtain ⟨z, hz, rfl⟩ := Option.map_eq_some_iff.mp hx
      have zl := ps.sh z (List.mem_of_getElem? hz)
      have z1 : (Str.ofString "\n").length = 1 := by decide +kernel
      refine ⟨rfl, _, rfl, _, _, rfl, rfl, by rw [sizeLine_eq]; omega, _, e', by rw [List.length_map, List.length_map, List.length_take, sizeLine_eq]; omega, ?_, ?_⟩
      · intro b o hb
        rw [upd_ne (ne_of_none hb nD7)]
        exact s' b o hb
      · rw [upd_same, List.take_add_one, hz, snocS]
        simp
    rintro H8 ⟨s8, e8⟩
    rw [List.length_map, List.take_length] at e8
    refine ⟨_, D7, _, rfl, rfl, .inl (.of e8), ps.join, ?_⟩
    rw [textOf_eq]
    refine ⟨rfl, _, rfl, ?_⟩
    refine ifD rfl ?_
    refine ⟨_, rfl, _, p, rfl, dp_same dp5 ((s6.trans s7).trans s8) p.noL, pt, fun H9 s9 => ?_⟩
    refine ⟨_, rfl, rfl, ?_⟩
    rw [dec_self]
    exact q _
end
theorem law_start {K : PySem.W.Frag} {H : Hp} {a : Addr} {ns : List Int} (hl : ns.length ≤ 63) (hb : ∀ z ∈ ns, Builtin.Int.intBits z ≤ 1048576) (hS : SqL K H a (ns.map V.int)) : sp_law K [.ref a] H (fun v _ => v = .bl true) fun _ _ _ => False := ⟨a, ns, rfl, hS, fun _ => rfl⟩

def d_words_of : He.DefD := ⟨("words_of", none), "words_of", "words_of", defArgs s_words_of, defBody s_words_of, defScope s_words_of, [], []⟩
def d_plain_words : He.DefD := ⟨("plain_words", none), "plain_words", "plain_words", defArgs s_plain_words, defBody s_plain_words, defScope s_plain_words, [], []⟩
def d_body_lines : He.DefD := ⟨("body_lines", none), "body_lines", "body_lines", defArgs s_body_lines, defBody s_body_lines, defScope s_body_lines, [], []⟩
def d_written : He.DefD := ⟨("written", none), "written", "written", defArgs s_written, defBody s_written, defScope s_written, [], []⟩
def d__law_cell_at : He.DefD := ⟨("_law_cell_at", none), "_law_cell_at", "_law_cell_at", defArgs s__law_cell_at, defBody s__law_cell_at, defScope s__law_cell_at, [], []⟩
def d__law_held : He.DefD := ⟨("_law_held", none), "_law_held", "_law_held", defArgs s__law_held, defBody s__law_held, defScope s__law_held, [], []⟩
def d__law_mixed : He.DefD := ⟨("_law_mixed", none), "_law_mixed", "_law_mixed", defArgs s__law_mixed, defBody s__law_mixed, defScope s__law_mixed, [], []⟩
def d__law_kept : He.DefD := ⟨("_law_kept", none), "_law_kept", "_law_kept", defArgs s__law_kept, defBody s__law_kept, defScope s__law_kept, [], []⟩
def d__law_letter : He.DefD := ⟨("_law_letter", none), "_law_letter", "_law_letter", defArgs s__law_letter, defBody s__law_letter, defScope s__law_letter, [], []⟩
def d__law_names : He.DefD := ⟨("_law_names", none), "_law_names", "_law_names", defArgs s__law_names, defBody s__law_names, defScope s__law_names, [], []⟩
def d__law_number_by : He.DefD := ⟨("_law_number_by", none), "_law_number_by", "_law_number_by", defArgs s__law_number_by, defBody s__law_number_by, defScope s__law_number_by, [], []⟩
def d__law_within : He.DefD := ⟨("_law_within", none), "_law_within", "_law_within", defArgs s__law_within, defBody s__law_within, defScope s__law_within, [], []⟩
def d__law_expression : He.DefD := ⟨("_law_expression", none), "_law_expression", "_law_expression", defArgs s__law_expression, defBody s__law_expression, defScope s__law_expression, [], []⟩
def d__law_expressions : He.DefD := ⟨("_law_expressions", none), "_law_expressions", "_law_expressions", defArgs s__law_expressions, defBody s__law_expressions, defScope s__law_expressions, [], []⟩
def d__law_plain : He.DefD := ⟨("_law_plain", none), "_law_plain", "_law_plain", defArgs s__law_plain, defBody s__law_plain, defScope s__law_plain, [], []⟩
def d__law_nest : He.DefD := ⟨("_law_nest", none), "_law_nest", "_law_nest", defArgs s__law_nest, defBody s__law_nest, defScope s__law_nest, [], []⟩
def d__law_body : He.DefD := ⟨("_law_body", none), "_law_body", "_law_body", defArgs s__law_body, defBody s__law_body, defScope s__law_body, [], []⟩
def d__law_inner_cell : He.DefD := ⟨("_law_inner_cell", none), "_law_inner_cell", "_law_inner_cell", defArgs s__law_inner_cell, defBody s__law_inner_cell, defScope s__law_inner_cell, [], []⟩
def d__law_program : He.DefD := ⟨("_law_program", none), "_law_program", "_law_program", defArgs s__law_program, defBody s__law_program, defScope s__law_program, [], []⟩
def d__law_words_of : He.DefD := ⟨("_law_words_of", none), "_law_words_of", "_law_words_of", defArgs s__law_words_of, defBody s__law_words_of, defScope s__law_words_of, [], []⟩
def d__law_statement_lines : He.DefD := ⟨("_law_statement_lines", none), "_law_statement_lines", "_law_statement_lines", defArgs s__law_statement_lines, defBody s__law_statement_lines, defScope s__law_statement_lines, [], []⟩
def d__law_lines : He.DefD := ⟨("_law_lines", none), "_law_lines", "_law_lines", defArgs s__law_lines, defBody s__law_lines, defScope s__law_lines, [], []⟩
def d_law : He.DefD := ⟨("law", none), "law", "law", defArgs s_law, defBody s_law, defScope s_law, [], []⟩
def fn0 : List He.DefD := [d_words_of, d_plain_words, d_body_lines, d_written, d__law_cell_at, d__law_held, d__law_mixed, d__law_kept, d__law_letter, d__law_names, d__law_number_by, d__law_within, d__law_expression, d__law_expressions, d__law_plain, d__law_nest, d__law_body, d__law_inner_cell, d__law_program, d__law_words_of, d__law_statement_lines, d__law_lines, d_law]
def fn : List He.DefD := fn0
def fa0 : List He.Fa := [.glo "words_of", .glo "plain_words", .glo "body_lines", .glo "written", .glo "_law_cell_at", .glo "_law_held", .glo "_law_mixed", .glo "_law_kept", .glo "_law_letter", .glo "_law_names", .glo "_law_number_by", .glo "_law_within", .glo "_law_expression", .glo "_law_expressions", .glo "_law_plain", .glo "_law_nest", .glo "_law_body", .glo "_law_inner_cell", .glo "_law_program", .glo "_law_words_of", .glo "_law_statement_lines", .glo "_law_lines", .glo "law", .free "int", .free "isinstance", .free "len", .free "list", .free "max", .free "min", .free "range"]
def fa1 : List He.Fa := [.free "repr", .free "str", .free "tuple"]
def fa : List He.Fa := fa0 ++ fa1
def exB (K : PySem.W.Frag) : Bool := true
abbrev hk : PySem.W.Hook := hookE 4 fa fn exB
def ob (s : PySem.W.SharedT) : He.AlD × Bool := obsE 4 fa fn exB (HandSHeadRun.getT s)
theorem ob_eq (s : PySem.W.SharedT) : ob s = hk.obs s.abs := obsE_eq (HandSHeadRun.getT_eq s)
abbrev R : PySem.W.OpenRow := PySem.W.OpenLaw.row PySem.Challenge.rw_passworks_k05_written
def lo0 : List PySem.Str := ["words_of", "plain_words", "body_lines", "written", "_law_cell_at", "_law_held", "_law_mixed", "_law_kept", "_law_letter", "_law_names", "_law_number_by", "_law_within", "_law_expression", "_law_expressions", "_law_plain", "_law_nest", "_law_body", "_law_inner_cell", "_law_program", "_law_words_of", "_law_statement_lines", "_law_lines"]
def lo : List PySem.Str := lo0
theorem run (w : World) : HandSHeadRun.RunEq R (PySem.W.view R.prog [24]) hk ob 4000 lo w := by
  intro os
  kernel_rfl
theorem top_of {K : PySem.W.Frag} {h : Heap} {mg : Str → Option Value} (X : K.In h) (G : h.Ns mainGlobals mg) (c : SaysE fa fn exB K) : Nonempty (Top K mg) := by
  obtain ⟨fd0, F0⟩ := c.1.def_ 0 (d := d_words_of) rfl
  obtain ⟨fd1, F1⟩ := c.1.def_ 1 (d := d_plain_words) rfl
  obtain ⟨fd2, F2⟩ := c.1.def_ 2 (d := d_body_lines) rfl
  obtain ⟨fd3, F3⟩ := c.1.def_ 3 (d := d_written) rfl
  obtain ⟨fd4, F4⟩ := c.1.def_ 4 (d := d__law_cell_at) rfl
  obtain ⟨fd5, F5⟩ := c.1.def_ 5 (d := d__law_held) rfl
  obtain ⟨fd6, F6⟩ := c.1.def_ 6 (d := d__law_mixed) rfl
  obtain ⟨fd7, F7⟩ := c.1.def_ 7 (d := d__law_kept) rfl
  obtain ⟨fd8, F8⟩ := c.1.def_ 8 (d := d__law_letter) rfl
  obtain ⟨fd9, F9⟩ := c.1.def_ 9 (d := d__law_names) rfl
  obtain ⟨fd10, F10⟩ := c.1.def_ 10 (d := d__law_number_by) rfl
  obtain ⟨fd11, F11⟩ := c.1.def_ 11 (d := d__law_within) rfl
  obtain ⟨fd12, F12⟩ := c.1.def_ 12 (d := d__law_expression) rfl
  obtain ⟨fd13, F13⟩ := c.1.def_ 13 (d := d__law_expressions) rfl
  obtain ⟨fd14, F14⟩ := c.1.def_ 14 (d := d__law_plain) rfl
  obtain ⟨fd15, F15⟩ := c.1.def_ 15 (d := d__law_nest) rfl
  obtain ⟨fd16, F16⟩ := c.1.def_ 16 (d := d__law_body) rfl
  obtain ⟨fd17, F17⟩ := c.1.def_ 17 (d := d__law_inner_cell) rfl
  obtain ⟨fd18, F18⟩ := c.1.def_ 18 (d := d__law_program) rfl
  obtain ⟨fd19, F19⟩ := c.1.def_ 19 (d := d__law_words_of) rfl
  obtain ⟨fd20, F20⟩ := c.1.def_ 20 (d := d__law_statement_lines) rfl
  obtain ⟨fd21, F21⟩ := c.1.def_ 21 (d := d__law_lines) rfl
  obtain ⟨fd22, F22⟩ := c.1.def_ 22 (d := d_law) rfl
  exact ⟨{ fd_words_of := fd0, F_words_of := F0, b_words_of := FunD.bindsN F0 fun _ _ _ _ _ _ us hl => (match us, hl with | [_], _ => rfl), g_words_of := He.glo_ok X G (c.1.fact 0 (f := .glo "words_of") rfl), fd_plain_words := fd1, F_plain_words := F1, b_plain_words := FunD.bindsN F1 fun _ _ _ _ _ _ us hl => (match us, hl with | [_], _ => rfl), g_plain_words := He.glo_ok X G (c.1.fact 1 (f := .glo "plain_words") rfl), fd_body_lines := fd2, F_body_lines := F2, b_body_lines := FunD.bindsN F2 fun _ _ _ _ _ _ us hl => (match us, hl with | [_], _ => rfl), g_body_lines := He.glo_ok X G (c.1.fact 2 (f := .glo "body_lines") rfl), fd_written := fd3, F_written := F3, b_written := FunD.bindsN F3 fun _ _ _ _ _ _ us hl => (match us, hl with | [_], _ => rfl), g_written := He.glo_ok X G (c.1.fact 3 (f := .glo "written") rfl), fd__law_cell_at := fd4, F__law_cell_at := F4, b__law_cell_at := FunD.bindsN F4 fun _ _ _ _ _ _ us hl => (match us, hl with | [_, _], _ => rfl), g__law_cell_at := He.glo_ok X G (c.1.fact 4 (f := .glo "_law_cell_at") rfl), fd__law_held := fd5, F__law_held := F5, b__law_held := FunD.bindsN F5 fun _ _ _ _ _ _ us hl => (match us, hl with | [_], _ => rfl), g__law_held := He.glo_ok X G (c.1.fact 5 (f := .glo "_law_held") rfl), fd__law_mixed := fd6, F__law_mixed := F6, b__law_mixed := FunD.bindsN F6 fun _ _ _ _ _ _ us hl => (match us, hl with | [_, _, _], _ => rfl), g__law_mixed := He.glo_ok X G (c.1.fact 6 (f := .glo "_law_mixed") rfl), fd__law_kept := fd7, F__law_kept := F7, b__law_kept := FunD.bindsN F7 fun _ _ _ _ _ _ us hl => (match us, hl with | [], _ => rfl), g__law_kept := He.glo_ok X G (c.1.fact 7 (f := .glo "_law_kept") rfl), fd__law_letter := fd8, F__law_letter := F8, b__law_letter := FunD.bindsN F8 fun _ _ _ _ _ _ us hl => (match us, hl with | [_], _ => rfl), g__law_letter := He.glo_ok X G (c.1.fact 8 (f := .glo "_law_letter") rfl), fd__law_names := fd9, F__law_names := F9, b__law_names := FunD.bindsN F9 fun _ _ _ _ _ _ us hl => (match us, hl with | [_], _ => rfl), g__law_names := He.glo_ok X G (c.1.fact 9 (f := .glo "_law_names") rfl), fd__law_number_by := fd10, F__law_number_by := F10, b__law_number_by := FunD.bindsN F10 fun _ _ _ _ _ _ us hl => (match us, hl with | [_, _], _ => rfl), g__law_number_by := He.glo_ok X G (c.1.fact 10 (f := .glo "_law_number_by") rfl), fd__law_within := fd11, F__law_within := F11, b__law_within := FunD.bindsN F11 fun _ _ _ _ _ _ us hl => (match us, hl with | [_, _], _ => rfl), g__law_within := He.glo_ok X G (c.1.fact 11 (f := .glo "_law_within") rfl), fd__law_expression := fd12, F__law_expression := F12, b__law_expression := FunD.bindsN F12 fun _ _ _ _ _ _ us hl => (match us, hl with | [_, _, _], _ => rfl), g__law_expression := He.glo_ok X G (c.1.fact 12 (f := .glo "_law_expression") rfl), fd__law_expressions := fd13, F__law_expressions := F13, b__law_expressions := FunD.bindsN F13 fun _ _ _ _ _ _ us hl => (match us, hl with | [_, _, _], _ => rfl), g__law_expressions := He.glo_ok X G (c.1.fact 13 (f := .glo "_law_expressions") rfl), fd__law_plain := fd14, F__law_plain := F14, b__law_plain := FunD.bindsN F14 fun _ _ _ _ _ _ us hl => (match us, hl with | [_, _], _ => rfl), g__law_plain := He.glo_ok X G (c.1.fact 14 (f := .glo "_law_plain") rfl), fd__law_nest := fd15, F__law_nest := F15, b__law_nest := FunD.bindsN F15 fun _ _ _ _ _ _ us hl => (match us, hl with | [_, _, _, _, _], _ => rfl), g__law_nest := He.glo_ok X G (c.1.fact 15 (f := .glo "_law_nest") rfl), fd__law_body := fd16, F__law_body := F16, b__law_body := FunD.bindsN F16 fun _ _ _ _ _ _ us hl => (match us, hl with | [_, _, _], _ => rfl), g__law_body := He.glo_ok X G (c.1.fact 16 (f := .glo "_law_body") rfl), fd__law_inner_cell := fd17, F__law_inner_cell := F17, b__law_inner_cell := FunD.bindsN F17 fun _ _ _ _ _ _ us hl => (match us, hl with | [_, _, _, _], _ => rfl), g__law_inner_cell := He.glo_ok X G (c.1.fact 17 (f := .glo "_law_inner_cell") rfl), fd__law_program := fd18, F__law_program := F18, b__law_program := FunD.bindsN F18 fun _ _ _ _ _ _ us hl => (match us, hl with | [_, _], _ => rfl), g__law_program := He.glo_ok X G (c.1.fact 18 (f := .glo "_law_program") rfl), fd__law_words_of := fd19, F__law_words_of := F19, b__law_words_of := FunD.bindsN F19 fun _ _ _ _ _ _ us hl => (match us, hl with | [_], _ => rfl), g__law_words_of := He.glo_ok X G (c.1.fact 19 (f := .glo "_law_words_of") rfl), fd__law_statement_lines := fd20, F__law_statement_lines := F20, b__law_statement_lines := FunD.bindsN F20 fun _ _ _ _ _ _ us hl => (match us, hl with | [_], _ => rfl), g__law_statement_lines := He.glo_ok X G (c.1.fact 20 (f := .glo "_law_statement_lines") rfl), fd__law_lines := fd21, F__law_lines := F21, b__law_lines := FunD.bindsN F21 fun _ _ _ _ _ _ us hl => (match us, hl with | [_], _ => rfl), g__law_lines := He.glo_ok X G (c.1.fact 21 (f := .glo "_law_lines") rfl), fd_law := fd22, F_law := F22, b_law := FunD.bindsN F22 fun _ _ _ _ _ _ us hl => (match us, hl with | [_], _ => rfl), g_law := He.glo_ok X G (c.1.fact 22 (f := .glo "law") rfl), m_int := He.free_ok X G (c.1.fact 23 (f := .free "int") rfl), m_isinstance := He.free_ok X G (c.1.fact 24 (f := .free "isinstance") rfl), m_len := He.free_ok X G (c.1.fact 25 (f := .free "len") rfl), m_list := He.free_ok X G (c.1.fact 26 (f := .free "list") rfl), m_max := He.free_ok X G (c.1.fact 27 (f := .free "max") rfl), m_min := He.free_ok X G (c.1.fact 28 (f := .free "min") rfl), m_range := He.free_ok X G (c.1.fact 29 (f := .free "range") rfl), m_repr := He.free_ok X G (c.1.fact 30 (f := .free "repr") rfl), m_str := He.free_ok X G (c.1.fact 31 (f := .free "str") rfl), m_tuple := He.free_ok X G (c.1.fact 32 (f := .free "tuple") rfl) }⟩
theorem law_binds {K : PySem.W.Frag} {mg : Str → Option Value} (T : Top K mg) (s : Shared) (u : Value) : BindsTo s T.fd_law ⟨[u], []⟩ [("_law_script", u)] :=
  FunD.bindsA (ps := ["_law_script"]) T.F_law (fun _ _ _ _ _ _ us hl => (match us, hl with | [_], _ => rfl)) s [u] rfl
end K05
namespace K05
open PySem PySem.Spec PyProof.Rows L2
theorem law_F (w : World) (mg : Str → Option Value) (fa : Addr) (h : Heap) (Y : hk.says w h) (G : h.Ns mainGlobals mg) (hmg : mg "law" = some (.ref fa)) :
    ∃ (K : PySem.W.Frag) (fd : FuncData) (sp : Sp), K.In h ∧ (∀ (s : Shared) (u : Value), BindsTo s fd ⟨[u], []⟩ [("_law_script", u)]) ∧
        (∀ (H : Hp) (a : Addr) (ns : List Int), ns.length ≤ 63 → (∀ z ∈ ns, Builtin.Int.intBits z ≤ 1048576) → Only H → SqL K H a (ns.map V.int) → sp [.ref a] H (fun v _ => v = .bl true) fun _ _ _ => False) ∧
        ∀ base : Heap, K.In base → base.Ns mainGlobals mg → FnG (PySem.Challenge.rw_passworks_k05_written).prog w K mg base L2.CX0 22 fa fd ["_law_script"] sp := by
  obtain ⟨K, KX, c⟩ := Y
  obtain ⟨T⟩ := top_of KX G c
  obtain rfl : He.ga K "law" = fa := by
    have e := T.g_law.symm.trans hmg
    injection e with e
    injection e
  exact ⟨K, T.fd_law, sp_law K, KX, law_binds T, fun H a ns hl hb _ hS => law_start hl hb hS, fun base _ _ => ok_law T⟩
end K05
open PySem PySem.W PySem.Calls PyProof.Rows
theorem K05.law_nm : (HandSHeadRun.topDef (OpenLaw.row PySem.Challenge.rw_passworks_k05_written).prog 24).name = ("law" : PySem.Str) := by kernel_rfl
theorem K05.law_walk : PySem.W.WalkO (view (OpenLaw.row PySem.Challenge.rw_passworks_k05_written).prog [24]) K05.lo (XL (view (OpenLaw.row PySem.Challenge.rw_passworks_k05_written).prog [24]) []) K05.hk.says (OpenLaw.row PySem.Challenge.rw_passworks_k05_written).toRowW (HandSHeadRun.topDef (OpenLaw.row PySem.Challenge.rw_passworks_k05_written).prog 24) [] (fun f vs => PySem.call f vs) :=
  K05.walk_bitsG (l := PySem.Challenge.rw_passworks_k05_written) (n := 63) (k := 22) (x := "_law_script") (CX := L2.CX0) rfl (by decide) (by kernel_rfl) ⟨rfl, by decide, by decide⟩ (fun w mg fa h Y G hmg0 => K05.law_F w mg fa h Y G (K05.law_nm ▸ hmg0)) (fun _ _ _ _ z => z)
theorem PySem.Challenge.cw_passworks_k05_written_holds : PySem.Challenge.rw_passworks_k05_written.Holds := by
  w_on; o_law
  refine HandSHeadRun.head_any (r := OpenLaw.row PySem.Challenge.rw_passworks_k05_written) (q := view (OpenLaw.row PySem.Challenge.rw_passworks_k05_written).prog [24]) (H := K05.hk) (ob := K05.ob) (M := 4000) (loose := K05.lo) (d := HandSHeadRun.topDef (OpenLaw.row PySem.Challenge.rw_passworks_k05_written).prog 24) (kwd := []) K05.ob_eq
    (by kernel_rfl) (fun s => by kernel_rfl) K05.run (by kernel_rfl) (by kernel_rfl) (by kernel_rfl) (by rfl) (by first | assumption | decide +kernel) (by decide +kernel) ⟨rfl, rfl, rfl, rfl, rfl, by decide +kernel⟩ ?hw K05.law_walk
  case hw => w_witness2

