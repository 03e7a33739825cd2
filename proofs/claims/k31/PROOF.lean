import PyProof.Rows.All
import Wide.All
import OpenK.AllK
import Wide.FinOn
import KE.KStateDown
import KE.KRevSl
import Lean
import HandS.ForMost
import HandS.Wide
import HandS.WideBits
import HandS.IsInst
import HandS.Flow
import HandS.Style
import HandS.FStr
import HandS.RaiseMore
import HandS.TupAny
import HandS.Defaults
import HandS.EndBits
import HandS.Head0
import HandS.Head1
import HandS.Head2
import HandS.HeadEnd
import HandS.HeadHook1
import HandS.HeadHook2
import PySem.Challenge.RW_passworks_k31_terms
set_option Elab.async false
set_option linter.all false
set_option maxRecDepth 100000
set_option maxHeartbeats 4000000
namespace K31
/-! what the head shows: defs, facts by names, one more Bool -/
open PySem PySem.Spec PyProof.Rows L2
def obsE (n : Nat) (fa : List He.Fa) (fn : List He.DefD) (ex : PySem.W.Frag → Bool) (g : Addr → Option Obj) : He.AlD × Bool :=
  (He.obsD fa fn (He.frG g (He.asD g n)), ex (He.frG g (He.asD g n)))
def SaysE (fa : List He.Fa) (fn : List He.DefD) (ex : PySem.W.Frag → Bool) (K : PySem.W.Frag) : Prop := He.SaysD fa fn K ∧ ex K = true
def hookE (n : Nat) (fa : List He.Fa) (fn : List He.DefD) (ex : PySem.W.Frag → Bool) : PySem.W.Hook where
  α := He.AlD × Bool
  obs := fun s => obsE n fa fn ex s.heap.get?
  val := fun _ => (He.valD fn, true)
  says := fun _ h => ∃ K : PySem.W.Frag, K.In h ∧ SaysE fa fn ex K
  of := fun _ _ z => ⟨_, He.frG_in, congrArg Prod.fst z, congrArg Prod.snd z⟩
  keeps := fun _ _ _ ⟨K, a, c⟩ k => ⟨K, a.keeps k, c⟩
theorem obsE_eq {n : Nat} {fa : List He.Fa} {fn : List He.DefD} {ex : PySem.W.Frag → Bool} {g : Addr → Option Obj} {s : Shared} (z : ∀ a, g a = s.heap.get? a) :
    obsE n fa fn ex g = (hookE n fa fn ex).obs s := by
  obtain rfl : g = s.heap.get? := funext z
  rfl
/-- a law's end, the bits of the script's numbers told -/
theorem walk_bits {l : PySem.W.OpenLaw} {n k : Nat} {q : Program} {loose : List Str} {XP : (Str → Option Value) → Heap → Prop} {YP : World → Heap → Prop} {d : DefRec} {CX : CXT} {x : Str}
    (hn : l.most = some n) (hn2 : n ≤ sizeLine) (hdf : d.params.defaults = []) (hr : Room k callerA)
    (F : ∀ (w : World) (mg : Str → Option Value) (fa : Addr) (h : Heap), YP w h → h.Ns mainGlobals mg → mg d.name = some (.ref fa) →
      ∃ (K : PySem.W.Frag) (fd : FuncData) (sp : Sp), K.In h ∧ (∀ (s : Shared) (u : Value), BindsTo s fd ⟨[u], []⟩ [(x, u)]) ∧
        (∀ (H : Hp) (a : Addr) (ns : List Int), ns.length ≤ n → (∀ z ∈ ns, Builtin.Int.intBits z ≤ 1048576) → Only H → SqL K H a (ns.map V.int) →
          sp [.ref a] H (fun v _ => v = .bl true) fun _ _ _ => False) ∧
        ∀ base : Heap, K.In base → base.Ns mainGlobals mg → FnOk l.prog w K mg base CX k fa fd [x] sp)
    (hCX : ∀ (H : Hp) (s : Shared) (e : Value) (s' : Shared), CX [] H s (fun _ _ _ => False) e s' → False) :
    PySem.W.WalkO q loose XP YP l.row.toRowW d [] (fun f vs => PySem.call f vs) := by
  apply Att.attach_callB hn hdf
  intro w s0 s1 mg mb fa o pm cd doc a vs ns G Y ho hd hcd hmg hobj hints hlen hbits hg
  obtain ⟨K, fd, sp, KX, hb, hsp, hF⟩ := F w mg fa _ Y G.T.g hmg
  exact law_call KX G.T.g G.T.b G.T.builtins G.T.nolimit hg hobj hints (Nat.le_trans hlen hn2) hr hF hb (fun H z1 z2 => hsp H a ns hlen hbits z1 z2)
    (fun H e s' => hCX H s1 e s')
/-! heaps -/
theorem same_new {H : Hp} {p : Addr} {o : HO} (z : H p = none) : Same H (upd H p o) := by
  intro b x e
  rw [upd_ne (ne_of_none e z)]
  exact e
theorem at_ints {ns : List Int} {i : Int} (h0 : 0 ≤ i) (h1 : i < ns.length) : atI (ns.map V.int) i = some (.int (ns.getD i.toNat 0)) := by
  obtain ⟨j, rfl⟩ := Int.eq_ofNat_of_zero_le h0
  have hj : j < ns.length := by omega
  refine atI_nat ?_
  rw [List.getElem?_map, List.getElem?_eq_getElem hj]
  simp [List.getD, hj]
/-- what stands behind a statement, once for all its ways -/
theorem seq_by {t u : TS} {D : Ends} {σ : L2.St} {H : Hp} (Pv : L2.St → Hp → Prop) (fin : ∀ σ' H', Pv σ' H' → u D σ' H')
    (first : ∀ N : L2.St → Hp → Prop, (∀ σ' H', Pv σ' H' → N σ' H') → t { D with nx := N } σ H) : tSeq t u D σ H := first _ fin
theorem ifs_by {c : TT} {t1 t2 u : TS} {D : Ends} {σ : L2.St} {H : Hp} (Pv : L2.St → Hp → Prop) (fin : ∀ σ' H', Pv σ' H' → u D σ' H')
    (first : ∀ N : L2.St → Hp → Prop, (∀ σ' H', Pv σ' H' → N σ' H') → tIfS c t1 t2 { D with nx := N } σ H) : tSeq (tIfS c t1 t2) u D σ H := first _ fin
theorem ifD {c A B : Prop} [Decidable c] (hc : c) (h : A) : if decide c = true then A else B := by
  rw [if_pos (decide_eq_true hc)]
  exact h
theorem ifN {c A B : Prop} [Decidable c] (hc : ¬ c) (h : B) : if decide c = true then A else B := by
  rw [if_neg (by rw [decide_eq_true_eq]; exact hc)]
  exact h
theorem blD {c : Prop} [Decidable c] {Q : VK} {H : Hp} (hc : c) (h : Q (.bl true) H) : Q (.bl (decide c)) H := by
  rw [decide_eq_true hc]
  exact h
theorem blN {c : Prop} [Decidable c] {Q : VK} {H : Hp} (hc : ¬ c) (h : Q (.bl false) H) : Q (.bl (decide c)) H := by
  rw [decide_eq_false hc]
  exact h
theorem getD_all {α : Type} {Pr : α → Prop} {ns : List α} {d : α} (h : ∀ x ∈ ns, Pr x) {j : Int} (h0 : 0 ≤ j) (h1 : j < ns.length) : Pr (ns.getD j.toNat d) := by
  have hi : j.toNat < ns.length := by omega
  have e : ns.getD j.toNat d = ns[j.toNat]'hi := by simp [List.getD, hi]
  rw [e]
  exact h _ (List.getElem_mem _)
theorem ifNF {c A B : Prop} [Decidable c] (hc : c) (h : B) : if (!decide c) = true then A else B := by
  rw [decide_eq_true hc]
  exact h
theorem ifNT {c A B : Prop} [Decidable c] (hc : ¬ c) (h : A) : if (!decide c) = true then A else B := by
  rw [decide_eq_false hc]
  exact h
theorem at_list {α : Type} {ns : List α} {i : Int} (h0 : 0 ≤ i) (h1 : i < ns.length) : ∃ x ∈ ns, atI ns i = some x := by
  obtain ⟨j, rfl⟩ := Int.eq_ofNat_of_zero_le h0
  have hj : j < ns.length := by omega
  exact ⟨ns[j], List.getElem_mem _, atI_nat (List.getElem?_eq_getElem hj)⟩
theorem ite_share {c A R : Prop} [Decidable c] (leaf : A) (rest : ¬ c → A → R) : if c then A else R := by
  split
  · exact leaf
  · exact rest (by assumption) leaf
theorem ite_else {c A R : Prop} [Decidable c] (leaf : R) (rest : c → R → A) : if c then A else R := by
  split
  · exact rest (by assumption) leaf
  · exact leaf

/-! own rules: // and divmod by any divisor of few bits, a list turned about -/
section
variable {X : Cx}
theorem op_fdivG : OpR X (binaryOp .FloorDiv) (rI (fun _ j => j ≠ 0 ∧ j.natAbs.log2 < 9000) fun i j => .int (i.fdiv j)) :=
  opI fun _ _ _ _ _ _ _ hc q => floordiv_int hc.1 q (.inl (PyProof.noPylong_of_log2 hc.2))
theorem call_divmodG : CallR X (.builtin "divmod") (fun xs H Q => ∃ i j, xs = [.int i, .int j] ∧ (j ≠ 0 ∧ j.natAbs.log2 < 9000) ∧ ∀ p, H p = none → Q (.ref p) (upd H p (.tup [.int (i.fdiv j), .int (i.fmod j)]))) := by
  intro pins s σ H xs us Q I r h
  obtain ⟨i, j, rfl, hc, q⟩ := h
  obtain ⟨u1, u2, rfl, ⟨t1, rfl⟩, ⟨t2, rfl⟩⟩ := vals2 r
  refine divmod_int hc.1 ?_ (.inl (PyProof.noPylong_of_log2 hc.2))
  refine ⟨.ref s.heap.objs.size, _, ?_, rfl, q _ (I.hok.fresh (Nat.le_refl _))⟩
  refine I.laid (fun b o e => Heap.get?_push_of_some _ e) (Nat.le_refl _) ⟨by show 2 ≤ sizeLine; rw [sizeLine_eq]; decide, [.int (i.fdiv j) s.toks, .int (i.fmod j) (s.toks + 1)], .cons ⟨_, rfl⟩ (.cons ⟨_, rfl⟩ .nil), ?_⟩
  exact ⟨_, Heap.get?_push_size s.heap rfl, rfl, 0, rfl⟩
def tRevL (K : PySem.W.Frag) (te tk : TE) : TE := fun σ H Q => te σ H fun x H1 => tk σ H1 fun y H2 => y = .int (-1) ∧ ∃ a xs, x = .ref a ∧ SqL K H2 a xs ∧ ∀ p, H2 p = none → Q (.ref p) (upd H2 p (.lst xs.reverse))
theorem vals_rev : ∀ {xs : List V} {us : List Value}, Vals xs us → Vals xs.reverse us.reverse
  | _, _, .nil => .nil
  | _, _, .cons r t => by
    rw [List.reverse_cons, List.reverse_cons]
    exact (vals_rev t).append (.cons r .nil)
theorem pe_revL {e k : Expr} {te tk : TE} {p2 pos : Pos} (he : PE X e te) (hk : PE X k tk) : PE X (.Subscript e (.Slice none none (some k) p2) pos) (tRevL X.K te tk) := by
  refine ⟨fun pins s σ H Q I h => ?_⟩
  refine Subscript_ (thn (he.run pins s σ H _ I h) fun v s1 ⟨x, H1, I1, r1, q1⟩ => ?_)
  refine wpAny_Slice ?_
  rw [evalPart_none]
  refine wpAny_pure (wpAny_pure ?_)
  rw [evalPart_some]
  refine thn (hk.run pins s1 σ H1 _ I1 q1) fun vk s2 ⟨y, H2, I2, r2, ey, a, xs, ex, hx, q⟩ => ?_
  subst ey ex
  obtain ⟨t, rfl⟩ := r2
  cases r1
  have I4 : Inv X pins σ H2 { s2 with heap := s2.heap.push { cls := .type "slice", data := .fields #[.none, .none, .int (-1) t] } } := I2.kept (t' := s2.toks) fun b ob q => Heap.get?_push_of_some _ q
  obtain ⟨its, r, ht, hz⟩ := I4.list hx
  have hlen := r.length
  refine tail_any (ops := [.ref a, .ref s2.heap.objs.size]) ht.isList.typeIs slot_list_getitem.lookup ?_ (by with_unfolding_all rfl)
  refine wpAny_getItem_list_slice ht.isList (Heap.IsSliceOf.new ..) .none .none (.int (-1) t) (by decide) ?_ (by rw [List.size_toArray]; omega)
  rw [PySem.W.krv_pick]
  refine ⟨.ref _, _, I4.laid (t' := s2.toks) (o := .lst xs.reverse) (fun b ob q => Heap.get?_push_of_some _ q) (Nat.le_refl _) ?_, rfl, q _ (I4.hok.fresh (Nat.le_refl _))⟩
  exact ⟨by rw [List.length_reverse]; exact hz, its.reverse, 0, vals_rev r, Heap.get?_push_size _ rfl⟩
end

/-! what is kept: all but the mutable things of a set -/
def Kp (S : Addr → Prop) (H H' : Hp) : Prop := ∀ b o, H b = some o → (S b → ¬ Mut (some o)) → H' b = some o
theorem Kp.refl {S : Addr → Prop} {H : Hp} : Kp S H H := fun _ _ h _ => h
theorem Kp.trans {S : Addr → Prop} {H H1 H2 : Hp} (a : Kp S H H1) (b : Kp S H1 H2) : Kp S H H2 := fun c o h k => b c o (a c o h k) k
theorem Kp.mono {S S' : Addr → Prop} {H H' : Hp} (a : Kp S H H') (h : ∀ b, S b → S' b) : Kp S' H H' := fun c o e k => a c o e fun z => k (h c z)
theorem Kp.of_same {S : Addr → Prop} {H H' : Hp} (a : Same H H') : Kp S H H' := fun c o e _ => a c o e
theorem Kp.same {S : Addr → Prop} {H H1 H2 : Hp} (a : Same H H1) (b : Kp S H1 H2) (h : ∀ b, S b → H b = none) : Same H H2 := fun c o e => b c o (a c o e) fun z => by
  rw [h c z] at e
  cases e
theorem Kp.upd {S : Addr → Prop} {H : Hp} {p : Addr} {o u : HO} (h : H p = some o) (m : Mut (some o)) (hp : S p) : Kp S H (upd H p u) := fun c x e k => by
  by_cases z : c = p
  · subst z
    rw [h] at e
    cases e
    exact absurd m (k hp)
  · rw [upd_ne z]
    exact e
/-- the script: read, never written -/
def Scr (K : PySem.W.Frag) (H : Hp) (a : Addr) (xs : List V) : Prop := SqL K H a xs ∧ ¬ Mut (H a)
theorem Scr.kp {K : PySem.W.Frag} {S : Addr → Prop} {H H' : Hp} {a : Addr} {xs : List V} (h : Scr K H a xs) (k : Kp S H H') : SqL K H' a xs := by
  obtain ⟨h1, h2⟩ := h
  rcases h1 with (e | ⟨o, e⟩) | e
  · rw [e] at h2
    exact absurd trivial h2
  · exact .inl (.inr ⟨o, k _ _ e fun _ => by rw [← e]; exact h2⟩)
  · exact .inr e
/-! an own rule: a text some times over -/
section
variable {X : Cx}
theorem op_rep_str : OpR X (binaryOp .Mult) (fun x y H Q => ∃ (z : Str) (n : Int), x = .str z ∧ y = .int n ∧ 0 < z.length ∧ z.length ≤ 1000 ∧ 2 ≤ n ∧ n ≤ 1000 ∧ ∀ u : Str, u.length = n.toNat * z.length → Q (.str u) H) := by
  intro pins s σ H x y v u Q I rx ry h
  obtain ⟨z, n, rfl, rfl, z0, z1, n0, n1, q⟩ := h
  obtain ⟨t, rfl⟩ := rx
  obtain ⟨t', rfl⟩ := ry
  have hn : ¬ n < 1 := by omega
  have hq : (n == 1 || z.length == 0) = false := by
    rw [Bool.or_eq_false_iff]
    exact ⟨beq_eq_false_iff_ne.mpr (by omega), beq_eq_false_iff_ne.mpr (by omega)⟩
  have le : ∀ (k : Nat) (acc : Array Nat), ((List.replicate k z.cps).foldl (· ++ ·) acc).size = acc.size + k * z.length := by
    intro k
    induction k with
    | zero => intro acc; simp
    | succ k ih =>
      intro acc
      rw [List.replicate_succ, List.foldl_cons, ih, Array.size_append]
      show acc.size + z.length + k * z.length = acc.size + (k + 1) * z.length
      rw [Nat.add_mul]
      omega
  have l2 : (⟨(List.replicate n.toNat z.cps).foldl (· ++ ·) #[]⟩ : Str).length = n.toNat * z.length := by
    show ((List.replicate n.toNat z.cps).foldl (· ++ ·) #[]).size = _
    rw [le]
    simp
  have mm : z.length * n.toNat ≤ 1000 * 1000 := Nat.mul_le_mul z1 (by omega)
  have tl : Builtin.Str.tooLong (z.length * n.toNat) = false := by
    unfold Builtin.Str.tooLong
    rw [sizeLine_eq]
    exact decide_eq_false (by omega)
  refine PySem.P.mul_str ?_ (fun _ _ => ?_) (fun _ _ => tl) ?_
  · rw [decide_eq_false (by omega), decide_eq_false (by omega)]
    rfl
  · have : (1000 : Int) * n ≤ 2 ^ 63 - 1 := by omega
    have h3 : (1000 : Int) ≤ (2 ^ 63 - 1) / n := (Int.le_ediv_iff_mul_le (by omega)).mpr this
    omega
  · rw [if_neg hn, hq]
    exact ⟨by rw [l2, Nat.mul_comm, sizeLine_eq]; omega, .str _, H, I.tok _, ⟨_, rfl⟩, q _ l2⟩
end
/-- a comprehension over a text's signs -/
theorem lc_str {x : Str} {g : TG} {tt : TT} {te : TE} {vs : List Nat} {σ : L2.St} {H1 : Hp} {D : Addr} {Qd : Hp → Prop} (Pv : Nat → Hp → Prop) (h0 : Pv 0 (upd H1 D (.lst [])))
    (hs : ∀ i c H, x.cps.toList[i]? = some c → Pv i H → g (.str ⟨#[c]⟩) (wipe σ vs) H fun σ2 H2 => wipe σ2 vs = wipe σ vs ∧ tt σ2 H2 fun b H3 =>
      if b = true then te σ2 H3 fun y H4 => ∃ acc, H4 D = some (.lst acc) ∧ acc.length < sizeLine ∧ Pv (i + 1) (upd H4 D (.lst (acc ++ [y]))) else Pv (i + 1) H3) (hd : ∀ H, Pv x.cps.toList.length H → Qd H) :
    ∃ W : Nat → Nat → Hp → Prop, (∃ m, W 0 m (upd H1 D (.lst []))) ∧ ∀ i m H, W i m H →
      ((Its x).stop i H ∧ Qd H) ∨ ((Its x).go i H ∧ ∃ Nx : Hp → Prop, (∀ H', Nx H' → ∃ m', m' < m ∧ W (i + 1) m' H') ∧ ∀ y H', (Its x).yld i H y H' → g y (wipe σ vs) H' fun σ2 H2 => wipe σ2 vs = wipe σ vs ∧ tt σ2 H2 fun b H3 =>
        if b = true then te σ2 H3 fun y H4 => ∃ acc, H4 D = some (.lst acc) ∧ acc.length < sizeLine ∧ Nx (upd H4 D (.lst (acc ++ [y]))) else Nx H3) := by
  have hl : x.cps.toList.length = x.cps.size := by simp
  refine ⟨fun i m H => m = x.cps.size - i ∧ i ≤ x.cps.size ∧ Pv i H, ⟨x.cps.size, by simp, Nat.zero_le _, h0⟩, ?_⟩
  rintro i m H ⟨rfl, hi, p⟩
  by_cases hlt : i < x.cps.size
  · refine .inr ⟨hlt, Pv (i + 1), fun H' p' => ⟨x.cps.size - (i + 1), by omega, rfl, hlt, p'⟩, fun y H' hy => ?_⟩
    obtain ⟨rfl, c, hc, rfl⟩ := hy
    exact hs i c H' (by rw [Array.getElem?_toList]; exact hc) p
  · refine .inl ⟨Nat.le_of_not_lt hlt, hd H ?_⟩
    rw [hl, show x.cps.size = i by omega]
    exact p
section
variable {X : Cx}
theorem call_str_any : CallR X (.type "str") (fun xs H Q => (∃ i : Int, xs = [.int i] ∧ i.natAbs.log2 < 1920 ∧ Q (.str (toString i)) H) ∨ ∃ a : Str, xs = [.str a] ∧ Q (.str a) H) := by
  intro pins s σ H xs us Q I r h
  rcases h with h | h
  · exact call_str_int pins s σ H xs us Q I r h
  · exact SkE.call_str_str pins s σ H xs us Q I r h
end

/-! rules for use within a comprehension: the written part named -/
section
variable {X : Cx} {K : PySem.W.Frag}
theorem ix_listK (h : X.K = K) : IxR X (rIxL K) := by subst h; exact ix_list
theorem ix_tupK (h : X.K = K) : IxR X (rIxT K) := by subst h; exact ix_tup
theorem op_in_seqK (h : X.K = K) : OpR X (compareOp .In) (rIn K false) := by subst h; exact op_in_seq
theorem op_notIn_seqK (h : X.K = K) : OpR X (compareOp .NotIn) (rIn K true) := by subst h; exact op_notIn_seq
theorem call_isiK (h : X.K = K) : CallR X (.builtin "isinstance") (rIsi K) := by subst h; exact call_isi
theorem call_len_seqK (h : X.K = K) : CallR X (.builtin "len") (fun xs H Q => ∃ p ys, xs = [.ref p] ∧ (SqL K H p ys ∨ SqT K H p ys) ∧ Q (.int ys.length) H) := by subst h; exact call_len_seq
end

def topS (i : Nat) : Stmt := PySem.Challenge.pw_passworks_k31_terms.main.body.getD i (.Pass ⟨0, 0, 0, 0⟩)
abbrev s_is_between : Stmt := topS 5
abbrev N_is_between : List Str := ["thing", "low", "high"]
theorem sc_is_between : FnScope N_is_between ["thing", "low", "high"] (defScope s_is_between) := ⟨rfl, rfl, rfl, by decide +kernel, rfl, by decide +kernel, by decide +kernel⟩
abbrev s_is_value : Stmt := topS 6
abbrev N_is_value : List Str := ["thing"]
theorem sc_is_value : FnScope N_is_value ["thing"] (defScope s_is_value) := ⟨rfl, rfl, rfl, by decide +kernel, rfl, by decide +kernel, by decide +kernel⟩
abbrev s_inner_terms : Stmt := topS 11
abbrev N_inner_terms : List Str := ["thing", "word"]
theorem sc_inner_terms : FnScope N_inner_terms ["thing"] (defScope s_inner_terms) := ⟨rfl, rfl, rfl, by decide +kernel, rfl, by decide +kernel, by decide +kernel⟩
abbrev s_is_term : Stmt := topS 12
abbrev N_is_term : List Str := ["thing", "left", "many", "one", "is_row", "inner"]
theorem sc_is_term : FnScope N_is_term ["thing"] (defScope s_is_term) := ⟨rfl, rfl, rfl, by decide +kernel, rfl, by decide +kernel, by decide +kernel⟩
abbrev s__law_mark : Stmt := topS 14
abbrev N__law_mark : List Str := ["_law_script", "_law_k", "_law_cell", "_law_mark_here"]
theorem sc__law_mark : FnScope N__law_mark ["_law_script", "_law_k"] (defScope s__law_mark) := ⟨rfl, rfl, rfl, by decide +kernel, rfl, by decide +kernel, by decide +kernel⟩
abbrev s__law_leaf_by : Stmt := topS 15
abbrev N__law_leaf_by : List Str := ["_law_mark_here", "_law_of_row", "_law_old"]
theorem sc__law_leaf_by : FnScope N__law_leaf_by ["_law_mark_here", "_law_of_row"] (defScope s__law_leaf_by) := ⟨rfl, rfl, rfl, by decide +kernel, rfl, by decide +kernel, by decide +kernel⟩
abbrev s__law_term_by : Stmt := topS 16
abbrev N__law_term_by : List Str := ["_law_script", "_law_at", "_law_deep", "_law_of_row", "_law_mark_here", "_law_row", "_law_word", "_law_first"]
theorem sc__law_term_by : FnScope N__law_term_by ["_law_script", "_law_at", "_law_deep", "_law_of_row"] (defScope s__law_term_by) := ⟨rfl, rfl, rfl, by decide +kernel, rfl, by decide +kernel, by decide +kernel⟩
abbrev s__law_bent : Stmt := topS 17
abbrev N__law_bent : List Str := ["_law_term", "_law_mark_here", "_law_inner", "_law_at", "_law_some", "_law_k"]
theorem sc__law_bent : FnScope N__law_bent ["_law_term", "_law_mark_here"] (defScope s__law_bent) := ⟨rfl, rfl, rfl, by decide +kernel, rfl, by decide +kernel, by decide +kernel⟩
abbrev s__law_many : Stmt := topS 18
abbrev N__law_many : List Str := ["_law_term", "_law_wanted", "_law_part", "_law_word", "_law_numbers", "_law_good", "_law_kinds", "_law_other", "_law_k"]
theorem sc__law_many : FnScope N__law_many ["_law_term", "_law_wanted"] (defScope s__law_many) := ⟨rfl, rfl, rfl, by decide +kernel, rfl, by decide +kernel, by decide +kernel⟩
abbrev s__law_long : Stmt := topS 19
abbrev N__law_long : List Str := ["_law_many_here", "_law_term", "_law_k"]
theorem sc__law_long : FnScope N__law_long ["_law_many_here"] (defScope s__law_long) := ⟨rfl, rfl, rfl, by decide +kernel, rfl, by decide +kernel, by decide +kernel⟩
abbrev s__law_right : Stmt := topS 20
abbrev N__law_right : List Str := ["_law_term", "_law_found"]
theorem sc__law_right : FnScope N__law_right ["_law_term"] (defScope s__law_right) := ⟨rfl, rfl, rfl, by decide +kernel, rfl, by decide +kernel, by decide +kernel⟩
abbrev s_law : Stmt := topS 21
abbrev N_law : List Str := ["_law_script", "_law_mark_here", "_law_term", "_law_long_here", "_law_deep", "_law_turn"]
theorem sc_law : FnScope N_law ["_law_script"] (defScope s_law) := ⟨rfl, rfl, rfl, by decide +kernel, rfl, by decide +kernel, by decide +kernel⟩
abbrev FnP (K : PySem.W.Frag) (x : Str) (st : Stmt) (f : Addr) (fd : FuncData) : Prop := FunD K x x (defArgs st) (defBody st) (defScope st) [] [] f fd
structure Top (K : PySem.W.Frag) (mg : Str → Option Value) where
  fd_is_between : FuncData
  F_is_between : FnP K "is_between" s_is_between (He.ga K "is_between") fd_is_between
  b_is_between : Binds K fd_is_between ["thing", "low", "high"] []
  g_is_between : mg "is_between" = some (.ref (He.ga K "is_between"))
  fd_is_value : FuncData
  F_is_value : FnP K "is_value" s_is_value (He.ga K "is_value") fd_is_value
  b_is_value : Binds K fd_is_value ["thing"] []
  g_is_value : mg "is_value" = some (.ref (He.ga K "is_value"))
  fd_inner_terms : FuncData
  F_inner_terms : FnP K "inner_terms" s_inner_terms (He.ga K "inner_terms") fd_inner_terms
  b_inner_terms : Binds K fd_inner_terms ["thing"] []
  g_inner_terms : mg "inner_terms" = some (.ref (He.ga K "inner_terms"))
  fd_is_term : FuncData
  F_is_term : FnP K "is_term" s_is_term (He.ga K "is_term") fd_is_term
  b_is_term : Binds K fd_is_term ["thing"] []
  g_is_term : mg "is_term" = some (.ref (He.ga K "is_term"))
  fd__law_mark : FuncData
  F__law_mark : FnP K "_law_mark" s__law_mark (He.ga K "_law_mark") fd__law_mark
  b__law_mark : Binds K fd__law_mark ["_law_script", "_law_k"] []
  g__law_mark : mg "_law_mark" = some (.ref (He.ga K "_law_mark"))
  fd__law_leaf_by : FuncData
  F__law_leaf_by : FnP K "_law_leaf_by" s__law_leaf_by (He.ga K "_law_leaf_by") fd__law_leaf_by
  b__law_leaf_by : Binds K fd__law_leaf_by ["_law_mark_here", "_law_of_row"] []
  g__law_leaf_by : mg "_law_leaf_by" = some (.ref (He.ga K "_law_leaf_by"))
  fd__law_term_by : FuncData
  F__law_term_by : FnP K "_law_term_by" s__law_term_by (He.ga K "_law_term_by") fd__law_term_by
  b__law_term_by : Binds K fd__law_term_by ["_law_script", "_law_at", "_law_deep", "_law_of_row"] []
  g__law_term_by : mg "_law_term_by" = some (.ref (He.ga K "_law_term_by"))
  fd__law_bent : FuncData
  F__law_bent : FnP K "_law_bent" s__law_bent (He.ga K "_law_bent") fd__law_bent
  b__law_bent : Binds K fd__law_bent ["_law_term", "_law_mark_here"] []
  g__law_bent : mg "_law_bent" = some (.ref (He.ga K "_law_bent"))
  fd__law_many : FuncData
  F__law_many : FnP K "_law_many" s__law_many (He.ga K "_law_many") fd__law_many
  b__law_many : Binds K fd__law_many ["_law_term", "_law_wanted"] []
  g__law_many : mg "_law_many" = some (.ref (He.ga K "_law_many"))
  fd__law_long : FuncData
  F__law_long : FnP K "_law_long" s__law_long (He.ga K "_law_long") fd__law_long
  b__law_long : Binds K fd__law_long ["_law_many_here"] []
  g__law_long : mg "_law_long" = some (.ref (He.ga K "_law_long"))
  fd__law_right : FuncData
  F__law_right : FnP K "_law_right" s__law_right (He.ga K "_law_right") fd__law_right
  b__law_right : Binds K fd__law_right ["_law_term"] []
  g__law_right : mg "_law_right" = some (.ref (He.ga K "_law_right"))
  fd_law : FuncData
  F_law : FnP K "law" s_law (He.ga K "law") fd_law
  b_law : Binds K fd_law ["_law_script"] []
  g_law : mg "law" = some (.ref (He.ga K "law"))
  m_bool : mg "bool" = none
  m_int : mg "int" = none
  m_isinstance : mg "isinstance" = none
  m_len : mg "len" = none
  m_list : mg "list" = none
  m_min : mg "min" = none
  m_range : mg "range" = none
  m_str : mg "str" = none
  m_sum : mg "sum" = none
  m_tuple : mg "tuple" = none
  t_LEAST : Tok
  c_LEAST : mg "LEAST" = some (.int (-2147483648) t_LEAST)
  t_GREATEST : Tok
  c_GREATEST : mg "GREATEST" = some (.int 2147483647 t_GREATEST)
  t_LAST_VALUE : Tok
  c_LAST_VALUE : mg "LAST_VALUE" = some (.int 9999 t_LAST_VALUE)
  t_LONGEST : Tok
  c_LONGEST : mg "LONGEST" = some (.int 8 t_LONGEST)
  c_WORDS : mg "WORDS" = some (.ref (He.ga K "WORDS"))
  q_WORDS : ∀ H : Hp, SqT K H (He.ga K "WORDS") [.str "add", .str "sub", .str "mul", .str "div", .str "rem", .str "less", .str "same"]
  t_MOST_TUPLES : Tok
  c_MOST_TUPLES : mg "MOST_TUPLES" = some (.int 60 t_MOST_TUPLES)
  t_MOST_FRAMES : Tok
  c_MOST_FRAMES : mg "MOST_FRAMES" = some (.int 5 t_MOST_FRAMES)
/-! data without lists stays -/
mutual
def nLd : PyData → Bool
  | .list _ => false
  | .dict _ => false
  | .tuple xs => nLs xs
  | .none => true
  | .bool _ => true
  | .int _ => true
  | .str _ => true
def nLs : List PyData → Bool
  | [] => true
  | x :: r => nLd x && nLs r
end
theorem sqT_kp {K : PySem.W.Frag} {S : Addr → Prop} {H H' : Hp} {a : Addr} {xs : List V} (k : Kp S H H') (h : SqT K H a xs) : SqT K H' a xs := by
  rcases h with (e | ⟨o, e⟩) | e
  · exact .inl (.inl (k _ _ e fun _ z => z))
  · exact .inl (.inr ⟨o, k _ _ e fun _ z => z⟩)
  · exact .inr e
mutual
theorem dp_kp {K : PySem.W.Frag} {S : Addr → Prop} {H H' : Hp} (k : Kp S H H') : ∀ (d : PyData) (v : V), nLd d = true → Dp K H v d → Dp K H' v d
  | .none, _, _, h => by cases h; exact .non
  | .bool b, _, _, h => by cases h; exact .bl b
  | .int i, _, _, h => by cases h; exact .int i
  | .str x, _, _, h => by cases h; exact .str x
  | .list _, _, n, _ => by cases n
  | .dict _, _, n, _ => by cases n
  | .tuple ds, _, n, h => by
    cases h with
    | tup hs ha => exact .tup (sqT_kp k hs) (dpAll_kp k ds _ n ha)
theorem dpAll_kp {K : PySem.W.Frag} {S : Addr → Prop} {H H' : Hp} (k : Kp S H H') : ∀ (ds : List PyData) (vs : List V), nLs ds = true → DpAll K H vs ds → DpAll K H' vs ds
  | [], _, _, h => by cases h; exact .nil
  | d :: ds, _, n, h => by
    have n2 : nLd d = true ∧ nLs ds = true := by
      unfold nLs at n
      exact Bool.and_eq_true_iff.mp n
    cases h with
    | cons h1 h2 => exact .cons (dp_kp k d _ n2.1 h1) (dpAll_kp k ds _ n2.2 h2)
end
section
variable {K : PySem.W.Frag} {H : Hp}
theorem dp_tup {v : V} {ds : List PyData} (h : Dp K H v (.tuple ds)) : ∃ a xs, v = .ref a ∧ SqT K H a xs ∧ DpAll K H xs ds := by
  cases h with
  | tup h1 h2 => exact ⟨_, _, rfl, h1, h2⟩
theorem dp_str {v : V} {z : Str} (h : Dp K H v (.str z)) : v = .str z := by cases h; rfl
theorem dp_int {v : V} {z : Int} (h : Dp K H v (.int z)) : v = .int z := by cases h; rfl
theorem dpAll_cons {vs : List V} {d : PyData} {ds : List PyData} (h : DpAll K H vs (d :: ds)) : ∃ v r, vs = v :: r ∧ Dp K H v d ∧ DpAll K H r ds := by
  cases h with
  | cons h1 h2 => exact ⟨_, _, rfl, h1, h2⟩
theorem dpAll_nil {vs : List V} (h : DpAll K H vs []) : vs = [] := by cases h; rfl
theorem dpAll_len : ∀ {vs : List V} {ds : List PyData}, DpAll K H vs ds → vs.length = ds.length
  | _, _, .nil => rfl
  | _, _, .cons _ t => by rw [List.length_cons, List.length_cons, dpAll_len t]
theorem dpAll_get : ∀ {vs : List V} {ds : List PyData} {i : Nat} {d : PyData}, DpAll K H vs ds → ds[i]? = some d → ∃ v, vs[i]? = some v ∧ Dp K H v d
  | _, _, _, _, .nil, e => by simp at e
  | _, _, 0, _, .cons h _, e => ⟨_, rfl, (Option.some.inj e) ▸ h⟩
  | _, _, i + 1, _, .cons _ t, e => dpAll_get (i := i) t e
theorem dpAll_getV : ∀ {vs : List V} {ds : List PyData} {i : Nat} {v : V}, DpAll K H vs ds → vs[i]? = some v → ∃ d, ds[i]? = some d ∧ Dp K H v d
  | _, _, _, _, .nil, e => by simp at e
  | _, _, 0, _, .cons h _, e => ⟨_, rfl, (Option.some.inj e) ▸ h⟩
  | _, _, i + 1, _, .cons _ t, e => dpAll_getV (i := i) t e
theorem dpAll_app : ∀ {vs ws : List V} {ds es : List PyData}, DpAll K H vs ds → DpAll K H ws es → DpAll K H (vs ++ ws) (ds ++ es)
  | _, _, _, _, .nil, s => s
  | _, _, _, _, .cons h t, s => .cons h (dpAll_app t s)
theorem dpAll_take : ∀ {vs : List V} {ds : List PyData} (n : Nat), DpAll K H vs ds → DpAll K H (vs.take n) (ds.take n)
  | _, _, 0, _ => .nil
  | _, _, _ + 1, .nil => .nil
  | _, _, n + 1, .cons h t => .cons h (dpAll_take n t)
theorem dpAll_drop : ∀ {vs : List V} {ds : List PyData} (n : Nat), DpAll K H vs ds → DpAll K H (vs.drop n) (ds.drop n)
  | _, _, 0, h => h
  | _, _, _ + 1, .nil => .nil
  | _, _, n + 1, .cons _ t => dpAll_drop n t
theorem dpAll_strs : ∀ {vs : List V} {zs : List Str}, DpAll K H vs (zs.map PyData.str) → vs = zs.map V.str
  | _, [], h => dpAll_nil h
  | _, z :: zs, h => by
    obtain ⟨v, r, rfl, h1, h2⟩ := dpAll_cons h
    rw [dp_str h1, dpAll_strs h2]
    rfl
theorem strs_dpAll : ∀ (zs : List Str), DpAll K H (zs.map V.str) (zs.map PyData.str)
  | [] => .nil
  | z :: zs => .cons (.str z) (strs_dpAll zs)
end

/-! terms, in plain words -/
def W7 : List Str := ["add", "sub", "mul", "div", "rem", "less", "same"]
def kinds (w : Str) : Option (List Bool) :=
  if w ∈ W7 then some [false, false] else if w = "not" then some [false] else if w = "get" then some [true, false] else if w = "put" then some [true, false, false] else none
def isB : PyData → Bool
  | .bool _ => true
  | _ => false
def inR (lo hi : Int) : PyData → Bool
  | .int i => decide (lo ≤ i) && decide (i ≤ hi)
  | _ => false
/-- a leaf's parts -/
def leafOk (w : Str) (ps : List PyData) : Bool :=
  if w = "number" then (match ps with | [a] => inR (-2147483648) 2147483647 a | _ => false)
  else if w = "fresh" then (match ps with | [a] => inR 1 8 a | _ => false)
  else if w = "old" then (match ps with | [a, b] => inR 0 4 a && inR 0 9999 b | _ => false)
  else if w = "new" then (match ps with | [a] => inR 0 9999 a | _ => false)
  else false
def inner (w : Str) (ps : List PyData) : Option (List (PyData × Bool)) :=
  match kinds w with
  | some ks => if ks.length = ps.length then some (ps.zip ks) else none
  | none => if leafOk w ps then some [] else none
def rowWd (w : Str) : Bool := decide (w = "fresh") || decide (w = "put")
def oldNew (w : Str) : Bool := decide (w = "old") || decide (w = "new")
mutual
def cnt : PyData → Option Bool → Nat
  | .tuple (.str w :: ps), wn =>
    if ps.any isB then 100
    else if oldNew w then (if leafOk w ps then 1 else 100)
    else if wn.isSome && (wn != some (rowWd w)) then 100
    else if w = "number" ∨ w = "fresh" then (if leafOk w ps then 1 else 100)
    else match kinds w with
      | none => 100
      | some ks => if ks.length = ps.length then min 100 (1 + cntL ps ks) else 100
  | _, _ => 100
def cntL : List PyData → List Bool → Nat
  | d :: ds, k :: ks => cnt d (some k) + cntL ds ks
  | _, _ => 0
end
theorem cnt_pos (d : PyData) (w : Option Bool) : 1 ≤ cnt d w := by
  unfold cnt
  split
  · repeat' split
    all_goals omega
  · omega
def cntS (l : List (PyData × Option Bool)) : Nat := (l.map fun q => cnt q.1 q.2).sum
theorem cntL_zip : ∀ (ps : List PyData) (ks : List Bool), cntL ps ks = cntS ((ps.zip ks).map fun q => (q.1, some q.2))
  | [], ks => by simp [cntL, cntS]
  | p :: ps, [] => by simp [cntL, cntS]
  | p :: ps, k :: ks => by
    have := cntL_zip ps ks
    simp only [cntS, List.zip_cons_cons, List.map_cons, List.sum_cons] at this ⊢
    rw [cntL, this]
theorem cntS_app (a b : List (PyData × Option Bool)) : cntS (a ++ b) = cntS a + cntS b := by simp [cntS]
theorem isB_cnt {d : PyData} (h : isB d = true) (w : Option Bool) : cnt d w = 100 := by
  cases d <;> simp [isB] at h
  simp [cnt]
theorem cntL_any : ∀ {ps : List PyData} {ks : List Bool}, ps.any isB = true → ks.length = ps.length → 100 ≤ cntL ps ks
  | [], _, h, _ => by simp at h
  | p :: ps, [], _, hl => by simp at hl
  | p :: ps, k :: ks, h, hl => by
    rw [List.any_cons, Bool.or_eq_true] at h
    rw [cntL]
    rcases h with h | h
    · rw [isB_cnt h]
      omega
    · have := cntL_any (ks := ks) h (by simpa using hl)
      omega
theorem leaf_noB {w : Str} {ps : List PyData} (h : leafOk w ps = true) : ps.any isB = false := by
  unfold leafOk at h
  have nb : ∀ {lo hi : Int} {d : PyData}, inR lo hi d = true → isB d = false := by
    intro lo hi d h
    cases d <;> simp [inR] at h ⊢ <;> rfl
  repeat' split at h
  all_goals first
    | exact absurd h (by decide)
    | simp only [Bool.and_eq_true] at h
      simp [nb h.1, nb h.2]
    | simp [nb h]
theorem kinds_leaf {w : Str} {ks : List Bool} (h : kinds w = some ks) : oldNew w = false ∧ w ≠ "number" ∧ w ≠ "fresh" := by
  have all : ∀ x ∈ (W7 ++ ([("not" : Str), "get", "put"] : List Str)), oldNew x = false ∧ x ≠ "number" ∧ x ≠ "fresh" := by decide +kernel
  apply all
  unfold kinds at h
  repeat' split at h
  all_goals simp_all
/-- one look of the program -/
theorem cnt_step {w : Str} {ps : List PyData} {wn : Option Bool} (hr : (wn.isSome && !oldNew w && (wn != some (rowWd w))) = false) :
    cnt (.tuple (.str w :: ps)) wn = match inner w ps with | none => 100 | some cs => min 100 (1 + cntS (cs.map fun q => (q.1, some q.2))) := by
  cases hk : kinds w with
  | some ks =>
    obtain ⟨o, n1, n2⟩ := kinds_leaf hk
    rw [o] at hr
    have hr' : (wn.isSome && (wn != some (rowWd w))) = false := by simpa using hr
    unfold cnt inner
    rw [hk, o, hr']
    simp only [Bool.false_eq_true, if_false, n1, n2, or_self]
    by_cases hl : ks.length = ps.length
    · rw [if_pos hl, if_pos hl]
      dsimp only
      rw [← cntL_zip]
      by_cases ha : ps.any isB = true
      · rw [if_pos ha]
        have := cntL_any ha hl
        exact (Nat.min_eq_left (by omega)).symm
      · rw [if_neg ha]
    · rw [if_neg hl, if_neg hl]
      dsimp only
      split <;> rfl
  | none =>
    unfold cnt inner
    rw [hk]
    by_cases hl : leafOk w ps = true
    · rw [if_pos hl, leaf_noB hl]
      have cs : w = "number" ∨ w = "fresh" ∨ oldNew w = true := by
        unfold leafOk at hl
        by_cases h1 : w = "number"
        · exact .inl h1
        · by_cases h2 : w = "fresh"
          · exact .inr (.inl h2)
          · by_cases h3 : w = "old"
            · rw [h3]
              exact .inr (.inr (by decide +kernel))
            · by_cases h4 : w = "new"
              · rw [h4]
                exact .inr (.inr (by decide +kernel))
              · rw [if_neg h1, if_neg h2, if_neg h3, if_neg h4] at hl
                cases hl
      by_cases ho : oldNew w = true
      · simp [ho, hl, cntS]
      · have ho' : oldNew w = false := by simpa using ho
        rw [ho'] at hr
        have hr' : (wn.isSome && (wn != some (rowWd w))) = false := by simpa using hr
        have nf : w = "number" ∨ w = "fresh" := by
          rcases cs with h | h | h
          · exact .inl h
          · exact .inr h
          · exact absurd h ho
        rw [ho', hr']
        simp [nf, hl, cntS]
    · have hl' : leafOk w ps = false := by simpa using hl
      rw [if_neg hl, hl']
      dsimp only
      repeat' split
      all_goals first | rfl | simp_all

section
variable {P : Program} {w : World} {K : PySem.W.Frag} {mg : Str → Option Value} {base : Heap}
def tyS : PyData → String
  | .none => "NoneType"
  | .bool _ => "bool"
  | .int _ => "int"
  | .str _ => "str"
  | .list _ => "list"
  | .tuple _ => "tuple"
  | .dict _ => "dict"
theorem ty_lst {H : Hp} {a : Addr} {xs : List V} (h : SqL K H a xs) : TyX K H (.ref a) (.type "list") := by
  rcases h with (h | ⟨ob, h⟩) | ⟨o, its, n, hk, hc, _⟩
  · exact .base (.lst h)
  · exact .base (.frz h)
  · exact .kList hk hc
theorem ty_tup {H : Hp} {a : Addr} {xs : List V} (h : SqT K H a xs) : TyX K H (.ref a) (.type "tuple") := by
  rcases h with (h | ⟨ob, h⟩) | ⟨o, its, n, hk, hc, _⟩
  · exact .base (.tup h)
  · exact .fTuple h
  · exact .kTuple hk hc
theorem dp_ty {H : Hp} {v : V} {d : PyData} (h : Dp K H v d) : TyX K H v (.type (tyS d)) := by
  cases h with
  | non => exact .base .non
  | bl b => exact .base (.bl b)
  | int i => exact .base (.int i)
  | str x => exact .base (.str x)
  | lst h _ => exact ty_lst h
  | tup h _ => exact ty_tup h
def isI : PyData → Bool
  | .int _ => true
  | .bool _ => true
  | _ => false
def isT : PyData → Bool
  | .tuple _ => true
  | _ => false
def isS : PyData → Bool
  | .str _ => true
  | _ => false
theorem kit_int : ∀ d : PyData, PySem.W.kitOne K (.type (tyS d)) (.type "int") = some (isI d)
  | .none => kit_ty (a := "NoneType") (b := "int") (r := false) (by decide +kernel)
  | .bool _ => kit_ty (a := "bool") (b := "int") (r := true) (by decide +kernel)
  | .int _ => kit_ty (a := "int") (b := "int") (r := true) (by decide +kernel)
  | .str _ => kit_ty (a := "str") (b := "int") (r := false) (by decide +kernel)
  | .list _ => kit_ty (a := "list") (b := "int") (r := false) (by decide +kernel)
  | .tuple _ => kit_ty (a := "tuple") (b := "int") (r := false) (by decide +kernel)
  | .dict _ => kit_ty (a := "dict") (b := "int") (r := false) (by decide +kernel)
theorem kit_bool : ∀ d : PyData, PySem.W.kitOne K (.type (tyS d)) (.type "bool") = some (isB d)
  | .none => kit_ty (a := "NoneType") (b := "bool") (r := false) (by decide +kernel)
  | .bool _ => kit_ty (a := "bool") (b := "bool") (r := true) (by decide +kernel)
  | .int _ => kit_ty (a := "int") (b := "bool") (r := false) (by decide +kernel)
  | .str _ => kit_ty (a := "str") (b := "bool") (r := false) (by decide +kernel)
  | .list _ => kit_ty (a := "list") (b := "bool") (r := false) (by decide +kernel)
  | .tuple _ => kit_ty (a := "tuple") (b := "bool") (r := false) (by decide +kernel)
  | .dict _ => kit_ty (a := "dict") (b := "bool") (r := false) (by decide +kernel)
theorem kit_tup : ∀ d : PyData, PySem.W.kitOne K (.type (tyS d)) (.type "tuple") = some (isT d)
  | .none => kit_ty (a := "NoneType") (b := "tuple") (r := false) (by decide +kernel)
  | .bool _ => kit_ty (a := "bool") (b := "tuple") (r := false) (by decide +kernel)
  | .int _ => kit_ty (a := "int") (b := "tuple") (r := false) (by decide +kernel)
  | .str _ => kit_ty (a := "str") (b := "tuple") (r := false) (by decide +kernel)
  | .list _ => kit_ty (a := "list") (b := "tuple") (r := false) (by decide +kernel)
  | .tuple _ => kit_ty (a := "tuple") (b := "tuple") (r := true) (by decide +kernel)
  | .dict _ => kit_ty (a := "dict") (b := "tuple") (r := false) (by decide +kernel)
theorem kit_str : ∀ d : PyData, PySem.W.kitOne K (.type (tyS d)) (.type "str") = some (isS d)
  | .none => kit_ty (a := "NoneType") (b := "str") (r := false) (by decide +kernel)
  | .bool _ => kit_ty (a := "bool") (b := "str") (r := false) (by decide +kernel)
  | .int _ => kit_ty (a := "int") (b := "str") (r := false) (by decide +kernel)
  | .str _ => kit_ty (a := "str") (b := "str") (r := true) (by decide +kernel)
  | .list _ => kit_ty (a := "list") (b := "str") (r := false) (by decide +kernel)
  | .tuple _ => kit_ty (a := "tuple") (b := "str") (r := false) (by decide +kernel)
  | .dict _ => kit_ty (a := "dict") (b := "str") (r := false) (by decide +kernel)
def sp_btw (K : PySem.W.Frag) : Sp := fun vs H Q _ => ∃ (v : V) (d : PyData) (lo hi : Int), vs = [v, .int lo, .int hi] ∧ Dp K H v d ∧ Q (.bl (inR lo hi d)) H
theorem ok_is_between (T : Top K mg) : FnOk P w K mg base CX0 1 (He.ga K "is_between") T.fd_is_between ["thing", "low", "high"] (sp_btw K) := by
  refine T.F_is_between.ok sc_is_between (fun vs H Q E h => ?_) (fun cdv A outer s H vs Q E hr h => ?_)
  · obtain ⟨v, d, lo, hi, rfl, _⟩ := h
    rfl
  · obtain ⟨v, d, lo, hi, rfl, dp, q⟩ := h
    refine ⟨_, PSs.nox (pss_one (ps_ret (pe_and (pe_callB call_isi (by rfl) T.m_isinstance (by decide +kernel) (pa_cons (pv 0) (pa_cons (pe_bltn (v := .ty "int") (by rfl) T.m_int (by decide +kernel) rfl) pa_nil))) (pe_and (pe_not (pe_callB call_isi (by rfl) T.m_isinstance (by decide +kernel) (pa_cons (pv 0) (pa_cons (pe_bltn (v := .ty "bool") (by rfl) T.m_bool (by decide +kernel) rfl) pa_nil)))) (pe_one (pe_chain op_le op_le (pv 1) (pv 0) (pv 2))))))), ?_⟩
    have ty := dp_ty dp
    refine ⟨_, rfl, _, _, _, _, isI d, rfl, .ty _, ty, kit_int d, _, rfl, ?_⟩
    cases hI : isI d with
    | false =>
      have : inR lo hi d = false := by cases d <;> simp [isI] at hI <;> rfl
      rw [this] at q
      exact q
    | true =>
      refine ⟨_, rfl, _, _, _, _, isB d, rfl, .ty _, ty, kit_bool d, _, rfl, _, rfl, ?_⟩
      cases hB : isB d with
      | true =>
        have : inR lo hi d = false := by cases d <;> simp [isB] at hB <;> rfl
        rw [this] at q
        exact q
      | false =>
        cases d <;> simp [isI, isB] at hI hB
        rename_i i
        rw [dp_int dp]
        refine ⟨_, rfl, _, rfl, _, _, rfl, rfl, _, rfl, ?_⟩
        by_cases h1 : lo ≤ i
        · refine ifD h1 ⟨_, rfl, _, _, rfl, rfl, ?_⟩
          have : inR lo hi (.int i) = decide (i ≤ hi) := by simp [inR, h1]
          rw [this] at q
          exact q
        · refine ifN h1 ?_
          have : inR lo hi (.int i) = false := by simp [inR, h1]
          rw [this] at q
          exact q
def sp_val (K : PySem.W.Frag) : Sp := fun vs H Q _ => ∃ (v : V) (d : PyData), vs = [v] ∧ Dp K H v d ∧ Q (.bl (inR 0 9999 d)) H
theorem ok_is_value (T : Top K mg) : FnOk P w K mg base CX0 2 (He.ga K "is_value") T.fd_is_value ["thing"] (sp_val K) := by
  have G_is_between := ok_is_between (P := P) (w := w) (base := base) T
  refine T.F_is_value.ok sc_is_value (fun vs H Q E h => ?_) (fun cdv A outer s H vs Q E hr h => ?_)
  · obtain ⟨v, d, rfl, _⟩ := h
    rfl
  · obtain ⟨v, d, rfl, dp, q⟩ := h
    refine ⟨_, PSs.nox (pss_one (ps_ret (pe_call G_is_between (hr.mono (by omega)) (by rfl) T.g_is_between T.F_is_between.kp T.b_is_between .nil pass0 (pa_cons (pv 0) (pa_cons pe_int (pa_cons (pe_glob (v := .int 9999) (by rfl) T.c_LAST_VALUE ⟨_, rfl⟩) pa_nil)))))), ?_⟩
    exact ⟨_, rfl, v, d, 0, 9999, rfl, dp, q⟩
end

section
variable {P : Program} {w : World} {K : PySem.W.Frag} {mg : Str → Option Value} {base : Heap}
mutual
theorem dp_sm {H H' : Hp} (k : Same H H') : ∀ {v : V} {d : PyData}, Dp K H v d → Dp K H' v d
  | _, _, .non => .non
  | _, _, .bl b => .bl b
  | _, _, .int i => .int i
  | _, _, .str x => .str x
  | _, _, .lst h da => .lst (k.seq h) (dpAll_sm k da)
  | _, _, .tup h da => .tup (sqT_kp (Kp.of_same (S := fun _ => False) k) h) (dpAll_sm k da)
theorem dpAll_sm {H H' : Hp} (k : Same H H') : ∀ {vs : List V} {ds : List PyData}, DpAll K H vs ds → DpAll K H' vs ds
  | _, _, .nil => .nil
  | _, _, .cons h r => .cons (dp_sm k h) (dpAll_sm k r)
end
/-- a value != a shallow one -/
def rNeE (K : PySem.W.Frag) : R2 := fun x y H Q => ∃ d e, Dp K H x d ∧ Dp K H y e ∧ d.canLay0 = true ∧ e.canLay0 = true ∧ e.depth ≤ 64 ∧ Q (.bl (!PyData.eqv d e)) H
theorem op_neE {X : Cx} (hu : X.A.units + 64 < cLine) : OpR X (compareOp .NotEq) (rNeE X.K) := by
  intro pins s σ H x y v u Q I rx ry h
  obtain ⟨d, e, hd, he, sd, se, de, q⟩ := h
  obtain ⟨as, r1⟩ := Dp.reads I d x v hd rx
  obtain ⟨bs, r2⟩ := Dp.reads I e y u he ry
  refine SeqAt.compareNe_reads r1 r2 sd se ?_ ⟨.bl _, H, I, rfl, q⟩
  have : min d.depth e.depth ≤ e.depth := Nat.min_le_right _ _
  omega
theorem kinds_w7 {x : Str} (h : x ∈ W7) : kinds x = some [false, false] := by unfold kinds; rw [if_pos h]
theorem w7_ne {x : Str} (h : x ∈ W7) : x ≠ "not" ∧ x ≠ "get" ∧ x ≠ "put" := by
  revert x
  decide +kernel
theorem inner_of {x : Str} {ks : List Bool} {ps : List PyData} (h : kinds x = some ks) (l : ks.length = ps.length) : inner x ps = some (ps.zip ks) := by
  unfold inner
  rw [h]
  exact if_pos l
theorem kinds_none {x : Str} (h0 : x ∉ W7) (h1 : x ≠ "not") (h2 : x ≠ "get") (h3 : x ≠ "put") : kinds x = none := by
  unfold kinds
  rw [if_neg h0, if_neg h1, if_neg h2, if_neg h3]
def itD (q : PyData × Bool) : PyData := .tuple [q.1, .bool q.2]
end

section
variable {P : Program} {w : World} {K : PySem.W.Frag} {mg : Str → Option Value} {base : Heap}
def optV : Option Bool → V
  | none => .non
  | some b => .bl b
/-- items: new pairs of an old thing and what is wanted of it -/
inductive Its (K : PySem.W.Frag) (G H : Hp) (F : Addr → Prop) : List V → List (PyData × Option Bool) → Prop where
  | nil : Its K G H F [] []
  | cons {t : Addr} {y : V} {d : PyData} {o : Option Bool} {ts : List V} {cs : List (PyData × Option Bool)} (h : H t = some (.tup [y, optV o])) (f : F t) (g : Dp K G y d) (r : Its K G H F ts cs) : Its K G H F (.ref t :: ts) ((d, o) :: cs)
def wn (cs : List (PyData × Bool)) : List (PyData × Option Bool) := cs.map fun q => (q.1, some q.2)
def sp_in (K : PySem.W.Frag) : Sp := fun vs H Q _ => ∃ (v : V) (x : Str) (ps : List PyData) (G : Hp), vs = [v] ∧ Same G H ∧ Dp K G v (.tuple (.str x :: ps)) ∧
  (inner x ps = none → ∀ H', Same H H' → Q .non H') ∧ ∀ cs, inner x ps = some cs → ∀ H' L ts, Same H H' → H L = none → H' L = some (.lst ts) → Its K G H' (fun t => H t = none) ts (wn cs) → Q (.ref L) H'
theorem in_strs {z : Str} {ws : List Str} : inV (.str z) (ws.map V.str) = decide (z ∈ ws) := by
  unfold inV
  rw [List.any_map]
  by_cases h : z ∈ ws
  · rw [decide_eq_true h]
    refine List.any_eq_true.mpr ⟨z, h, ?_⟩
    show (z == z) = true
    exact beq_self_eq_true z
  · rw [decide_eq_false h]
    refine List.any_eq_false.mpr fun x hx e => h ?_
    have e2 : (x == z) = true := e
    rw [← eq_of_beq e2]
    exact hx
theorem in_w7 (x : Str) : inV (.str x) [.str "add", .str "sub", .str "mul", .str "div", .str "rem", .str "less", .str "same"] = decide (x ∈ W7) := in_strs (z := x) (ws := W7)
theorem ifT {c : Bool} {A B : Prop} (hc : c = true) (h : A) : if c = true then A else B := by rw [if_pos hc]; exact h
theorem ifF {c : Bool} {A B : Prop} (hc : c = false) (h : B) : if c = true then A else B := by rw [if_neg (by rw [hc]; exact Bool.false_ne_true)]; exact h
theorem len_dec {n m : Nat} : decide (V.int (n : Int) = V.int (m : Int)) = decide (n = m) := by
  rw [Bool.eq_iff_iff, decide_eq_true_eq, decide_eq_true_eq]
  exact ⟨fun z => Int.ofNat.inj (V.int.inj z), fun z => by rw [z]⟩
theorem inner_none {x : Str} {ps : List PyData} (m1 : ¬ (x ∈ W7 ∧ ps.length = 2)) (m2 : ¬ (x = "not" ∧ ps.length = 1)) (m3 : ¬ (x = "get" ∧ ps.length = 2)) (m4 : ¬ (x = "put" ∧ ps.length = 3))
    (m5 : x = "number" → leafOk x ps = false) (m6 : x = "fresh" → leafOk x ps = false) (m7 : x = "old" → leafOk x ps = false) (m8 : x = "new" → leafOk x ps = false) : inner x ps = none := by
  unfold inner
  by_cases c1 : x ∈ W7
  · rw [kinds_w7 c1]
    exact if_neg fun z => m1 ⟨c1, z.symm⟩
  by_cases c2 : x = "not"
  · rw [show kinds x = some [false] by rw [c2]; decide +kernel]
    exact if_neg fun z => m2 ⟨c2, z.symm⟩
  by_cases c3 : x = "get"
  · rw [show kinds x = some [true, false] by rw [c3]; decide +kernel]
    exact if_neg fun z => m3 ⟨c3, z.symm⟩
  by_cases c4 : x = "put"
  · rw [show kinds x = some [true, false, false] by rw [c4]; decide +kernel]
    exact if_neg fun z => m4 ⟨c4, z.symm⟩
  rw [kinds_none c1 c2 c3 c4]
  have : leafOk x ps = false := by
    by_cases c5 : x = "number"
    · exact m5 c5
    by_cases c6 : x = "fresh"
    · exact m6 c6
    by_cases c7 : x = "old"
    · exact m7 c7
    by_cases c8 : x = "new"
    · exact m8 c8
    unfold leafOk
    rw [if_neg c5, if_neg c6, if_neg c7, if_neg c8]
  rw [this]
  rfl
theorem ok_inner_terms (T : Top K mg) : FnOk P w K mg base CX0 3 (He.ga K "inner_terms") T.fd_inner_terms ["thing"] (sp_in K) := by
  have G_is_between := ok_is_between (P := P) (w := w) (base := base) T
  have G_is_value := ok_is_value (P := P) (w := w) (base := base) T
  refine T.F_inner_terms.ok sc_inner_terms (fun vs H Q E h => ?_) (fun cdv A outer s H vs Q E hr h => ?_)
  · obtain ⟨v, x, ps, G, rfl, _⟩ := h
    rfl
  · obtain ⟨v, x, ps, G, rfl, sg, dp, qn, qs⟩ := h
    refine ⟨_, PSs.nox (pss_cons (ps_set (i := 1) sc_inner_terms.nd rfl (Or.inl rfl) (pe_ix ix_tup (pv 0) pe_int (fun _ _ => rfl)))
        (pss_cons (ps_if (PW.pt (pw_and (pt_cmpR op_in_seq (pv 1) (pe_glob (v := .ref (He.ga K "WORDS")) (by rfl) T.c_WORDS rfl) (by rfl)) (pw_and1 (pt_cmpR op_eq (pe_callB call_len_seq (by rfl) T.m_len (by decide +kernel) (pa_cons (pv 0) pa_nil)) pe_int (nomark _))))) (pss_one (ps_ret (pe_lst (pa_cons (pe_tup (pa_cons (pe_ix ix_tup (pv 0) pe_int (fun _ _ => rfl)) (pa_cons pe_bl pa_nil))) (pa_cons (pe_tup (pa_cons (pe_ix ix_tup (pv 0) pe_int (fun _ _ => rfl)) (pa_cons pe_bl pa_nil))) pa_nil))))) pss_nil)
        (pss_cons (ps_if (PW.pt (pw_and (pt_cmpR op_eq (pv 1) pe_str (nomark _)) (pw_and1 (pt_cmpR op_eq (pe_callB call_len_seq (by rfl) T.m_len (by decide +kernel) (pa_cons (pv 0) pa_nil)) pe_int (nomark _))))) (pss_one (ps_ret (pe_lst (pa_cons (pe_tup (pa_cons (pe_ix ix_tup (pv 0) pe_int (fun _ _ => rfl)) (pa_cons pe_bl pa_nil))) pa_nil)))) pss_nil)
        (pss_cons (ps_if (PW.pt (pw_and (pt_cmpR op_eq (pv 1) pe_str (nomark _)) (pw_and1 (pt_cmpR op_eq (pe_callB call_len_seq (by rfl) T.m_len (by decide +kernel) (pa_cons (pv 0) pa_nil)) pe_int (nomark _))))) (pss_one (ps_ret (pe_lst (pa_cons (pe_tup (pa_cons (pe_ix ix_tup (pv 0) pe_int (fun _ _ => rfl)) (pa_cons pe_bl pa_nil))) (pa_cons (pe_tup (pa_cons (pe_ix ix_tup (pv 0) pe_int (fun _ _ => rfl)) (pa_cons pe_bl pa_nil))) pa_nil))))) pss_nil)
        (pss_cons (ps_if (PW.pt (pw_and (pt_cmpR op_eq (pv 1) pe_str (nomark _)) (pw_and1 (pt_cmpR op_eq (pe_callB call_len_seq (by rfl) T.m_len (by decide +kernel) (pa_cons (pv 0) pa_nil)) pe_int (nomark _))))) (pss_one (ps_ret (pe_lst (pa_cons (pe_tup (pa_cons (pe_ix ix_tup (pv 0) pe_int (fun _ _ => rfl)) (pa_cons pe_bl pa_nil))) (pa_cons (pe_tup (pa_cons (pe_ix ix_tup (pv 0) pe_int (fun _ _ => rfl)) (pa_cons pe_bl pa_nil))) (pa_cons (pe_tup (pa_cons (pe_ix ix_tup (pv 0) pe_int (fun _ _ => rfl)) (pa_cons pe_bl pa_nil))) pa_nil)))))) pss_nil)
        (pss_cons (ps_if (PW.pt (pw_and (pt_cmpR op_eq (pv 1) pe_str (nomark _)) (pw_and (pt_cmpR op_eq (pe_callB call_len_seq (by rfl) T.m_len (by decide +kernel) (pa_cons (pv 0) pa_nil)) pe_int (nomark _)) (pw_and1 (pt_truth (pe_call G_is_between (hr.mono (by omega)) (by rfl) T.g_is_between T.F_is_between.kp T.b_is_between .nil pass0 (pa_cons (pe_ix ix_tup (pv 0) pe_int (fun _ _ => rfl)) (pa_cons (pe_glob (v := .int (-2147483648)) (by rfl) T.c_LEAST ⟨_, rfl⟩) (pa_cons (pe_glob (v := .int 2147483647) (by rfl) T.c_GREATEST ⟨_, rfl⟩) pa_nil)))) (by intro _; rfl)))))) (pss_one (ps_ret (pe_lst pa_nil))) pss_nil)
        (pss_cons (ps_if (PW.pt (pw_and (pt_cmpR op_eq (pv 1) pe_str (nomark _)) (pw_and (pt_cmpR op_eq (pe_callB call_len_seq (by rfl) T.m_len (by decide +kernel) (pa_cons (pv 0) pa_nil)) pe_int (nomark _)) (pw_and1 (pt_truth (pe_call G_is_between (hr.mono (by omega)) (by rfl) T.g_is_between T.F_is_between.kp T.b_is_between .nil pass0 (pa_cons (pe_ix ix_tup (pv 0) pe_int (fun _ _ => rfl)) (pa_cons pe_int (pa_cons (pe_glob (v := .int 8) (by rfl) T.c_LONGEST ⟨_, rfl⟩) pa_nil)))) (by intro _; rfl)))))) (pss_one (ps_ret (pe_lst pa_nil))) pss_nil)
        (pss_cons (ps_if (PW.pt (pw_and (pt_cmpR op_eq (pv 1) pe_str (nomark _)) (pw_and (pt_cmpR op_eq (pe_callB call_len_seq (by rfl) T.m_len (by decide +kernel) (pa_cons (pv 0) pa_nil)) pe_int (nomark _)) (pw_and (pt_truth (pe_call G_is_between (hr.mono (by omega)) (by rfl) T.g_is_between T.F_is_between.kp T.b_is_between .nil pass0 (pa_cons (pe_ix ix_tup (pv 0) pe_int (fun _ _ => rfl)) (pa_cons pe_int (pa_cons (pe_op op_sub (pe_glob (v := .int 5) (by rfl) T.c_MOST_FRAMES ⟨_, rfl⟩) pe_int) pa_nil)))) (by intro _; rfl)) (pw_and1 (pt_truth (pe_call G_is_value (hr.mono (by omega)) (by rfl) T.g_is_value T.F_is_value.kp T.b_is_value .nil pass0 (pa_cons (pe_ix ix_tup (pv 0) pe_int (fun _ _ => rfl)) pa_nil)) (by intro _; rfl))))))) (pss_one (ps_ret (pe_lst pa_nil))) pss_nil)
        (pss_cons (ps_if (PW.pt (pw_and (pt_cmpR op_eq (pv 1) pe_str (nomark _)) (pw_and (pt_cmpR op_eq (pe_callB call_len_seq (by rfl) T.m_len (by decide +kernel) (pa_cons (pv 0) pa_nil)) pe_int (nomark _)) (pw_and1 (pt_truth (pe_call G_is_value (hr.mono (by omega)) (by rfl) T.g_is_value T.F_is_value.kp T.b_is_value .nil pass0 (pa_cons (pe_ix ix_tup (pv 0) pe_int (fun _ _ => rfl)) pa_nil)) (by intro _; rfl)))))) (pss_one (ps_ret (pe_lst pa_nil))) pss_nil)
        (pss_one (ps_ret pe_non))))))))))), ?_⟩
    obtain ⟨p, xs, rfl, hp, da⟩ := dp_tup dp
    obtain ⟨x0, vs, rfl, d0, da⟩ := dpAll_cons da
    rw [dp_str d0] at hp
    replace hp := sqT_kp (Kp.of_same (S := fun _ => False) sg) hp
    have vl := dpAll_len da
    have big : ∀ n : Nat, n ≤ 10000 → n ≤ sizeLine := fun n h => by rw [sizeLine_eq]; omega
    refine ⟨_, rfl, p, _, 0, _, rfl, rfl, hp, atI_nat (j := 0) rfl, ?_⟩
    dsimp only [gName]
    refine ifs_by (fun σ' H' => H = H' ∧ σ' = [some (.ref p), some (.str x)] ∧ ¬ (x ∈ W7 ∧ ps.length = 2)) ?_ ?_
    rotate_left
    · intro N hN
      refine ⟨_, rfl, He.ga K "WORDS", _, rfl, .inr (T.q_WORDS _), rfl, by decide +kernel, _, rfl, ?_⟩
      by_cases c1 : x ∈ W7
      · refine ifT (by show inV _ _ = true; rw [in_w7]; exact decide_eq_true c1) ?_
        refine ⟨_, rfl, p, _, rfl, .inr hp, rfl, _, rfl, ?_⟩
        by_cases c2 : ps.length = 2
        · refine ifD (by rw [List.length_cons, vl, c2]; rfl) ?_
          match ps, c2, da, vl, qs with
          | [q0, q1], c2, da, vl, qs =>
            obtain ⟨y0, r0, rfl, g0, da0⟩ := dpAll_cons da
            obtain ⟨y1, r1, rfl, g1, da1⟩ := dpAll_cons da0
            rw [dpAll_nil da1] at hp
            refine ⟨_, rfl, p, _, 1, _, rfl, rfl, hp, atI_nat (j := 1) rfl, big 2 (by decide), fun t0 n0 => ?_⟩
            have k0 := same_new (o := .tup [y0, .bl false]) n0
            refine ⟨_, rfl, p, _, 2, _, rfl, rfl, sqT_kp (Kp.of_same (S := fun _ => False) k0) hp, atI_nat (j := 2) rfl, big 2 (by decide), fun t1 n1 => ?_⟩
            have k1 := k0.trans (same_new (o := .tup [y1, .bl false]) n1)
            refine ⟨big 2 (by decide), fun L nL => ?_⟩
            have kL := k1.trans (same_new (o := .lst [.ref t0, .ref t1]) nL)
            exact qs _ (inner_of (kinds_w7 c1) rfl) _ L _ kL (k1.free nL) upd_same (.cons (((same_new (o := .tup [y1, .bl false]) n1).trans (same_new (o := .lst [.ref t0, .ref t1]) nL)) _ _ upd_same) (n0) g0 (.cons ((same_new (o := .lst [.ref t0, .ref t1]) nL) _ _ upd_same) (k0.free n1) g1 (.nil)))
        · refine ifN (fun z => c2 ?_) (hN _ _ ⟨rfl, rfl, fun z => c2 z.2⟩)
          have := V.int.inj z
          rw [List.length_cons, vl] at this
          omega
      · exact ifF (by show inV _ _ = false; rw [in_w7]; exact decide_eq_false c1) (hN _ _ ⟨rfl, rfl, fun z => c1 z.1⟩)
    rintro _ _ ⟨rfl, rfl, m1⟩
    refine ifs_by (fun σ' H' => H = H' ∧ σ' = [some (.ref p), some (.str x)] ∧ ¬ (x = "not" ∧ ps.length = 1)) ?_ ?_
    rotate_left
    · intro N hN
      refine ⟨_, rfl, rfl, _, rfl, ?_⟩
      by_cases c1 : x = "not"
      · refine ifD (by rw [c1]) ?_
        refine ⟨_, rfl, p, _, rfl, .inr hp, rfl, _, rfl, ?_⟩
        by_cases c2 : ps.length = 1
        · refine ifD (by rw [List.length_cons, vl, c2]; rfl) ?_
          match ps, c2, da, vl, qs with
          | [q0], c2, da, vl, qs =>
            obtain ⟨y0, r0, rfl, g0, da0⟩ := dpAll_cons da
            rw [dpAll_nil da0] at hp
            refine ⟨_, rfl, p, _, 1, _, rfl, rfl, hp, atI_nat (j := 1) rfl, big 2 (by decide), fun t0 n0 => ?_⟩
            have k0 := same_new (o := .tup [y0, .bl false]) n0
            refine ⟨big 1 (by decide), fun L nL => ?_⟩
            have kL := k0.trans (same_new (o := .lst [.ref t0]) nL)
            exact qs _ (inner_of ((by rw [c1]; decide +kernel : kinds x = some [false])) rfl) _ L _ kL (k0.free nL) upd_same (.cons ((same_new (o := .lst [.ref t0]) nL) _ _ upd_same) (n0) g0 (.nil))
        · refine ifN (fun z => c2 ?_) (hN _ _ ⟨rfl, rfl, fun z => c2 z.2⟩)
          have := V.int.inj z
          rw [List.length_cons, vl] at this
          omega
      · exact ifN (fun z => c1 (V.str.inj z)) (hN _ _ ⟨rfl, rfl, fun z => c1 z.1⟩)
    rintro _ _ ⟨rfl, rfl, m2⟩
    refine ifs_by (fun σ' H' => H = H' ∧ σ' = [some (.ref p), some (.str x)] ∧ ¬ (x = "get" ∧ ps.length = 2)) ?_ ?_
    rotate_left
    · intro N hN
      refine ⟨_, rfl, rfl, _, rfl, ?_⟩
      by_cases c1 : x = "get"
      · refine ifD (by rw [c1]) ?_
        refine ⟨_, rfl, p, _, rfl, .inr hp, rfl, _, rfl, ?_⟩
        by_cases c2 : ps.length = 2
        · refine ifD (by rw [List.length_cons, vl, c2]; rfl) ?_
          match ps, c2, da, vl, qs with
          | [q0, q1], c2, da, vl, qs =>
            obtain ⟨y0, r0, rfl, g0, da0⟩ := dpAll_cons da
            obtain ⟨y1, r1, rfl, g1, da1⟩ := dpAll_cons da0
            rw [dpAll_nil da1] at hp
            refine ⟨_, rfl, p, _, 1, _, rfl, rfl, hp, atI_nat (j := 1) rfl, big 2 (by decide), fun t0 n0 => ?_⟩
            have k0 := same_new (o := .tup [y0, .bl true]) n0
            refine ⟨_, rfl, p, _, 2, _, rfl, rfl, sqT_kp (Kp.of_same (S := fun _ => False) k0) hp, atI_nat (j := 2) rfl, big 2 (by decide), fun t1 n1 => ?_⟩
            have k1 := k0.trans (same_new (o := .tup [y1, .bl false]) n1)
            refine ⟨big 2 (by decide), fun L nL => ?_⟩
            have kL := k1.trans (same_new (o := .lst [.ref t0, .ref t1]) nL)
            exact qs _ (inner_of ((by rw [c1]; decide +kernel : kinds x = some [true, false])) rfl) _ L _ kL (k1.free nL) upd_same (.cons (((same_new (o := .tup [y1, .bl false]) n1).trans (same_new (o := .lst [.ref t0, .ref t1]) nL)) _ _ upd_same) (n0) g0 (.cons ((same_new (o := .lst [.ref t0, .ref t1]) nL) _ _ upd_same) (k0.free n1) g1 (.nil)))
        · refine ifN (fun z => c2 ?_) (hN _ _ ⟨rfl, rfl, fun z => c2 z.2⟩)
          have := V.int.inj z
          rw [List.length_cons, vl] at this
          omega
      · exact ifN (fun z => c1 (V.str.inj z)) (hN _ _ ⟨rfl, rfl, fun z => c1 z.1⟩)
    rintro _ _ ⟨rfl, rfl, m3⟩
    refine ifs_by (fun σ' H' => H = H' ∧ σ' = [some (.ref p), some (.str x)] ∧ ¬ (x = "put" ∧ ps.length = 3)) ?_ ?_
    rotate_left
    · intro N hN
      refine ⟨_, rfl, rfl, _, rfl, ?_⟩
      by_cases c1 : x = "put"
      · refine ifD (by rw [c1]) ?_
        refine ⟨_, rfl, p, _, rfl, .inr hp, rfl, _, rfl, ?_⟩
        by_cases c2 : ps.length = 3
        · refine ifD (by rw [List.length_cons, vl, c2]; rfl) ?_
          match ps, c2, da, vl, qs with
          | [q0, q1, q2], c2, da, vl, qs =>
            obtain ⟨y0, r0, rfl, g0, da0⟩ := dpAll_cons da
            obtain ⟨y1, r1, rfl, g1, da1⟩ := dpAll_cons da0
            obtain ⟨y2, r2, rfl, g2, da2⟩ := dpAll_cons da1
            rw [dpAll_nil da2] at hp
            refine ⟨_, rfl, p, _, 1, _, rfl, rfl, hp, atI_nat (j := 1) rfl, big 2 (by decide), fun t0 n0 => ?_⟩
            have k0 := same_new (o := .tup [y0, .bl true]) n0
            refine ⟨_, rfl, p, _, 2, _, rfl, rfl, sqT_kp (Kp.of_same (S := fun _ => False) k0) hp, atI_nat (j := 2) rfl, big 2 (by decide), fun t1 n1 => ?_⟩
            have k1 := k0.trans (same_new (o := .tup [y1, .bl false]) n1)
            refine ⟨_, rfl, p, _, 3, _, rfl, rfl, sqT_kp (Kp.of_same (S := fun _ => False) k1) hp, atI_nat (j := 3) rfl, big 2 (by decide), fun t2 n2 => ?_⟩
            have k2 := k1.trans (same_new (o := .tup [y2, .bl false]) n2)
            refine ⟨big 3 (by decide), fun L nL => ?_⟩
            have kL := k2.trans (same_new (o := .lst [.ref t0, .ref t1, .ref t2]) nL)
            exact qs _ (inner_of ((by rw [c1]; decide +kernel : kinds x = some [true, false, false])) rfl) _ L _ kL (k2.free nL) upd_same (.cons (((same_new (o := .tup [y1, .bl false]) n1).trans ((same_new (o := .tup [y2, .bl false]) n2).trans (same_new (o := .lst [.ref t0, .ref t1, .ref t2]) nL))) _ _ upd_same) (n0) g0 (.cons (((same_new (o := .tup [y2, .bl false]) n2).trans (same_new (o := .lst [.ref t0, .ref t1, .ref t2]) nL)) _ _ upd_same) (k0.free n1) g1 (.cons ((same_new (o := .lst [.ref t0, .ref t1, .ref t2]) nL) _ _ upd_same) (k1.free n2) g2 (.nil))))
        · refine ifN (fun z => c2 ?_) (hN _ _ ⟨rfl, rfl, fun z => c2 z.2⟩)
          have := V.int.inj z
          rw [List.length_cons, vl] at this
          omega
      · exact ifN (fun z => c1 (V.str.inj z)) (hN _ _ ⟨rfl, rfl, fun z => c1 z.1⟩)
    rintro _ _ ⟨rfl, rfl, m4⟩
    refine ifs_by (fun σ' H' => H = H' ∧ σ' = [some (.ref p), some (.str x)] ∧ (x = "number" → leafOk x ps = false)) ?_ ?_
    rotate_left
    · intro N hN
      refine ⟨_, rfl, rfl, _, rfl, ?_⟩
      by_cases c1 : x = "number"
      · refine ifD (by rw [c1]) ?_
        refine ⟨_, rfl, p, _, rfl, .inr hp, rfl, _, rfl, ?_⟩
        by_cases c2 : ps.length = 1
        · refine ifD (by rw [List.length_cons, vl, c2]; rfl) ?_
          match ps, c2, da, vl, qs, hN with
          | [q0], c2, da, vl, qs, hN =>
            obtain ⟨y0, r0, rfl, g0, da0⟩ := dpAll_cons da
            rw [dpAll_nil da0] at hp
            have lf : leafOk x [q0] = (inR (-2147483648) 2147483647 q0) := by rw [c1]; rfl
            have kn : kinds x = none := by rw [c1]; decide +kernel
            have fin : leafOk x [q0] = true → inner x [q0] = some [] := fun h => by unfold inner; rw [kn]; exact if_pos h
            refine ⟨_, rfl, p, _, 1, _, rfl, rfl, hp, atI_nat (j := 1) rfl, y0, q0, _, _, rfl, dp_sm sg g0, ?_⟩
            refine ⟨_, rfl, ?_⟩
            cases b0 : inR (-2147483648) 2147483647 q0 with
            | false => exact hN _ _ ⟨rfl, rfl, fun _ => by rw [lf, b0]⟩
            | true =>
              refine ⟨Nat.zero_le _, fun L nL => ?_⟩
              exact qs _ (fin (by rw [lf, b0])) _ L _ (same_new nL) nL upd_same .nil
        · refine ifN (fun z => c2 ?_) (hN _ _ ⟨rfl, rfl, fun _ => ?_⟩)
          · have := V.int.inj z
            rw [List.length_cons, vl] at this
            omega
          · rw [c1]
            match ps, c2 with
            | [], _ => rfl
            | [_], c2 => exact absurd rfl c2
            | _ :: _ :: _, _ => rfl
      · exact ifN (fun z => c1 (V.str.inj z)) (hN _ _ ⟨rfl, rfl, fun z => absurd z c1⟩)
    rintro _ _ ⟨rfl, rfl, m5⟩
    refine ifs_by (fun σ' H' => H = H' ∧ σ' = [some (.ref p), some (.str x)] ∧ (x = "fresh" → leafOk x ps = false)) ?_ ?_
    rotate_left
    · intro N hN
      refine ⟨_, rfl, rfl, _, rfl, ?_⟩
      by_cases c1 : x = "fresh"
      · refine ifD (by rw [c1]) ?_
        refine ⟨_, rfl, p, _, rfl, .inr hp, rfl, _, rfl, ?_⟩
        by_cases c2 : ps.length = 1
        · refine ifD (by rw [List.length_cons, vl, c2]; rfl) ?_
          match ps, c2, da, vl, qs, hN with
          | [q0], c2, da, vl, qs, hN =>
            obtain ⟨y0, r0, rfl, g0, da0⟩ := dpAll_cons da
            rw [dpAll_nil da0] at hp
            have lf : leafOk x [q0] = (inR 1 8 q0) := by rw [c1]; rfl
            have kn : kinds x = none := by rw [c1]; decide +kernel
            have fin : leafOk x [q0] = true → inner x [q0] = some [] := fun h => by unfold inner; rw [kn]; exact if_pos h
            refine ⟨_, rfl, p, _, 1, _, rfl, rfl, hp, atI_nat (j := 1) rfl, y0, q0, _, _, rfl, dp_sm sg g0, ?_⟩
            refine ⟨_, rfl, ?_⟩
            cases b0 : inR 1 8 q0 with
            | false => exact hN _ _ ⟨rfl, rfl, fun _ => by rw [lf, b0]⟩
            | true =>
              refine ⟨Nat.zero_le _, fun L nL => ?_⟩
              exact qs _ (fin (by rw [lf, b0])) _ L _ (same_new nL) nL upd_same .nil
        · refine ifN (fun z => c2 ?_) (hN _ _ ⟨rfl, rfl, fun _ => ?_⟩)
          · have := V.int.inj z
            rw [List.length_cons, vl] at this
            omega
          · rw [c1]
            match ps, c2 with
            | [], _ => rfl
            | [_], c2 => exact absurd rfl c2
            | _ :: _ :: _, _ => rfl
      · exact ifN (fun z => c1 (V.str.inj z)) (hN _ _ ⟨rfl, rfl, fun z => absurd z c1⟩)
    rintro _ _ ⟨rfl, rfl, m6⟩
    refine ifs_by (fun σ' H' => H = H' ∧ σ' = [some (.ref p), some (.str x)] ∧ (x = "old" → leafOk x ps = false)) ?_ ?_
    rotate_left
    · intro N hN
      refine ⟨_, rfl, rfl, _, rfl, ?_⟩
      by_cases c1 : x = "old"
      · refine ifD (by rw [c1]) ?_
        refine ⟨_, rfl, p, _, rfl, .inr hp, rfl, _, rfl, ?_⟩
        by_cases c2 : ps.length = 2
        · refine ifD (by rw [List.length_cons, vl, c2]; rfl) ?_
          match ps, c2, da, vl, qs, hN with
          | [q0, q1], c2, da, vl, qs, hN =>
            obtain ⟨y0, r0, rfl, g0, da0⟩ := dpAll_cons da
            obtain ⟨y1, r1, rfl, g1, da1⟩ := dpAll_cons da0
            rw [dpAll_nil da1] at hp
            have lf : leafOk x [q0, q1] = (inR 0 (5 - 1) q0 && inR 0 9999 q1) := by rw [c1]; rfl
            have kn : kinds x = none := by rw [c1]; decide +kernel
            have fin : leafOk x [q0, q1] = true → inner x [q0, q1] = some [] := fun h => by unfold inner; rw [kn]; exact if_pos h
            refine ⟨_, rfl, p, _, 1, _, rfl, rfl, hp, atI_nat (j := 1) rfl, _, _, rfl, rfl, y0, q0, _, _, rfl, dp_sm sg g0, ?_⟩
            refine ⟨_, rfl, ?_⟩
            cases b0 : inR 0 (5 - 1) q0 with
            | false => exact hN _ _ ⟨rfl, rfl, fun _ => by rw [lf, b0]; simp⟩
            | true =>
            refine ⟨_, rfl, p, _, 2, _, rfl, rfl, hp, atI_nat (j := 2) rfl, y1, q1, rfl, dp_sm sg g1, ?_⟩
            refine ⟨_, rfl, ?_⟩
            cases b1 : inR 0 9999 q1 with
            | false => exact hN _ _ ⟨rfl, rfl, fun _ => by rw [lf, b1]; simp⟩
            | true =>
              refine ⟨Nat.zero_le _, fun L nL => ?_⟩
              exact qs _ (fin (by rw [lf, b0, b1]; rfl)) _ L _ (same_new nL) nL upd_same .nil
        · refine ifN (fun z => c2 ?_) (hN _ _ ⟨rfl, rfl, fun _ => ?_⟩)
          · have := V.int.inj z
            rw [List.length_cons, vl] at this
            omega
          · rw [c1]
            match ps, c2 with
            | [], _ => rfl
            | [_], _ => rfl
            | [_, _], c2 => exact absurd rfl c2
            | _ :: _ :: _ :: _, _ => rfl
      · exact ifN (fun z => c1 (V.str.inj z)) (hN _ _ ⟨rfl, rfl, fun z => absurd z c1⟩)
    rintro _ _ ⟨rfl, rfl, m7⟩
    refine ifs_by (fun σ' H' => H = H' ∧ σ' = [some (.ref p), some (.str x)] ∧ (x = "new" → leafOk x ps = false)) ?_ ?_
    rotate_left
    · intro N hN
      refine ⟨_, rfl, rfl, _, rfl, ?_⟩
      by_cases c1 : x = "new"
      · refine ifD (by rw [c1]) ?_
        refine ⟨_, rfl, p, _, rfl, .inr hp, rfl, _, rfl, ?_⟩
        by_cases c2 : ps.length = 1
        · refine ifD (by rw [List.length_cons, vl, c2]; rfl) ?_
          match ps, c2, da, vl, qs, hN with
          | [q0], c2, da, vl, qs, hN =>
            obtain ⟨y0, r0, rfl, g0, da0⟩ := dpAll_cons da
            rw [dpAll_nil da0] at hp
            have lf : leafOk x [q0] = (inR 0 9999 q0) := by rw [c1]; rfl
            have kn : kinds x = none := by rw [c1]; decide +kernel
            have fin : leafOk x [q0] = true → inner x [q0] = some [] := fun h => by unfold inner; rw [kn]; exact if_pos h
            refine ⟨_, rfl, p, _, 1, _, rfl, rfl, hp, atI_nat (j := 1) rfl, y0, q0, rfl, dp_sm sg g0, ?_⟩
            refine ⟨_, rfl, ?_⟩
            cases b0 : inR 0 9999 q0 with
            | false => exact hN _ _ ⟨rfl, rfl, fun _ => by rw [lf, b0]⟩
            | true =>
              refine ⟨Nat.zero_le _, fun L nL => ?_⟩
              exact qs _ (fin (by rw [lf, b0])) _ L _ (same_new nL) nL upd_same .nil
        · refine ifN (fun z => c2 ?_) (hN _ _ ⟨rfl, rfl, fun _ => ?_⟩)
          · have := V.int.inj z
            rw [List.length_cons, vl] at this
            omega
          · rw [c1]
            match ps, c2 with
            | [], _ => rfl
            | [_], c2 => exact absurd rfl c2
            | _ :: _ :: _, _ => rfl
      · exact ifN (fun z => c1 (V.str.inj z)) (hN _ _ ⟨rfl, rfl, fun z => absurd z c1⟩)
    rintro _ _ ⟨rfl, rfl, m8⟩
    exact qn (inner_none m1 m2 m3 m4 m5 m6 m7 m8) _ fun _ _ e => e
end

section
variable {P : Program} {w : World} {K : PySem.W.Frag} {mg : Str → Option Value} {base : Heap}
def optD : Option Bool → PyData
  | none => .none
  | some b => .bool b
def itO (q : PyData × Option Bool) : PyData := .tuple [q.1, optD q.2]
theorem opt_dp {H : Hp} : ∀ o : Option Bool, Dp K H (optV o) (optD o)
  | none => .non
  | some b => .bl b
theorem Its.dp {G H : Hp} {F : Addr → Prop} {ts : List V} {cs : List (PyData × Option Bool)} (s : Same G H) (h : Its K G H F ts cs) : DpAll K H ts (cs.map itO) := by
  induction h with
  | nil => exact .nil
  | cons h f g r ih => exact .cons (.tup (.of h) (.cons (dp_sm s g) (.cons (opt_dp _) .nil))) ih
theorem Its.mono {G H H' : Hp} {F F' : Addr → Prop} {ts : List V} {cs : List (PyData × Option Bool)} (k : ∀ t o, H t = some o → F t → H' t = some o) (kf : ∀ t, F t → F' t) (h : Its K G H F ts cs) : Its K G H' F' ts cs := by
  induction h with
  | nil => exact .nil
  | cons h f g r ih => exact .cons (k _ _ h f) (kf _ f) g ih
theorem Its.app {G H : Hp} {F : Addr → Prop} {ts us : List V} {cs ds : List (PyData × Option Bool)} (h : Its K G H F ts cs) (h' : Its K G H F us ds) : Its K G H F (ts ++ us) (cs ++ ds) := by
  induction h with
  | nil => exact h'
  | cons h f g r ih => exact .cons h f g ih
theorem Its.len {G H : Hp} {F : Addr → Prop} {ts : List V} {cs : List (PyData × Option Bool)} (h : Its K G H F ts cs) : ts.length = cs.length := by
  induction h with
  | nil => rfl
  | cons h f g r ih => rw [List.length_cons, List.length_cons, ih]
theorem Its.last {G H : Hp} {F : Addr → Prop} {ts : List V} {cs : List (PyData × Option Bool)} (h : Its K G H F ts cs) (hn : ts ≠ []) : ∃ ts' cs' t y d o, ts = ts' ++ [.ref t] ∧ cs = cs' ++ [(d, o)] ∧ Its K G H F ts' cs' ∧ H t = some (.tup [y, optV o]) ∧ F t ∧ Dp K G y d := by
  induction h with
  | nil => exact absurd rfl hn
  | @cons t y d o ts cs h f g r ih =>
    cases r with
    | nil => exact ⟨[], [], t, y, d, o, rfl, rfl, .nil, h, f, g⟩
    | @cons t2 y2 d2 o2 ts2 cs2 h2 f2 g2 r2 =>
      obtain ⟨ts', cs', t', y', d', o', e1, e2, i, e3, e4, e5⟩ := ih (by simp)
      exact ⟨.ref t :: ts', (d, o) :: cs', t', y', d', o', by rw [e1]; rfl, by rw [e2]; rfl, .cons h f g i, e3, e4, e5⟩
theorem lays_its {cs : List (PyData × Option Bool)} (h : ∀ q ∈ cs, q.1.canLay0 = true) : PyData.canLayAll0 (cs.map itO) = true := by
  induction cs with
  | nil => rfl
  | cons q r ih =>
    have h1 := h q (List.mem_cons_self ..)
    have h2 := ih fun x hx => h x (List.mem_cons_of_mem _ hx)
    have h3 : (optD q.2).canLay0 = true := by cases q.2 <;> rfl
    simp only [List.map_cons, itO, PyData.canLayAll0, PyData.canLay0, h1, h2, h3, Bool.and_self]
theorem inner_lays {x : Str} {ps : List PyData} {cs : List (PyData × Bool)} (h : inner x ps = some cs) (hl : PyData.canLayAll0 ps = true) : (∀ q ∈ wn cs, q.1.canLay0 = true) ∧ cs.length ≤ 3 := by
  have each : ∀ {l : List PyData}, PyData.canLayAll0 l = true → ∀ d ∈ l, d.canLay0 = true := by
    intro l
    induction l with
    | nil => exact fun _ d hd => nomatch hd
    | cons a r ih =>
      intro h d hd
      simp only [PyData.canLayAll0, Bool.and_eq_true] at h
      rcases List.mem_cons.mp hd with rfl | hd
      · exact h.1
      · exact ih h.2 d hd
  unfold inner at h
  cases hk : kinds x with
  | none =>
    rw [hk] at h
    dsimp only at h
    split at h
    · cases h
      exact ⟨(fun q hq => nomatch hq), Nat.zero_le _⟩
    · cases h
  | some ks =>
    rw [hk] at h
    dsimp only at h
    split at h
    · cases h
      refine ⟨fun q hq => ?_, ?_⟩
      · obtain ⟨r, hr, rfl⟩ := List.mem_map.mp hq
        exact each hl _ (List.of_mem_zip hr).1
      · have k3 : ks.length ≤ 3 := by
          unfold kinds at hk
          repeat' split at hk
          all_goals first | (cases hk; decide) | cases hk
        rw [List.length_zip]
        omega
    · cases h
end

section
variable {P : Program} {w : World} {K : PySem.W.Frag} {mg : Str → Option Value} {base : Heap}
def sp_it (K : PySem.W.Frag) : Sp := fun vs H Q _ => ∃ (v : V) (d : PyData), vs = [v] ∧ Dp K H v d ∧ d.canLay0 = true ∧ ∀ H', Same H H' → Q (.bl (decide (cnt d none ≤ 60))) H'
theorem in_old (x : Str) : inV (.str x) [.str "old", .str "new"] = oldNew x := by
  refine (in_strs (z := x) (ws := ([("old" : Str), "new"] : List Str))).trans ?_
  unfold oldNew
  rw [Bool.eq_iff_iff]
  simp
theorem in_row (x : Str) : inV (.str x) [.str "fresh", .str "put"] = rowWd x := by
  refine (in_strs (z := x) (ws := ([("fresh" : Str), "put"] : List Str))).trans ?_
  unfold rowWd
  rw [Bool.eq_iff_iff]
  simp
theorem cnt_row {x : Str} {ps : List PyData} {b : Bool} (h1 : oldNew x = false) (h2 : b ≠ rowWd x) : cnt (.tuple (.str x :: ps)) (some b) = 100 := by
  unfold cnt
  rw [h1]
  have h3 : ((some b).isSome && (some b != some (rowWd x))) = true := by simpa using h2
  rw [h3]
  simp
theorem ok_is_term (T : Top K mg) : FnOk P w K mg base CX0 4 (He.ga K "is_term") T.fd_is_term ["thing"] (sp_it K) := by
  have G_inner_terms := ok_inner_terms (P := P) (w := w) (base := base) T
  refine T.F_is_term.ok sc_is_term (fun vs H Q E h => ?_) (fun cdv A outer s H vs Q E hr h => ?_)
  · obtain ⟨v, d, rfl, _⟩ := h
    rfl
  · obtain ⟨v, d, rfl, dp, cl, q⟩ := h
    refine ⟨_, PSs.nox (pss_cons (ps_set (i := 1) sc_is_term.nd rfl (Or.inl rfl) (pe_lst (pa_cons (pe_tup (pa_cons (pv 0) (pa_cons pe_non pa_nil))) pa_nil)))
        (pss_cons (ps_set (i := 2) sc_is_term.nd rfl (Or.inl rfl) pe_int)
        (pss_cons (ps_while PassesOwn.never (pt_cmpR (op_neE hr.units) (pv 1) (pe_lst pa_nil) (nomark _)) (pss_cons (ps_asg (pe_bm0 PySem.F.plainAttrs_list PySem.F.slot_list_pop PySem.F.type_list_pop mt_pop (pv 1)) (pg_tup (by rfl) (pgs_cons (pg_name (i := 3) sc_is_term.nd rfl (Or.inl rfl)) (pgs_cons (pg_name (i := 4) sc_is_term.nd rfl (Or.inl rfl)) pgs_nil))))
        (pss_cons (ps_aug (i := 2) sc_is_term.nd rfl (Or.inl rfl) pe_int ip_add)
        (pss_cons (ps_if (PW.pt (pw_or (pt_cmpR op_gt (pv 2) (pe_glob (v := .int 60) (by rfl) T.c_MOST_TUPLES ⟨_, rfl⟩) (nomark _)) (pw_or (pt_not (pt_val (pe_callB call_isi (by rfl) T.m_isinstance (by decide +kernel) (pa_cons (pv 3) (pa_cons (pe_bltn (v := .ty "tuple") (by rfl) T.m_tuple (by decide +kernel) rfl) pa_nil))))) (pw_or (pt_cmpR op_eq (pe_callB call_len_seq (by rfl) T.m_len (by decide +kernel) (pa_cons (pv 3) pa_nil)) pe_int (nomark _)) (pw_or1 (pt_not (pt_val (pe_callB call_isi (by rfl) T.m_isinstance (by decide +kernel) (pa_cons (pe_ix ix_tup (pv 3) pe_int (fun _ _ => rfl)) (pa_cons (pe_bltn (v := .ty "str") (by rfl) T.m_str (by decide +kernel) rfl) pa_nil)))))))))) (pss_one (ps_ret pe_bl)) pss_nil)
        (pss_cons (ps_if (PW.pt (pw_and (pt_cmpR op_notN (pv 4) pe_non (nomark _)) (pw_and (pt_cmpR op_notIn_seq (pe_ix ix_tup (pv 3) pe_int (fun _ _ => rfl)) (pe_tup (pa_cons pe_str (pa_cons pe_str pa_nil))) (by rfl)) (pw_and1 (pt_cmpR op_ne (pv 4) (pe_cmpR op_in_seq (pe_ix ix_tup (pv 3) pe_int (fun _ _ => rfl)) (pe_tup (pa_cons pe_str (pa_cons pe_str pa_nil))) (by rfl)) (nomark _)))))) (pss_one (ps_ret pe_bl)) pss_nil)
        (pss_cons (ps_set (i := 5) sc_is_term.nd rfl (Or.inl rfl) (pe_call G_inner_terms (hr.mono (by omega)) (by rfl) T.g_inner_terms T.F_inner_terms.kp T.b_inner_terms .nil pass0 (pa_cons (pv 3) pa_nil)))
        (pss_cons (ps_if (pt_cmpR op_isN (pv 5) pe_non (nomark _)) (pss_one (ps_ret pe_bl)) pss_nil)
        (pss_one (ps_aug (i := 1) sc_is_term.nd rfl (Or.inl rfl) (pv 5) iop_ext)))))))))
        (pss_one (ps_ret pe_bl))))), ?_⟩
    have big : ∀ n : Nat, n ≤ 10000 → n ≤ sizeLine := fun n h => by rw [sizeLine_eq]; omega
    refine ⟨_, rfl, big 2 (by decide), fun t nt => ⟨big 1 (by decide), fun L nL => ?_⟩⟩
    have k1 := same_new (o := .tup [v, .non]) nt
    have k2 := k1.trans (same_new (o := .lst [.ref t]) nL)
    have nL0 : H L = none := k1.free nL
    have tL : t ≠ L := ne_of_none upd_same nL
    have sU : ∀ {H' : Hp} {o : HO}, Same H H' → Same H (upd H' L o) := fun {H' o} s b x hb => by
      rw [upd_ne (ne_of_none hb nL0)]
      exact s _ _ hb
    dsimp only [gName]
    refine while_by (fun σ' H' => ∃ (xs : List V) (cs : List (PyData × Option Bool)) (m : Nat) (x3 x4 x5 : Option V), Same H H' ∧ H' L = some (.lst xs) ∧ Its K H H' (fun t => t ≠ L) xs cs ∧ (∀ q ∈ cs, q.1.canLay0 = true) ∧ m ≤ 60 ∧ (m + cntS cs ≤ 60 ↔ cnt d none ≤ 60) ∧ cs.length ≤ 3 * m + 1 ∧ σ' = [some v, some (.ref L), some (.int m), x3, x4, x5])
      (fun (σ' : L2.St) _ => match σ'[2]? with | some (some (V.int m)) => (61 - m).toNat | _ => 0) ?_ ?_ ?_
    · refine ⟨[.ref t], [(d, none)], 0, none, none, none, k2, upd_same, .cons ((same_new nL) _ _ upd_same) tL dp .nil, ?_, by decide, by simp [cntS], by simp, rfl⟩
      intro q hq
      rw [List.mem_singleton.mp hq]
      exact cl
    · rintro σ' H1 ⟨xs, cs, m, x3, x4, x5, s1, e1, its, lay, m60, iff, cl1, rfl⟩
      refine ⟨_, rfl, Nat.zero_le _, fun E nE => ?_⟩
      have kE := same_new (o := .lst []) nE
      have s2 := s1.trans kE
      have its2 := its.mono (H' := upd H1 E (.lst [])) (fun t o h _ => kE _ _ h) fun _ h => h
      refine ⟨.list (cs.map itO), .list [], .lst (.of (kE _ _ e1)) (its2.dp s2), .lst (.of upd_same) .nil, by simp only [PyData.canLay0]; exact lays_its lay, rfl, by decide, _, rfl, ?_⟩
      by_cases hn : xs = []
      · subst hn
        cases its
        refine ifF (by show (!PyData.eqv (.list _) (.list _)) = false; rfl) ?_
        have z : cnt d none ≤ 60 := iff.mp (by simp only [cntS, List.map_nil, List.sum_nil]; omega)
        have q1 := q _ s2
        rw [decide_eq_true z] at q1
        exact q1
      · obtain ⟨xs', cs', t', y, d', o, rfl, rfl, itr, et, ft, dy⟩ := its2.last hn
        refine ifT (by cases cs' <;> simp [PyData.eqv, PyData.eqvAll]) ?_
        have eL2 : upd H1 E (.lst []) L = some (.lst (xs' ++ [.ref t'])) := kE _ _ e1
        refine ⟨_, rfl, .inl ⟨rfl, _, .of eL2⟩, L, _, .ref t', rfl, rfl, eL2, by simp, ?_⟩
        rw [List.dropLast_concat]
        have s3 : Same H (upd (upd H1 E (.lst [])) L (.lst xs')) := sU s2
        have e3 : upd (upd H1 E (.lst [])) L (.lst xs') L = some (.lst xs') := upd_same
        have et3 : upd (upd H1 E (.lst [])) L (.lst xs') t' = some (.tup [y, optV o]) := by rw [upd_ne ft]; exact et
        have its3 : Its K H (upd (upd H1 E (.lst [])) L (.lst xs')) (fun t => t ≠ L) xs' cs' := itr.mono (fun t o h f => by rw [upd_ne f]; exact h) fun _ h => h
        generalize upd (upd H1 E (.lst [])) L (.lst xs') = H3 at s3 e3 et3 its3
        refine ⟨t', [y, optV o], rfl, .of et3, rfl, _, _, rfl, _, _, rfl, rfl, ?_⟩
        dsimp only [gName]
        refine ⟨_, rfl, _, _, rfl, rfl, ?_⟩
        dsimp only
        rw [show (m : Int) + 1 = ((m + 1 : Nat) : Int) by omega]
        rw [cntS_app] at iff
        have c1 : cntS [(d', o)] = cnt d' o := by simp [cntS]
        rw [c1] at iff
        have pos := cnt_pos d' o
        have no : ∀ H', Same H H' → ¬ (m + (cntS cs' + cnt d' o) ≤ 60) → Q (.bl false) H' := by
          intro H' s' z
          have q1 := q H' s'
          rw [decide_eq_false fun z2 => z (iff.mpr z2)] at q1
          exact q1
        have no1 : ∀ H', Same H H' → cnt d' o = 100 → Q (.bl false) H' := fun H' s' z => no H' s' (by omega)
        have dy3 := dp_sm s3 dy
        have ty := dp_ty dy3
        have dl : d'.canLay0 = true := lay (d', o) (by simp)
        refine ifs_by (fun σ' H' => ∃ x ps, H3 = H' ∧ d' = .tuple (.str x :: ps) ∧ m + 1 ≤ 60 ∧ σ' = [some v, some (.ref L), some (.int ((m + 1 : Nat) : Int)), some y, some (optV o), x5]) ?_ ?_
        rotate_left
        · intro N hN
          refine ⟨_, rfl, _, _, rfl, rfl, _, rfl, ite2 (fun g1 => ?_) (fun g1 => ?_)⟩
          · have := of_decide_eq_true g1
            exact no H3 s3 (by omega)
          have g2 : (m : Int) + 1 ≤ 60 := by simpa using g1
          refine ⟨_, rfl, _, _, _, _, isT d', rfl, .ty _, ty, kit_tup d', _, rfl, ?_⟩
          cases hT : isT d' with
          | false => exact no1 H3 s3 (by cases d' <;> simp [isT] at hT <;> simp [cnt])
          | true =>
            obtain ⟨ds, rfl⟩ : ∃ ds, d' = .tuple ds := by
              cases d' <;> simp [isT] at hT
              exact ⟨_, rfl⟩
            obtain ⟨p, ys, rfl, hp, da⟩ := dp_tup dy3
            refine ⟨_, rfl, p, _, rfl, .inr hp, rfl, _, rfl, ?_⟩
            cases ds with
            | nil =>
              rw [dpAll_nil da]
              exact no1 H3 s3 (by simp [cnt])
            | cons e ds =>
              obtain ⟨z, zs, rfl, de, dz⟩ := dpAll_cons da
              refine ifN (fun h => nomatch (show ((zs.length : Int) + 1 = 0) from V.int.inj h)) ?_
              refine ⟨_, rfl, p, _, 0, _, rfl, rfl, hp, atI_nat (j := 0) rfl, _, _, _, _, isS e, rfl, .ty _, dp_ty de, kit_str e, _, rfl, ?_⟩
              cases hS : isS e with
              | false => exact no1 H3 s3 (by cases e <;> simp [isS] at hS <;> simp [cnt])
              | true =>
                obtain ⟨x, rfl⟩ : ∃ x, e = .str x := by
                  cases e <;> simp [isS] at hS
                  exact ⟨_, rfl⟩
                exact hN _ _ ⟨x, ds, rfl, rfl, by omega, rfl⟩
        rintro σ' H4 ⟨x, ps, rfl, rfl, m59, rfl⟩
        obtain ⟨p, ys, rfl, hp, da⟩ := dp_tup dy3
        obtain ⟨x0, zs, rfl, d0, da⟩ := dpAll_cons da
        cases dp_str d0
        have hp0 : ∀ {Q : VK} {H' : Hp}, Same H3 H' → Q (.str x) H' → ∃ q ys i y, (V.ref p) = .ref q ∧ (V.int 0) = .int i ∧ SqT K H' q ys ∧ atI ys i = some y ∧ Q y H' := fun s h => ⟨p, _, 0, _, rfl, rfl, sqT_kp (Kp.of_same (S := fun _ => False) s) hp, atI_nat (j := 0) rfl, h⟩
        refine ifs_by (fun σ' H' => Same H3 H' ∧ (o.isSome && !oldNew x && (o != some (rowWd x))) = false ∧ σ' = [some v, some (.ref L), some (.int ((m + 1 : Nat) : Int)), some (.ref p), some (optV o), x5]) ?_ ?_
        rotate_left
        · intro N hN
          refine ⟨_, rfl, rfl, _, rfl, ?_⟩
          cases o with
          | none => exact hN _ _ ⟨fun _ _ h => h, rfl, rfl⟩
          | some b =>
            refine ⟨_, rfl, p, _, 0, _, rfl, rfl, hp, atI_nat (j := 0) rfl, big 2 (by decide), fun T1 nT1 => ?_⟩
            have k4 := same_new (o := .tup [.str "old", .str "new"]) nT1
            refine ⟨T1, _, rfl, .inr (.of upd_same), rfl, rfl, _, rfl, ?_⟩
            cases hO : oldNew x with
            | true =>
              refine ifF (by show (!inV _ _) = false; rw [in_old, hO]; rfl) ?_
              exact hN _ _ ⟨k4, by simp [hO], rfl⟩
            | false =>
              refine ifT (by show (!inV _ _) = true; rw [in_old, hO]; rfl) ?_
              refine ⟨_, rfl, _, rfl, p, _, 0, _, rfl, rfl, sqT_kp (Kp.of_same (S := fun _ => False) k4) hp, atI_nat (j := 0) rfl, big 2 (by decide), fun T2 nT2 => ?_⟩
              have k5 := k4.trans (same_new (o := .tup [.str "fresh", .str "put"]) nT2)
              refine ⟨T2, _, rfl, .inr (.of upd_same), rfl, rfl, rfl, _, rfl, ?_⟩
              by_cases hb : b = rowWd x
              · refine ifF (by show (!decide (V.bl b = V.bl (inV _ _))) = false; rw [in_row, hb]; simp) ?_
                exact hN _ _ ⟨k5, by simp [hb], rfl⟩
              · refine ifT (by show (!decide (V.bl b = V.bl (inV _ _))) = true; rw [in_row]; simp [hb]) ?_
                exact no1 _ (s3.trans k5) (cnt_row hO hb)
        rintro σ' H4 ⟨k4, hrow, rfl⟩
        have cs1 := cnt_step (ps := ps) hrow
        refine ⟨_, rfl, _, x, ps, H, rfl, s3.trans k4, dy, fun hi H5 s5 => ?_, fun cs hi H5 I ts s5 nI eI it5 => ?_⟩
        · refine ⟨_, rfl, rfl, _, rfl, ?_⟩
          rw [hi] at cs1
          exact no1 _ ((s3.trans k4).trans s5) cs1
        · refine ⟨_, rfl, rfl, _, rfl, ?_⟩
          refine ifN (fun h => nomatch h) ?_
          rw [hi] at cs1
          dsimp only at cs1
          have s15 := (s3.trans k4).trans s5
          have lx := its3.len
          have lt := it5.len
          have wl : (wn cs).length = cs.length := by simp [wn]
          obtain ⟨la, l3⟩ := inner_lays hi (by
            simp only [PyData.canLay0, PyData.canLayAll0, Bool.and_eq_true] at dl
            exact dl.2)
          have e4 := k4 _ _ e3
          have e5 := s5 _ _ e4
          rw [List.length_append] at cl1
          simp only [List.length_cons, List.length_nil] at cl1
          refine ⟨_, rfl, _, rfl, L, I, xs', ts, rfl, rfl, e5, eI, big _ (by omega), ⟨xs' ++ ts, cs' ++ wn cs, m + 1, _, _, _, sU s15, upd_same, ?_, ?_, m59, ?_, ?_, rfl⟩, ?_⟩
          · refine Its.app (its3.mono (fun t o h f => ?_) fun _ h => h) (it5.mono (fun t o h f => ?_) fun t h => ?_)
            · rw [upd_ne f]
              exact s5 _ _ (k4 _ _ h)
            · rw [upd_ne (ne_of_none e4 f).symm]
              exact h
            · exact (ne_of_none e4 h).symm
          · intro q hq
            rcases List.mem_append.mp hq with h | h
            · exact lay q (List.mem_append_left _ h)
            · exact la q h
          · rw [← iff, cntS_app, cs1]
            show _ ↔ m + (cntS cs' + min 100 (1 + cntS (wn cs))) ≤ 60
            rcases Nat.le_total (1 + cntS (wn cs)) 100 with h | h
            · rw [Nat.min_eq_right h]
              omega
            · rw [Nat.min_eq_left h]
              omega
          · rw [List.length_append]
            omega
          · show (61 - ((m + 1 : Nat) : Int)).toNat < (61 - (m : Int)).toNat
            omega
    · intro σ' H' Q1 Q2 h hc
      obtain ⟨v1, e1, sz, f⟩ := hc
      exact ⟨v1, e1, sz, fun E nE => by obtain ⟨d, e, a1, a2, a3, a4, a5, b, hb, q⟩ := f E nE; exact ⟨d, e, a1, a2, a3, a4, a5, b, hb, h _ _ q⟩⟩
end

section
variable {P : Program} {w : World} {K : PySem.W.Frag} {mg : Str → Option Value} {base : Heap}
theorem lt_bits {z : Int} {n : Nat} (h : Builtin.Int.intBits z ≤ n) : z.natAbs < 2 ^ n := by
  unfold Builtin.Int.intBits at h
  by_cases h0 : z.natAbs = 0
  · rw [h0]
    exact Nat.two_pow_pos n
  · split at h
    · rename_i hz
      exact absurd (by rw [eq_of_beq hz]; rfl) h0
    · exact (Nat.log2_lt h0).mp (by omega)
set_option exponentiation.threshold 2000 in
theorem mark_bits {c k l : Int} (h : Builtin.Int.intBits c ≤ 1048576) (k0 : 0 ≤ k) (k1 : k < 2 ^ 20) (l0 : 0 ≤ l) (l1 : l ≤ 63) : (c * 48271 + 104729 * k + 7919 * l + 1).natAbs < 2 ^ (1048576 + 40) := by
  have b := lt_bits h
  rw [Nat.pow_add]
  have p : 1 ≤ 2 ^ 1048576 := Nat.one_le_two_pow
  generalize 2 ^ 1048576 = B at b p
  have e : B * 2 ^ 40 = B * 1099511627776 := rfl
  rw [e]
  omega
def sp_mark (K : PySem.W.Frag) : Sp := fun vs H Q _ => ∃ (a : Addr) (ns : List Int) (k : Int), vs = [.ref a, .int k] ∧ ns.length ≤ 63 ∧ (∀ z ∈ ns, Builtin.Int.intBits z ≤ 1048576) ∧ SqL K H a (ns.map V.int) ∧ 0 ≤ k ∧ k < 2 ^ 20 ∧ ∀ r, 0 ≤ r → r < 2 ^ 31 → Q (.int r) H
theorem ok__law_mark (T : Top K mg) : FnOk P w K mg base CX0 1 (He.ga K "_law_mark") T.fd__law_mark ["_law_script", "_law_k"] (sp_mark K) := by
  refine T.F__law_mark.ok sc__law_mark (fun vs H Q E h => ?_) (fun cdv A outer s H vs Q E hr h => ?_)
  · obtain ⟨a, ns, k, rfl, _⟩ := h
    rfl
  · obtain ⟨a, ns, k, rfl, hl, hb, hS, k0, k1, q⟩ := h
    refine ⟨_, PSs.nox (pss_cons (ps_set (i := 2) sc__law_mark.nd rfl (Or.inl rfl) pe_int)
        (pss_cons (ps_if (pt_cmpR op_lt (pv 1) (pe_callB call_len_seq (by rfl) T.m_len (by decide +kernel) (pa_cons (pv 0) pa_nil)) (nomark _)) (pss_one (ps_set (i := 2) sc__law_mark.nd rfl (Or.inl rfl) (pe_ix ix_list (pv 0) (pv 1) (fun _ _ => rfl)))) pss_nil)
        (pss_cons (ps_set (i := 3) sc__law_mark.nd rfl (Or.inl rfl) (pe_op op_add (pe_op op_add (pe_op op_add (pe_op op_mul (pv 2) pe_int) (pe_op op_mul pe_int (pv 1))) (pe_op op_mul pe_int (pe_callB call_len_seq (by rfl) T.m_len (by decide +kernel) (pa_cons (pv 0) pa_nil)))) pe_int))
        (pss_one (ps_ret (pe_op op_mod (pe_op op_mul (pe_op op_mod (pe_op op_mulX (pv 3) (pv 3)) pe_int) pe_int) pe_int)))))), ?_⟩
    refine seq_by (fun σ' H' => H = H' ∧ σ' = [some (.ref a), some (.int k), some (.int 0), none]) ?_ (fun N hN => hN _ _ ⟨rfl, rfl⟩)
    rintro σ' H' ⟨rfl, rfl⟩
    refine ifs_by (fun σ' H' => ∃ c, H = H' ∧ Builtin.Int.intBits c ≤ 1048576 ∧ σ' = [some (.ref a), some (.int k), some (.int c), none]) ?_ ?_
    · rintro σ' H' ⟨c, rfl, cb, rfl⟩
      have mb := mark_bits cb k0 k1 (l := (ns.map V.int).length) (by omega) (by rw [List.length_map]; omega)
      refine ⟨_, rfl, _, _, rfl, rfl, .inr ⟨by decide, by decide⟩, _, rfl, _, _, rfl, rfl, .inl ⟨by decide, by decide⟩, _, _, rfl, rfl, _, rfl, a, _, rfl, .inl hS, _, _, rfl, rfl, .inl ⟨by decide, by decide⟩, _, _, rfl, rfl, _, _, rfl, rfl, ?_⟩
      dsimp only
      generalize c * 48271 + 104729 * k + 7919 * ((ns.map V.int).length : Int) + 1 = z at mb
      refine ⟨_, rfl, _, rfl, _, _, rfl, rfl, mulx_ok mb mb (by decide), _, _, rfl, rfl, (by show (0 : Int) < 2147483647; decide), _, _, rfl, rfl, .inr ⟨by decide, by decide⟩, _, _, rfl, rfl, (by show (0 : Int) < 2147483629; decide), ?_⟩
      have r1 := Int.emod_lt_of_pos (z * z % 2147483647 * 2003) (show (0 : Int) < 2147483629 by decide)
      exact q _ (Int.emod_nonneg _ (by decide)) (by omega)
    · intro N hN
      refine ⟨_, rfl, _, rfl, a, _, rfl, .inl hS, _, _, rfl, rfl, _, rfl, ite2 (fun e => ?_) (fun e => ?_)⟩
      · have e1 : k < (ns.map V.int).length := of_decide_eq_true e
        rw [List.length_map] at e1
        exact ⟨_, rfl, _, rfl, a, _, _, _, rfl, rfl, hS, at_ints k0 e1, hN _ _ ⟨_, rfl, getD_all (d := 0) hb k0 e1, rfl⟩⟩
      · exact hN _ _ ⟨0, rfl, by decide, rfl⟩
end

section
variable {P : Program} {w : World} {K : PySem.W.Frag} {mg : Str → Option Value} {base : Heap}
mutual
def dpt : PyData → Nat
  | .tuple ds => dpts ds + 1
  | _ => 0
def dpts : List PyData → Nat
  | [] => 0
  | d :: ds => max (dpt d) (dpts ds)
end
mutual
def wid : PyData → Bool
  | .tuple ds => decide (ds.length ≤ 4) && wids ds
  | _ => true
def wids : List PyData → Bool
  | [] => true
  | d :: ds => wid d && wids ds
end
theorem wid_get : ∀ {ds : List PyData}, wids ds = true → ∀ d ∈ ds, wid d = true
  | [], _, d, h => nomatch h
  | e :: ds, w, d, h => by
    simp only [wids, Bool.and_eq_true] at w
    rcases List.mem_cons.mp h with rfl | h
    · exact w.1
    · exact wid_get w.2 d h
mutual
def wok : PyData → Bool
  | .tuple ds => decide (ds.length ≤ 100) && woks ds
  | _ => true
def woks : List PyData → Bool
  | [] => true
  | d :: ds => wok d && woks ds
end
def Good (n : Nat) (d : PyData) : Prop := d.canLay0 = true ∧ dpt d ≤ n ∧ wok d = true
def Goods (n : Nat) (ds : List PyData) : Prop := ∀ d ∈ ds, Good n d
theorem goods_dpts {n : Nat} : ∀ {ds : List PyData}, Goods n ds → PyData.canLayAll0 ds = true ∧ dpts ds ≤ n ∧ woks ds = true
  | [], _ => ⟨rfl, by simp [dpts], rfl⟩
  | d :: ds, h => by
    have h1 := h d (List.mem_cons_self ..)
    have h2 := goods_dpts (ds := ds) fun x hx => h x (List.mem_cons_of_mem _ hx)
    simp only [PyData.canLayAll0, dpts, woks, h1.1, h1.2.2, h2.1, h2.2.2, Bool.and_self, true_and, and_true]
    exact Nat.max_le.mpr ⟨h1.2.1, h2.2.1⟩
theorem goods_of {n : Nat} : ∀ {ds : List PyData}, PyData.canLayAll0 ds = true → dpts ds ≤ n → woks ds = true → Goods n ds
  | [], _, _, _ => fun x hx => nomatch hx
  | d :: ds, h1, h2, h4 => by
    simp only [PyData.canLayAll0, Bool.and_eq_true] at h1
    simp only [woks, Bool.and_eq_true] at h4
    rw [dpts] at h2
    have h3 := Nat.max_le.mp h2
    intro x hx
    rcases List.mem_cons.mp hx with rfl | hx
    · exact ⟨h1.1, h3.1, h4.1⟩
    · exact goods_of h1.2 h3.2 h4.2 x hx
theorem good_tup {n : Nat} {ds : List PyData} (h : Goods n ds) (l : ds.length ≤ 100) : Good (n + 1) (.tuple ds) := by
  have g := goods_dpts h
  refine ⟨by simp only [PyData.canLay0]; exact g.1, ?_, ?_⟩
  · rw [dpt]
    omega
  · simp only [wok, g.2.2, l, decide_true, Bool.and_self]
theorem good_lst {n m : Nat} {ds : List PyData} (h : Goods n ds) : Good m (.list ds) := by
  have g := goods_dpts h
  exact ⟨by simp only [PyData.canLay0]; exact g.1, by simp [dpt], by simp [wok]⟩
theorem good_inv {n : Nat} {ds : List PyData} (h : Good n (.tuple ds)) : ∃ m, n = m + 1 ∧ Goods m ds ∧ ds.length ≤ 100 := by
  obtain ⟨h1, h2, h3⟩ := h
  rw [dpt] at h2
  simp only [wok, Bool.and_eq_true, decide_eq_true_eq] at h3
  exact ⟨n - 1, by omega, goods_of (by simpa only [PyData.canLay0] using h1) (by omega) h3.2, h3.1⟩
theorem wl {ds : List PyData} (h : wid (.tuple ds) = true) : ds.length ≤ 100 := by
  simp only [wid, Bool.and_eq_true, decide_eq_true_eq] at h
  omega
theorem Good.mono {n m : Nat} {d : PyData} (h : Good n d) (l : n ≤ m) : Good m d := ⟨h.1, Nat.le_trans h.2.1 l, h.2.2⟩
theorem Goods.mono {n m : Nat} {ds : List PyData} (h : Goods n ds) (l : n ≤ m) : Goods m ds := fun x hx => (h x hx).mono l
theorem good_int (n : Nat) (i : Int) : Good n (.int i) := ⟨rfl, by simp [dpt], by simp [wok]⟩
theorem good_bool (n : Nat) (i : Bool) : Good n (.bool i) := ⟨rfl, by simp [dpt], by simp [wok]⟩
theorem good_none (n : Nat) : Good n .none := ⟨rfl, by simp [dpt], by simp [wok]⟩
theorem good_str {n : Nat} {z : Str} (h : (PyData.str z).canLay0 = true) : Good n (.str z) := ⟨h, by simp [dpt], by simp [wok]⟩
theorem goods_nil {n : Nat} : Goods n [] := fun x hx => nomatch hx
theorem goods_cons {n : Nat} {d : PyData} {ds : List PyData} (h : Good n d) (t : Goods n ds) : Goods n (d :: ds) := fun x hx => by
  rcases List.mem_cons.mp hx with rfl | hx
  · exact h
  · exact t x hx
theorem cd {i j : Int} (h0 : 0 < j) (h1 : j < 2 ^ 64) : CDivW i j := wide_div (b := 64) h0 (by omega) (by decide) (by decide)
theorem at_ints2 {ns : List Int} {i : Int} (h0 : 0 ≤ i) (h1 : i < ns.length) : ∃ z, atI (ns.map V.int) i = some (.int z) := ⟨_, at_ints h0 h1⟩
def sp_leaf (K : PySem.W.Frag) : Sp := fun vs H Q _ => ∃ (m : Int) (b : Bool), vs = [.int m, .bl b] ∧ ∀ H' r ds, Same H H' → Dp K H' r (.tuple ds) → Goods 0 ds → wid (.tuple ds) = true → Q r H'
theorem ok__law_leaf_by (T : Top K mg) : FnOk P w K mg base CX0 1 (He.ga K "_law_leaf_by") T.fd__law_leaf_by ["_law_mark_here", "_law_of_row"] (sp_leaf K) := by
  refine T.F__law_leaf_by.ok sc__law_leaf_by (fun vs H Q E h => ?_) (fun cdv A outer s H vs Q E hr h => ?_)
  · obtain ⟨m, b, rfl, _⟩ := h
    rfl
  · obtain ⟨m, b, rfl, q⟩ := h
    refine ⟨_, PSs.nox (pss_cons (ps_set (i := 2) sc__law_leaf_by.nd rfl (Or.inl rfl) (pe_tup (pa_cons pe_str (pa_cons (pe_op op_mod (pe_op op_fdivW (pv 0) pe_int) pe_int) (pa_cons (pe_ix ix_list (pe_lst (pa_cons (pe_op op_mod (pe_op op_fdivW (pv 0) pe_int) pe_int) (pa_cons (pe_op op_sub pe_int (pe_op op_mod (pe_op op_fdivW (pv 0) pe_int) pe_int)) pa_nil))) (pe_op op_mod (pe_op op_fdivW (pv 0) pe_int) pe_int) (fun _ _ => rfl)) pa_nil)))))
        (pss_cons (ps_if (pt_cmpR op_eq (pe_op op_mod (pv 0) pe_int) pe_int (nomark _)) (pss_one (ps_ret (pv 2))) pss_nil)
        (pss_cons (ps_if (pt_truth (pv 1) (by intro _; rfl)) (pss_one (ps_ret (pe_tup (pa_cons pe_str (pa_cons (pe_op op_add pe_int (pe_op op_mod (pe_op op_fdivW (pv 0) pe_int) pe_int)) pa_nil))))) pss_nil)
        (pss_one (ps_ret (pe_tup (pa_cons pe_str (pa_cons (pe_ix ix_list (pe_lst (pa_cons (pe_op op_mod (pe_op op_fdivW (pv 0) pe_int) pe_int) (pa_cons (pe_op op_sub (pe_op op_mod (pe_op op_fdivW (pv 0) pe_int) pe_int) pe_int) (pa_cons pe_int pa_nil)))) (pe_op op_mod (pe_op op_fdivW (pv 0) pe_int) pe_int) (fun _ _ => rfl)) pa_nil)))))))), ?_⟩
    have big : ∀ n : Nat, n ≤ 10000 → n ≤ sizeLine := fun n h => by rw [sizeLine_eq]; omega
    obtain ⟨z, hz⟩ := at_ints2 (ns := [m / 32 % 12, 9999 - m / 32 % 2]) (i := m / 8 % 2) (by omega) (by show m / 8 % 2 < 2; omega)
    refine ⟨_, rfl, _, _, rfl, rfl, cd (by decide) (by decide), _, _, rfl, rfl, (by show (0 : Int) < 5; decide), ?_⟩
    refine ⟨_, rfl, _, _, rfl, rfl, cd (by decide) (by decide), _, _, rfl, rfl, (by show (0 : Int) < 12; decide), ?_⟩
    refine ⟨_, rfl, _, _, rfl, rfl, cd (by decide) (by decide), _, _, rfl, rfl, (by show (0 : Int) < 2; decide), _, _, rfl, rfl, big 2 (by decide), fun L nL => ?_⟩
    refine ⟨_, rfl, _, _, rfl, rfl, cd (by decide) (by decide), _, _, rfl, rfl, (by show (0 : Int) < 2; decide), L, _, _, _, rfl, rfl, .of upd_same, hz, big 3 (by decide), fun p np => ?_⟩
    have k1 := (same_new (o := .lst [.int (m / 32 % 12), .int (9999 - m / 32 % 2)]) nL).trans (same_new (o := .tup [.str "old", .int (m / 4 % 5), .int z]) np)
    have dO : Dp K (upd (upd H L (.lst [.int (m / 32 % 12), .int (9999 - m / 32 % 2)])) p (.tup [.str "old", .int (m / 4 % 5), .int z])) (.ref p) (.tuple [.str "old", .int (m / 4 % 5), .int z]) := .tup (.of upd_same) (.cons (.str _) (.cons (.int _) (.cons (.int _) .nil)))
    dsimp only [gName]
    generalize (upd (upd H L (.lst [.int (m / 32 % 12), .int (9999 - m / 32 % 2)])) p (.tup [.str "old", .int (m / 4 % 5), .int z])) = H1 at k1 dO
    refine ⟨_, rfl, _, _, rfl, rfl, (by show (0 : Int) < 2; decide), rfl, _, rfl, ite2 (fun _ => ?_) (fun _ => ?_)⟩
    · exact ⟨_, rfl, q _ _ _ k1 dO (goods_cons (good_str (by decide +kernel)) (goods_cons (good_int ..) (goods_cons (good_int ..) goods_nil))) (by simp [wid, wids])⟩
    refine ⟨_, rfl, b, rfl, ?_⟩
    cases b with
    | true =>
      refine ⟨_, rfl, _, _, rfl, rfl, cd (by decide) (by decide), _, _, rfl, rfl, (by show (0 : Int) < 8; decide), _, _, rfl, rfl, big 2 (by decide), fun p2 np2 => ?_⟩
      exact q _ _ [.str "fresh", .int _] (k1.trans (same_new np2)) (.tup (.of upd_same) (.cons (.str _) (.cons (.int _) .nil))) (goods_cons (good_str (by decide +kernel)) (goods_cons (good_int ..) goods_nil)) (by simp [wid, wids])
    | false =>
      obtain ⟨y, hy⟩ := at_ints2 (ns := [m / 4 % 9, m / 4 % 3 - 2147483648, 2147483647]) (i := m / 64 % 3) (by omega) (by show m / 64 % 3 < 3; omega)
      refine ⟨_, rfl, _, _, rfl, rfl, cd (by decide) (by decide), _, _, rfl, rfl, (by show (0 : Int) < 9; decide), ?_⟩
      refine ⟨_, rfl, _, _, rfl, rfl, cd (by decide) (by decide), _, _, rfl, rfl, (by show (0 : Int) < 3; decide), _, _, rfl, rfl, big 3 (by decide), fun L2 nL2 => ?_⟩
      refine ⟨_, rfl, _, _, rfl, rfl, cd (by decide) (by decide), _, _, rfl, rfl, (by show (0 : Int) < 3; decide), L2, _, _, _, rfl, rfl, .of upd_same, hy, big 2 (by decide), fun p2 np2 => ?_⟩
      exact q _ _ [.str "number", .int _] ((k1.trans (same_new nL2)).trans (same_new np2)) (.tup (.of upd_same) (.cons (.str _) (.cons (.int _) .nil))) (goods_cons (good_str (by decide +kernel)) (goods_cons (good_int ..) goods_nil)) (by simp [wid, wids])
def Scp (K : PySem.W.Frag) (H : Hp) (a : Addr) (ns : List Int) : Prop := ns.length ≤ 63 ∧ (∀ z ∈ ns, Builtin.Int.intBits z ≤ 1048576) ∧ SqL K H a (ns.map V.int)
theorem Scp.sm {H H' : Hp} {a : Addr} {ns : List Int} (h : Scp K H a ns) (k : Same H H') : Scp K H' a ns := ⟨h.1, h.2.1, k.seq h.2.2⟩
theorem three_le {k : Int} {e : Nat} (h0 : 0 ≤ k) (h : (k + 1) * 3 ^ (e + 1) ≤ 10000) : (3 * k + 2 + 1) * 3 ^ e ≤ 10000 ∧ (3 * k + 1 + 1) * 3 ^ e ≤ 10000 ∧ k < 10000 := by
  have p : (1 : Int) ≤ 3 ^ e := by
    have := Nat.one_le_pow e 3 (by decide)
    have h : ((1 : Nat) : Int) ≤ ((3 ^ e : Nat) : Int) := Int.ofNat_le.mpr this
    simpa using h
  rw [Int.pow_succ] at h
  generalize (3 : Int) ^ e = z at p h
  have e1 : (3 * k + 2 + 1) * z = (k + 1) * (z * 3) := by
    rw [show 3 * k + 2 + 1 = (k + 1) * 3 by omega, Int.mul_assoc, Int.mul_comm 3 z]
  have e2 : (3 * k + 1 + 1) * z = (3 * k + 2 + 1) * z - z := by
    rw [show 3 * k + 1 + 1 = (3 * k + 2 + 1) - 1 by omega, Int.sub_mul, Int.one_mul]
  have e3 : (k + 1) * 3 ≤ (k + 1) * (z * 3) := Int.mul_le_mul_of_nonneg_left (by omega) (by omega)
  omega
def W9 : List Str := ["add", "sub", "mul", "div", "rem", "less", "same", "not", "get"]
theorem w9_lay : ∀ x ∈ W9, (PyData.str x).canLay0 = true := by decide +kernel
theorem strs_at {zs : List Str} {i : Int} (h0 : 0 ≤ i) (h1 : i < zs.length) : ∃ z ∈ zs, atI (zs.map V.str) i = some (.str z) := by
  obtain ⟨x, hx, e⟩ := at_list (ns := zs.map V.str) h0 (by rw [List.length_map]; exact h1)
  obtain ⟨z, hz, rfl⟩ := List.mem_map.mp hx
  exact ⟨z, hz, e⟩
def sp_tby (K : PySem.W.Frag) (n : Nat) : Sp := fun vs H Q _ => ∃ (a : Addr) (ns : List Int) (k : Int) (e : Nat) (b : Bool), vs = [.ref a, .int k, .int e, .bl b] ∧ e < n ∧ Scp K H a ns ∧ 0 ≤ k ∧ (k + 1) * 3 ^ e ≤ 10000 ∧ ∀ H' r ds, Same H H' → Dp K H' r (.tuple ds) → Goods e ds → wid (.tuple ds) = true → Q r H'
theorem ok__law_term_by (T : Top K mg) : ∀ n : Nat, FnOk P w K mg base CX0 (n + 1) (He.ga K "_law_term_by") T.fd__law_term_by ["_law_script", "_law_at", "_law_deep", "_law_of_row"] (sp_tby K n)
  | 0 => by
    refine T.F__law_term_by.ok sc__law_term_by (fun vs H Q E h => ?_) (fun cdv A outer s H vs Q E hr h => ?_)
    · obtain ⟨a, ns, k, e, b, rfl, _⟩ := h
      rfl
    · obtain ⟨a, ns, k, e, b, rfl, h1, _⟩ := h
      omega
  | n + 1 => by
    have G__law_mark := ok__law_mark (P := P) (w := w) (base := base) T
    have G__law_leaf_by := ok__law_leaf_by (P := P) (w := w) (base := base) T
    have G__law_term_by := ok__law_term_by T n
    refine T.F__law_term_by.ok sc__law_term_by (fun vs H Q E h => ?_) (fun cdv A outer s H vs Q E hr h => ?_)
    · obtain ⟨a, ns, k, e, b, rfl, _⟩ := h
      rfl
    · obtain ⟨a, ns, k, e, b, rfl, hn, sc, k0, k1, q⟩ := h
      refine ⟨_, PSs.nox (pss_cons (ps_set (i := 4) sc__law_term_by.nd rfl (Or.inl rfl) (pe_call G__law_mark (hr.mono (by omega)) (by rfl) T.g__law_mark T.F__law_mark.kp T.b__law_mark .nil pass0 (pa_cons (pv 0) (pa_cons (pv 1) pa_nil))))
        (pss_cons (ps_if (PW.pt (pw_or (pt_cmpR op_eq (pv 2) pe_int (nomark _)) (pw_or1 (pt_cmpR op_eq (pe_op op_mod (pv 4) pe_int) pe_int (nomark _))))) (pss_one (ps_ret (pe_call G__law_leaf_by (hr.mono (by omega)) (by rfl) T.g__law_leaf_by T.F__law_leaf_by.kp T.b__law_leaf_by .nil pass0 (pa_cons (pe_op op_fdivW (pv 4) pe_int) (pa_cons (pv 3) pa_nil))))) pss_nil)
        (pss_cons (ps_if (pt_truth (pv 3) (by intro _; rfl)) (pss_cons (ps_set (i := 5) sc__law_term_by.nd rfl (Or.inl rfl) (pe_call G__law_term_by (hr.mono (by omega)) (by rfl) T.g__law_term_by T.F__law_term_by.kp T.b__law_term_by .nil pass0 (pa_cons (pv 0) (pa_cons (pe_op op_add (pe_op op_mul pe_int (pv 1)) pe_int) (pa_cons (pe_op op_sub (pv 2) pe_int) (pa_cons pe_bl pa_nil))))))
        (pss_one (ps_ret (pe_tup (pa_cons pe_str (pa_cons (pv 5) (pa_cons (pe_call G__law_leaf_by (hr.mono (by omega)) (by rfl) T.g__law_leaf_by T.F__law_leaf_by.kp T.b__law_leaf_by .nil pass0 (pa_cons (pe_op op_fdivW (pv 4) pe_int) (pa_cons pe_bl pa_nil))) (pa_cons (pe_call G__law_leaf_by (hr.mono (by omega)) (by rfl) T.g__law_leaf_by T.F__law_leaf_by.kp T.b__law_leaf_by .nil pass0 (pa_cons (pe_op op_fdivW (pv 4) pe_int) (pa_cons pe_bl pa_nil))) pa_nil)))))))) pss_nil)
        (pss_cons (ps_set (i := 6) sc__law_term_by.nd rfl (Or.inl rfl) (pe_ix ix_list (pe_lst (pa_cons pe_str (pa_cons pe_str (pa_cons pe_str (pa_cons pe_str (pa_cons pe_str (pa_cons pe_str (pa_cons pe_str (pa_cons pe_str (pa_cons pe_str pa_nil)))))))))) (pe_op op_mod (pe_op op_fdivW (pv 4) pe_int) pe_int) (fun _ _ => rfl)))
        (pss_cons (ps_if (pt_cmpR op_eq (pv 6) pe_str (nomark _)) (pss_one (ps_ret (pe_tup (pa_cons (pv 6) (pa_cons (pe_call G__law_term_by (hr.mono (by omega)) (by rfl) T.g__law_term_by T.F__law_term_by.kp T.b__law_term_by .nil pass0 (pa_cons (pv 0) (pa_cons (pe_op op_add (pe_op op_mul pe_int (pv 1)) pe_int) (pa_cons (pe_op op_sub (pv 2) pe_int) (pa_cons pe_bl pa_nil))))) pa_nil))))) pss_nil)
        (pss_cons (ps_set (i := 7) sc__law_term_by.nd rfl (Or.inl rfl) (pe_call G__law_term_by (hr.mono (by omega)) (by rfl) T.g__law_term_by T.F__law_term_by.kp T.b__law_term_by .nil pass0 (pa_cons (pv 0) (pa_cons (pe_op op_add (pe_op op_mul pe_int (pv 1)) pe_int) (pa_cons (pe_op op_sub (pv 2) pe_int) (pa_cons (pe_cmpR op_eq (pv 6) pe_str (nomark _)) pa_nil))))))
        (pss_one (ps_ret (pe_tup (pa_cons (pv 6) (pa_cons (pv 7) (pa_cons (pe_call G__law_term_by (hr.mono (by omega)) (by rfl) T.g__law_term_by T.F__law_term_by.kp T.b__law_term_by .nil pass0 (pa_cons (pv 0) (pa_cons (pe_op op_add (pe_op op_mul pe_int (pv 1)) pe_int) (pa_cons (pe_op op_sub (pv 2) pe_int) (pa_cons pe_bl pa_nil))))) pa_nil)))))))))))), ?_⟩
      have big : ∀ n : Nat, n ≤ 10000 → n ≤ sizeLine := fun n h => by rw [sizeLine_eq]; omega
      have kk : k < 2 ^ 20 := by
        cases e with
        | zero =>
          rw [Int.pow_zero] at k1
          omega
        | succ e =>
          have := (three_le k0 k1).2.2
          omega
      refine ⟨_, rfl, _, rfl, a, ns, k, rfl, sc.1, sc.2.1, sc.2.2, k0, kk, fun m m0 m1 => ?_⟩
      dsimp only [gName]
      refine ifs_by (fun σ' H' => H = H' ∧ e ≠ 0 ∧ σ' = [some (.ref a), some (.int k), some (.int e), some (.bl b), some (.int m), none, none, none]) ?_ ?_
      rotate_left
      · intro N hN
        have leaf : ∀ {u : VK}, (∀ r H', Q r H' → u r H') → ∀ {j : Int}, 0 < j → j < 2 ^ 64 → True := fun _ _ _ _ => trivial
        refine ⟨_, rfl, rfl, _, rfl, ite2 (fun g => ?_) (fun g => ?_)⟩
        · refine ⟨_, rfl, _, _, rfl, rfl, cd (by decide) (by decide), _, rfl, _, b, rfl, fun H' r ds s' d' g' w' => ?_⟩
          exact q _ _ _ s' d' (g'.mono (Nat.zero_le _)) w'
        · refine ⟨_, rfl, _, _, rfl, rfl, (by show (0 : Int) < 5; decide), rfl, _, rfl, ite2 (fun _ => ?_) (fun _ => ?_)⟩
          · refine ⟨_, rfl, _, _, rfl, rfl, cd (by decide) (by decide), _, rfl, _, b, rfl, fun H' r ds s' d' g' w' => ?_⟩
            exact q _ _ _ s' d' (g'.mono (Nat.zero_le _)) w'
          · exact hN _ _ ⟨rfl, fun z => g (by rw [z]; rfl), rfl⟩
      rintro σ' H' ⟨rfl, e0, rfl⟩
      obtain ⟨e, rfl⟩ : ∃ i, e = i + 1 := ⟨e - 1, by omega⟩
      obtain ⟨t2, t1, _⟩ := three_le k0 k1
      have ee : ((e + 1 : Nat) : Int) - 1 = (e : Nat) := by omega
      refine ⟨_, rfl, b, rfl, ?_⟩
      cases b with
      | true =>
        refine ⟨_, rfl, _, rfl, _, _, rfl, rfl, .inl ⟨by decide, by decide⟩, _, _, rfl, rfl, _, rfl, _, _, rfl, rfl, ?_⟩
        refine ⟨a, ns, 3 * k + 1, e, true, (by show [V.ref a, .int (3 * k + 1), .int (((e + 1 : Nat) : Int) - 1), .bl true] = _; rw [ee]), by omega, sc, by omega, t1, fun H1 r1 ds1 s1 d1 g1 w1 => ?_⟩
        dsimp only [gName]
        refine ⟨_, rfl, _, rfl, _, _, rfl, rfl, cd (by decide) (by decide), _, false, rfl, fun H2 r2 ds2 s2 d2 g2 w2 => ?_⟩
        refine ⟨_, rfl, _, _, rfl, rfl, cd (by decide) (by decide), _, false, rfl, fun H3 r3 ds3 s3 d3 g3 w3 => ?_⟩
        refine ⟨big 4 (by decide), fun p np => ?_⟩
        have s4 := same_new (o := .tup [.str "put", r1, r2, r3]) np
        exact q _ _ [.str "put", .tuple ds1, .tuple ds2, .tuple ds3] (((s1.trans s2).trans s3).trans s4) (.tup (.of upd_same) (.cons (.str _) (.cons (dp_sm ((s2.trans s3).trans s4) d1) (.cons (dp_sm (s3.trans s4) d2) (.cons (dp_sm s4 d3) .nil)))))
          (goods_cons (good_str (by decide +kernel)) (goods_cons (good_tup g1 (wl w1)) (goods_cons ((good_tup g2 (wl w2)).mono (by omega)) (goods_cons ((good_tup g3 (wl w3)).mono (by omega)) goods_nil)))) (by rw [wid]; simp only [wids, w1, w2, w3]; rfl)
      | false =>
        obtain ⟨z, hz, ez⟩ := strs_at (zs := W9) (i := m / 5 % 9) (by omega) (by show m / 5 % 9 < 9; omega)
        refine ⟨big 9 (by decide), fun L nL => ?_⟩
        have s0 := same_new (o := .lst (W9.map V.str)) nL
        refine ⟨_, rfl, _, _, rfl, rfl, cd (by decide) (by decide), _, _, rfl, rfl, (by show (0 : Int) < 9; decide), L, W9.map V.str, _, _, rfl, rfl, .of upd_same, ez, ?_⟩
        dsimp only [gName]
        show tSeq _ _ _ _ (upd H L (.lst (W9.map V.str)))
        generalize upd H L (.lst (W9.map V.str)) = H0 at s0
        refine ⟨_, rfl, rfl, _, rfl, ite2 (fun g => ?_) (fun g => ?_)⟩
        · refine ⟨_, rfl, _, rfl, _, rfl, _, _, rfl, rfl, .inl ⟨by decide, by decide⟩, _, _, rfl, rfl, _, rfl, _, _, rfl, rfl, ?_⟩
          refine ⟨a, ns, 3 * k + 1, e, false, (by show [V.ref a, .int (3 * k + 1), .int (((e + 1 : Nat) : Int) - 1), .bl false] = _; rw [ee]), by omega, sc.sm s0, by omega, t1, fun H1 r1 ds1 s1 d1 g1 w1 => ?_⟩
          refine ⟨big 2 (by decide), fun p np => ?_⟩
          have s4 := same_new (o := .tup [.str z, r1]) np
          exact q _ _ [.str z, .tuple ds1] ((s0.trans s1).trans s4) (.tup (.of upd_same) (.cons (.str _) (.cons (dp_sm s4 d1) .nil)))
            (goods_cons (good_str (w9_lay z hz)) (goods_cons (good_tup g1 (wl w1)) goods_nil)) (by rw [wid]; simp only [wids, w1]; rfl)
        · refine ⟨_, rfl, _, rfl, _, _, rfl, rfl, .inl ⟨by decide, by decide⟩, _, _, rfl, rfl, _, rfl, _, _, rfl, rfl, _, rfl, rfl, ?_⟩
          refine ⟨a, ns, 3 * k + 1, e, decide (V.str z = .str "get"), (by show [V.ref a, .int (3 * k + 1), .int (((e + 1 : Nat) : Int) - 1), .bl (decide (V.str z = .str "get"))] = _; rw [ee]), by omega, sc.sm s0, by omega, t1, fun H1 r1 ds1 s1 d1 g1 w1 => ?_⟩
          dsimp only [gName]
          refine ⟨_, rfl, _, rfl, _, rfl, _, rfl, _, _, rfl, rfl, .inl ⟨by decide, by decide⟩, _, _, rfl, rfl, _, rfl, _, _, rfl, rfl, ?_⟩
          refine ⟨a, ns, 3 * k + 2, e, false, (by show [V.ref a, .int (3 * k + 2), .int (((e + 1 : Nat) : Int) - 1), .bl false] = _; rw [ee]), by omega, sc.sm (s0.trans s1), by omega, t2, fun H2 r2 ds2 s2 d2 g2 w2 => ?_⟩
          refine ⟨big 3 (by decide), fun p np => ?_⟩
          have s4 := same_new (o := .tup [.str z, r1, r2]) np
          exact q _ _ [.str z, .tuple ds1, .tuple ds2] (((s0.trans s1).trans s2).trans s4) (.tup (.of upd_same) (.cons (.str _) (.cons (dp_sm (s2.trans s4) d1) (.cons (dp_sm s4 d2) .nil))))
            (goods_cons (good_str (w9_lay z hz)) (goods_cons (good_tup g1 (wl w1)) (goods_cons (good_tup g2 (wl w2)) goods_nil))) (by rw [wid]; simp only [wids, w1, w2]; rfl)
end

section
variable {P : Program} {w : World} {K : PySem.W.Frag} {mg : Str → Option Value} {base : Heap}
theorem same_upd {H H' : Hp} {D : Addr} {o : HO} (s : Same H H') (n : H D = none) : Same H (upd H' D o) := fun b x hb => by
  rw [upd_ne (ne_of_none hb n)]
  exact s _ _ hb
def sp_long (K : PySem.W.Frag) : Sp := fun vs H Q _ => ∃ (n : Nat), vs = [.int n] ∧ n ≤ 40 ∧ ∀ H' r ds, Same H H' → Dp K H' r (.tuple ds) → Goods n ds → ds.length ≤ 100 → Q r H'
theorem ok__law_long (T : Top K mg) : FnOk P w K mg base CX0 1 (He.ga K "_law_long") T.fd__law_long ["_law_many_here"] (sp_long K) := by
  refine T.F__law_long.ok sc__law_long (fun vs H Q E h => ?_) (fun cdv A outer s H vs Q E hr h => ?_)
  · obtain ⟨n, rfl, _⟩ := h
    rfl
  · obtain ⟨n, rfl, n40, q⟩ := h
    refine ⟨_, PSs.nox (pss_cons (ps_set (i := 1) sc__law_long.nd rfl (Or.inl rfl) (pe_tup (pa_cons pe_str (pa_cons pe_int pa_nil))))
        (pss_cons (ps_for PassesOwn.never (by rfl) (pi_range1 (by rfl) T.m_range (pa_cons (pv 0) pa_nil)) (pg_name (i := 2) sc__law_long.nd rfl (Or.inl rfl)) (pss_one (ps_set (i := 1) sc__law_long.nd rfl (Or.inl rfl) (pe_tup (pa_cons pe_str (pa_cons (pv 1) (pa_cons (pe_tup (pa_cons pe_str (pa_cons pe_int (pa_cons (pv 2) pa_nil)))) pa_nil)))))))
        (pss_one (ps_ret (pv 1))))), ?_⟩
    have big : ∀ n : Nat, n ≤ 10000 → n ≤ sizeLine := fun n h => by rw [sizeLine_eq]; omega
    refine ⟨big 2 (by decide), fun p np => ?_⟩
    refine ⟨_, rfl, (n : Int), rfl, by omega, by omega, for_range (lo := 0) (n := n) (fun i σ' H' => ∃ r ds x2, Same H H' ∧ Dp K H' r (.tuple ds) ∧ Goods i ds ∧ ds.length ≤ 100 ∧ σ' = [some (.int n), some r, x2]) ?_ ?_ ?_⟩
    · exact ⟨.ref p, [.str "number", .int 1], none, same_new np, .tup (.of upd_same) (.cons (.str _) (.cons (.int _) .nil)), goods_cons (good_str (by decide +kernel)) (goods_cons (good_int ..) goods_nil), by decide, rfl⟩
    · rintro i σ' H1 hi ⟨r, ds, x2, s1, d1, g1, l1, rfl⟩
      refine ⟨_, rfl, _, rfl, big 3 (by decide), fun p2 np2 => ⟨big 3 (by decide), fun p3 np3 => ?_⟩⟩
      have s2 := same_new (o := .tup [.str "old", .int 0, .int (0 + (i : Int))]) np2
      have s3 := same_new (o := .tup [.str "add", r, .ref p2]) np3
      exact ⟨.ref p3, [.str "add", .tuple ds, .tuple [.str "old", .int 0, .int (0 + (i : Int))]], _, (s1.trans s2).trans s3, .tup (.of upd_same) (.cons (.str _) (.cons (dp_sm (s2.trans s3) d1) (.cons (dp_sm s3 (.tup (.of upd_same) (.cons (.str _) (.cons (.int _) (.cons (.int _) .nil))))) .nil))),
        goods_cons (good_str (by decide +kernel)) (goods_cons (good_tup g1 l1) (goods_cons ((good_tup (n := 0) (goods_cons (good_str (by decide +kernel)) (goods_cons (good_int ..) (goods_cons (good_int ..) goods_nil))) (by simp)).mono (by omega)) goods_nil)), by simp, rfl⟩
    · rintro σ' H1 ⟨r, ds, x2, s1, d1, g1, l1, rfl⟩
      exact ⟨_, rfl, q _ _ _ s1 d1 g1 l1⟩
theorem cut_any {H : Hp} {xs : List V} {ds : List PyData} {n : Nat} (da : DpAll K H xs ds) (g : Goods n ds) (lo hi : Option Int) : ∃ es, DpAll K H (cutV xs lo hi) es ∧ Goods n es ∧ es.length ≤ ds.length := by
  refine ⟨(ds.drop (HT.sIx xs.length 0 lo)).take (HT.sIx xs.length xs.length hi - HT.sIx xs.length 0 lo), dpAll_take _ (dpAll_drop _ da), fun x hx => g x (List.mem_of_mem_drop (List.mem_of_mem_take hx)), ?_⟩
  rw [List.length_take, List.length_drop]
  omega
theorem sl_any {H : Hp} {a : Addr} {xs : List V} {ds : List PyData} {n : Nat} {lo hi : Option Int} {Q : VK} (h : SqT K H a xs) (da : DpAll K H xs ds) (g : Goods n ds)
    (q : ∀ H' p ys es, Same H H' → SqT K H' p ys → DpAll K H' ys es → Goods n es → es.length ≤ ds.length → Q (.ref p) H') : rSlA K (.ref a) lo hi H Q := by
  refine ⟨a, xs, rfl, h, fun _ => q H a xs ds (Same.refl _) h da g (Nat.le_refl _), fun _ p np => ?_⟩
  obtain ⟨es, de, ge, le⟩ := cut_any da g lo hi
  exact q _ p _ es (same_new np) (.of upd_same) (dpAll_sm (same_new np) de) ge le
theorem cat_any {H : Hp} {a b : Addr} {xs ys : List V} {ds es : List PyData} {n : Nat} {Q : VK} (h1 : SqT K H a xs) (da : DpAll K H xs ds) (g1 : Goods n ds) (h2 : SqT K H b ys) (db : DpAll K H ys es) (g2 : Goods n es) (sz : ds.length + es.length ≤ 10000)
    (q : ∀ H' p zs fs, Same H H' → SqT K H' p zs → DpAll K H' zs fs → Goods n fs → fs.length ≤ ds.length + es.length → Q (.ref p) H') : rCatA K (.ref a) (.ref b) H Q := by
  have l1 := dpAll_len da
  have l2 := dpAll_len db
  refine ⟨a, b, xs, ys, rfl, rfl, h1, h2, by rw [sizeLine_eq]; omega, fun _ => q H b ys es (Same.refl _) h2 db g2 (by omega), fun _ _ => q H a xs ds (Same.refl _) h1 da g1 (by omega), fun _ _ p np => ?_⟩
  refine q _ p _ (ds ++ es) (same_new np) (.of upd_same) (dpAll_sm (same_new np) (dpAll_app da db)) (fun x hx => ?_) (by rw [List.length_append]; omega)
  rcases List.mem_append.mp hx with h | h
  · exact g1 x h
  · exact g2 x h
/-- what an expression makes: some good data -/
def Gd (K : PySem.W.Frag) (H0 : Hp) (σ : L2.St) (n : Nat) (t : TE) : Prop := ∀ (H : Hp) (Q : VK), Same H0 H → (∀ H' x d, Same H H' → Dp K H' x d → Good n d → Q x H') → t σ H Q
def Gds (K : PySem.W.Frag) (H0 : Hp) (σ : L2.St) (n k : Nat) (t : TA) : Prop := ∀ (H : Hp) (Q : List V → Hp → Prop), Same H0 H → (∀ H' xs ds, Same H H' → DpAll K H' xs ds → Goods n ds → xs.length = k → Q xs H') → t σ H Q
theorem gds_nil {H0 : Hp} {σ : L2.St} {n : Nat} : Gds K H0 σ n 0 tNil := fun H Q _ q => q H [] [] (Same.refl _) .nil goods_nil rfl
theorem gds_cons {H0 : Hp} {σ : L2.St} {n k : Nat} {t : TE} {u : TA} (h : Gd K H0 σ n t) (r : Gds K H0 σ n k u) : Gds K H0 σ n (k + 1) (tCons t u) := fun H Q s q =>
  h H _ s fun H1 x d s1 d1 g1 => r H1 _ (s.trans s1) fun H2 xs ds s2 d2 g2 l2 => q H2 (x :: xs) (d :: ds) (s1.trans s2) (.cons (dp_sm s2 d1) d2) (goods_cons g1 g2) (by rw [List.length_cons, l2])
theorem gd_tup {H0 : Hp} {σ : L2.St} {n k : Nat} {u : TA} (r : Gds K H0 σ n k u) (hk : k ≤ 100) : Gd K H0 σ (n + 1) (tTup u) := fun H Q s q =>
  r H _ s fun H1 xs ds s1 d1 g1 l1 => ⟨by rw [l1, sizeLine_eq]; omega, fun p np => q _ _ (.tuple ds) (s1.trans (same_new np)) (.tup (.of upd_same) (dpAll_sm (same_new np) d1)) (good_tup g1 (by rw [← dpAll_len d1]; omega))⟩
theorem gd_lst {H0 H : Hp} {σ : L2.St} {n k : Nat} {u : TA} {Q : VK} (r : Gds K H0 σ n k u) (hk : k ≤ 10000) (s : Same H0 H) (q : ∀ H' L xs es, Same H H' → H' L = some (.lst xs) → DpAll K H' xs es → Goods n es → xs.length = k → Q (.ref L) H') : tLst u σ H Q :=
  r H _ s fun H1 xs ds s1 d1 g1 l1 => ⟨by rw [l1, sizeLine_eq]; omega, fun p np => q _ p xs ds (s1.trans (same_new np)) upd_same (dpAll_sm (same_new np) d1) g1 l1⟩
theorem gd_int {H0 : Hp} {σ : L2.St} {n : Nat} {i : Int} : Gd K H0 σ n (tC (.int i)) := fun H Q _ q => q H _ _ (Same.refl _) (.int i) (good_int ..)
theorem gd_bl {H0 : Hp} {σ : L2.St} {n : Nat} {i : Bool} : Gd K H0 σ n (tC (.bl i)) := fun H Q _ q => q H _ _ (Same.refl _) (.bl i) (good_bool ..)
theorem gd_non {H0 : Hp} {σ : L2.St} {n : Nat} : Gd K H0 σ n (tC .non) := fun H Q _ q => q H _ _ (Same.refl _) .non (good_none ..)
theorem gd_str {H0 : Hp} {σ : L2.St} {n : Nat} {z : Str} (h : (PyData.str z).canLay0 = true) : Gd K H0 σ n (tC (.str z)) := fun H Q _ q => q H _ _ (Same.refl _) (.str z) (good_str h)
theorem gd_neg {H0 : Hp} {σ : L2.St} {n : Nat} {i : Int} : Gd K H0 σ n (tUn (rU fun i => .int (-i)) (tC (.int i))) := fun H Q _ q => ⟨i, rfl, q H _ _ (Same.refl _) (.int _) (good_int ..)⟩
theorem goods_app {n : Nat} {ds es : List PyData} (h : Goods n ds) (t : Goods n es) : Goods n (ds ++ es) := fun x hx => by
  rcases List.mem_append.mp hx with z | z
  · exact h x z
  · exact t x z
theorem gd_more {H0 H : Hp} {σ : L2.St} {n k j : Nat} {u : TA} {Q : VK} {L : Addr} {xs : List V} {es : List PyData} (r : Gds K H0 σ n k u) (hk : j + k ≤ 10000) (s : Same H0 H) (e : H L = some (.lst xs)) (d : DpAll K H xs es) (g : Goods n es) (l : xs.length = j)
    (q : ∀ H' L' xs' es', Same H H' → H' L' = some (.lst xs') → DpAll K H' xs' es' → Goods n es' → xs'.length = j + k → Q (.ref L') H') : tLst u σ H (fun y H2 => rCat (.ref L) y H2 Q) :=
  gd_lst r (by omega) s fun H1 L1 xs1 es1 s1 e1 d1 g1 l1 => ⟨L, L1, xs, xs1, rfl, rfl, s1 _ _ e, e1, by rw [l, l1, sizeLine_eq]; omega, fun p np =>
    q _ p (xs ++ xs1) (es ++ es1) (s1.trans (same_new np)) upd_same (dpAll_sm (same_new np) (dpAll_app (dpAll_sm s1 d) d1)) (goods_app g g1) (by rw [List.length_append, l, l1])⟩
def sp_bent (K : PySem.W.Frag) (n : Nat) : Sp := fun vs H Q _ => ∃ (v : V) (ds : List PyData) (m : Int) (e : Nat), vs = [v, .int m] ∧ e < n ∧ Dp K H v (.tuple ds) ∧ Goods e ds ∧ wid (.tuple ds) = true ∧ ∀ H' r d, Same H H' → Dp K H' r d → Good (e + 2) d → Q r H'
theorem ok__law_bent (T : Top K mg) : ∀ n : Nat, FnOk P w K mg base CX0 (n + 1) (He.ga K "_law_bent") T.fd__law_bent ["_law_term", "_law_mark_here"] (sp_bent K n)
  | 0 => by
    refine T.F__law_bent.ok sc__law_bent (fun vs H Q E h => ?_) (fun cdv A outer s H vs Q E hr h => ?_)
    · obtain ⟨v, ds, m, e, rfl, _⟩ := h
      rfl
    · obtain ⟨v, ds, m, e, rfl, h1, _⟩ := h
      omega
  | n + 1 => by
    have G__law_bent := ok__law_bent T n
    refine T.F__law_bent.ok sc__law_bent (fun vs H Q E h => ?_) (fun cdv A outer s H vs Q E hr h => ?_)
    · obtain ⟨v, ds, m, e, rfl, _⟩ := h
      rfl
    · obtain ⟨v, ds, m, e, rfl, hn, dp, gd, wd, q⟩ := h
      refine ⟨_, PSs.nox (pss_cons (ps_setLc (i := 2) (own := [("_law_k", 5)]) (by rfl) sc__law_bent.nd rfl rfl (sw_true rfl rfl rfl (by decide +kernel)) (pi_range2 (by rfl) T.m_range (pa_cons pe_int (pa_cons (pe_callB call_len_seq (by rfl) T.m_len (by decide +kernel) (pa_cons (pv 0) pa_nil)) pa_nil))) (blkOk_by (own := [("_law_k", 5)]) (N := N__law_bent) (sc := defScope s__law_bent) (by decide +kernel)) (fun _ _ _ _ _ => (pg_name (i := 5) sc__law_bent.nd rfl (Or.inl rfl))) (fun _ _ _ _ _ => (pts_one (pt_val (pe_callB (call_isiK (K := K) rfl) (by rfl) T.m_isinstance (by decide +kernel) (pa_cons (pe_ix (ix_tupK (K := K) rfl) (pv 0) (pv 5) (fun _ _ => rfl)) (pa_cons (pe_bltn (v := .ty "tuple") (by rfl) T.m_tuple (by decide +kernel) rfl) pa_nil)))))) (fun _ _ _ _ _ => (pv 5)))
        (pss_cons (ps_if (PW.pt (pw_and (pt_cmpR (op_neE hr.units) (pv 2) (pe_lst pa_nil) (nomark _)) (pw_and1 (pt_cmpR op_gt (pe_op op_mod (pv 1) pe_int) pe_int (nomark _))))) (pss_cons (ps_set (i := 3) sc__law_bent.nd rfl (Or.inl rfl) (pe_ix ix_list (pv 2) (pe_op op_mod (pe_op op_fdivW (pv 1) pe_int) (pe_callB call_len_seq (by rfl) T.m_len (by decide +kernel) (pa_cons (pv 2) pa_nil))) (fun _ _ => rfl)))
        (pss_one (ps_ret (pe_op op_catA (pe_op op_catA (pe_slice sl_tupA (pv 0) po_none (po_some (pv 3))) (pe_tup (pa_cons (pe_call G__law_bent (hr.mono (by omega)) (by rfl) T.g__law_bent T.F__law_bent.kp T.b__law_bent .nil pass0 (pa_cons (pe_ix ix_tup (pv 0) (pv 3) (fun _ _ => rfl)) (pa_cons (pe_op op_fdivW (pv 1) pe_int) pa_nil))) pa_nil))) (pe_slice sl_tupA (pv 0) (po_some (pe_op op_add (pv 3) pe_int)) po_none))))) pss_nil)
        (pss_cons (ps_set (i := 4) sc__law_bent.nd rfl (Or.inl rfl) (pe_lst (pa_cons (pe_callTy call_list_of (by rfl) T.m_list (by decide +kernel) (pa_cons (pv 0) pa_nil)) (pa_cons (pe_op op_catA (pv 0) (pe_tup (pa_cons pe_int pa_nil))) (pa_cons (pe_slice sl_tupA (pv 0) po_none (po_some (pe_un un_neg pe_int))) (pa_cons (pe_tup pa_nil) (pa_cons pe_non (pa_cons pe_bl (pa_cons (pe_tup (pa_cons pe_str (pa_cons pe_bl pa_nil))) (pa_cons (pe_tup (pa_cons pe_str (pa_cons pe_int pa_nil))) pa_nil))))))))))
        (pss_cons (ps_set (i := 4) sc__law_bent.nd rfl (Or.inl rfl) (pe_op op_cat (pv 4) (pe_lst (pa_cons (pe_tup (pa_cons pe_str pa_nil)) (pa_cons (pe_tup (pa_cons pe_str (pa_cons pe_int (pa_cons pe_int pa_nil)))) (pa_cons (pe_tup (pa_cons pe_str (pa_cons (pe_un un_neg pe_int) (pa_cons pe_int pa_nil)))) (pa_cons (pe_tup (pa_cons pe_str (pa_cons pe_int (pa_cons pe_int pa_nil)))) (pa_cons (pe_tup (pa_cons pe_str (pa_cons pe_int (pa_cons (pe_un un_neg pe_int) pa_nil)))) (pa_cons (pe_tup (pa_cons pe_str (pa_cons pe_int pa_nil))) pa_nil)))))))))
        (pss_cons (ps_set (i := 4) sc__law_bent.nd rfl (Or.inl rfl) (pe_op op_cat (pv 4) (pe_lst (pa_cons (pe_tup (pa_cons pe_str (pa_cons pe_bl (pa_cons pe_int pa_nil)))) (pa_cons (pe_tup (pa_cons pe_str (pa_cons pe_int pa_nil))) (pa_cons (pe_tup (pa_cons pe_str (pa_cons pe_int pa_nil))) (pa_cons (pe_tup (pa_cons pe_str (pa_cons pe_int pa_nil))) (pa_cons (pe_tup (pa_cons pe_str (pa_cons pe_int pa_nil))) (pa_cons (pe_tup (pa_cons pe_str (pa_cons pe_int (pa_cons pe_int pa_nil)))) pa_nil)))))))))
        (pss_cons (ps_set (i := 4) sc__law_bent.nd rfl (Or.inl rfl) (pe_op op_cat (pv 4) (pe_lst (pa_cons (pe_tup (pa_cons pe_str (pa_cons pe_int pa_nil))) (pa_cons (pe_tup (pa_cons pe_str (pa_cons pe_int pa_nil))) (pa_cons (pe_tup (pa_cons pe_str (pa_cons pe_int (pa_cons pe_int pa_nil)))) (pa_cons (pe_tup (pa_cons pe_str (pa_cons (pv 0) pa_nil))) (pa_cons (pe_tup (pa_cons pe_str (pa_cons (pv 0) pa_nil))) (pa_cons (pe_tup (pa_cons pe_str (pa_cons (pv 0) (pa_cons (pv 0) (pa_cons (pv 0) pa_nil))))) pa_nil)))))))))
        (pss_cons (ps_set (i := 4) sc__law_bent.nd rfl (Or.inl rfl) (pe_op op_cat (pv 4) (pe_lst (pa_cons (pe_tup (pa_cons pe_str (pa_cons (pv 0) (pa_cons (pv 0) pa_nil)))) (pa_cons (pe_tup (pa_cons pe_str (pa_cons (pv 0) (pa_cons (pv 0) pa_nil)))) (pa_cons (pe_tup (pa_cons pe_int (pa_cons (pv 0) pa_nil))) (pa_cons pe_str (pa_cons (pe_tup (pa_cons pe_str (pa_cons pe_str pa_nil))) pa_nil))))))))
        (pss_one (ps_ret (pe_ix ix_list (pv 4) (pe_op op_mod (pe_op op_fdivW (pv 1) pe_int) (pe_callB call_len_seq (by rfl) T.m_len (by decide +kernel) (pa_cons (pv 4) pa_nil))) (fun _ _ => rfl))))))))))), ?_⟩
      have big : ∀ n : Nat, n ≤ 10000 → n ≤ sizeLine := fun n h => by rw [sizeLine_eq]; omega
      obtain ⟨p, xs, rfl, hp, da⟩ := dp_tup dp
      have wd' : ds.length ≤ 4 ∧ wids ds = true := by simpa [wid] using wd
      have lx := dpAll_len da
      refine ⟨_, rfl, p, _, rfl, .inr hp, 1, _, rfl, ⟨by decide, by decide, by omega, by omega⟩, fun D nD => ?_⟩
      refine lc_range (lo := 1) (n := ((xs.length : Nat) - 1 : Int).toNat) (fun i H' => Same H H' ∧ ∃ ks : List Nat, H' D = some (.lst (ks.map fun j : Nat => V.int (j : Int))) ∧ ks.length ≤ i ∧ ∀ k ∈ ks, 1 ≤ k ∧ ∃ es, ds[k]? = some (.tuple es)) ?_ ?_ ?_
      · exact ⟨same_new nD, [], upd_same, Nat.le_refl _, (fun k hk => nomatch hk)⟩
      · rintro i H1 hi ⟨s1, ks, eD, lk, ok⟩
        have hi2 : i + 1 < xs.length := by omega
        obtain ⟨d, hd, dd⟩ := dpAll_getV (i := i + 1) (v := xs[i + 1]) da (List.getElem?_eq_getElem hi2)
        have ty := dp_ty (dp_sm s1 dd)
        refine ⟨rfl, _, rfl, _, rfl, p, xs, 1 + (i : Int), xs[i + 1], rfl, rfl, sqT_kp (Kp.of_same (S := fun _ => False) s1) hp, (by rw [show (1 : Int) + i = ((i + 1 : Nat) : Int) by omega]; exact atI_nat (List.getElem?_eq_getElem hi2)), _, _, _, _, isT d, rfl, .ty _, ty, kit_tup d, _, rfl, ?_⟩
        cases hT : isT d with
        | false => exact ⟨s1, ks, eD, by omega, ok⟩
        | true =>
          obtain ⟨es, rfl⟩ : ∃ es, d = .tuple es := by
            cases d <;> simp [isT] at hT
            exact ⟨_, rfl⟩
          refine ⟨_, rfl, _, eD, by rw [List.length_map, sizeLine_eq]; omega, same_upd s1 nD, ks ++ [i + 1], ?_, ?_, ?_⟩
          · rw [upd_same, List.map_append, show (1 : Int) + i = ((i + 1 : Nat) : Int) by omega]
            rfl
          · rw [List.length_append, List.length_singleton]
            omega
          · intro k hk
            rcases List.mem_append.mp hk with h | h
            · exact ok k h
            · rw [List.mem_singleton.mp h]
              exact ⟨by omega, es, hd⟩
      · rintro H1 ⟨s1, ks, eD, lk, ok⟩
        dsimp only [gName]
        refine ifs_by (fun σ' H' => Same H H' ∧ σ' = [some (.ref p), some (.int m), some (.ref D), none, none, none]) ?_ ?_
        rotate_left
        · intro N hN
          refine ⟨_, rfl, Nat.zero_le _, fun E nE => ?_⟩
          have kE := same_new (o := .lst []) nE
          have dk : ∀ l : List Nat, DpAll K (upd H1 E (.lst [])) (l.map fun j : Nat => V.int (j : Int)) (l.map fun j : Nat => PyData.int (j : Int)) := by
            intro l
            induction l with
            | nil => exact .nil
            | cons a r ih => exact .cons (.int _) ih
          have cl : ∀ l : List Nat, PyData.canLayAll0 (l.map fun j : Nat => PyData.int (j : Int)) = true := by
            intro l
            induction l with
            | nil => rfl
            | cons a r ih => simp only [List.map_cons, PyData.canLayAll0, ih]; rfl
          refine ⟨.list (ks.map fun j : Nat => PyData.int (j : Int)), .list [], .lst (.of (kE _ _ eD)) (dk ks), .lst (.of upd_same) .nil, by simp only [PyData.canLay0]; exact cl ks, rfl, by decide, _, rfl, ?_⟩
          cases ks with
          | nil => exact hN _ _ ⟨s1.trans kE, rfl⟩
          | cons k0 kr =>
            refine ifT (by simp [PyData.eqv, PyData.eqvAll]) ?_
            refine ⟨_, rfl, _, _, rfl, rfl, (by show (0 : Int) < 3; decide), _, _, rfl, rfl, _, rfl, ite2 (fun _ => ?_) (fun _ => hN _ _ ⟨s1.trans kE, rfl⟩)⟩
            have s2 := s1.trans kE
            have eD2 := kE _ _ eD
            generalize upd H1 E (.lst []) = H2 at s2 eD2
            have hm : (0 : Int) < (((k0 :: kr).map fun j : Nat => V.int (j : Int)).length : Nat) := by simp
            obtain ⟨x, hx, ex⟩ := at_list (ns := (k0 :: kr).map fun j : Nat => V.int (j : Int)) (i := m / 3 % (((k0 :: kr).map fun j : Nat => V.int (j : Int)).length : Nat)) (Int.emod_nonneg _ (by omega)) (Int.emod_lt_of_pos _ hm)
            obtain ⟨k, hk, rfl⟩ := List.mem_map.mp hx
            obtain ⟨k1, es, hes⟩ := ok k hk
            obtain ⟨u, hu, du⟩ := dpAll_get da hes
            refine ⟨_, rfl, _, rfl, _, _, rfl, rfl, cd (by decide) (by decide), _, rfl, D, _, rfl, .inl (.of eD2), _, _, rfl, rfl, hm, D, _, _, _, rfl, rfl, .of eD2, ex, ?_⟩
            dsimp only [gName]
            have hp2 := sqT_kp (Kp.of_same (S := fun _ => False) s2) hp
            have da2 := dpAll_sm s2 da
            refine ⟨_, rfl, _, rfl, _, rfl, sl_any hp2 da2 gd fun H3 p3 y3 e3 s3 h3 d3 g3 l3 => ?_⟩
            have s03 := s2.trans s3
            have hp3 := sqT_kp (Kp.of_same (S := fun _ => False) s03) hp
            have ge := gd _ (List.mem_of_getElem? hes)
            obtain ⟨e', rfl, ge', le'⟩ := good_inv ge
            refine ⟨_, rfl, _, rfl, p, _, _, _, rfl, rfl, hp3, atI_nat hu, _, rfl, _, _, rfl, rfl, cd (by decide) (by decide), ?_⟩
            refine ⟨u, es, _, e', rfl, by omega, dp_sm s03 du, ge', wid_get wd'.2 _ (List.mem_of_getElem? hes), fun H4 r4 d4 s4 dp4 g4 => ?_⟩
            refine ⟨big 1 (by decide), fun p5 np5 => ?_⟩
            have s5 := same_new (o := .tup [r4]) np5
            have s45 := s4.trans s5
            refine cat_any (n := e' + 2) (sqT_kp (Kp.of_same (S := fun _ => False) s45) h3) (dpAll_sm s45 d3) (g3.mono (by omega)) (.of upd_same) (.cons (dp_sm s5 dp4) .nil) (goods_cons g4 goods_nil) (by simp only [List.length_cons, List.length_nil]; omega) fun H6 p6 y6 e6 s6 h6 d6 g6 l6 => ?_
            have s06 := (s03.trans s45).trans s6
            refine ⟨_, rfl, _, rfl, _, _, rfl, rfl, _, rfl, ?_⟩
            dsimp only [tNoPart]
            show rSlA K _ _ _ _ _
            refine sl_any (sqT_kp (Kp.of_same (S := fun _ => False) s06) hp) (dpAll_sm s06 da) gd fun H7 p7 y7 e7 s7 h7 d7 g7 l7 => ?_
            refine cat_any (n := e' + 2) (sqT_kp (Kp.of_same (S := fun _ => False) s7) h6) (dpAll_sm s7 d6) g6 h7 d7 (g7.mono (by omega)) (by simp only [List.length_cons, List.length_nil] at l6; omega) fun H8 p8 y8 e8 s8 h8 d8 g8 l8 => ?_
            exact q _ _ (.tuple e8) ((s06.trans s7).trans s8) (.tup h8 d8) (good_tup g8 (by simp only [List.length_cons, List.length_nil] at l6; omega))
        rintro σ' H2 ⟨s2, rfl⟩
        have gvar : ∀ (σ : L2.St), σ[0]? = some (some (.ref p)) → Gd K H σ (e + 1) (tVar 0) := fun σ hσ H' Q' s' q' => ⟨_, hσ, q' _ _ (.tuple ds) (Same.refl _) (.tup (sqT_kp (Kp.of_same (S := fun _ => False) s') hp) (dpAll_sm s' da)) (good_tup gd (by omega))⟩
        refine seq_by (fun σ' H' => ∃ L xs es, Same H H' ∧ H' L = some (.lst xs) ∧ DpAll K H' xs es ∧ Goods (e + 2) es ∧ xs.length = 8 ∧ σ' = [some (.ref p), some (.int m), some (.ref D), none, some (.ref L), none]) ?_ (fun N hN => ?_)
        rotate_left
        · refine gd_lst (H0 := H) (n := e + 2) (k := 8) (gds_cons ?_ (gds_cons ?_ (gds_cons ?_ (gds_cons (gd_tup gds_nil (by decide)) (gds_cons gd_non (gds_cons gd_bl (gds_cons (gd_tup (gds_cons (gd_str (by decide +kernel)) (gds_cons gd_bl gds_nil)) (by decide)) (gds_cons (gd_tup (gds_cons (gd_str (by decide +kernel)) (gds_cons gd_int gds_nil)) (by decide)) gds_nil)))))))) (by decide) s2 fun H3 L xs es s3 e3 d3 g3 l3 => hN _ _ ⟨L, xs, es, s2.trans s3, e3, d3, g3, l3, rfl⟩
          · intro H3 Q3 s3 q3
            exact ⟨_, rfl, p, _, rfl, .inr (sqT_kp (Kp.of_same (S := fun _ => False) s3) hp), fun l nl => q3 _ _ (.list ds) (same_new nl) (.lst (.of upd_same) (dpAll_sm (s3.trans (same_new nl)) da)) (good_lst gd)⟩
          · intro H3 Q3 s3 q3
            refine ⟨_, rfl, big 1 (by decide), fun p5 np5 => ?_⟩
            have s5 := same_new (o := .tup [.int 0]) np5
            refine cat_any (n := e) (sqT_kp (Kp.of_same (S := fun _ => False) (s3.trans s5)) hp) (dpAll_sm (s3.trans s5) da) gd (.of upd_same) (.cons (.int 0) .nil) (goods_cons (good_int ..) goods_nil) (by simp only [List.length_cons, List.length_nil]; omega) fun H6 p6 y6 e6 s6 h6 d6 g6 l6 => ?_
            exact q3 _ _ (.tuple e6) (s5.trans s6) (.tup h6 d6) ((good_tup g6 (by simp only [List.length_cons, List.length_nil] at l6; omega)).mono (by omega))
          · intro H3 Q3 s3 q3
            refine ⟨_, rfl, _, rfl, _, rfl, ?_⟩
            show rSlA K _ _ _ _ _
            refine sl_any (sqT_kp (Kp.of_same (S := fun _ => False) s3) hp) (dpAll_sm s3 da) gd fun H7 p7 y7 e7 s7 h7 d7 g7 l7 => ?_
            exact q3 _ _ (.tuple e7) s7 (.tup h7 d7) ((good_tup g7 (by omega)).mono (by omega))
        rintro σ' H3 ⟨L3, xs3, es3, s3, e3, d3, g3, l3, rfl⟩
        refine seq_by (fun σ' H' => ∃ L xs es, Same H H' ∧ H' L = some (.lst xs) ∧ DpAll K H' xs es ∧ Goods (e + 2) es ∧ xs.length = 14 ∧ σ' = [some (.ref p), some (.int m), some (.ref D), none, some (.ref L), none]) ?_ (fun N hN => ?_)
        rotate_left
        · exact ⟨_, rfl, gd_more (H0 := H) (n := e + 2) (k := 6) (j := 8) (gds_cons (gd_tup (gds_cons (gd_str (by decide +kernel)) gds_nil) (by decide)) (gds_cons (gd_tup (gds_cons (gd_str (by decide +kernel)) (gds_cons gd_int (gds_cons gd_int gds_nil))) (by decide)) (gds_cons (gd_tup (gds_cons (gd_str (by decide +kernel)) (gds_cons gd_neg (gds_cons gd_int gds_nil))) (by decide)) (gds_cons (gd_tup (gds_cons (gd_str (by decide +kernel)) (gds_cons gd_int (gds_cons gd_int gds_nil))) (by decide)) (gds_cons (gd_tup (gds_cons (gd_str (by decide +kernel)) (gds_cons gd_int (gds_cons gd_neg gds_nil))) (by decide)) (gds_cons (gd_tup (gds_cons (gd_str (by decide +kernel)) (gds_cons gd_int gds_nil)) (by decide)) gds_nil)))))) (by decide) s3 e3 d3 g3 l3 fun H9 L9 xs9 es9 s9 e9 d9 g9 l9 => hN _ _ ⟨L9, xs9, es9, s3.trans s9, e9, d9, g9, l9, rfl⟩⟩
        rintro σ' H4 ⟨L4, xs4, es4, s4, e4, d4, g4, l4, rfl⟩
        refine seq_by (fun σ' H' => ∃ L xs es, Same H H' ∧ H' L = some (.lst xs) ∧ DpAll K H' xs es ∧ Goods (e + 2) es ∧ xs.length = 20 ∧ σ' = [some (.ref p), some (.int m), some (.ref D), none, some (.ref L), none]) ?_ (fun N hN => ?_)
        rotate_left
        · exact ⟨_, rfl, gd_more (H0 := H) (n := e + 2) (k := 6) (j := 14) (gds_cons (gd_tup (gds_cons (gd_str (by decide +kernel)) (gds_cons gd_bl (gds_cons gd_int gds_nil))) (by decide)) (gds_cons (gd_tup (gds_cons (gd_str (by decide +kernel)) (gds_cons gd_int gds_nil)) (by decide)) (gds_cons (gd_tup (gds_cons (gd_str (by decide +kernel)) (gds_cons gd_int gds_nil)) (by decide)) (gds_cons (gd_tup (gds_cons (gd_str (by decide +kernel)) (gds_cons gd_int gds_nil)) (by decide)) (gds_cons (gd_tup (gds_cons (gd_str (by decide +kernel)) (gds_cons gd_int gds_nil)) (by decide)) (gds_cons (gd_tup (gds_cons (gd_str (by decide +kernel)) (gds_cons gd_int (gds_cons gd_int gds_nil))) (by decide)) gds_nil)))))) (by decide) s4 e4 d4 g4 l4 fun H9 L9 xs9 es9 s9 e9 d9 g9 l9 => hN _ _ ⟨L9, xs9, es9, s4.trans s9, e9, d9, g9, l9, rfl⟩⟩
        rintro σ' H5 ⟨L5, xs5, es5, s5, e5, d5, g5, l5, rfl⟩
        refine seq_by (fun σ' H' => ∃ L xs es, Same H H' ∧ H' L = some (.lst xs) ∧ DpAll K H' xs es ∧ Goods (e + 2) es ∧ xs.length = 26 ∧ σ' = [some (.ref p), some (.int m), some (.ref D), none, some (.ref L), none]) ?_ (fun N hN => ?_)
        rotate_left
        · exact ⟨_, rfl, gd_more (H0 := H) (n := e + 2) (k := 6) (j := 20) (gds_cons (gd_tup (gds_cons (gd_str (by decide +kernel)) (gds_cons gd_int gds_nil)) (by decide)) (gds_cons (gd_tup (gds_cons (gd_str (by decide +kernel)) (gds_cons gd_int gds_nil)) (by decide)) (gds_cons (gd_tup (gds_cons (gd_str (by decide +kernel)) (gds_cons gd_int (gds_cons gd_int gds_nil))) (by decide)) (gds_cons (gd_tup (gds_cons (gd_str (by decide +kernel)) (gds_cons (gvar _ rfl) gds_nil)) (by decide)) (gds_cons (gd_tup (gds_cons (gd_str (by decide +kernel)) (gds_cons (gvar _ rfl) gds_nil)) (by decide)) (gds_cons (gd_tup (gds_cons (gd_str (by decide +kernel)) (gds_cons (gvar _ rfl) (gds_cons (gvar _ rfl) (gds_cons (gvar _ rfl) gds_nil)))) (by decide)) gds_nil)))))) (by decide) s5 e5 d5 g5 l5 fun H9 L9 xs9 es9 s9 e9 d9 g9 l9 => hN _ _ ⟨L9, xs9, es9, s5.trans s9, e9, d9, g9, l9, rfl⟩⟩
        rintro σ' H6 ⟨L6, xs6, es6, s6, e6, d6, g6, l6, rfl⟩
        refine seq_by (fun σ' H' => ∃ L xs es, Same H H' ∧ H' L = some (.lst xs) ∧ DpAll K H' xs es ∧ Goods (e + 2) es ∧ xs.length = 31 ∧ σ' = [some (.ref p), some (.int m), some (.ref D), none, some (.ref L), none]) ?_ (fun N hN => ?_)
        rotate_left
        · exact ⟨_, rfl, gd_more (H0 := H) (n := e + 2) (k := 5) (j := 26) (gds_cons (gd_tup (gds_cons (gd_str (by decide +kernel)) (gds_cons (gvar _ rfl) (gds_cons (gvar _ rfl) gds_nil))) (by decide)) (gds_cons (gd_tup (gds_cons (gd_str (by decide +kernel)) (gds_cons (gvar _ rfl) (gds_cons (gvar _ rfl) gds_nil))) (by decide)) (gds_cons (gd_tup (gds_cons gd_int (gds_cons (gvar _ rfl) gds_nil)) (by decide)) (gds_cons (gd_str (by decide +kernel)) (gds_cons (gd_tup (gds_cons (gd_str (by decide +kernel)) (gds_cons (gd_str (by decide +kernel)) gds_nil)) (by decide)) gds_nil))))) (by decide) s6 e6 d6 g6 l6 fun H9 L9 xs9 es9 s9 e9 d9 g9 l9 => hN _ _ ⟨L9, xs9, es9, s6.trans s9, e9, d9, g9, l9, rfl⟩⟩
        rintro σ' H7 ⟨L7, xs7, es7, s7, e7, d7, g7, l7, rfl⟩
        obtain ⟨x, hx, ex⟩ := at_list (ns := xs7) (i := m / 3 % (xs7.length : Nat)) (Int.emod_nonneg _ (by omega)) (Int.emod_lt_of_pos _ (by omega))
        obtain ⟨i, hi⟩ := List.mem_iff_getElem?.mp hx
        obtain ⟨d, hd, dd⟩ := dpAll_getV d7 hi
        refine ⟨_, rfl, _, rfl, _, _, rfl, rfl, cd (by decide) (by decide), _, rfl, L7, _, rfl, .inl (.of e7), _, _, rfl, rfl, (by show (0 : Int) < (xs7.length : Nat); omega), L7, _, _, _, rfl, rfl, .of e7, ex, ?_⟩
        exact q _ _ d s7 dd (g7 d (List.mem_of_getElem? hd))
end

section
variable {P : Program} {w : World} {K : PySem.W.Frag} {mg : Str → Option Value} {base : Heap}
def oneR (lo hi : Int) : List PyData → Bool
  | [a] => inR lo hi a
  | _ => false
def twoR : List PyData → Bool
  | [a, b] => inR 0 4 a && inR 0 9999 b
  | _ => false
theorem leaf_number (ps : List PyData) : leafOk "number" ps = oneR (-2147483648) 2147483647 ps := by
  unfold leafOk
  rw [if_pos rfl]
  rfl
theorem leaf_fresh (ps : List PyData) : leafOk "fresh" ps = oneR 1 8 ps := by
  unfold leafOk
  rw [if_neg (by decide +kernel), if_pos rfl]
  rfl
theorem leaf_old (ps : List PyData) : leafOk "old" ps = twoR ps := by
  unfold leafOk
  rw [if_neg (by decide +kernel), if_neg (by decide +kernel), if_pos rfl]
  rfl
theorem leaf_new (ps : List PyData) : leafOk "new" ps = oneR 0 9999 ps := by
  unfold leafOk
  rw [if_neg (by decide +kernel), if_neg (by decide +kernel), if_neg (by decide +kernel), if_pos rfl]
  rfl
theorem isI_int {a : PyData} (h : isI a = true) (nb : isB a = false) : ∃ i, a = .int i := by
  cases a <;> simp [isI, isB] at h nb
  exact ⟨_, rfl⟩
theorem two_of {l : List PyData} (h : l.length = 2) : ∃ a b, l = [a, b] := by
  match l, h with
  | [a, b], _ => exact ⟨a, b, rfl⟩
theorem pick {g : Bool} : atI [V.int 100, V.int 1] (if g = true then 1 else 0) = some (.int (if g = true then 1 else 100)) := by cases g <;> rfl
theorem cnt_any {x : Str} {ps : List PyData} {o : Option Bool} (h : ps.any isB = true) : cnt (.tuple (.str x :: ps)) o = 100 := by
  unfold cnt
  rw [if_pos h]
theorem cnt_old {x : Str} {ps : List PyData} {o : Option Bool} (h : ps.any isB = false) (h1 : oldNew x = true) : cnt (.tuple (.str x :: ps)) o = if leafOk x ps = true then 1 else 100 := by
  unfold cnt
  rw [h, h1]
  simp
theorem cnt_leaf {x : Str} {ps : List PyData} {o : Option Bool} (h : ps.any isB = false) (h1 : oldNew x = false) (h2 : (o.isSome && (o != some (rowWd x))) = false) (h3 : x = "number" ∨ x = "fresh") : cnt (.tuple (.str x :: ps)) o = if leafOk x ps = true then 1 else 100 := by
  unfold cnt
  rw [h, h1, h2, if_pos h3]
  simp
theorem cnt_in {x : Str} {ps : List PyData} {o : Option Bool} (h : ps.any isB = false) (h1 : oldNew x = false) (h2 : (o.isSome && (o != some (rowWd x))) = false) (h3 : ¬ (x = "number" ∨ x = "fresh")) :
    cnt (.tuple (.str x :: ps)) o = match kinds x with | none => 100 | some ks => if ks.length = ps.length then min 100 (1 + cntL ps ks) else 100 := by
  conv => lhs; unfold cnt
  rw [h, h1, h2, if_neg h3]
  simp
  all_goals rfl
theorem tail_no {x : V} {zs : List V} : ¬ (HT.sIx (x :: zs).length 0 (some 1) = 0 ∧ HT.sIx (x :: zs).length (x :: zs).length none = (x :: zs).length) := by
  have e1 : HT.sIx (x :: zs).length 0 (some 1) = 1 := by
    show min 1 (zs.length + 1) = 1
    omega
  rw [e1]
  exact fun z => absurd z.1 (by decide)
theorem cut_tail {x : V} {zs : List V} : cutV (x :: zs) (some 1) none = zs := by
  have e1 : HT.sIx (x :: zs).length 0 (some 1) = 1 := by
    show min 1 (zs.length + 1) = 1
    omega
  have e2 : HT.sIx (x :: zs).length (x :: zs).length none = zs.length + 1 := rfl
  unfold cutV
  rw [e1, e2]
  simp
/-- the law's table -/
def KT (H : Hp) (D : Addr) (kvs : List (Key × V)) (f : Str → Option (List Bool)) : Prop := ∀ x, (f x = none → valV kvs (.inr x) = none) ∧ ∀ ks, f x = some ks → ∃ L, valV kvs (.inr x) = some (.ref L) ∧ L ≠ D ∧ H L = some (.lst (ks.map V.bl))
theorem kt_put {H : Hp} {D L : Addr} {kvs : List (Key × V)} {f f' : Str → Option (List Bool)} {wd : Str} {ks : List Bool} {o : HO} (h : KT H D kvs f) (nL : H L = none) (nD : L ≠ D) (e : ∀ x, f' x = if x = wd then some ks else f x) :
    KT (upd (upd H L (.lst (ks.map V.bl))) D o) D (putK kvs (.inr wd) (.ref L)) f' := by
  intro x
  rw [e x, valV_put]
  by_cases hx : x = wd
  · rw [if_pos hx, if_pos (by rw [hx])]
    refine ⟨(fun z => nomatch z), fun k2 z => ⟨L, rfl, nD, ?_⟩⟩
    cases z
    rw [upd_ne nD, upd_same]
  · rw [if_neg hx, if_neg (fun z => hx (by injection z))]
    refine ⟨(h x).1, fun k2 z => ?_⟩
    obtain ⟨M, h1, h2, h3⟩ := (h x).2 k2 z
    exact ⟨M, h1, h2, by rw [upd_ne h2]; exact same_new nL _ _ h3⟩
def kin (j : Nat) (x : Str) : Option (List Bool) := if x ∈ W7.take j then some [false, false] else if x = "put" then some [true, false, false] else if x = "get" then some [true, false] else if x = "not" then some [false] else none
theorem kin_all (x : Str) : kin 7 x = kinds x := by
  unfold kin kinds
  rw [show W7.take 7 = W7 from rfl]
  by_cases h1 : x = "not"
  · rw [h1]
    decide +kernel
  · by_cases h2 : x = "get"
    · rw [h2]
      decide +kernel
    · simp only [h1, h2, if_false]
theorem kin_step {j : Nat} {wd : Str} (h : W7[j]? = some wd) (x : Str) : kin (j + 1) x = if x = wd then some [false, false] else kin j x := by
  unfold kin
  rw [List.take_succ, h]
  by_cases hx : x = wd
  · rw [if_pos hx, if_pos (by rw [hx]; simp)]
  · rw [if_neg hx]
    have : x ∈ W7.take j ++ (some wd).toList ↔ x ∈ W7.take j := by simp [hx]
    simp only [this]
theorem cntL_sum (ps : List PyData) (ks : List Bool) : cntL ps ks = ((ps.zip ks).map fun q => cnt q.1 (some q.2)).sum := by
  rw [cntL_zip]
  unfold cntS
  rw [List.map_map]
  rfl
theorem sum_cast (l : List Nat) : (l.map fun m : Nat => (m : Int)).sum = ((l.sum : Nat) : Int) := by
  induction l with
  | nil => rfl
  | cons a r ih =>
    rw [List.map_cons, List.sum_cons, List.sum_cons, ih]
    omega
def sp_many (K : PySem.W.Frag) (n : Nat) : Sp := fun vs H Q _ => ∃ (v : V) (d : PyData) (o : Option Bool) (e : Nat), vs = [v, optV o] ∧ e < n ∧ Dp K H v d ∧ Good e d ∧ ∀ H', Same H H' → Q (.int (cnt d o : Nat)) H'
theorem ok__law_many (T : Top K mg) : ∀ n : Nat, FnOk P w K mg base CX0 (n + 1) (He.ga K "_law_many") T.fd__law_many ["_law_term", "_law_wanted"] (sp_many K n)
  | 0 => by
    refine T.F__law_many.ok sc__law_many (fun vs H Q E h => ?_) (fun cdv A outer s H vs Q E hr h => ?_)
    · obtain ⟨v, d, o, e, rfl, _⟩ := h
      rfl
    · obtain ⟨v, d, o, e, rfl, h1, _⟩ := h
      omega
  | n + 1 => by
    have G__law_many := ok__law_many T n
    refine T.F__law_many.ok sc__law_many (fun vs H Q E h => ?_) (fun cdv A outer s H vs Q E hr h => ?_)
    · obtain ⟨v, d, o, e, rfl, _⟩ := h
      rfl
    · obtain ⟨v, d, o, e, rfl, hn, dp, gd, q⟩ := h
      refine ⟨_, PSs.nox (pss_cons (ps_if (PW.pt (pw_or (pt_not (pt_val (pe_callB call_isi (by rfl) T.m_isinstance (by decide +kernel) (pa_cons (pv 0) (pa_cons (pe_bltn (v := .ty "tuple") (by rfl) T.m_tuple (by decide +kernel) rfl) pa_nil))))) (pw_or (pt_cmpR op_eq (pe_callB call_len_seq (by rfl) T.m_len (by decide +kernel) (pa_cons (pv 0) pa_nil)) pe_int (nomark _)) (pw_or1 (pt_not (pt_val (pe_callB call_isi (by rfl) T.m_isinstance (by decide +kernel) (pa_cons (pe_ix ix_tup (pv 0) pe_int (fun _ _ => rfl)) (pa_cons (pe_bltn (v := .ty "str") (by rfl) T.m_str (by decide +kernel) rfl) pa_nil))))))))) (pss_one (ps_ret pe_int)) pss_nil)
        (pss_cons (ps_for PassesOwn.never (by rfl) (pi_tup (pe_slice sl_tupA (pv 0) (po_some pe_int) po_none)) (pg_name (i := 2) sc__law_many.nd rfl (Or.inl rfl)) (pss_one (ps_if (pt_val (pe_callB call_isi (by rfl) T.m_isinstance (by decide +kernel) (pa_cons (pv 2) (pa_cons (pe_bltn (v := .ty "bool") (by rfl) T.m_bool (by decide +kernel) rfl) pa_nil)))) (pss_one (ps_ret pe_int)) pss_nil)))
        (pss_cons (ps_set (i := 3) sc__law_many.nd rfl (Or.inr rfl) (pe_ix ix_tup (pv 0) pe_int (fun _ _ => rfl)))
        (pss_cons (ps_setLc (i := 4) (own := [("_law_part", 2)]) (by rfl) sc__law_many.nd rfl rfl (sw_true rfl rfl rfl (by decide +kernel)) (pi_tup (pe_slice sl_tupA (pv 0) (po_some pe_int) po_none)) (blkOk_by (own := [("_law_part", 2)]) (N := N__law_many) (sc := defScope s__law_many) (by decide +kernel)) (fun _ _ _ _ _ => (pg_name (i := 2) sc__law_many.nd rfl (Or.inl rfl))) (fun _ _ _ _ _ => (pts_one (pt_val (pe_callB (call_isiK (K := K) rfl) (by rfl) T.m_isinstance (by decide +kernel) (pa_cons (pv 2) (pa_cons (pe_bltn (v := .ty "int") (by rfl) T.m_int (by decide +kernel) rfl) pa_nil)))))) (fun _ _ _ _ _ => (pv 2)))
        (pss_cons (ps_if (pt_cmpR op_eq (pv 3) pe_str (nomark _)) (pss_cons (ps_set (i := 5) sc__law_many.nd rfl (Or.inl rfl) (pe_and (pe_cmpR op_eq (pe_callB call_len_seq (by rfl) T.m_len (by decide +kernel) (pa_cons (pv 0) pa_nil)) pe_int (nomark _)) (pe_and (pe_cmpR op_eq (pe_callB call_len_seq (by rfl) T.m_len (by decide +kernel) (pa_cons (pv 4) pa_nil)) pe_int (nomark _)) (pe_and (pe_chain op_le op_lt pe_int (pe_ix ix_tup (pv 0) pe_int (fun _ _ => rfl)) pe_int) (pe_one (pe_chain op_le op_lt pe_int (pe_ix ix_tup (pv 0) pe_int (fun _ _ => rfl)) pe_int))))))
        (pss_one (ps_ret (pe_ix ix_list (pe_lst (pa_cons pe_int (pa_cons pe_int pa_nil))) (pe_callTy call_int1 (by rfl) T.m_int (by decide +kernel) (pa_cons (pv 5) pa_nil)) (fun _ _ => rfl))))) pss_nil)
        (pss_cons (ps_if (pt_cmpR op_eq (pv 3) pe_str (nomark _)) (pss_one (ps_ret (pe_ix ix_list (pe_lst (pa_cons pe_int (pa_cons pe_int pa_nil))) (pe_callTy call_int1 (by rfl) T.m_int (by decide +kernel) (pa_cons (pe_and (pe_cmpR op_eq (pe_callB call_len_seq (by rfl) T.m_len (by decide +kernel) (pa_cons (pv 0) pa_nil)) pe_int (nomark _)) (pe_and (pe_cmpR op_eq (pe_callB call_len_seq (by rfl) T.m_len (by decide +kernel) (pa_cons (pv 4) pa_nil)) pe_int (nomark _)) (pe_one (pe_chain op_le op_lt pe_int (pe_ix ix_tup (pv 0) pe_int (fun _ _ => rfl)) pe_int)))) pa_nil)) (fun _ _ => rfl)))) pss_nil)
        (pss_cons (ps_if (PW.pt (pw_and (pt_cmpR op_notN (pv 1) pe_non (nomark _)) (pw_and1 (pt_cmpR op_ne (pv 1) (pe_cmpR op_in_seq (pv 3) (pe_tup (pa_cons pe_str (pa_cons pe_str pa_nil))) (by rfl)) (nomark _))))) (pss_one (ps_ret pe_int)) pss_nil)
        (pss_cons (ps_if (pt_cmpR op_eq (pv 3) pe_str (nomark _)) (pss_one (ps_ret (pe_ix ix_list (pe_lst (pa_cons pe_int (pa_cons pe_int pa_nil))) (pe_callTy call_int1 (by rfl) T.m_int (by decide +kernel) (pa_cons (pe_and (pe_cmpR op_eq (pe_callB call_len_seq (by rfl) T.m_len (by decide +kernel) (pa_cons (pv 0) pa_nil)) pe_int (nomark _)) (pe_and (pe_cmpR op_eq (pe_callB call_len_seq (by rfl) T.m_len (by decide +kernel) (pa_cons (pv 4) pa_nil)) pe_int (nomark _)) (pe_one (pe_chain op_le op_lt (pe_un un_neg pe_int) (pe_ix ix_tup (pv 0) pe_int (fun _ _ => rfl)) pe_int)))) pa_nil)) (fun _ _ => rfl)))) pss_nil)
        (pss_cons (ps_if (pt_cmpR op_eq (pv 3) pe_str (nomark _)) (pss_one (ps_ret (pe_ix ix_list (pe_lst (pa_cons pe_int (pa_cons pe_int pa_nil))) (pe_callTy call_int1 (by rfl) T.m_int (by decide +kernel) (pa_cons (pe_and (pe_cmpR op_eq (pe_callB call_len_seq (by rfl) T.m_len (by decide +kernel) (pa_cons (pv 0) pa_nil)) pe_int (nomark _)) (pe_and (pe_cmpR op_eq (pe_callB call_len_seq (by rfl) T.m_len (by decide +kernel) (pa_cons (pv 4) pa_nil)) pe_int (nomark _)) (pe_one (pe_chain op_le op_le pe_int (pe_ix ix_tup (pv 0) pe_int (fun _ _ => rfl)) pe_int)))) pa_nil)) (fun _ _ => rfl)))) pss_nil)
        (pss_cons (ps_set (i := 6) sc__law_many.nd rfl (Or.inr rfl) (pe_disp (pps_cons pe_str (pe_lst (pa_cons pe_bl pa_nil)) (pps_cons pe_str (pe_lst (pa_cons pe_bl (pa_cons pe_bl pa_nil))) (pps_cons pe_str (pe_lst (pa_cons pe_bl (pa_cons pe_bl (pa_cons pe_bl pa_nil)))) pps_nil))) (by rfl) (by rfl) (fun z => by cases z) (by decide)))
        (pss_cons (ps_for PassesOwn.never (by rfl) (pi_tup (pe_tup (pa_cons pe_str (pa_cons pe_str (pa_cons pe_str (pa_cons pe_str (pa_cons pe_str (pa_cons pe_str (pa_cons pe_str pa_nil))))))))) (pg_name (i := 7) sc__law_many.nd rfl (Or.inl rfl)) (pss_one (ps_dput (hu_of hr) (pv 6) (pv 7) (pe_lst (pa_cons pe_bl (pa_cons pe_bl pa_nil))) (by rfl))))
        (pss_cons (ps_if (PW.pt (pw_or (pt_cmp (pc_dnotin (hu_of hr) (pv 3) (pv 6))) (pw_or1 (pt_cmpR op_ne (pe_callB call_len_seq (by rfl) T.m_len (by decide +kernel) (pa_cons (pe_dget (hu_of hr) (pv 6) (pv 3) (fun _ _ => rfl)) pa_nil)) (pe_op op_sub (pe_callB call_len_seq (by rfl) T.m_len (by decide +kernel) (pa_cons (pv 0) pa_nil)) pe_int) (nomark _))))) (pss_one (ps_ret pe_int)) pss_nil)
        (pss_one (ps_ret (pe_callB (call_min2 rfl) (by rfl) T.m_min (by decide +kernel) (pa_cons pe_int (pa_cons (pe_op op_add pe_int (pe_callB (cr_sum (by rfl)) (by rfl) T.m_sum (by decide +kernel) (pa_cons (pe_lc (own := [("_law_k", 8)]) (by rfl) sc__law_many.nd (pi_range1 (by rfl) T.m_range (pa_cons (pe_op op_sub (pe_callB call_len_seq (by rfl) T.m_len (by decide +kernel) (pa_cons (pv 0) pa_nil)) pe_int) pa_nil)) (blkOk_by (own := [("_law_k", 8)]) (N := N__law_many) (sc := defScope s__law_many) (by decide +kernel)) (fun _ _ _ _ _ => (pg_name (i := 8) sc__law_many.nd rfl (Or.inl rfl))) (fun _ _ _ _ _ => pts_nil) (fun _ _ _ _ _ => (pe_call G__law_many (hr.mono (by omega)) (by rfl) T.g__law_many T.F__law_many.kp T.b__law_many .nil pass0 (pa_cons (pe_ix (ix_tupK (K := K) rfl) (pv 0) (pe_op op_add (pv 8) pe_int) (fun _ _ => rfl)) (pa_cons (pe_ix (ix_listK (K := K) rfl) (pe_dget (hu_of hr) (pv 6) (pv 3) (fun _ _ => rfl)) (pv 8) (fun _ _ => rfl)) pa_nil))))) pa_nil))) pa_nil))))))))))))))))), ?_⟩
      have big : ∀ n : Nat, n ≤ 10000 → n ≤ sizeLine := fun n h => by rw [sizeLine_eq]; omega
      have ty := dp_ty dp
      have q1 : cnt d o = 100 → ∀ H', Same H H' → Q (.int 100) H' := fun z H' s' => by
        have := q H' s'
        rw [z] at this
        exact this
      refine ifs_by (fun σ' H' => ∃ x ps, H = H' ∧ d = .tuple (.str x :: ps) ∧ σ' = [some v, some (optV o), none, none, none, none, none, none, none]) ?_ ?_
      rotate_left
      · intro N hN
        refine ⟨_, rfl, _, _, _, _, isT d, rfl, .ty _, ty, kit_tup d, _, rfl, ?_⟩
        cases hT : isT d with
        | false => exact q1 (by cases d <;> simp [isT] at hT <;> simp [cnt]) H (Same.refl _)
        | true =>
          obtain ⟨ds, rfl⟩ : ∃ ds, d = .tuple ds := by
            cases d <;> simp [isT] at hT
            exact ⟨_, rfl⟩
          obtain ⟨p, ys, rfl, hp, da⟩ := dp_tup dp
          refine ⟨_, rfl, p, _, rfl, .inr hp, rfl, _, rfl, ?_⟩
          cases ds with
          | nil =>
            rw [dpAll_nil da]
            exact q1 (by simp [cnt]) H (Same.refl _)
          | cons e ds =>
            obtain ⟨z, zs, rfl, de, dz⟩ := dpAll_cons da
            refine ifN (fun h => nomatch (show ((zs.length : Int) + 1 = 0) from V.int.inj h)) ?_
            refine ⟨_, rfl, p, _, 0, _, rfl, rfl, hp, atI_nat (j := 0) rfl, _, _, _, _, isS e, rfl, .ty _, dp_ty de, kit_str e, _, rfl, ?_⟩
            cases hS : isS e with
            | false => exact q1 (by cases e <;> simp [isS] at hS <;> simp [cnt]) H (Same.refl _)
            | true =>
              obtain ⟨x, rfl⟩ : ∃ x, e = .str x := by
                cases e <;> simp [isS] at hS
                exact ⟨_, rfl⟩
              exact hN _ _ ⟨x, ds, rfl, rfl, rfl⟩
      rintro σ' H' ⟨x, ps, rfl, rfl, rfl⟩
      obtain ⟨p, ys, rfl, hp, da⟩ := dp_tup dp
      obtain ⟨x0, zs, rfl, d0, dz⟩ := dpAll_cons da
      cases dp_str d0
      clear da
      rename DpAll K H zs ps => da
      obtain ⟨e', rfl, ge, le⟩ := good_inv gd
      rw [List.length_cons] at le
      have vl := dpAll_len da
      refine ⟨_, rfl, 1, rfl, p, _, rfl, hp, fun z => absurd z tail_no, fun _ S nS => ?_⟩
      rw [cut_tail]
      have kS := same_new (o := .tup zs) nS
      refine ⟨S, rfl, ⟨_, .of upd_same⟩, for_tup (K := K) (xs := zs) (fun j σ' H' => Same H H' ∧ SqT K H' S zs ∧ (ps.take j).any isB = false ∧ ∃ x2, σ' = [some (.ref p), some (optV o), x2, none, none, none, none, none, none]) ?_ ?_ ?_ ?_⟩
      · exact ⟨kS, .of upd_same, rfl, none, rfl⟩
      · rintro j σ' H1 _ ⟨_, h, _⟩
        exact h
      · rintro j y σ' H1 hj ⟨s1, hS, nb, x2, rfl⟩
        obtain ⟨dj, hdj, ddj⟩ := dpAll_getV da hj
        refine ⟨_, rfl, _, _, _, _, isB dj, rfl, .ty _, dp_ty (dp_sm s1 ddj), kit_bool dj, _, rfl, ?_⟩
        cases hB : isB dj with
        | true => exact q1 (cnt_any (List.any_eq_true.mpr ⟨dj, List.mem_of_getElem? hdj, hB⟩)) _ s1
        | false =>
          refine ⟨s1, hS, ?_, _, rfl⟩
          have hl : j < ps.length := (List.getElem?_eq_some_iff.mp hdj).1
          rw [List.take_succ, hdj, List.any_append, nb]
          simp [hB]
      rintro σ' H1 ⟨s1, hS, nb, x2, rfl⟩
      rw [vl, List.take_length] at nb
      have hp1 := sqT_kp (Kp.of_same (S := fun _ => False) s1) hp
      refine ⟨_, rfl, p, _, 0, _, rfl, rfl, hp1, atI_nat (j := 0) rfl, ?_⟩
      refine ⟨_, rfl, 1, rfl, p, _, rfl, hp1, fun z => absurd z tail_no, fun _ S2 nS2 => ?_⟩
      rw [cut_tail]
      have kS2 := same_new (o := .tup zs) nS2
      refine ⟨S2, rfl, ⟨_, .of upd_same⟩, fun LN nLN => ?_⟩
      have s2 := s1.trans kS2
      refine lc_tup (K := K) (xs := zs) (fun j H' => Same (upd H1 S2 (.tup zs)) H' ∧ ∃ ns, H' LN = some (.lst ns) ∧ ns.length = ((ps.take j).filter isI).length) ?_ ?_ ?_ ?_
      · exact ⟨same_new nLN, [], upd_same, rfl⟩
      · rintro j H' _ ⟨s', _⟩
        exact sqT_kp (Kp.of_same (S := fun _ => False) s') (.of upd_same)
      · rintro j y H' hj ⟨s', ns, eN, lN⟩
        obtain ⟨dj, hdj, ddj⟩ := dpAll_getV da hj
        have hl : j < ps.length := (List.getElem?_eq_some_iff.mp hdj).1
        refine ⟨rfl, _, rfl, _, _, _, _, isI dj, rfl, .ty _, dp_ty (dp_sm (s2.trans s') ddj), kit_int dj, _, rfl, ?_⟩
        have ll : ns.length ≤ 100 := by
          rw [lN]
          have h1 := List.length_filter_le isI (ps.take j)
          rw [List.length_take] at h1
          omega
        cases hB : isI dj with
        | true =>
          refine ⟨_, rfl, _, eN, by rw [sizeLine_eq]; omega, same_upd s' nLN, _, upd_same, ?_⟩
          rw [List.length_append, lN, List.take_succ, hdj, List.filter_append, List.length_append]
          simp [hB]
        | false =>
          refine ⟨s', ns, eN, ?_⟩
          rw [lN, List.take_succ, hdj, List.filter_append, List.length_append]
          simp [hB]
      rintro HH ⟨s', ns, eN, lN⟩
      rw [vl, List.take_length] at lN
      have HS := s2.trans s'
      have hpH := sqT_kp (Kp.of_same (S := fun _ => False) HS) hp
      dsimp only [gName]
      refine ifs_by (fun σ' H' => HH = H' ∧ x ≠ "old" ∧ σ' = [some (.ref p), some (optV o), x2, some (.str x), some (.ref LN), none, none, none, none]) ?_ ?_
      rotate_left
      · intro N hN
        refine ⟨_, rfl, rfl, _, rfl, ite2 (fun g => ?_) (fun g => hN _ _ ⟨rfl, fun z => g (by rw [z]; rfl), rfl⟩)⟩
        · have hw : x = "old" := by
            have := of_decide_eq_true g
            injection this
          have qL : ∀ H', Same H H' → Q (.int (if leafOk x ps = true then 1 else 100)) H' := fun H' s9 => by
            have := q H' s9
            rw [cnt_old nb (by rw [hw]; decide +kernel)] at this
            by_cases h : leafOk x ps = true
            · rw [if_pos h] at this ⊢
              exact this
            · rw [if_neg h] at this ⊢
              exact this
          have lf : leafOk x ps = twoR ps := by rw [hw]; exact leaf_old ps
          refine seq_by (fun σ' H' => ∃ g, HH = H' ∧ g = leafOk x ps ∧ σ' = [some (.ref p), some (optV o), x2, some (.str x), some (.ref LN), some (.bl g), none, none, none]) ?_ (fun N hN => ?_)
          · rintro σ' H' ⟨g, rfl, hg, rfl⟩
            refine ⟨big 2 (by decide), fun L nL => ⟨_, rfl, .inr ⟨g, rfl, L, _, _, _, rfl, rfl, .of upd_same, pick, ?_⟩⟩⟩
            rw [hg]
            exact qL _ (HS.trans (same_new nL))
          refine ⟨_, rfl, p, _, rfl, .inr hpH, rfl, _, rfl, ?_⟩
          by_cases l2 : ps.length = 2
          · refine ifD (by rw [List.length_cons, vl, l2]; rfl) ⟨_, rfl, LN, _, rfl, .inl (.of eN), rfl, _, rfl, ?_⟩
            obtain ⟨a, b, rfl⟩ := two_of l2
            obtain ⟨v1, r1, rfl, da1, dr1⟩ := dpAll_cons da
            obtain ⟨v2, r2, rfl, da2, dr2⟩ := dpAll_cons dr1
            cases dpAll_nil dr2
            have nB : isB a = false ∧ isB b = false := by simpa using nb
            by_cases hI : isI a = true ∧ isI b = true
            · obtain ⟨i, rfl⟩ := isI_int hI.1 nB.1
              obtain ⟨j, rfl⟩ := isI_int hI.2 nB.2
              cases dp_int da1
              cases dp_int da2
              refine ifD (by rw [lN]; rfl) ⟨_, rfl, p, _, 1, _, rfl, rfl, hpH, atI_nat (j := 1) rfl, _, _, rfl, rfl, _, rfl, ?_⟩
              have lf2 : leafOk x [.int i, .int j] = ((decide (0 ≤ i) && decide (i ≤ 4)) && (decide (0 ≤ j) && decide (j ≤ 9999))) := lf
              by_cases h1 : (0 : Int) ≤ i
              · refine ifD h1 ⟨_, _, rfl, rfl, _, rfl, ?_⟩
                by_cases h2 : i < 5
                · refine ifD h2 ⟨_, rfl, p, _, 2, _, rfl, rfl, hpH, atI_nat (j := 2) rfl, _, _, rfl, rfl, _, rfl, ?_⟩
                  by_cases h3 : (0 : Int) ≤ j
                  · refine ifD h3 ⟨_, _, rfl, rfl, hN _ _ ⟨_, rfl, ?_, rfl⟩⟩
                    rw [lf2, decide_eq_true h1, decide_eq_true h3, decide_eq_true (show i ≤ 4 by omega), Bool.true_and, Bool.true_and, Bool.true_and]
                    exact decide_eq_decide.mpr (by omega)
                  · refine ifN h3 (hN _ _ ⟨false, rfl, ?_, rfl⟩)
                    rw [lf2, decide_eq_false h3, Bool.false_and, Bool.and_false]
                · refine ifN h2 (hN _ _ ⟨false, rfl, ?_, rfl⟩)
                  rw [lf2, decide_eq_false (show ¬ i ≤ 4 by omega), Bool.and_false, Bool.false_and]
              · refine ifN h1 ⟨_, rfl, hN _ _ ⟨false, rfl, ?_, rfl⟩⟩
                rw [lf2, decide_eq_false h1, Bool.false_and, Bool.false_and]
            · refine ifN (fun z => ?_) (hN _ _ ⟨false, rfl, ?_, rfl⟩)
              · rw [lN] at z
                have z1 : ((([a, b] : List PyData).filter isI).length : Int) = 2 := V.int.inj z
                apply hI
                cases ha : isI a <;> cases hb : isI b <;> simp [ha, hb] at z1 ⊢
              · rw [lf]
                show false = (inR 0 4 a && inR 0 9999 b)
                cases ha : isI a with
                | false => rw [show inR 0 4 a = false by cases a <;> simp [isI] at ha <;> rfl, Bool.false_and]
                | true =>
                  have hb : isI b = false := by
                    cases h : isI b with
                    | false => rfl
                    | true => exact absurd ⟨ha, h⟩ hI
                  rw [show inR 0 9999 b = false by cases b <;> simp [isI] at hb <;> rfl, Bool.and_false]
          · refine ifN (fun z => ?_) (hN _ _ ⟨false, rfl, ?_, rfl⟩)
            · have z1 : (((V.str x :: zs).length : Nat) : Int) = 3 := V.int.inj z
              rw [List.length_cons, vl] at z1
              omega
            · rw [lf]
              cases ps with
              | nil => rfl
              | cons a r =>
                cases r with
                | nil => rfl
                | cons b r =>
                  cases r with
                  | nil => exact absurd rfl l2
                  | cons c r => rfl
      rintro σ' H' ⟨rfl, no1, rfl⟩
      refine ifs_by (fun σ' H' => HH = H' ∧ x ≠ "new" ∧ σ' = [some (.ref p), some (optV o), x2, some (.str x), some (.ref LN), none, none, none, none]) ?_ ?_
      rotate_left
      · intro N hN
        refine ⟨_, rfl, rfl, _, rfl, ite2 (fun g => ?_) (fun g => hN _ _ ⟨rfl, fun z => g (by rw [z]; rfl), rfl⟩)⟩
        · have hw : x = "new" := by
            have := of_decide_eq_true g
            injection this
          have qL : ∀ H', Same H H' → Q (.int (if leafOk x ps = true then 1 else 100)) H' := fun H' s9 => by
            have := q H' s9
            rw [cnt_old nb (by rw [hw]; decide +kernel)] at this
            by_cases h : leafOk x ps = true
            · rw [if_pos h] at this ⊢
              exact this
            · rw [if_neg h] at this ⊢
              exact this
          refine ⟨big 2 (by decide), fun L nL => ?_⟩
          have kL := HS.trans (same_new (o := .lst [.int 100, .int 1]) nL)
          have q2 : ∀ g : Bool, g = leafOk x ps → Q (.int (if g = true then 1 else 100)) (upd HH L (.lst [.int 100, .int 1])) := fun g hg => by
            rw [hg]
            exact qL _ kL
          have lf : leafOk x ps = oneR (0) 9999 ps := by rw [hw]; exact leaf_new ps
          have eN2 := same_new (o := .lst [.int 100, .int 1]) nL _ _ eN
          refine ⟨_, rfl, p, _, rfl, .inr (sqT_kp (Kp.of_same (S := fun _ => False) kL) hp), rfl, _, rfl, ?_⟩
          by_cases l1 : ps.length = 1
          · refine ifD (by rw [List.length_cons, vl, l1]; rfl) ⟨_, rfl, LN, _, rfl, .inl (.of eN2), rfl, _, rfl, ?_⟩
            obtain ⟨a, rfl⟩ := List.length_eq_one_iff.mp l1
            obtain ⟨v1, r1, rfl, da1, dr1⟩ := dpAll_cons da
            cases dpAll_nil dr1
            cases hI : isI a with
            | false =>
              refine ifN (fun z => ?_) (.inr ⟨false, rfl, L, _, _, _, rfl, rfl, .of upd_same, rfl, q2 false ?_⟩)
              · rw [lN] at z
                have z1 : ((([a] : List PyData).filter isI).length : Int) = 1 := V.int.inj z
                simp [hI] at z1
              · rw [lf]
                cases a <;> simp [isI] at hI <;> rfl
            | true =>
              obtain ⟨i, rfl⟩ := isI_int hI (by simpa using nb)
              cases dp_int da1
              refine ifD (by rw [lN]; rfl) ⟨_, rfl, p, _, 1, _, rfl, rfl, sqT_kp (Kp.of_same (S := fun _ => False) kL) hp, atI_nat (j := 1) rfl, _, _, rfl, rfl, _, rfl, ?_⟩
              by_cases h1 : (0 : Int) ≤ i
              · refine ifD h1 ⟨_, _, rfl, rfl, .inr ⟨_, rfl, L, _, _, _, rfl, rfl, .of upd_same, pick, q2 _ ?_⟩⟩
                rw [lf]
                show decide (i < 10000) = (decide ((0 : Int) ≤ i) && decide (i ≤ 9999))
                rw [decide_eq_true h1, Bool.true_and]
                all_goals exact decide_eq_decide.mpr (by omega)
              · refine ifN h1 (.inr ⟨false, rfl, L, _, _, _, rfl, rfl, .of upd_same, rfl, q2 false ?_⟩)
                rw [lf]
                show false = (decide ((0 : Int) ≤ i) && _)
                rw [decide_eq_false h1]
                rfl
          · refine ifN (fun z => ?_) (.inr ⟨false, rfl, L, _, _, _, rfl, rfl, .of upd_same, rfl, q2 false ?_⟩)
            · have z1 : (((V.str x :: zs).length : Nat) : Int) = 2 := V.int.inj z
              rw [List.length_cons, vl] at z1
              omega
            · rw [lf]
              cases ps with
              | nil => rfl
              | cons a r =>
                cases r with
                | nil => exact absurd rfl l1
                | cons b r => rfl
      rintro σ' H' ⟨rfl, no2, rfl⟩
      have hO : oldNew x = false := by
        unfold oldNew
        rw [decide_eq_false no1, decide_eq_false no2]
        rfl
      refine ifs_by (fun σ' H' => Same HH H' ∧ (o.isSome && (o != some (rowWd x))) = false ∧ σ' = [some (.ref p), some (optV o), x2, some (.str x), some (.ref LN), none, none, none, none]) ?_ ?_
      rotate_left
      · intro N hN
        refine ⟨_, rfl, rfl, _, rfl, ?_⟩
        cases o with
        | none => exact hN _ _ ⟨Same.refl _, rfl, rfl⟩
        | some b =>
          refine ⟨_, rfl, _, rfl, big 2 (by decide), fun T2 nT2 => ?_⟩
          have k5 := same_new (o := .tup [.str "fresh", .str "put"]) nT2
          refine ⟨T2, _, rfl, .inr (.of upd_same), rfl, rfl, rfl, _, rfl, ?_⟩
          by_cases hb : b = rowWd x
          · refine ifF (by show (!decide (V.bl b = V.bl (inV _ _))) = false; rw [in_row, hb]; simp) ?_
            exact hN _ _ ⟨k5, by simp [hb], rfl⟩
          · refine ifT (by show (!decide (V.bl b = V.bl (inV _ _))) = true; rw [in_row]; simp [hb]) ?_
            exact q1 (cnt_row hO hb) _ (HS.trans k5)
      rintro σ' H8 ⟨k8, hrow, rfl⟩
      replace HS := HS.trans k8
      replace eN := k8 _ _ eN
      clear hpH s' 
      have qL0 : (x = "number" ∨ x = "fresh") → ∀ H', Same H H' → Q (.int (if leafOk x ps = true then 1 else 100)) H' := fun hx H' s9 => by
        have := q H' s9
        rw [cnt_leaf nb hO hrow hx] at this
        by_cases h : leafOk x ps = true
        · rw [if_pos h] at this ⊢
          exact this
        · rw [if_neg h] at this ⊢
          exact this
      refine ifs_by (fun σ' H' => H8 = H' ∧ x ≠ "number" ∧ σ' = [some (.ref p), some (optV o), x2, some (.str x), some (.ref LN), none, none, none, none]) ?_ ?_
      rotate_left
      · intro N hN
        refine ⟨_, rfl, rfl, _, rfl, ite2 (fun g => ?_) (fun g => hN _ _ ⟨rfl, fun z => g (by rw [z]; rfl), rfl⟩)⟩
        · have hw : x = "number" := by
            have := of_decide_eq_true g
            injection this
          have qL := qL0 (.inl hw)
          refine ⟨big 2 (by decide), fun L nL => ?_⟩
          have kL := HS.trans (same_new (o := .lst [.int 100, .int 1]) nL)
          have q2 : ∀ g : Bool, g = leafOk x ps → Q (.int (if g = true then 1 else 100)) (upd H8 L (.lst [.int 100, .int 1])) := fun g hg => by
            rw [hg]
            exact qL _ kL
          have lf : leafOk x ps = oneR (-2147483648) 2147483647 ps := by rw [hw]; exact leaf_number ps
          have eN2 := same_new (o := .lst [.int 100, .int 1]) nL _ _ eN
          refine ⟨_, rfl, p, _, rfl, .inr (sqT_kp (Kp.of_same (S := fun _ => False) kL) hp), rfl, _, rfl, ?_⟩
          by_cases l1 : ps.length = 1
          · refine ifD (by rw [List.length_cons, vl, l1]; rfl) ⟨_, rfl, LN, _, rfl, .inl (.of eN2), rfl, _, rfl, ?_⟩
            obtain ⟨a, rfl⟩ := List.length_eq_one_iff.mp l1
            obtain ⟨v1, r1, rfl, da1, dr1⟩ := dpAll_cons da
            cases dpAll_nil dr1
            cases hI : isI a with
            | false =>
              refine ifN (fun z => ?_) (.inr ⟨false, rfl, L, _, _, _, rfl, rfl, .of upd_same, rfl, q2 false ?_⟩)
              · rw [lN] at z
                have z1 : ((([a] : List PyData).filter isI).length : Int) = 1 := V.int.inj z
                simp [hI] at z1
              · rw [lf]
                cases a <;> simp [isI] at hI <;> rfl
            | true =>
              obtain ⟨i, rfl⟩ := isI_int hI (by simpa using nb)
              cases dp_int da1
              refine ifD (by rw [lN]; rfl) ⟨_, rfl, _, rfl, p, _, 1, _, rfl, rfl, sqT_kp (Kp.of_same (S := fun _ => False) kL) hp, atI_nat (j := 1) rfl, _, _, rfl, rfl, _, rfl, ?_⟩
              by_cases h1 : (-2147483648 : Int) ≤ i
              · refine ifD h1 ⟨_, _, rfl, rfl, .inr ⟨_, rfl, L, _, _, _, rfl, rfl, .of upd_same, pick, q2 _ ?_⟩⟩
                rw [lf]
                show decide (i < 2147483648) = (decide ((-2147483648 : Int) ≤ i) && decide (i ≤ 2147483647))
                rw [decide_eq_true h1, Bool.true_and]
                all_goals exact decide_eq_decide.mpr (by omega)
              · refine ifN h1 (.inr ⟨false, rfl, L, _, _, _, rfl, rfl, .of upd_same, rfl, q2 false ?_⟩)
                rw [lf]
                show false = (decide ((-2147483648 : Int) ≤ i) && _)
                rw [decide_eq_false h1]
                rfl
          · refine ifN (fun z => ?_) (.inr ⟨false, rfl, L, _, _, _, rfl, rfl, .of upd_same, rfl, q2 false ?_⟩)
            · have z1 : (((V.str x :: zs).length : Nat) : Int) = 2 := V.int.inj z
              rw [List.length_cons, vl] at z1
              omega
            · rw [lf]
              cases ps with
              | nil => rfl
              | cons a r =>
                cases r with
                | nil => exact absurd rfl l1
                | cons b r => rfl
      rintro σ' H' ⟨rfl, no3, rfl⟩
      refine ifs_by (fun σ' H' => H8 = H' ∧ x ≠ "fresh" ∧ σ' = [some (.ref p), some (optV o), x2, some (.str x), some (.ref LN), none, none, none, none]) ?_ ?_
      rotate_left
      · intro N hN
        refine ⟨_, rfl, rfl, _, rfl, ite2 (fun g => ?_) (fun g => hN _ _ ⟨rfl, fun z => g (by rw [z]; rfl), rfl⟩)⟩
        · have hw : x = "fresh" := by
            have := of_decide_eq_true g
            injection this
          have qL := qL0 (.inr hw)
          refine ⟨big 2 (by decide), fun L nL => ?_⟩
          have kL := HS.trans (same_new (o := .lst [.int 100, .int 1]) nL)
          have q2 : ∀ g : Bool, g = leafOk x ps → Q (.int (if g = true then 1 else 100)) (upd H8 L (.lst [.int 100, .int 1])) := fun g hg => by
            rw [hg]
            exact qL _ kL
          have lf : leafOk x ps = oneR (1) 8 ps := by rw [hw]; exact leaf_fresh ps
          have eN2 := same_new (o := .lst [.int 100, .int 1]) nL _ _ eN
          refine ⟨_, rfl, p, _, rfl, .inr (sqT_kp (Kp.of_same (S := fun _ => False) kL) hp), rfl, _, rfl, ?_⟩
          by_cases l1 : ps.length = 1
          · refine ifD (by rw [List.length_cons, vl, l1]; rfl) ⟨_, rfl, LN, _, rfl, .inl (.of eN2), rfl, _, rfl, ?_⟩
            obtain ⟨a, rfl⟩ := List.length_eq_one_iff.mp l1
            obtain ⟨v1, r1, rfl, da1, dr1⟩ := dpAll_cons da
            cases dpAll_nil dr1
            cases hI : isI a with
            | false =>
              refine ifN (fun z => ?_) (.inr ⟨false, rfl, L, _, _, _, rfl, rfl, .of upd_same, rfl, q2 false ?_⟩)
              · rw [lN] at z
                have z1 : ((([a] : List PyData).filter isI).length : Int) = 1 := V.int.inj z
                simp [hI] at z1
              · rw [lf]
                cases a <;> simp [isI] at hI <;> rfl
            | true =>
              obtain ⟨i, rfl⟩ := isI_int hI (by simpa using nb)
              cases dp_int da1
              refine ifD (by rw [lN]; rfl) ⟨_, rfl, p, _, 1, _, rfl, rfl, sqT_kp (Kp.of_same (S := fun _ => False) kL) hp, atI_nat (j := 1) rfl, _, _, rfl, rfl, _, rfl, ?_⟩
              by_cases h1 : (1 : Int) ≤ i
              · refine ifD h1 ⟨_, _, rfl, rfl, .inr ⟨_, rfl, L, _, _, _, rfl, rfl, .of upd_same, pick, q2 _ ?_⟩⟩
                rw [lf]
                show decide (i ≤ 8) = (decide ((1 : Int) ≤ i) && decide (i ≤ 8))
                rw [decide_eq_true h1, Bool.true_and]
                all_goals exact decide_eq_decide.mpr (by omega)
              · refine ifN h1 (.inr ⟨false, rfl, L, _, _, _, rfl, rfl, .of upd_same, rfl, q2 false ?_⟩)
                rw [lf]
                show false = (decide ((1 : Int) ≤ i) && _)
                rw [decide_eq_false h1]
                rfl
          · refine ifN (fun z => ?_) (.inr ⟨false, rfl, L, _, _, _, rfl, rfl, .of upd_same, rfl, q2 false ?_⟩)
            · have z1 : (((V.str x :: zs).length : Nat) : Int) = 2 := V.int.inj z
              rw [List.length_cons, vl] at z1
              omega
            · rw [lf]
              cases ps with
              | nil => rfl
              | cons a r =>
                cases r with
                | nil => exact absurd rfl l1
                | cons b r => rfl
      rintro σ' H' ⟨rfl, no4, rfl⟩
      have cin := cnt_in nb hO hrow (show ¬ (x = "number" ∨ x = "fresh") from fun z => z.elim no3 no4)
      refine fun Dk nDk => ⟨big 1 (by decide), fun L1 nL1 => ⟨big 2 (by decide), fun L2 nL2 => ⟨big 3 (by decide), fun L3 nL3 => ?_⟩⟩⟩
      have a1 := same_new (o := .lst [.bl false]) nL1
      have a2 := same_new (o := .lst [.bl true, .bl false]) nL2
      have a3 := same_new (o := .lst [.bl true, .bl false, .bl false]) nL3
      have eD0 : upd H8 Dk (.dK []) Dk = some (.dK []) := upd_same
      have eD3 := a3 _ _ (a2 _ _ (a1 _ _ eD0))
      refine ⟨eD3, [(.inr "not", .ref L1), (.inr "get", .ref L2), (.inr "put", .ref L3)], rfl, by simp, ?_⟩
      have m1 : L1 ≠ Dk := (ne_of_none eD0 nL1).symm
      have m2 : L2 ≠ Dk := (ne_of_none (a1 _ _ eD0) nL2).symm
      have m3 : L3 ≠ Dk := (ne_of_none (a2 _ _ (a1 _ _ eD0)) nL3).symm
      have sD : Same H8 (upd (upd (upd (upd (upd H8 Dk (.dK [])) L1 (.lst [.bl false])) L2 (.lst [.bl true, .bl false])) L3 (.lst [.bl true, .bl false, .bl false])) Dk (.dK (mergeK [] [(.inr "not", .ref L1), (.inr "get", .ref L2), (.inr "put", .ref L3)]))) :=
        same_upd ((((same_new nDk).trans a1).trans a2).trans a3) nDk
      have kt : KT (upd (upd (upd (upd (upd H8 Dk (.dK [])) L1 (.lst [.bl false])) L2 (.lst [.bl true, .bl false])) L3 (.lst [.bl true, .bl false, .bl false])) Dk (.dK (mergeK [] [(.inr "not", .ref L1), (.inr "get", .ref L2), (.inr "put", .ref L3)]))) Dk (mergeK [] [(.inr "not", .ref L1), (.inr "get", .ref L2), (.inr "put", .ref L3)]) (kin 0) := by
        intro y
        have e1 : valV (mergeK [] [(.inr "not", .ref L1), (.inr "get", .ref L2), (.inr "put", .ref L3)]) (.inr y : Key) = if y = "put" then some (.ref L3) else if y = "get" then some (.ref L2) else if y = "not" then some (.ref L1) else none := by
          simp only [mergeK, List.foldl_cons, List.foldl_nil, valV_put, Sum.inr.injEq, valV_nil]
        have e2 : kin 0 y = if y = "put" then some [true, false, false] else if y = "get" then some [true, false] else if y = "not" then some [false] else none := by
          unfold kin
          rw [List.take_zero, if_neg (by simp)]
        rw [e1, e2]
        by_cases h1 : y = "put"
        · simp only [if_pos h1]
          refine ⟨(fun z => nomatch z), fun ks z => ⟨L3, rfl, m3, ?_⟩⟩
          cases z
          rw [upd_ne m3, upd_same]
          rfl
        · by_cases h2 : y = "get"
          · simp only [if_neg h1, if_pos h2]
            refine ⟨(fun z => nomatch z), fun ks z => ⟨L2, rfl, m2, ?_⟩⟩
            cases z
            rw [upd_ne m2]
            exact a3 _ _ upd_same
          · by_cases h3 : y = "not"
            · simp only [if_neg h1, if_neg h2, if_pos h3]
              refine ⟨(fun z => nomatch z), fun ks z => ⟨L1, rfl, m1, ?_⟩⟩
              cases z
              rw [upd_ne m1]
              exact a3 _ _ (a2 _ _ upd_same)
            · simp only [if_neg h1, if_neg h2, if_neg h3]
              exact ⟨by simp, (fun ks z => nomatch z)⟩
      have eDk : upd (upd (upd (upd (upd H8 Dk (.dK [])) L1 (.lst [.bl false])) L2 (.lst [.bl true, .bl false])) L3 (.lst [.bl true, .bl false, .bl false])) Dk (.dK (mergeK [] [(.inr "not", .ref L1), (.inr "get", .ref L2), (.inr "put", .ref L3)])) Dk = some (.dK (mergeK [] [(.inr "not", .ref L1), (.inr "get", .ref L2), (.inr "put", .ref L3)])) := upd_same
      have kl := length_mergeK [(.inr "not", .ref L1), (.inr "get", .ref L2), (.inr "put", .ref L3)] ([] : List (Key × V))
      simp only [List.length_cons, List.length_nil] at kl
      generalize upd (upd (upd (upd (upd H8 Dk (.dK [])) L1 (.lst [.bl false])) L2 (.lst [.bl true, .bl false])) L3 (.lst [.bl true, .bl false, .bl false])) Dk (.dK (mergeK [] [(.inr "not", .ref L1), (.inr "get", .ref L2), (.inr "put", .ref L3)])) = H9 at kt sD eDk ⊢
      generalize mergeK [] [(.inr "not", .ref L1), (.inr "get", .ref L2), (.inr "put", .ref L3)] = kvs at kt eDk kl
      refine ⟨big 7 (by decide), fun T7 nT7 => ⟨T7, rfl, ⟨_, .of upd_same⟩, ?_⟩⟩
      have k7 := same_new (o := .tup (W7.map V.str)) nT7
      refine for_tup (K := K) (xs := W7.map V.str) (fun j σ' H' => Same H8 H' ∧ H' T7 = some (.tup (W7.map V.str)) ∧ (∃ kvs, H' Dk = some (.dK kvs) ∧ kvs.length ≤ 3 + j ∧ KT H' Dk kvs (kin j)) ∧ ∃ x7, σ' = [some (.ref p), some (optV o), x2, some (.str x), some (.ref LN), none, some (.ref Dk), x7, none]) ?_ ?_ ?_ ?_
      · refine ⟨sD.trans k7, upd_same, ⟨kvs, k7 _ _ eDk, by omega, fun y => ⟨(kt y).1, fun ks z => ?_⟩⟩, none, rfl⟩
        obtain ⟨M, b1, b2, b3⟩ := (kt y).2 ks z
        exact ⟨M, b1, b2, k7 _ _ b3⟩
      · rintro j σ' H' _ ⟨_, h, _⟩
        exact .of h
      · rintro j y σ' H' hj ⟨sj, ej, ⟨kj, dj, lj, tj⟩, x7, rfl⟩
        rw [List.getElem?_map] at hj
        obtain ⟨wd, hwd, rfl⟩ := Option.map_eq_some_iff.mp hj
        refine ⟨big 2 (by decide), fun L nL => ⟨_, rfl, _, rfl, Dk, _, rfl, .inl ⟨kj, .inr wd, same_new nL _ _ dj, rfl, ?_, rfl⟩, ?_⟩⟩
        · have : j < 7 := (List.getElem?_eq_some_iff.mp hwd).1
          rw [sizeLine_eq]
          omega
        · have mL : L ≠ Dk := (ne_of_none dj nL).symm
          have mT : T7 ≠ Dk := fun z => by rw [z, dj] at ej; cases ej
          refine ⟨same_upd (sj.trans (same_new nL)) nDk, ?_, ⟨_, upd_same, ?_, kt_put (ks := [false, false]) tj nL mL (kin_step hwd)⟩, _, rfl⟩
          · rw [upd_ne mT]
            exact same_new nL _ _ ej
          · have := length_putK kj (.inr wd) (.ref L)
            omega
      rintro σ' HT ⟨sT, eT, ⟨kT, dT, lT, tT⟩, x7, rfl⟩
      have tK : KT HT Dk kT kinds := fun y => by
        have := tT y
        rw [show (W7.map V.str).length = 7 from rfl, kin_all] at this
        exact this
      have ST := HS.trans sT
      have hpT := sqT_kp (Kp.of_same (S := fun _ => False) ST) hp
      cases hk : kinds x with
      | none =>
        refine ⟨_, rfl, _, rfl, Dk, none, rfl, .inl ⟨kT, .inr x, .inl dT, rfl, ((tK x).1 hk).symm⟩, _, rfl, ?_⟩
        exact q1 (by rw [cin, hk]) _ ST
      | some ks =>
        obtain ⟨L, v1, v2, v3⟩ := (tK x).2 ks hk
        rw [hk] at cin
        dsimp only at cin
        refine ⟨_, rfl, _, rfl, Dk, some (.ref L), rfl, .inl ⟨kT, .inr x, .inl dT, rfl, v1.symm⟩, _, rfl, ?_⟩
        refine ⟨_, rfl, _, rfl, Dk, .ref L, rfl, .inl ⟨kT, .inr x, .inl dT, rfl, v1.symm⟩, L, _, rfl, .inl (.of v3), _, rfl, p, _, rfl, .inr hpT, _, _, rfl, rfl, rfl, _, rfl, ?_⟩
        by_cases hl : ks.length = ps.length
        · rw [if_pos hl] at cin
          refine ifNF (by rw [List.length_map, hl, List.length_cons, vl]; show V.int _ = V.int _; congr 1; omega) ?_
          refine ⟨_, rfl, p, _, rfl, .inr hpT, _, _, rfl, rfl, _, rfl, by rw [List.length_cons]; omega, by rw [List.length_cons]; omega, fun D nD => ?_⟩
          have zl : (ps.zip ks).length = ps.length := by rw [List.length_zip]; omega
          refine lc_range (lo := 0) (n := ((((V.str x :: zs).length : Nat) : Int) - 1).toNat) (fun i H' => Same HT H' ∧ H' D = some (.lst (((((ps.zip ks).map fun q => cnt q.1 (some q.2)).take i).map fun m : Nat => (m : Int)).map V.int))) ?_ ?_ ?_
          · exact ⟨same_new nD, upd_same⟩
          · rintro i HI hi ⟨sI, eI⟩
            have hi2 : i < ps.length := by
              rw [List.length_cons, vl] at hi
              omega
            have hi3 : i < ks.length := by omega
            obtain ⟨u, hu, du⟩ := dpAll_get da (List.getElem?_eq_getElem hi2)
            have SI := ST.trans sI
            refine ⟨rfl, ?_⟩
            refine ⟨_, rfl, _, rfl, _, _, rfl, rfl, p, _, _, _, rfl, rfl, sqT_kp (Kp.of_same (S := fun _ => False) SI) hp, (by show atI _ (0 + (i : Int) + 1) = some u; rw [show 0 + (i : Int) + 1 = ((i + 1 : Nat) : Int) by omega]; exact atI_nat hu), ?_⟩
            refine ⟨_, rfl, _, rfl, Dk, .ref L, rfl, .inl ⟨kT, .inr x, .inl (sI _ _ dT), rfl, v1.symm⟩, _, rfl, L, _, _, .bl ks[i], rfl, rfl, .of (sI _ _ v3), (by show atI _ (0 + (i : Int)) = _; rw [Int.zero_add]; refine atI_nat ?_; rw [List.getElem?_map, List.getElem?_eq_getElem hi3]; rfl), ?_⟩
            refine ⟨u, ps[i], some ks[i], e', rfl, by omega, dp_sm SI du, ge _ (List.mem_cons_of_mem _ (List.getElem_mem hi2)), fun HJ sJ => ?_⟩
            refine ⟨_, sJ _ _ eI, ?_, same_upd (sI.trans sJ) nD, ?_⟩
            · rw [List.length_map, List.length_map, List.length_take, sizeLine_eq]
              omega
            · rw [upd_same, List.take_succ]
              have hz : ((ps.zip ks).map fun q => cnt q.1 (some q.2))[i]? = some (cnt ps[i] (some ks[i])) := by
                rw [List.getElem?_map, List.getElem?_zip_eq_some (z := (ps[i], ks[i])) |>.mpr ⟨List.getElem?_eq_getElem hi2, List.getElem?_eq_getElem hi3⟩]
                rfl
              rw [hz, List.map_append, List.map_append]
              rfl
          · rintro HI ⟨sI, eI⟩
            rw [List.take_of_length_le (by rw [List.length_map, zl, List.length_cons, vl]; omega)] at eI
            refine ⟨D, _, rfl, .of eI, _, _, rfl, rfl, _, _, rfl, ?_⟩
            have q9 := q _ (ST.trans sI)
            rw [cin, cntL_sum] at q9
            rw [sum_cast]
            generalize ((ps.zip ks).map fun q => cnt q.1 (some q.2)).sum = S at q9
            have e9 : (if (1 : Int) + (S : Nat) < 100 then 1 + ((S : Nat) : Int) else 100) = ((min 100 (1 + S) : Nat) : Int) := by
              by_cases h : 1 + S < 100
              · rw [if_pos (by omega), Nat.min_eq_right (by omega)]
                omega
              · rw [if_neg (by omega), Nat.min_eq_left (by omega)]
                rfl
            show Q (.int (if (1 : Int) + (S : Nat) < 100 then 1 + ((S : Nat) : Int) else 100)) HI
            rw [e9]
            exact q9
        · rw [if_neg hl] at cin
          refine ifNT (fun z => hl ?_) ?_
          · have := V.int.inj z
            rw [List.length_map, List.length_cons, vl] at this
            omega
          · exact q1 cin _ ST
end

section
variable {P : Program} {w : World} {K : PySem.W.Frag} {mg : Str → Option Value} {base : Heap}
def sp_right (K : PySem.W.Frag) : Sp := fun vs H Q _ => ∃ (v : V) (d : PyData), vs = [v] ∧ Dp K H v d ∧ Good 40 d ∧ ∀ H', Same H H' → Q (.bl true) H'
theorem ok__law_right (T : Top K mg) : FnOk P w K mg base CX0 50 (He.ga K "_law_right") T.fd__law_right ["_law_term"] (sp_right K) := by
  have G_is_term := ok_is_term (P := P) (w := w) (base := base) T
  have G__law_many := ok__law_many (P := P) (w := w) (base := base) T 41
  refine T.F__law_right.ok sc__law_right (fun vs H Q E h => ?_) (fun cdv A outer s H vs Q E hr h => ?_)
  · obtain ⟨v, d, rfl, _⟩ := h
    rfl
  · obtain ⟨v, d, rfl, dp, gd, q⟩ := h
    refine ⟨_, PSs.nox (pss_cons (ps_set (i := 1) sc__law_right.nd rfl (Or.inl rfl) (pe_call G_is_term (hr.mono (by omega)) (by rfl) T.g_is_term T.F_is_term.kp T.b_is_term .nil pass0 (pa_cons (pv 0) pa_nil)))
        (pss_one (ps_ret (pe_and (pe_callB call_isi (by rfl) T.m_isinstance (by decide +kernel) (pa_cons (pv 1) (pa_cons (pe_bltn (v := .ty "bool") (by rfl) T.m_bool (by decide +kernel) rfl) pa_nil))) (pe_one (pe_cmpR op_eq (pv 1) (pe_cmpR op_le (pe_call G__law_many (hr.mono (by omega)) (by rfl) T.g__law_many T.F__law_many.kp T.b__law_many .nil pass0 (pa_cons (pv 0) (pa_cons pe_non pa_nil))) pe_int (nomark _)) (nomark _))))))), ?_⟩
    refine ⟨_, rfl, v, d, rfl, dp, gd.1, fun H1 s1 => ?_⟩
    dsimp only [gName]
    refine ⟨_, rfl, _, _, _, _, true, rfl, .ty _, .base (.bl _), kit_ty (by decide +kernel), true, rfl, ?_⟩
    refine ⟨_, rfl, _, rfl, v, d, none, 40, rfl, by decide, dp_sm s1 dp, gd, fun H2 s2 => ?_⟩
    refine ⟨_, _, rfl, rfl, rfl, ?_⟩
    have e : decide (V.bl (decide (cnt d none ≤ 60)) = V.bl (decide ((cnt d none : Int) ≤ 60))) = true := by
      rw [decide_eq_true_eq]
      congr 1
      exact decide_eq_decide.mpr (by omega)
    rw [e]
    exact q _ (s1.trans s2)
def nt : Nat → PyData
  | 0 => .tuple [.str "number", .int 1]
  | n + 1 => .tuple [.str "not", nt n]
theorem nt_lay : ∀ n, (nt n).canLay0 = true
  | 0 => by decide +kernel
  | n + 1 => by
    simp only [nt, PyData.canLay0, PyData.canLayAll0, nt_lay n]
    decide +kernel
theorem nt_cnt (o : Option Bool) (ho : o = none ∨ o = some false) : ∀ n, cnt (nt n) o = min 100 (n + 1)
  | 0 => by rcases ho with rfl | rfl <;> decide +kernel
  | n + 1 => by
    have ih := nt_cnt (some false) (.inr rfl) n
    have nb : ([nt n] : List PyData).any isB = false := by cases n <;> rfl
    have hrow : (o.isSome && (o != some (rowWd "not"))) = false := by rcases ho with rfl | rfl <;> decide +kernel
    rw [nt, cnt_in nb (by decide +kernel) hrow (by decide +kernel), show kinds "not" = some [false] by decide +kernel]
    show (if 1 = 1 then min 100 (1 + (cnt (nt n) (some false) + 0)) else 100) = _
    rw [if_pos rfl, ih]
    omega
def sp_law (K : PySem.W.Frag) : Sp := fun vs H Q _ => ∃ (a : Addr) (ns : List Int), vs = [.ref a] ∧ Scp K H a ns ∧ ∀ H', Q (.bl true) H'
theorem law_start {K : PySem.W.Frag} {H : Hp} {a : Addr} {ns : List Int} (hl : ns.length ≤ 63) (hb : ∀ z ∈ ns, Builtin.Int.intBits z ≤ 1048576) (hS : SqL K H a (ns.map V.int)) : sp_law K [.ref a] H (fun v _ => v = .bl true) fun _ _ _ => False := ⟨a, ns, rfl, ⟨hl, hb, hS⟩, fun _ => rfl⟩
theorem ok_law (T : Top K mg) : FnOk P w K mg base CX0 60 (He.ga K "law") T.fd_law ["_law_script"] (sp_law K) := by
  have G__law_mark := ok__law_mark (P := P) (w := w) (base := base) T
  have G__law_term_by := ok__law_term_by (P := P) (w := w) (base := base) T 4
  have G__law_long := ok__law_long (P := P) (w := w) (base := base) T
  have G_is_term := ok_is_term (P := P) (w := w) (base := base) T
  have G__law_right := ok__law_right (P := P) (w := w) (base := base) T
  have G__law_bent := ok__law_bent (P := P) (w := w) (base := base) T 4
  refine T.F_law.ok sc_law (fun vs H Q E h => ?_) (fun cdv A outer s H vs Q E hr h => ?_)
  · obtain ⟨a, ns, rfl, _⟩ := h
    rfl
  · obtain ⟨a, ns, rfl, sc, q⟩ := h
    refine ⟨_, PSs.nox (pss_cons (ps_set (i := 1) sc_law.nd rfl (Or.inl rfl) (pe_call G__law_mark (hr.mono (by omega)) (by rfl) T.g__law_mark T.F__law_mark.kp T.b__law_mark .nil pass0 (pa_cons (pv 0) (pa_cons pe_int pa_nil))))
        (pss_cons (ps_set (i := 2) sc_law.nd rfl (Or.inl rfl) (pe_call G__law_term_by (hr.mono (by omega)) (by rfl) T.g__law_term_by T.F__law_term_by.kp T.b__law_term_by .nil pass0 (pa_cons (pv 0) (pa_cons pe_int (pa_cons (pe_op op_add pe_int (pe_op op_mod (pv 1) pe_int)) (pa_cons (pe_cmpR op_eq (pe_op op_mod (pe_op op_fdivW (pv 1) pe_int) pe_int) pe_int (nomark _)) pa_nil))))))
        (pss_cons (ps_set (i := 3) sc_law.nd rfl (Or.inl rfl) (pe_call G__law_long (hr.mono (by omega)) (by rfl) T.g__law_long T.F__law_long.kp T.b__law_long .nil pass0 (pa_cons (pe_op op_add pe_int (pe_op op_mod (pe_op op_fdivW (pv 1) pe_int) pe_int)) pa_nil)))
        (pss_cons (ps_if (pt_cmpR op_eq (pe_op op_mod (pe_op op_fdivW (pv 1) pe_int) pe_int) pe_int (nomark _)) (pss_one (ps_set (i := 3) sc_law.nd rfl (Or.inl rfl) (pe_tup (pa_cons pe_str (pa_cons (pv 3) pa_nil))))) pss_nil)
        (pss_cons (ps_set (i := 4) sc_law.nd rfl (Or.inl rfl) (pe_tup (pa_cons pe_str (pa_cons pe_int pa_nil))))
        (pss_cons (ps_for PassesOwn.never (by rfl) (pi_range1 (by rfl) T.m_range (pa_cons pe_int pa_nil)) (pg_name (i := 5) sc_law.nd rfl (Or.inl rfl)) (pss_one (ps_set (i := 4) sc_law.nd rfl (Or.inl rfl) (pe_tup (pa_cons pe_str (pa_cons (pv 4) pa_nil))))))
        (pss_cons (ps_if (PW.pt (pw_or (pt_cmpR op_notBl (pe_call G_is_term (hr.mono (by omega)) (by rfl) T.g_is_term T.F_is_term.kp T.b_is_term .nil pass0 (pa_cons (pv 4) pa_nil)) pe_bl (nomark _)) (pw_or1 (pt_cmpR op_notBl (pe_call G_is_term (hr.mono (by omega)) (by rfl) T.g_is_term T.F_is_term.kp T.b_is_term .nil pass0 (pa_cons (pe_tup (pa_cons pe_str (pa_cons (pe_tup (pa_cons pe_str (pa_cons pe_int pa_nil))) (pa_cons (pv 4) (pa_cons (pv 4) pa_nil))))) pa_nil)) pe_bl (nomark _))))) (pss_one (ps_ret pe_bl)) pss_nil)
        (pss_one (ps_ret (pe_andT (pe_call G__law_right (hr.mono (by omega)) (by rfl) T.g__law_right T.F__law_right.kp T.b__law_right .nil pass0 (pa_cons (pv 2) pa_nil)) (pe_andT (pe_call G__law_right (hr.mono (by omega)) (by rfl) T.g__law_right T.F__law_right.kp T.b__law_right .nil pass0 (pa_cons (pe_call G__law_bent (hr.mono (by omega)) (by rfl) T.g__law_bent T.F__law_bent.kp T.b__law_bent .nil pass0 (pa_cons (pv 2) (pa_cons (pe_op op_fdivW (pv 1) pe_int) pa_nil))) pa_nil)) (pe_one (pe_call G__law_right (hr.mono (by omega)) (by rfl) T.g__law_right T.F__law_right.kp T.b__law_right .nil pass0 (pa_cons (pv 3) pa_nil)))))))))))))), ?_⟩
    have big : ∀ n : Nat, n ≤ 10000 → n ≤ sizeLine := fun n h => by rw [sizeLine_eq]; omega
    refine ⟨_, rfl, a, ns, 0, rfl, sc.1, sc.2.1, sc.2.2, by decide, by decide, fun m m0 m1 => ?_⟩
    refine ⟨_, rfl, _, rfl, _, _, rfl, rfl, (by show (0 : Int) < 3; decide), _, _, rfl, rfl, _, rfl, _, _, rfl, rfl, cd (by decide) (by decide), _, _, rfl, rfl, (by show (0 : Int) < 3; decide), rfl, ?_⟩
    obtain ⟨e, he⟩ : ∃ e : Nat, 1 + m % 3 = (e : Int) := ⟨(1 + m % 3).toNat, by omega⟩
    have e4 : e < 4 := by omega
    refine ⟨a, ns, 1, e, _, (by show [V.ref a, .int 1, .int (1 + m % 3), .bl (decide (V.int (m / 4 % 3) = V.int 0))] = _; rw [he]), e4, sc, by decide, ?_, fun H1 r1 ds1 s1 d1 g1 w1 => ?_⟩
    · have : e = 0 ∨ e = 1 ∨ e = 2 ∨ e = 3 := by omega
      rcases this with rfl | rfl | rfl | rfl <;> decide
    obtain ⟨n, hn⟩ : ∃ n : Nat, 28 + m / 16 % 4 = (n : Int) := ⟨(28 + m / 16 % 4).toNat, by omega⟩
    refine ⟨_, rfl, _, _, rfl, rfl, cd (by decide) (by decide), _, _, rfl, rfl, (by show (0 : Int) < 4; decide), _, _, rfl, rfl, n, (by show [V.int (28 + m / 16 % 4)] = _; rw [hn]), by omega, fun H2 r2 ds2 s2 d2 g2 l2 => ?_⟩
    dsimp only [gName]
    refine ifs_by (fun σ' H' => ∃ r3 d3, Same H2 H' ∧ Dp K H' r3 d3 ∧ Good 40 d3 ∧ σ' = [some (.ref a), some (.int m), some r1, some r3, none, none]) ?_ ?_
    rotate_left
    · intro N hN
      refine ⟨_, rfl, _, _, rfl, rfl, cd (by decide) (by decide), _, _, rfl, rfl, (by show (0 : Int) < 2; decide), rfl, _, rfl, ite2 (fun _ => ?_) (fun _ => ?_)⟩
      · refine ⟨_, rfl, big 2 (by decide), fun p np => hN _ _ ⟨.ref p, .tuple [.str "not", .tuple ds2], same_new np, .tup (.of upd_same) (.cons (.str _) (.cons (dp_sm (same_new np) d2) .nil)), ?_, rfl⟩⟩
        exact (good_tup (goods_cons (good_str (by decide +kernel)) (goods_cons (good_tup g2 l2) goods_nil)) (by simp)).mono (by omega)
      · exact hN _ _ ⟨r2, .tuple ds2, Same.refl _, d2, (good_tup g2 l2).mono (by omega), rfl⟩
    rintro σ' H3 ⟨r3, d3, s3, dp3, g3, rfl⟩
    refine ⟨big 2 (by decide), fun p np => ?_⟩
    refine ⟨3000, rfl, by decide, by decide, for_range (lo := 0) (n := 3000) (fun i σ' H' => ∃ r x5, Same H3 H' ∧ Dp K H' r (nt i) ∧ σ' = [some (.ref a), some (.int m), some r1, some r3, some r, x5]) ?_ ?_ ?_⟩
    · exact ⟨.ref p, none, same_new np, .tup (.of upd_same) (.cons (.str _) (.cons (.int _) .nil)), rfl⟩
    · rintro i σ' H4 hi ⟨r, x5, s4, d4, rfl⟩
      refine ⟨_, rfl, big 2 (by decide), fun p2 np2 => ⟨.ref p2, _, s4.trans (same_new np2), .tup (.of upd_same) (.cons (.str _) (.cons (dp_sm (same_new np2) d4) .nil)), rfl⟩⟩
    rintro σ' H4 ⟨r4, x5, s4, d4, rfl⟩
    dsimp only
    refine ifs_by (fun σ' H' => Same H4 H' ∧ σ' = [some (.ref a), some (.int m), some r1, some r3, some r4, x5]) ?_ ?_
    rotate_left
    · intro N hN
      refine ⟨_, rfl, r4, nt 3000, rfl, d4, nt_lay _, fun H5 s5 => ?_⟩
      rw [nt_cnt none (.inl rfl)]
      refine ⟨false, false, rfl, rfl, _, rfl, ?_⟩
      refine ⟨big 2 (by decide), fun p1 np1 => ⟨_, rfl, _, rfl, big 4 (by decide), fun p2 np2 => ?_⟩⟩
      have t1 := same_new (o := .tup [.str "fresh", .int 2]) np1
      have t2 := same_new (o := .tup [.str "put", .ref p1, r4, r4]) np2
      have dd := dp_sm ((s5.trans t1).trans t2) d4
      refine ⟨.ref p2, .tuple [.str "put", .tuple [.str "fresh", .int 2], nt 3000, nt 3000], rfl, .tup (.of upd_same) (.cons (.str _) (.cons (dp_sm t2 (.tup (.of upd_same) (.cons (.str _) (.cons (.int _) .nil)))) (.cons dd (.cons dd .nil)))), ?_, fun H6 s6 => ?_⟩
      · simp only [PyData.canLay0, PyData.canLayAll0, nt_lay]
        decide +kernel
      · have nb : ([.tuple [.str "fresh", .int 2], nt 3000, nt 3000] : List PyData).any isB = false := rfl
        have c : ¬ cnt (.tuple [.str "put", .tuple [.str "fresh", .int 2], nt 3000, nt 3000]) none ≤ 60 := by
          rw [cnt_in nb (by decide +kernel) rfl (by decide +kernel), show kinds "put" = some [true, false, false] by decide +kernel]
          show ¬ (if 3 = 3 then min 100 (1 + (cnt (.tuple [.str "fresh", .int 2]) (some true) + (cnt (nt 3000) (some false) + (cnt (nt 3000) (some false) + 0)))) else 100) ≤ 60
          rw [if_pos rfl, nt_cnt _ (.inr rfl)]
          generalize cnt (.tuple [.str "fresh", .int 2]) (some true) = z
          rw [show min 100 (3000 + 1) = 100 from rfl]
          rw [Nat.min_eq_left (by omega)]
          decide
        rw [decide_eq_false c]
        exact ⟨false, false, rfl, rfl, _, rfl, hN _ _ ⟨(((s5.trans t1).trans t2).trans s6), rfl⟩⟩
    rintro σ' H5 ⟨s5, rfl⟩
    have s15 := ((s2.trans s3).trans s4).trans s5
    refine ⟨_, rfl, r1, .tuple ds1, rfl, dp_sm s15 d1, (good_tup g1 (wl w1)).mono (by omega), fun H6 s6 => ⟨true, rfl, ?_⟩⟩
    refine ⟨_, rfl, _, rfl, _, _, rfl, rfl, cd (by decide) (by decide), ?_⟩
    refine ⟨r1, ds1, _, e, rfl, e4, dp_sm (s15.trans s6) d1, g1, w1, fun H7 r7 d7 s7 dp7 g7 => ?_⟩
    refine ⟨r7, d7, rfl, dp7, g7.mono (by omega), fun H8 s8 => ⟨true, rfl, ?_⟩⟩
    exact ⟨_, rfl, r3, d3, rfl, dp_sm ((((s4.trans s5).trans s6).trans s7).trans s8) dp3, g3, fun H9 s9 => q _⟩
end

def d_is_between : He.DefD := ⟨("is_between", none), "is_between", "is_between", defArgs s_is_between, defBody s_is_between, defScope s_is_between, [], []⟩
def d_is_value : He.DefD := ⟨("is_value", none), "is_value", "is_value", defArgs s_is_value, defBody s_is_value, defScope s_is_value, [], []⟩
def d_inner_terms : He.DefD := ⟨("inner_terms", none), "inner_terms", "inner_terms", defArgs s_inner_terms, defBody s_inner_terms, defScope s_inner_terms, [], []⟩
def d_is_term : He.DefD := ⟨("is_term", none), "is_term", "is_term", defArgs s_is_term, defBody s_is_term, defScope s_is_term, [], []⟩
def d__law_mark : He.DefD := ⟨("_law_mark", none), "_law_mark", "_law_mark", defArgs s__law_mark, defBody s__law_mark, defScope s__law_mark, [], []⟩
def d__law_leaf_by : He.DefD := ⟨("_law_leaf_by", none), "_law_leaf_by", "_law_leaf_by", defArgs s__law_leaf_by, defBody s__law_leaf_by, defScope s__law_leaf_by, [], []⟩
def d__law_term_by : He.DefD := ⟨("_law_term_by", none), "_law_term_by", "_law_term_by", defArgs s__law_term_by, defBody s__law_term_by, defScope s__law_term_by, [], []⟩
def d__law_bent : He.DefD := ⟨("_law_bent", none), "_law_bent", "_law_bent", defArgs s__law_bent, defBody s__law_bent, defScope s__law_bent, [], []⟩
def d__law_many : He.DefD := ⟨("_law_many", none), "_law_many", "_law_many", defArgs s__law_many, defBody s__law_many, defScope s__law_many, [], []⟩
def d__law_long : He.DefD := ⟨("_law_long", none), "_law_long", "_law_long", defArgs s__law_long, defBody s__law_long, defScope s__law_long, [], []⟩
def d__law_right : He.DefD := ⟨("_law_right", none), "_law_right", "_law_right", defArgs s__law_right, defBody s__law_right, defScope s__law_right, [], []⟩
def d_law : He.DefD := ⟨("law", none), "law", "law", defArgs s_law, defBody s_law, defScope s_law, [], []⟩
def fn0 : List He.DefD := [d_is_between, d_is_value, d_inner_terms, d_is_term, d__law_mark, d__law_leaf_by, d__law_term_by, d__law_bent, d__law_many, d__law_long, d__law_right, d_law]
def fn : List He.DefD := fn0
def fa0 : List He.Fa := [.glo "is_between", .glo "is_value", .glo "inner_terms", .glo "is_term", .glo "_law_mark", .glo "_law_leaf_by", .glo "_law_term_by", .glo "_law_bent", .glo "_law_many", .glo "_law_long", .glo "_law_right", .glo "law", .free "bool", .free "int", .free "isinstance", .free "len", .free "list", .free "min", .free "range", .free "str", .free "sum", .free "tuple", .int "LEAST" ((-2147483648)), .int "GREATEST" (2147483647), .int "LAST_VALUE" (9999), .int "LONGEST" (8), .glo "WORDS", .int "MOST_TUPLES" (60), .int "MOST_FRAMES" (5)]
def fa : List He.Fa := fa0
def exB (K : PySem.W.Frag) : Bool := He.tupB K "WORDS" [.str "add", .str "sub", .str "mul", .str "div", .str "rem", .str "less", .str "same"]
abbrev hk : PySem.W.Hook := hookE 4 fa fn exB
def ob (s : PySem.W.SharedT) : He.AlD × Bool := obsE 4 fa fn exB (HandSHeadRun.getT s)
theorem ob_eq (s : PySem.W.SharedT) : ob s = hk.obs s.abs := obsE_eq (HandSHeadRun.getT_eq s)
abbrev R : PySem.W.OpenRow := PySem.W.OpenLaw.row PySem.Challenge.rw_passworks_k31_terms
def lo0 : List PySem.Str := ["LEAST", "GREATEST", "LAST_VALUE", "LONGEST", "is_between", "is_value", "WORDS", "MOST_TUPLES", "MOST_FRAMES", "inner_terms", "is_term", "_law_mark", "_law_leaf_by", "_law_term_by", "_law_bent", "_law_many", "_law_long", "_law_right"]
def lo : List PySem.Str := lo0
theorem run (w : World) : HandSHeadRun.RunEq R (PySem.W.view R.prog [21]) hk ob 4000 lo w := by
  intro os
  kernel_rfl
theorem top_of {K : PySem.W.Frag} {h : Heap} {mg : Str → Option Value} (X : K.In h) (G : h.Ns mainGlobals mg) (c : SaysE fa fn exB K) : Nonempty (Top K mg) := by
  obtain ⟨fd0, F0⟩ := c.1.def_ 0 (d := d_is_between) rfl
  obtain ⟨fd1, F1⟩ := c.1.def_ 1 (d := d_is_value) rfl
  obtain ⟨fd2, F2⟩ := c.1.def_ 2 (d := d_inner_terms) rfl
  obtain ⟨fd3, F3⟩ := c.1.def_ 3 (d := d_is_term) rfl
  obtain ⟨fd4, F4⟩ := c.1.def_ 4 (d := d__law_mark) rfl
  obtain ⟨fd5, F5⟩ := c.1.def_ 5 (d := d__law_leaf_by) rfl
  obtain ⟨fd6, F6⟩ := c.1.def_ 6 (d := d__law_term_by) rfl
  obtain ⟨fd7, F7⟩ := c.1.def_ 7 (d := d__law_bent) rfl
  obtain ⟨fd8, F8⟩ := c.1.def_ 8 (d := d__law_many) rfl
  obtain ⟨fd9, F9⟩ := c.1.def_ 9 (d := d__law_long) rfl
  obtain ⟨fd10, F10⟩ := c.1.def_ 10 (d := d__law_right) rfl
  obtain ⟨fd11, F11⟩ := c.1.def_ 11 (d := d_law) rfl
  obtain ⟨tk_LEAST, ck_LEAST⟩ := He.int_ok X G (c.1.fact 22 (f := .int "LEAST" ((-2147483648))) rfl)
  obtain ⟨tk_GREATEST, ck_GREATEST⟩ := He.int_ok X G (c.1.fact 23 (f := .int "GREATEST" (2147483647)) rfl)
  obtain ⟨tk_LAST_VALUE, ck_LAST_VALUE⟩ := He.int_ok X G (c.1.fact 24 (f := .int "LAST_VALUE" (9999)) rfl)
  obtain ⟨tk_LONGEST, ck_LONGEST⟩ := He.int_ok X G (c.1.fact 25 (f := .int "LONGEST" (8)) rfl)
  obtain ⟨tk_MOST_TUPLES, ck_MOST_TUPLES⟩ := He.int_ok X G (c.1.fact 27 (f := .int "MOST_TUPLES" (60)) rfl)
  obtain ⟨tk_MOST_FRAMES, ck_MOST_FRAMES⟩ := He.int_ok X G (c.1.fact 28 (f := .int "MOST_FRAMES" (5)) rfl)
  have hx := c.2
  have hx0 : (He.tupB K "WORDS" [.str "add", .str "sub", .str "mul", .str "div", .str "rem", .str "less", .str "same"]) = true := hx
  exact ⟨{ fd_is_between := fd0, F_is_between := F0, b_is_between := FunD.bindsN F0 fun _ _ _ _ _ _ us hl => (match us, hl with | [_, _, _], _ => rfl), g_is_between := He.glo_ok X G (c.1.fact 0 (f := .glo "is_between") rfl), fd_is_value := fd1, F_is_value := F1, b_is_value := FunD.bindsN F1 fun _ _ _ _ _ _ us hl => (match us, hl with | [_], _ => rfl), g_is_value := He.glo_ok X G (c.1.fact 1 (f := .glo "is_value") rfl), fd_inner_terms := fd2, F_inner_terms := F2, b_inner_terms := FunD.bindsN F2 fun _ _ _ _ _ _ us hl => (match us, hl with | [_], _ => rfl), g_inner_terms := He.glo_ok X G (c.1.fact 2 (f := .glo "inner_terms") rfl), fd_is_term := fd3, F_is_term := F3, b_is_term := FunD.bindsN F3 fun _ _ _ _ _ _ us hl => (match us, hl with | [_], _ => rfl), g_is_term := He.glo_ok X G (c.1.fact 3 (f := .glo "is_term") rfl), fd__law_mark := fd4, F__law_mark := F4, b__law_mark := FunD.bindsN F4 fun _ _ _ _ _ _ us hl => (match us, hl with | [_, _], _ => rfl), g__law_mark := He.glo_ok X G (c.1.fact 4 (f := .glo "_law_mark") rfl), fd__law_leaf_by := fd5, F__law_leaf_by := F5, b__law_leaf_by := FunD.bindsN F5 fun _ _ _ _ _ _ us hl => (match us, hl with | [_, _], _ => rfl), g__law_leaf_by := He.glo_ok X G (c.1.fact 5 (f := .glo "_law_leaf_by") rfl), fd__law_term_by := fd6, F__law_term_by := F6, b__law_term_by := FunD.bindsN F6 fun _ _ _ _ _ _ us hl => (match us, hl with | [_, _, _, _], _ => rfl), g__law_term_by := He.glo_ok X G (c.1.fact 6 (f := .glo "_law_term_by") rfl), fd__law_bent := fd7, F__law_bent := F7, b__law_bent := FunD.bindsN F7 fun _ _ _ _ _ _ us hl => (match us, hl with | [_, _], _ => rfl), g__law_bent := He.glo_ok X G (c.1.fact 7 (f := .glo "_law_bent") rfl), fd__law_many := fd8, F__law_many := F8, b__law_many := FunD.bindsN F8 fun _ _ _ _ _ _ us hl => (match us, hl with | [_, _], _ => rfl), g__law_many := He.glo_ok X G (c.1.fact 8 (f := .glo "_law_many") rfl), fd__law_long := fd9, F__law_long := F9, b__law_long := FunD.bindsN F9 fun _ _ _ _ _ _ us hl => (match us, hl with | [_], _ => rfl), g__law_long := He.glo_ok X G (c.1.fact 9 (f := .glo "_law_long") rfl), fd__law_right := fd10, F__law_right := F10, b__law_right := FunD.bindsN F10 fun _ _ _ _ _ _ us hl => (match us, hl with | [_], _ => rfl), g__law_right := He.glo_ok X G (c.1.fact 10 (f := .glo "_law_right") rfl), fd_law := fd11, F_law := F11, b_law := FunD.bindsN F11 fun _ _ _ _ _ _ us hl => (match us, hl with | [_], _ => rfl), g_law := He.glo_ok X G (c.1.fact 11 (f := .glo "law") rfl), m_bool := He.free_ok X G (c.1.fact 12 (f := .free "bool") rfl), m_int := He.free_ok X G (c.1.fact 13 (f := .free "int") rfl), m_isinstance := He.free_ok X G (c.1.fact 14 (f := .free "isinstance") rfl), m_len := He.free_ok X G (c.1.fact 15 (f := .free "len") rfl), m_list := He.free_ok X G (c.1.fact 16 (f := .free "list") rfl), m_min := He.free_ok X G (c.1.fact 17 (f := .free "min") rfl), m_range := He.free_ok X G (c.1.fact 18 (f := .free "range") rfl), m_str := He.free_ok X G (c.1.fact 19 (f := .free "str") rfl), m_sum := He.free_ok X G (c.1.fact 20 (f := .free "sum") rfl), m_tuple := He.free_ok X G (c.1.fact 21 (f := .free "tuple") rfl), t_LEAST := tk_LEAST, c_LEAST := ck_LEAST, t_GREATEST := tk_GREATEST, c_GREATEST := ck_GREATEST, t_LAST_VALUE := tk_LAST_VALUE, c_LAST_VALUE := ck_LAST_VALUE, t_LONGEST := tk_LONGEST, c_LONGEST := ck_LONGEST, c_WORDS := He.glo_ok X G (c.1.fact 26 (f := .glo "WORDS") rfl), q_WORDS := He.tupB_ok hx0, t_MOST_TUPLES := tk_MOST_TUPLES, c_MOST_TUPLES := ck_MOST_TUPLES, t_MOST_FRAMES := tk_MOST_FRAMES, c_MOST_FRAMES := ck_MOST_FRAMES }⟩
theorem law_binds {K : PySem.W.Frag} {mg : Str → Option Value} (T : Top K mg) (s : Shared) (u : Value) : BindsTo s T.fd_law ⟨[u], []⟩ [("_law_script", u)] :=
  FunD.bindsA (ps := ["_law_script"]) T.F_law (fun _ _ _ _ _ _ us hl => (match us, hl with | [_], _ => rfl)) s [u] rfl
end K31
namespace K31
open PySem PySem.Spec PyProof.Rows L2
theorem law_F (w : World) (mg : Str → Option Value) (fa : Addr) (h : Heap) (Y : hk.says w h) (G : h.Ns mainGlobals mg) (hmg : mg "law" = some (.ref fa)) :
    ∃ (K : PySem.W.Frag) (fd : FuncData) (sp : Sp), K.In h ∧ (∀ (s : Shared) (u : Value), BindsTo s fd ⟨[u], []⟩ [("_law_script", u)]) ∧
        (∀ (H : Hp) (a : Addr) (ns : List Int), ns.length ≤ 63 → (∀ z ∈ ns, Builtin.Int.intBits z ≤ 1048576) → Only H → SqL K H a (ns.map V.int) → sp [.ref a] H (fun v _ => v = .bl true) fun _ _ _ => False) ∧
        ∀ base : Heap, K.In base → base.Ns mainGlobals mg → FnOk (PySem.Challenge.rw_passworks_k31_terms).prog w K mg base L2.CX0 60 fa fd ["_law_script"] sp := by
  obtain ⟨K, KX, c⟩ := Y
  obtain ⟨T⟩ := top_of KX G c
  obtain rfl : He.ga K "law" = fa := by
    have e := T.g_law.symm.trans hmg
    injection e with e
    injection e
  exact ⟨K, T.fd_law, sp_law K, KX, law_binds T, fun H a ns hl hb _ hS => law_start hl hb hS, fun base _ _ => ok_law T⟩
end K31
open PySem PySem.W PySem.Calls PyProof.Rows
theorem K31.law_nm : (HandSHeadRun.topDef (OpenLaw.row PySem.Challenge.rw_passworks_k31_terms).prog 21).name = ("law" : PySem.Str) := by kernel_rfl
theorem K31.law_walk : PySem.W.WalkO (view (OpenLaw.row PySem.Challenge.rw_passworks_k31_terms).prog [21]) K31.lo (XL (view (OpenLaw.row PySem.Challenge.rw_passworks_k31_terms).prog [21]) []) K31.hk.says (OpenLaw.row PySem.Challenge.rw_passworks_k31_terms).toRowW (HandSHeadRun.topDef (OpenLaw.row PySem.Challenge.rw_passworks_k31_terms).prog 21) [] (fun f vs => PySem.call f vs) :=
  K31.walk_bits (l := PySem.Challenge.rw_passworks_k31_terms) (n := 63) (k := 60) (x := "_law_script") (CX := L2.CX0) rfl (by decide) (by kernel_rfl) ⟨rfl, by decide, by decide⟩ (fun w mg fa h Y G hmg0 => K31.law_F w mg fa h Y G (K31.law_nm ▸ hmg0)) (fun _ _ _ _ z => z)
theorem PySem.Challenge.cw_passworks_k31_terms_holds : PySem.Challenge.rw_passworks_k31_terms.Holds := by
  w_on; o_law
  refine HandSHeadRun.head_any (r := OpenLaw.row PySem.Challenge.rw_passworks_k31_terms) (q := view (OpenLaw.row PySem.Challenge.rw_passworks_k31_terms).prog [21]) (H := K31.hk) (ob := K31.ob) (M := 4000) (loose := K31.lo) (d := HandSHeadRun.topDef (OpenLaw.row PySem.Challenge.rw_passworks_k31_terms).prog 21) (kwd := []) K31.ob_eq
    (by kernel_rfl) (fun s => by kernel_rfl) K31.run (by kernel_rfl) (by kernel_rfl) (by kernel_rfl) (by rfl) (by first | assumption | decide +kernel) (by decide +kernel) ⟨rfl, rfl, rfl, rfl, rfl, by decide +kernel⟩ ?hw K31.law_walk
  case hw => w_witness2

