import PyProof.Rows.All
import Wide.All
import OpenK.AllK
import Wide.FinOn
import KE.KStateDown
import KE.KRevSl
import Lean
import HandS.ForMost
import HandS.Wide
import KE.GoesEnum
import HandS.Iter
import HandS.Walk
import HandS.WideBits
import HandS.IsInst
import HandS.Flow
import HandS.Style
import HandS.Exc
import HandS.ExcOwn
import HandS.TryMany
import HandS.TryOnly
import HandS.WordsExc
import HandS.ForExc
import HandS.FStr
import HandS.RaiseMore
import HandS.TupAny
import HandS.Defaults
import HandS.Zip
import HandS.CallSlots
import HandS.TupMul
import HandS.More
import HandS.ExcInit
import HandS.ExcField
import KE.GoesNew
import KE.GoesMore
import KE.KDictZip
import HandS.ExcIs
import HandS.ExcValue
import HandS.EndBits
import HandS.Head0
import HandS.Head1
import HandS.Head2
import HandS.HeadEnd
import HandS.HeadHook1
import HandS.HeadHook2
import PySem.Challenge.RW_passworks_k14_inputs
set_option Elab.async false
set_option linter.all false
set_option maxRecDepth 100000
set_option maxHeartbeats 4000000
namespace K14
/-! what the head shows: defs, facts by names, one more Bool -/
open PySem PySem.Spec PyProof.Rows L2
def obsE (n : Nat) (fa : List He.Fa) (fn : List He.DefD) (ex : PySem.W.Frag → Bool) (g : Addr → Option Obj) : He.AlD × Bool :=
  (He.obsD fa fn (He.frG g (He.asD g n ++ [cStatics])), ex (He.frG g (He.asD g n ++ [cStatics])))
def SaysE (fa : List He.Fa) (fn : List He.DefD) (ex : PySem.W.Frag → Bool) (K : PySem.W.Frag) : Prop := He.SaysD fa fn K ∧ ex K = true
def hookE (n : Nat) (fa : List He.Fa) (fn : List He.DefD) (ex : PySem.W.Frag → Bool) : PySem.W.Hook where
  α := He.AlD × Bool
  obs := fun s => obsE n fa fn ex s.heap.get?
  val := fun _ => (He.valD fn, true)
  says := fun _ h => ∃ K : PySem.W.Frag, K.In h ∧ SaysE fa fn ex K
  of := fun _ _ z => ⟨_, He.frG_in, congrArg Prod.fst z, congrArg Prod.snd z⟩
  keeps := fun _ _ _ ⟨K, a, c⟩ k => ⟨K, a.keeps k, c⟩
theorem obsE_eq {n : Nat} {fa : List He.Fa} {fn : List He.DefD} {ex : PySem.W.Frag → Bool} {g : Addr → Option Obj} {s : Shared} (z : ∀ a, g a = s.heap.get? a) :
    obsE n fa fn ex g = (hookE n fa fn ex).obs s := by
  obtain rfl : g = s.heap.get? := funext z
  rfl
/-- a law's end, the bits of the script's numbers told -/
theorem walk_bits {l : PySem.W.OpenLaw} {n k : Nat} {q : Program} {loose : List Str} {XP : (Str → Option Value) → Heap → Prop} {YP : World → Heap → Prop} {d : DefRec} {CX : CXT} {x : Str}
    (hn : l.most = some n) (hn2 : n ≤ sizeLine) (hdf : d.params.defaults = []) (hr : Room k callerA)
    (F : ∀ (w : World) (mg : Str → Option Value) (fa : Addr) (h : Heap), YP w h → h.Ns mainGlobals mg → mg d.name = some (.ref fa) →
      ∃ (K : PySem.W.Frag) (fd : FuncData) (sp : Sp), K.In h ∧ (∀ (s : Shared) (u : Value), BindsTo s fd ⟨[u], []⟩ [(x, u)]) ∧
        (∀ (H : Hp) (a : Addr) (ns : List Int), ns.length ≤ n → (∀ z ∈ ns, Builtin.Int.intBits z ≤ 1048576) → Only H → SqL K H a (ns.map V.int) →
          sp [.ref a] H (fun v _ => v = .bl true) fun _ _ _ => False) ∧
        ∀ base : Heap, K.In base → base.Ns mainGlobals mg → FnOk l.prog w K mg base CX k fa fd [x] sp)
    (hCX : ∀ (H : Hp) (s : Shared) (e : Value) (s' : Shared), CX [] H s (fun _ _ _ => False) e s' → False) :
    PySem.W.WalkO q loose XP YP l.row.toRowW d [] (fun f vs => PySem.call f vs) := by
  apply Att.attach_callB hn hdf
  intro w s0 s1 mg mb fa o pm cd doc a vs ns G Y ho hd hcd hmg hobj hints hlen hbits hg
  obtain ⟨K, fd, sp, KX, hb, hsp, hF⟩ := F w mg fa _ Y G.T.g hmg
  exact law_call KX G.T.g G.T.b G.T.builtins G.T.nolimit hg hobj hints (Nat.le_trans hlen hn2) hr hF hb (fun H z1 z2 => hsp H a ns hlen hbits z1 z2)
    (fun H e s' => hCX H s1 e s')
/-! heaps -/
theorem same_new {H : Hp} {p : Addr} {o : HO} (z : H p = none) : Same H (upd H p o) := by
  intro b x e
  rw [upd_ne (ne_of_none e z)]
  exact e
theorem at_ints {ns : List Int} {i : Int} (h0 : 0 ≤ i) (h1 : i < ns.length) : atI (ns.map V.int) i = some (.int (ns.getD i.toNat 0)) := by
  obtain ⟨j, rfl⟩ := Int.eq_ofNat_of_zero_le h0
  have hj : j < ns.length := by omega
  refine atI_nat ?_
  rw [List.getElem?_map, List.getElem?_eq_getElem hj]
  simp [List.getD, hj]
/-- what stands behind a statement, once for all its ways -/
theorem seq_by {t u : TS} {D : Ends} {σ : L2.St} {H : Hp} (Pv : L2.St → Hp → Prop) (fin : ∀ σ' H', Pv σ' H' → u D σ' H')
    (first : ∀ N : L2.St → Hp → Prop, (∀ σ' H', Pv σ' H' → N σ' H') → t { D with nx := N } σ H) : tSeq t u D σ H := first _ fin
theorem ifs_by {c : TT} {t1 t2 u : TS} {D : Ends} {σ : L2.St} {H : Hp} (Pv : L2.St → Hp → Prop) (fin : ∀ σ' H', Pv σ' H' → u D σ' H')
    (first : ∀ N : L2.St → Hp → Prop, (∀ σ' H', Pv σ' H' → N σ' H') → tIfS c t1 t2 { D with nx := N } σ H) : tSeq (tIfS c t1 t2) u D σ H := first _ fin
theorem ifD {c A B : Prop} [Decidable c] (hc : c) (h : A) : if decide c = true then A else B := by
  rw [if_pos (decide_eq_true hc)]
  exact h
theorem ifN {c A B : Prop} [Decidable c] (hc : ¬ c) (h : B) : if decide c = true then A else B := by
  rw [if_neg (by rw [decide_eq_true_eq]; exact hc)]
  exact h
theorem blD {c : Prop} [Decidable c] {Q : VK} {H : Hp} (hc : c) (h : Q (.bl true) H) : Q (.bl (decide c)) H := by
  rw [decide_eq_true hc]
  exact h
theorem blN {c : Prop} [Decidable c] {Q : VK} {H : Hp} (hc : ¬ c) (h : Q (.bl false) H) : Q (.bl (decide c)) H := by
  rw [decide_eq_false hc]
  exact h
theorem getD_all {α : Type} {Pr : α → Prop} {ns : List α} {d : α} (h : ∀ x ∈ ns, Pr x) {j : Int} (h0 : 0 ≤ j) (h1 : j < ns.length) : Pr (ns.getD j.toNat d) := by
  have hi : j.toNat < ns.length := by omega
  have e : ns.getD j.toNat d = ns[j.toNat]'hi := by simp [List.getD, hi]
  rw [e]
  exact h _ (List.getElem_mem _)
theorem ifNF {c A B : Prop} [Decidable c] (hc : c) (h : B) : if (!decide c) = true then A else B := by
  rw [decide_eq_true hc]
  exact h
theorem ifNT {c A B : Prop} [Decidable c] (hc : ¬ c) (h : A) : if (!decide c) = true then A else B := by
  rw [decide_eq_false hc]
  exact h
theorem at_list {α : Type} {ns : List α} {i : Int} (h0 : 0 ≤ i) (h1 : i < ns.length) : ∃ x ∈ ns, atI ns i = some x := by
  obtain ⟨j, rfl⟩ := Int.eq_ofNat_of_zero_le h0
  have hj : j < ns.length := by omega
  exact ⟨ns[j], List.getElem_mem _, atI_nat (List.getElem?_eq_getElem hj)⟩
theorem ite_share {c A R : Prop} [Decidable c] (leaf : A) (rest : ¬ c → A → R) : if c then A else R := by
  split
  · exact leaf
  · exact rest (by assumption) leaf
theorem ite_else {c A R : Prop} [Decidable c] (leaf : R) (rest : c → R → A) : if c then A else R := by
  split
  · exact rest (by assumption) leaf
  · exact leaf

/-! own rules: // and divmod by any divisor of few bits, a list turned about -/
section
variable {X : Cx}
theorem op_fdivG : OpR X (binaryOp .FloorDiv) (rI (fun _ j => j ≠ 0 ∧ j.natAbs.log2 < 9000) fun i j => .int (i.fdiv j)) :=
  opI fun _ _ _ _ _ _ _ hc q => floordiv_int hc.1 q (.inl (PyProof.noPylong_of_log2 hc.2))
theorem call_divmodG : CallR X (.builtin "divmod") (fun xs H Q => ∃ i j, xs = [.int i, .int j] ∧ (j ≠ 0 ∧ j.natAbs.log2 < 9000) ∧ ∀ p, H p = none → Q (.ref p) (upd H p (.tup [.int (i.fdiv j), .int (i.fmod j)]))) := by
  intro pins s σ H xs us Q I r h
  obtain ⟨i, j, rfl, hc, q⟩ := h
  obtain ⟨u1, u2, rfl, ⟨t1, rfl⟩, ⟨t2, rfl⟩⟩ := vals2 r
  refine divmod_int hc.1 ?_ (.inl (PyProof.noPylong_of_log2 hc.2))
  refine ⟨.ref s.heap.objs.size, _, ?_, rfl, q _ (I.hok.fresh (Nat.le_refl _))⟩
  refine I.laid (fun b o e => Heap.get?_push_of_some _ e) (Nat.le_refl _) ⟨by show 2 ≤ sizeLine; rw [sizeLine_eq]; decide, [.int (i.fdiv j) s.toks, .int (i.fmod j) (s.toks + 1)], .cons ⟨_, rfl⟩ (.cons ⟨_, rfl⟩ .nil), ?_⟩
  exact ⟨_, Heap.get?_push_size s.heap rfl, rfl, 0, rfl⟩
def tRevL (K : PySem.W.Frag) (te tk : TE) : TE := fun σ H Q => te σ H fun x H1 => tk σ H1 fun y H2 => y = .int (-1) ∧ ∃ a xs, x = .ref a ∧ SqL K H2 a xs ∧ ∀ p, H2 p = none → Q (.ref p) (upd H2 p (.lst xs.reverse))
theorem vals_rev : ∀ {xs : List V} {us : List Value}, Vals xs us → Vals xs.reverse us.reverse
  | _, _, .nil => .nil
  | _, _, .cons r t => by
    rw [List.reverse_cons, List.reverse_cons]
    exact (vals_rev t).append (.cons r .nil)
theorem pe_revL {e k : Expr} {te tk : TE} {p2 pos : Pos} (he : PE X e te) (hk : PE X k tk) : PE X (.Subscript e (.Slice none none (some k) p2) pos) (tRevL X.K te tk) := by
  refine ⟨fun pins s σ H Q I h => ?_⟩
  refine Subscript_ (thn (he.run pins s σ H _ I h) fun v s1 ⟨x, H1, I1, r1, q1⟩ => ?_)
  refine wpAny_Slice ?_
  rw [evalPart_none]
  refine wpAny_pure (wpAny_pure ?_)
  rw [evalPart_some]
  refine thn (hk.run pins s1 σ H1 _ I1 q1) fun vk s2 ⟨y, H2, I2, r2, ey, a, xs, ex, hx, q⟩ => ?_
  subst ey ex
  obtain ⟨t, rfl⟩ := r2
  cases r1
  have I4 : Inv X pins σ H2 { s2 with heap := s2.heap.push { cls := .type "slice", data := .fields #[.none, .none, .int (-1) t] } } := I2.kept (t' := s2.toks) fun b ob q => Heap.get?_push_of_some _ q
  obtain ⟨its, r, ht, hz⟩ := I4.list hx
  have hlen := r.length
  refine tail_any (ops := [.ref a, .ref s2.heap.objs.size]) ht.isList.typeIs slot_list_getitem.lookup ?_ (by with_unfolding_all rfl)
  refine wpAny_getItem_list_slice ht.isList (Heap.IsSliceOf.new ..) .none .none (.int (-1) t) (by decide) ?_ (by rw [List.size_toArray]; omega)
  rw [PySem.W.krv_pick]
  refine ⟨.ref _, _, I4.laid (t' := s2.toks) (o := .lst xs.reverse) (fun b ob q => Heap.get?_push_of_some _ q) (Nat.le_refl _) ?_, rfl, q _ (I4.hok.fresh (Nat.le_refl _))⟩
  exact ⟨by rw [List.length_reverse]; exact hz, its.reverse, 0, vals_rev r, Heap.get?_push_size _ rfl⟩
end

/-! what is kept: all but the mutable things of a set -/
def Kp (S : Addr → Prop) (H H' : Hp) : Prop := ∀ b o, H b = some o → (S b → ¬ Mut (some o)) → H' b = some o
theorem Kp.refl {S : Addr → Prop} {H : Hp} : Kp S H H := fun _ _ h _ => h
theorem Kp.trans {S : Addr → Prop} {H H1 H2 : Hp} (a : Kp S H H1) (b : Kp S H1 H2) : Kp S H H2 := fun c o h k => b c o (a c o h k) k
theorem Kp.mono {S S' : Addr → Prop} {H H' : Hp} (a : Kp S H H') (h : ∀ b, S b → S' b) : Kp S' H H' := fun c o e k => a c o e fun z => k (h c z)
theorem Kp.of_same {S : Addr → Prop} {H H' : Hp} (a : Same H H') : Kp S H H' := fun c o e _ => a c o e
theorem Kp.same {S : Addr → Prop} {H H1 H2 : Hp} (a : Same H H1) (b : Kp S H1 H2) (h : ∀ b, S b → H b = none) : Same H H2 := fun c o e => b c o (a c o e) fun z => by
  rw [h c z] at e
  cases e
theorem Kp.upd {S : Addr → Prop} {H : Hp} {p : Addr} {o u : HO} (h : H p = some o) (m : Mut (some o)) (hp : S p) : Kp S H (upd H p u) := fun c x e k => by
  by_cases z : c = p
  · subst z
    rw [h] at e
    cases e
    exact absurd m (k hp)
  · rw [upd_ne z]
    exact e
/-- the script: read, never written -/
def Scr (K : PySem.W.Frag) (H : Hp) (a : Addr) (xs : List V) : Prop := SqL K H a xs ∧ ¬ Mut (H a)
theorem Scr.kp {K : PySem.W.Frag} {S : Addr → Prop} {H H' : Hp} {a : Addr} {xs : List V} (h : Scr K H a xs) (k : Kp S H H') : SqL K H' a xs := by
  obtain ⟨h1, h2⟩ := h
  rcases h1 with (e | ⟨o, e⟩) | e
  · rw [e] at h2
    exact absurd trivial h2
  · exact .inl (.inr ⟨o, k _ _ e fun _ => by rw [← e]; exact h2⟩)
  · exact .inr e
/-! an own rule: a text some times over -/
section
variable {X : Cx}
theorem op_rep_str : OpR X (binaryOp .Mult) (fun x y H Q => ∃ (z : Str) (n : Int), x = .str z ∧ y = .int n ∧ 0 < z.length ∧ z.length ≤ 1000 ∧ 2 ≤ n ∧ n ≤ 1000 ∧ ∀ u : Str, u.length = n.toNat * z.length → Q (.str u) H) := by
  intro pins s σ H x y v u Q I rx ry h
  obtain ⟨z, n, rfl, rfl, z0, z1, n0, n1, q⟩ := h
  obtain ⟨t, rfl⟩ := rx
  obtain ⟨t', rfl⟩ := ry
  have hn : ¬ n < 1 := by omega
  have hq : (n == 1 || z.length == 0) = false := by
    rw [Bool.or_eq_false_iff]
    exact ⟨beq_eq_false_iff_ne.mpr (by omega), beq_eq_false_iff_ne.mpr (by omega)⟩
  have le : ∀ (k : Nat) (acc : Array Nat), ((List.replicate k z.cps).foldl (· ++ ·) acc).size = acc.size + k * z.length := by
    intro k
    induction k with
    | zero => intro acc; simp
    | succ k ih =>
      intro acc
      rw [List.replicate_succ, List.foldl_cons, ih, Array.size_append]
      show acc.size + z.length + k * z.length = acc.size + (k + 1) * z.length
      rw [Nat.add_mul]
      omega
  have l2 : (⟨(List.replicate n.toNat z.cps).foldl (· ++ ·) #[]⟩ : Str).length = n.toNat * z.length := by
    show ((List.replicate n.toNat z.cps).foldl (· ++ ·) #[]).size = _
    rw [le]
    simp
  have mm : z.length * n.toNat ≤ 1000 * 1000 := Nat.mul_le_mul z1 (by omega)
  have tl : Builtin.Str.tooLong (z.length * n.toNat) = false := by
    unfold Builtin.Str.tooLong
    rw [sizeLine_eq]
    exact decide_eq_false (by omega)
  refine PySem.P.mul_str ?_ (fun _ _ => ?_) (fun _ _ => tl) ?_
  · rw [decide_eq_false (by omega), decide_eq_false (by omega)]
    rfl
  · have : (1000 : Int) * n ≤ 2 ^ 63 - 1 := by omega
    have h3 : (1000 : Int) ≤ (2 ^ 63 - 1) / n := (Int.le_ediv_iff_mul_le (by omega)).mpr this
    omega
  · rw [if_neg hn, hq]
    exact ⟨by rw [l2, Nat.mul_comm, sizeLine_eq]; omega, .str _, H, I.tok _, ⟨_, rfl⟩, q _ l2⟩
end
/-- a comprehension over a text's signs -/
theorem lc_str {x : Str} {g : TG} {tt : TT} {te : TE} {vs : List Nat} {σ : L2.St} {H1 : Hp} {D : Addr} {Qd : Hp → Prop} (Pv : Nat → Hp → Prop) (h0 : Pv 0 (upd H1 D (.lst [])))
    (hs : ∀ i c H, x.cps.toList[i]? = some c → Pv i H → g (.str ⟨#[c]⟩) (wipe σ vs) H fun σ2 H2 => wipe σ2 vs = wipe σ vs ∧ tt σ2 H2 fun b H3 =>
      if b = true then te σ2 H3 fun y H4 => ∃ acc, H4 D = some (.lst acc) ∧ acc.length < sizeLine ∧ Pv (i + 1) (upd H4 D (.lst (acc ++ [y]))) else Pv (i + 1) H3) (hd : ∀ H, Pv x.cps.toList.length H → Qd H) :
    ∃ W : Nat → Nat → Hp → Prop, (∃ m, W 0 m (upd H1 D (.lst []))) ∧ ∀ i m H, W i m H →
      ((Its x).stop i H ∧ Qd H) ∨ ((Its x).go i H ∧ ∃ Nx : Hp → Prop, (∀ H', Nx H' → ∃ m', m' < m ∧ W (i + 1) m' H') ∧ ∀ y H', (Its x).yld i H y H' → g y (wipe σ vs) H' fun σ2 H2 => wipe σ2 vs = wipe σ vs ∧ tt σ2 H2 fun b H3 =>
        if b = true then te σ2 H3 fun y H4 => ∃ acc, H4 D = some (.lst acc) ∧ acc.length < sizeLine ∧ Nx (upd H4 D (.lst (acc ++ [y]))) else Nx H3) := by
  have hl : x.cps.toList.length = x.cps.size := by simp
  refine ⟨fun i m H => m = x.cps.size - i ∧ i ≤ x.cps.size ∧ Pv i H, ⟨x.cps.size, by simp, Nat.zero_le _, h0⟩, ?_⟩
  rintro i m H ⟨rfl, hi, p⟩
  by_cases hlt : i < x.cps.size
  · refine .inr ⟨hlt, Pv (i + 1), fun H' p' => ⟨x.cps.size - (i + 1), by omega, rfl, hlt, p'⟩, fun y H' hy => ?_⟩
    obtain ⟨rfl, c, hc, rfl⟩ := hy
    exact hs i c H' (by rw [Array.getElem?_toList]; exact hc) p
  · refine .inl ⟨Nat.le_of_not_lt hlt, hd H ?_⟩
    rw [hl, show x.cps.size = i by omega]
    exact p
section
variable {X : Cx}
theorem call_str_any : CallR X (.type "str") (fun xs H Q => (∃ i : Int, xs = [.int i] ∧ i.natAbs.log2 < 1920 ∧ Q (.str (toString i)) H) ∨ ∃ a : Str, xs = [.str a] ∧ Q (.str a) H) := by
  intro pins s σ H xs us Q I r h
  rcases h with h | h
  · exact call_str_int pins s σ H xs us Q I r h
  · exact SkE.call_str_str pins s σ H xs us Q I r h
end

/-! rules for use within a comprehension: the written part named -/
section
variable {X : Cx} {K : PySem.W.Frag}
theorem ix_listK (h : X.K = K) : IxR X (rIxL K) := by subst h; exact ix_list
theorem ix_tupK (h : X.K = K) : IxR X (rIxT K) := by subst h; exact ix_tup
theorem op_in_seqK (h : X.K = K) : OpR X (compareOp .In) (rIn K false) := by subst h; exact op_in_seq
theorem op_notIn_seqK (h : X.K = K) : OpR X (compareOp .NotIn) (rIn K true) := by subst h; exact op_notIn_seq
theorem call_isiK (h : X.K = K) : CallR X (.builtin "isinstance") (rIsi K) := by subst h; exact call_isi
theorem call_len_seqK (h : X.K = K) : CallR X (.builtin "len") (fun xs H Q => ∃ p ys, xs = [.ref p] ∧ (SqL K H p ys ∨ SqT K H p ys) ∧ Q (.int ys.length) H) := by subst h; exact call_len_seq
end

/-! an own exception class over an own one: what the head shows of it; Base.__init__(self, ..) -/
section
open PySem.W
def oexB (K : PySem.W.Frag) (C : Addr) : Bool := (match K.lookup C with
  | some ⟨.type "type", _, .cls cd, sl⟩ => (match cd.mro, sl.toList with
    | .ref C' :: bm, [_, _, _, _, some (.builtin n), _] => C' == C && n == "ValueError.__new__" && !cd.hasDel && cd.hasDict && PySem.HandSPX.refsVE bm
    | _, _ => false)
  | _ => false) && (decide (PySem.W.findIn K (.ref C) "__setattr__" = some (some (.builtin "object.__setattr__"))) && (decide (PySem.W.subIn K (.ref C) (.type "BaseException") = some true) && (decide (PySem.W.typeIn K (.ref C) = some (.type "type")) && PySem.W.keepIn K (.ref C))))
theorem oexB_ok {K : PySem.W.Frag} {C : Addr} (h : oexB K C = true) : OexC K C := by
  obtain ⟨h1, h⟩ := Bool.and_eq_true_iff.mp h
  obtain ⟨h2, h⟩ := Bool.and_eq_true_iff.mp h
  obtain ⟨h3, h⟩ := Bool.and_eq_true_iff.mp h
  obtain ⟨h4, h5⟩ := Bool.and_eq_true_iff.mp h
  refine ⟨?_, of_decide_eq_true h2, of_decide_eq_true h3, of_decide_eq_true h4, h5⟩
  split at h1
  · rename_i dd cd sl ho
    split at h1
    · rename_i C' bm k0 k1 k2 k3 n k5 hm hs
      simp only [Bool.and_eq_true, beq_iff_eq, Bool.not_eq_true'] at h1
      obtain ⟨⟨⟨⟨rfl, rfl⟩, hdl⟩, hdc⟩, hb⟩ := h1
      obtain ⟨nm, bs, mro, ns, qn, hd, sn, sb, ab, col, del⟩ := cd
      dsimp only at hm hdl hdc
      subst hm hdl hdc
      obtain ⟨sl⟩ := sl
      dsimp only at hs
      subst hs
      exact ⟨nm, qn, ns, bs, bm, sn, sb, ab, col, dd, k0, k1, k2, k3, k5, ho, hb⟩
    · cases h1
  · cases h1
/-- W.__init__ is ValueError's -/
structure WeI (K : PySem.W.Frag) (W : Addr) : Prop where
  rd : PySem.W.readsIn K W (.type "type") = true
  ga : PySem.W.specialIn K (.ref W) "__getattribute__" = some (some (.builtin "type.__getattribute__"))
  at_ : PySem.W.findCls K (.ref W) (.type "type") "__init__" = some (.val (.builtin "ValueError.__init__"))
def weB (K : PySem.W.Frag) (W : Addr) : Bool := PySem.W.readsIn K W (.type "type") && (decide (PySem.W.specialIn K (.ref W) "__getattribute__" = some (some (.builtin "type.__getattribute__"))) && (match PySem.W.findCls K (.ref W) (.type "type") "__init__" with
  | some (.val v) => decide (v = .builtin "ValueError.__init__")
  | _ => false))
theorem weB_ok {K : PySem.W.Frag} {W : Addr} (h : weB K W = true) : WeI K W := by
  obtain ⟨h1, h⟩ := Bool.and_eq_true_iff.mp h
  obtain ⟨h2, h3⟩ := Bool.and_eq_true_iff.mp h
  refine ⟨h1, of_decide_eq_true h2, ?_⟩
  split at h3
  · rename_i v e
    rw [e, of_decide_eq_true h3]
  · cases h3
/-- __init__ of C is the def at f -/
structure OIn (K : PySem.W.Frag) (C f : Addr) : Prop where
  iC : PySem.W.findIn K (.ref C) "__init__" = some (some (.ref f))
  tI : PySem.W.typeIn K (.ref f) = some (.type "function")
def oinB (K : PySem.W.Frag) (C f : Addr) : Bool := decide (PySem.W.findIn K (.ref C) "__init__" = some (some (.ref f))) && decide (PySem.W.typeIn K (.ref f) = some (.type "function"))
theorem oinB_ok {K : PySem.W.Frag} {C f : Addr} (h : oinB K C f = true) : OIn K C f := by
  obtain ⟨h1, h2⟩ := Bool.and_eq_true_iff.mp h
  exact ⟨of_decide_eq_true h1, of_decide_eq_true h2⟩
def nofB (K : PySem.W.Frag) (C : Addr) (f : Str) : Bool := decide (PySem.W.findIn K (.ref C) f = some none)
theorem nofB_ok {K : PySem.W.Frag} {C : Addr} {f : Str} (h : nofB K C f = true) : PySem.W.findIn K (.ref C) f = some none := of_decide_eq_true h
end
section
variable {X : Cx} {e : Expr} {es : List Expr} {ta : TA} {x : Str} {W : Addr} {p1 p2 pos : Pos}
theorem pe_weinit {pl : Sem Bool} (hg : Gl X x) (hm : X.mg x = some (.ref W)) (T : WeI X.K W) (ha : PA X (e :: es) ta) (hdb : (x == ("__debug__" : Str)) = false := by decide)
    (hc : eval (.Call (.Attribute (.Name x p1) "__init__" p2) (e :: es) [] pos) X.env = (do
      let ov ← eval (.Name x p1) X.env
      standAt p2.atName
      let (f, first) ← holding [ov] (getMethod ov "__init__" pl)
      callWith pos f first (backTo pos (starEach (e :: es) X.env)) (backToKw pos (keywordEach [] X.env))) := by rfl)
    (he : starEach (e :: es) X.env = (false, eval e X.env) :: starEach es X.env := by rfl) (hpl : (backTo pos (starEach es X.env)).any (·.1) = false := by rfl) :
    PE X (.Call (.Attribute (.Name x p1) "__init__" p2) (e :: es) [] pos) (tVeI X.K ta) := by
  refine ⟨fun pins s σ H Q I h => ?_⟩
  refine PySem.W.methodCall_KW (ld_glob I hg hm ?_ hdb) hc
  refine PySem.W.method_cls I.kIn T.ga (PySem.W.cls_value I.kIn T.rd T.at_ (by decide +kernel) ?_)
  show wpAny _ _ (callWith pos (Value.builtin "ValueError.__init__") [] (backTo pos (starEach (e :: es) X.env)) []) _ _ _
  refine PyProof.Rows.callWith_method1 (thn (ha.run pos pins _ σ H _ (I.tok _) h) fun us s1 ⟨vs, H1, I1, r1, a, C, ws, ev, hl, T, ea, q⟩ => ?_) he hpl
  subst ev
  cases r1 with
  | @cons _ u0 _ ur ra rw' =>
    obtain rfl : u0 = Value.ref a := ra
    have hlen : ur.length ≤ sizeLine := by
      rw [← Paired.length rw', sizeLine_eq]
      omega
    exact oinit_ok T I1 ea hlen fun s' J => ⟨.non, H1, J, rfl, q⟩
end

/-! except clauses whose exception is kept behind them: own rule -/
namespace TryK
open PySem PySem.Spec PyProof.Rows L2
/-- an exception that was caught -/
def ExK (cls : Value) (d : Option Addr) (a : Addr) : HO := .ext fun h => ∃ (oe : Obj) (vs : Array Value), h.get? a = some oe ∧ Zc cls d oe ∧ oe.data = .fields vs
theorem exK_ok {P : Program} {w : World} {H : Hp} {h : Heap} {a : Addr} {cls : Value} {d : Option Addr} {oe : Obj} {vs : Array Value} (e : h.get? a = some oe) (z : Zc cls d oe) (f : oe.data = .fields vs) : ObjOk P w H h a (ExK cls d a) :=
  ⟨⟨oe, vs, e, z, f⟩, ⟨oe, e⟩, fun _ _ ⟨o, v, q, r⟩ k => ⟨o, v, k o q, r⟩⟩
/-- an object that stands there since a later state is tracked from now on -/
theorem adopt {X : Cx} {pins : List (Addr × Obj)} {σ σI : L2.St} {H HI : Hp} {s sI : Shared} {a : Addr} {o : HO} (I : L2.Inv X pins σ H s) (J : L2.Inv X pins σI HI sI) (n : sI.heap.get? a = none) (hn : H a = none) (hL : a ≠ X.env.locals)
    (nc : ∃ oe, s.heap.get? a = some oe ∧ ∀ v, oe.data ≠ .cell v) (new : ObjOk X.prog X.w (upd H a o) s.heap a o) : L2.Inv X pins σ (upd H a o) s := by
  have ne0 : ∀ b u, X.s_0.heap.get? b = some u → b ∉ X.ex → b ≠ a := fun b u e hx z => by
    obtain ⟨o', q⟩ := J.base.there b u e hx
    rw [z, n] at q
    cases q
  refine ⟨I.ok, I.os, I.bare, ⟨I.base.keep, I.base.slot, fun b u e h0 hx => ?_, I.base.there, fun b xs e => ?_, fun b u xs e => ?_, fun b ps e => ?_⟩, I.loc, I.cell, ?_, fun x c e => ?_, fun p hp => ?_, I.hok.laidN (fun _ _ z => z) hn new, I.len⟩
  · rw [upd_ne (ne0 b u e hx)]
    exact I.base.free b u e h0 hx
  · have q := I.base.tups b xs e
    rw [upd_ne (ne_of_none q hn)]
    exact q
  · have q := I.base.frzs b u xs e
    rw [upd_ne (ne_of_none q hn)]
    exact q
  · obtain ⟨m, q⟩ := I.base.tbls b ps e
    exact ⟨m, by rw [upd_ne (ne_of_none q hn)]; exact q⟩
  · rw [upd_ne hL.symm]
    exact I.free
  · have hc : c ≠ a := fun z => by
      obtain ⟨v, oc, e1, e2⟩ := I.cell x c e
      obtain ⟨oe, e3, e4⟩ := nc
      rw [z, e3] at e1
      cases e1
      exact e4 _ e2
    rw [upd_ne hc]
    exact I.freeC x c e
  · obtain ⟨e, h1, h2, h3, h4⟩ := I.pin p hp
    have hpa : p.1 ≠ a := fun z => by
      have := (J.pin p hp).1
      rw [z, n] at this
      cases this
    exact ⟨e, by rw [upd_ne hpa]; exact h1, h2, h3, h4⟩
end TryK
namespace TryK
open PySem PySem.Spec PyProof.Rows L2
def endsOff (i : Nat) (D : Ends) : Ends := { nx := fun σ' H' => D.nx (σ'.set i none) H', rt := D.rt, bk := fun σ' H' => D.bk (σ'.set i none) H', ct := fun σ' H' => D.ct (σ'.set i none) H' }
/-- behind the clause: the name is gone, the exception is kept -/
def endsKeep (i : Nat) (a : Addr) (cls : Value) (d : Option Addr) (D : Ends) : Ends := { nx := fun σ' H' => D.nx (σ'.set i none) (upd H' a (ExK cls d a)), rt := D.rt, bk := fun σ' H' => D.bk (σ'.set i none) H', ct := fun σ' H' => D.ct (σ'.set i none) H' }
def wNam (K : PySem.W.Frag) (Wout : WX) (D : Ends) : List (Value × Option Nat × (Addr → Value → Option Addr → TS)) → WX
  | [] => Wout
  | (c, none, ts) :: r => fun cls d σ H => ∃ b, PySem.W.exmOne K cls c = some b ∧ (b = true → ∀ a, H a = none → ts a cls d D σ H) ∧ (b = false → wNam K Wout D r cls d σ H)
  | (c, some i, ts) :: r => fun cls d σ H => ∃ b, PySem.W.exmOne K cls c = some b ∧ (b = true → ∀ a, H a = none → ts a cls d (endsKeep i a cls d D) (σ.set i (some (.ref a))) H) ∧ (b = false → wNam K Wout D r cls d σ H)
inductive HdsN (X : Cx) : List ExceptHandler → List (Value × Option Nat × (Addr → Value → Option Addr → TS)) → Prop
  | nil : HdsN X [] []
  | cons {x : Str} {c : Value} {ts : Addr → Value → Option Addr → TS} {b₀ : Stmt} {suite : List Stmt} {np pos' : Pos} {hds : List ExceptHandler} {l : List (Value × Option Nat × (Addr → Value → Option Addr → TS))} (hc : Names X x c)
      (hsu : ∀ (a : Addr) (oe : Obj) (cls : Value) (d : Option Addr) (pn : List (Addr × Obj)), Zc cls d oe → (∃ vs, oe.data = .fields vs) → PSs (X.suite a ((a, oe) :: pn)) (b₀ :: suite) (ts a cls d)) (r : HdsN X hds l) :
      HdsN X (.ExceptHandler (some (.Name x np)) none (b₀ :: suite) pos' :: hds) ((c, none, ts) :: l)
  | as {x n : Str} {i : Nat} {c : Value} {ts : Addr → Value → Option Addr → TS} {b₀ : Stmt} {suite : List Stmt} {np pos' : Pos} {hds : List ExceptHandler} {l : List (Value × Option Nat × (Addr → Value → Option Addr → TS))} (hc : Names X x c)
      (hi : X.N[i]? = some n) (hln : X.env.kindOf n = some .local)
      (hsu : ∀ (a : Addr) (oe : Obj) (cls : Value) (d : Option Addr) (pn : List (Addr × Obj)), Zc cls d oe → (∃ vs, oe.data = .fields vs) → PSs (X.suite a ((a, oe) :: pn)) (b₀ :: suite) (ts a cls d)) (r : HdsN X hds l) :
      HdsN X (.ExceptHandler (some (.Name x np)) (some n) (b₀ :: suite) pos' :: hds) ((c, some i, ts) :: l)
section
variable {X : Cx} {body : List Stmt} {h₀ : ExceptHandler} {hds : List ExceptHandler} {l : List (Value × Option Nat × (Addr → Value → Option Addr → TS))} {pos : Pos} {tb : WX → TS} {Wout : WX}
theorem ps_try_nam (hs : X.stack = X.env :: X.outer) (hf : X.env.frame = some X.env.locals) (hN : X.N.Nodup) (tk : Takes X Wout)
    (hb : ∀ (W : WX) (pn : List (Addr × Obj)) (xe : Value → Shared → Prop), Takes (X.tr pn xe) W → PassesOwn (model X.prog X.w) X.A X.env xe → PSs (X.tr pn xe) body (tb W))
    (hh : HdsN X (h₀ :: hds) l) : PS X (.Try body (h₀ :: hds) [] [] pos) (fun D σ H => tb (wNam X.K Wout D l) D σ H) := by
  refine ⟨fun pins s σ H D I h => ?_⟩
  have ok := I.ok
  have hfr : X.A.frames = some (X.env :: X.outer) := by rw [ok.frames, hs]
  refine wpAny_Try_except ?_
  refine wpAny_mono ((hb (wNam X.K Wout D l) (X.pn ++ pins) (fun e s₁ => wpAny (model X.prog X.w) X.A (noteFrame e X.env) (fun _ s₂ => wpAny (model X.prog X.w) X.A (setFlight e none) (fun _ s₃ =>
    wpAny (model X.prog X.w) X.A (handleBy e X.env (h₀ :: hds)) (SP X pins D) X.xe s₃) X.xe s₂) X.xe s₁) (fun u s' xx => ?_) PassesOwn.looking).run [] s σ H D (I.toTry _) h) (fun f s1 hsp => ?_) (fun e s1 he => he)
  · obtain ⟨a, B, sI, pins', σ', H', cls, d, rfl, J', nb, up, sky, na, os, ag, w⟩ := xx
    have J : Inv X pins σ' H' sI := J'.ofTry ok
    have sky' : Sky B (X.env :: X.outer) a (Zc cls d) X.env.locals s'.heap := by rw [← hs]; exact sky
    show wpAny (model X.prog X.w) X.A (noteFrame (.ref a) X.env) _ _ _
    refine Sky.land Zc.steady hfr hf sky' fun h3 fl3 up3 => ?_
    have J3 : Inv X pins σ' H' { s' with heap := h3 } := J.landed nb fl3.1 (up.trans up3) os ag
    obtain ⟨oe3, vs3, he3, hz3, hd3⟩ := fl3.there
    have nfr : a ∉ frs (X.env :: X.outer) := fun hm => by
      obtain ⟨_, o', e', hnf⟩ := fl3.2.2.1.mem hm
      rw [he3] at e'
      cases e'
      exact hnf _ hd3
    have nL : a ≠ X.env.locals := fun z => nfr (List.mem_filterMap.mpr ⟨X.env, List.mem_cons_self, by rw [hf, z]⟩)
    have nF : a ∉ X.fs := fun hm => by
      obtain ⟨e, he, q⟩ := List.mem_filterMap.mp hm
      exact nfr (List.mem_filterMap.mpr ⟨e, List.mem_cons_of_mem _ he, q⟩)
    have S3 := J3.suite he3 hd3 na nL nF
    have na0 : sI.heap.get? a = none := by
      cases e : sI.heap.get? a with
      | none => rfl
      | some o =>
        have q := nb a o e (by rw [hs]; exact nfr)
        rw [fl3.2.1] at q
        cases q
    have LT : PySem.W.Looks (model X.prog X.w) h3 (typeOf (.ref a)) cls := fun A Q E s k q => wpAny_typeOf_ref (k _ _ he3) (by rw [hz3.1]; exact q)
    have test : ∀ {x : Str} {np : Pos} {c : Value} {Q : Value → Shared → Prop} {E : Value → Shared → Prop}, Names X x c → Q c { s' with heap := h3 } → wpAny (model X.prog X.w) (X.A.mark (some (.ref a))) (eval (.Name x np) X.env) Q E { s' with heap := h3 } := fun {x np c Q E} hc q => by
      obtain ⟨hg, hdbg, hm | ⟨hm, hv, hnn⟩⟩ := hc
      · exact ld_glob (X := X.suite a ((a, oe3) :: (X.pn ++ pins))) S3 hg hm q hdbg
      · exact ld_blt (X := X.suite a ((a, oe3) :: (X.pn ++ pins))) S3 hg hm hv q hnn hdbg
    have go : ∀ {hds' : List ExceptHandler} {l' : List (Value × Option Nat × (Addr → Value → Option Addr → TS))}, HdsN X hds' l' → wNam X.K Wout D l' cls d σ' H' →
        wpAny (model X.prog X.w) X.A (handleBy (.ref a) X.env hds') (SP X pins D) X.xe { s' with heap := h3 } := by
      intro hds' l' hk
      induction hk with
      | nil =>
        intro w
        refine wpAny_handleBy_nil ?_
        obtain ⟨k1, k2, k3, oe, vs, T, oT, ts', he, hz, hd, h1, hr⟩ := id fl3
        unfold PySem.passOn
        refine wpAny_bind (wpAny_field he hd h1 ?_)
        rw [if_neg (show ¬ ((Value.ref T == Value.none) = true) from by simp)]
        have fin : wpAny (model X.prog X.w) X.A (setFlight (.ref a) X.env.frame) (fun _ s4 => wpAny (model X.prog X.w) X.A (throw (.ref a) : Sem Flow) (SP X pins D) X.xe s4) X.xe { s' with heap := h3 } := by
          rw [hf]
          refine HandSPX.setFlight_upZ fl3 fun h4 hh4 up4 => wpAny_throw (tk _ _ ?_)
          exact ⟨a, B, sI, pins, σ', H', cls, d, rfl, J, nb, (up.trans up3).trans up4, .inr (.inr (by rw [hs]; exact hh4)), na, os, ag, w⟩
        first
          | exact wpAny_bind (wpAny_pure (wpAny_bind fin))
          | exact wpAny_bind fin
      | @cons x c ts b₀ suite np pos' hds2 l2 hc hsu r ih =>
        intro w
        obtain ⟨b, hb1, hyes, hno⟩ := w
        refine wpAny_handleBy_cons (codeAny_handlers_test ?_) (by intro q; cases q)
        refine test hc ((PySem.W.exm_one (M := model X.prog X.w) (J3.kIn) LT hb1).here ?_)
        cases b with
        | true =>
          refine codeAny_handlers_suite ?_
          refine HandSPX.lands_againZ fl3 fun h4 fl4 up4 => ?_
          have J4 : Inv X pins σ' H' { s' with heap := h4 } := J.landed nb fl4.1 ((up.trans up3).trans up4) os ag
          obtain ⟨oe4, vs4, he4, hz4, hd4⟩ := fl4.there
          have S4 := J4.suite he4 hd4 na nL nF
          refine wpAny_mono ((hsu a oe4 cls d (X.pn ++ pins) hz4 ⟨_, hd4⟩).run [] _ _ H' _ S4 (hyes rfl a na)) (fun f s6 hsp => ?_) (fun _ _ z => False.elim z)
          cases f with
          | next => obtain ⟨σ6, H6, S6, q6⟩ := hsp; exact ⟨_, _, S6.unsuite ok, q6⟩
          | brk => obtain ⟨σ6, H6, S6, q6⟩ := hsp; exact ⟨_, _, S6.unsuite ok, q6⟩
          | cont => obtain ⟨σ6, H6, S6, q6⟩ := hsp; exact ⟨_, _, S6.unsuite ok, q6⟩
          | ret u => obtain ⟨v6, σ6, H6, S6, r6, q6⟩ := hsp; exact ⟨_, _, _, S6.unsuite ok, r6, q6⟩
        | false =>
          show wpAny _ X.A (handleBy (.ref a) X.env hds2) _ _ _
          exact ih (hno rfl)
      | @as x n i c ts b₀ suite np pos' hds2 l2 hc hi hln hsu r ih =>
        intro w
        obtain ⟨b, hb1, hyes, hno⟩ := w
        refine wpAny_handleBy_cons (codeAny_handlers_test ?_) (by intro q; cases q)
        refine test hc ((PySem.W.exm_one (M := model X.prog X.w) (J3.kIn) LT hb1).here ?_)
        cases b with
        | true =>
          refine codeAny_handlers_suite_as ?_
          refine HandSPX.lands_againZ fl3 fun h4 fl4 up4 => ?_
          have J4 : Inv X pins σ' H' { s' with heap := h4 } := J.landed nb fl4.1 ((up.trans up3).trans up4) os ag
          obtain ⟨oe4, vs4, he4, hz4, hd4⟩ := fl4.there
          have S4 := J4.suite he4 hd4 na nL nF
          refine store_ok (X := X.suite a ((a, oe4) :: (X.pn ++ pins))) (v := .ref a) S4 hN hi (.inl hln) rfl (fun s5 S5 => ?_) (.inr hln)
          refine wpAny_mono ((hsu a oe4 cls d (X.pn ++ pins) hz4 ⟨_, hd4⟩).run [] s5 _ H' _ S5 (hyes rfl a na)) (fun f s6 hsp => ?_) (fun _ _ z => False.elim z)
          have end_ : ∀ {σ6 : L2.St} {H6 : Hp} {Q : Shared → Prop}, Inv (X.suite a ((a, oe4) :: (X.pn ++ pins))) [] σ6 H6 s6 → (∀ s7, Inv X pins (σ6.set i none) H6 s7 → Q s7) →
              wpAny (model X.prog X.w) X.A (do bindName X.env n .none; unbindBehindTheSuite X.env n pos') (fun _ s7 => Q s7) X.xe s6 := fun {σ6 H6 Q} S6 hq => gone_ok (S6.unsuite ok) hN hi hln hq
          cases f with
          | next =>
            obtain ⟨σ6, H6, S6, q6⟩ := hsp
            have hp := S6.pin (a, oe4) (List.mem_append.mpr (.inl List.mem_cons_self))
            have J6 : L2.Inv X pins σ6 (upd H6 a (ExK cls d a)) s6 := adopt (S6.unsuite ok) J na0 hp.2.1 nL ⟨oe4, hp.1, hp.2.2.2.2⟩ (exK_ok hp.1 hz4 hd4)
            exact gone_ok J6 hN hi hln fun s7 J7 => ⟨_, _, J7, q6⟩
          | brk => obtain ⟨σ6, H6, S6, q6⟩ := hsp; exact end_ S6 fun s7 J7 => ⟨_, _, J7, q6⟩
          | cont => obtain ⟨σ6, H6, S6, q6⟩ := hsp; exact end_ S6 fun s7 J7 => ⟨_, _, J7, q6⟩
          | ret u => obtain ⟨v6, σ6, H6, S6, r6, q6⟩ := hsp; exact end_ S6 fun s7 J7 => ⟨_, _, _, J7, r6, q6⟩
        | false =>
          show wpAny _ X.A (handleBy (.ref a) X.env hds2) _ _ _
          exact ih (hno rfl)
    exact go hh w
  · cases f with
    | next => obtain ⟨σ', H', J', q⟩ := hsp; exact wpAny_execs_nil ⟨σ', H', J'.ofTry ok, q⟩
    | brk => obtain ⟨σ', H', J', q⟩ := hsp; exact ⟨σ', H', J'.ofTry ok, q⟩
    | cont => obtain ⟨σ', H', J', q⟩ := hsp; exact ⟨σ', H', J'.ofTry ok, q⟩
    | ret u => obtain ⟨v, σ', H', J', r, q⟩ := hsp; exact ⟨v, σ', H', J'.ofTry ok, r, q⟩
end
/-- isinstance of an exception that was kept -/
def rIsX (K : PySem.W.Frag) (D : Addr) : List V → Hp → VK → Prop := fun xs H Q => ∃ (a : Addr) (c : V) (cv : Value) (b : Bool), xs = [.ref a, c] ∧ H a = some (ExK (.ref D) none a) ∧ (∀ u, RelV c u → u = cv) ∧ PySem.W.kitOne K (.ref D) cv = some b ∧ Q (.bl b) H
theorem call_isX {X : Cx} {D : Addr} (C : ExcC X.K D) : CallR X (.builtin "isinstance") (rIsX X.K D) := by
  intro pins s σ H xs us Q I r h
  obtain ⟨a, c, cv, b, rfl, ha, hcv, e, q⟩ := h
  obtain ⟨u1, u2, rfl, rx, rt⟩ := vals2 r
  cases (show u1 = Value.ref a from rx)
  have ec := hcv _ rt
  subst ec
  obtain ⟨⟨oe, vs, hget, hz, hv⟩, _⟩ := I.hok a _ ha
  have J : PySem.W.InstAt s.heap a oe D none := by
    obtain ⟨oc, od, oda, osl⟩ := oe
    obtain ⟨h1, h2⟩ := hz
    dsimp only at h1 h2 hv
    subst h1 h2 hv
    exact ⟨hget, rfl, rfl, trivial⟩
  exact PySem.W.kia_one (PySem.W.handS_kitx_exc C.hg C.hk C.hs C.hd C.ha C.hn C.ht C.hm) I.kIn J e (fun z => nomatch z) fun tk => ⟨.bl b, H, I.kept (t' := tk) fun _ _ z => z, rfl, q⟩
def eicB (K : PySem.W.Frag) (D : Addr) : Bool := decide (PySem.W.findIn K (.ref D) "__getattribute__" = some (some (.builtin "BaseException.__getattribute__"))) && (decide (PySem.W.findIn K (.ref D) "__getattr__" = some none) && (decide (PySem.W.subIn K (.ref D) (.type "BaseException") = some true) && (PySem.W.hasDictIn K D && (decide (PySem.W.findIn K (.ref D) "__class__" = some (some (.builtin "object.__class__"))) &&
  (decide (PySem.W.specialIn K (.builtin "object.__class__") "__get__" = some (some (.builtin "getset_descriptor.__get__"))) && (decide (PySem.W.takesIn K (.builtin "object.__class__") = some true) && decide (PySem.W.mroIn K D (.type "object") = some true)))))))
theorem eicB_ok {K : PySem.W.Frag} {D : Addr} (h : eicB K D = true) : ExcC K D := by
  obtain ⟨h1, h⟩ := Bool.and_eq_true_iff.mp h
  obtain ⟨h2, h⟩ := Bool.and_eq_true_iff.mp h
  obtain ⟨h3, h⟩ := Bool.and_eq_true_iff.mp h
  obtain ⟨h4, h⟩ := Bool.and_eq_true_iff.mp h
  obtain ⟨h5, h⟩ := Bool.and_eq_true_iff.mp h
  obtain ⟨h6, h⟩ := Bool.and_eq_true_iff.mp h
  obtain ⟨h7, h8⟩ := Bool.and_eq_true_iff.mp h
  exact ⟨of_decide_eq_true h1, of_decide_eq_true h2, of_decide_eq_true h3, h4, of_decide_eq_true h5, of_decide_eq_true h6, of_decide_eq_true h7, of_decide_eq_true h8⟩
/-- how many are equal, of flat values -/
def rCntF (K : PySem.W.Frag) : V → List V → Hp → VK → Prop := fun x xs H Q => ∃ (a : Addr) (ys : List V) (y : V), x = .ref a ∧ xs = [y] ∧ SqL K H a ys ∧ flatV y = true ∧ ys.all flatV = true ∧ Q (.int (ys.countP fun z => eqV z y : Nat)) H
theorem cntF_eq {y : V} {uy : Value} : ∀ {ys : List V} {us : List Value}, Vals ys us → ys.all flatV = true → us.countP (eqU y) = ys.countP fun z => eqV z y
  | _, _, .nil, _ => rfl
  | _, _, .cons (a := x) (b := u) r t, f => by
    rw [List.all_cons, Bool.and_eq_true] at f
    rw [List.countP_cons, List.countP_cons, cntF_eq (uy := uy) t f.2, eqU_of r f.1]
theorem mt_countF {X : Cx} : MtR X "list.count" (rCntF X.K) := by
  intro pins s σ H x xs v us Q I rx rxs h
  obtain ⟨a, ys, y, rfl, rfl, hs, fy, fys, q⟩ := h
  cases rx
  obtain ⟨uy, rfl, ry⟩ := rxs.one
  obtain ⟨its, rv, ⟨⟨cls, dd, data, sl⟩, n, ho, hc, hdn, hd⟩, hlen⟩ := I.list hs
  simp only at hc hd
  subst hc hd
  refine call_meets PySem.F.slot_list_count ⟨_, ho, rfl⟩ PySem.F.entry_list_count (PySem.F.args_list_count_2 _ _)
    (SeqAt.list_countAt a its.toArray n dd sl uy (eqU y)) ⟨ho, fun u' hu' => mem_eqAt ry fy rv fys u' (by simpa using hu'), ?_⟩
  have ec : its.toArray.toList.countP (eqU y) = ys.countP fun z => eqV z y := cntF_eq (uy := uy) rv fys
  refine ⟨.int (ys.countP fun z => eqV z y : Nat), H, I.tok _, ⟨s.toks, ?_⟩, q⟩
  show Value.int ((its.toArray.toList.countP (eqU y) : Nat) : Int) s.toks = _
  rw [ec]
end TryK

def topS (i : Nat) : Stmt := PySem.Challenge.pw_passworks_k14_inputs.main.body.getD i (.Pass ⟨0, 0, 0, 0⟩)
abbrev s_wrapped : Stmt := topS 9
abbrev N_wrapped : List Str := ["n"]
theorem sc_wrapped : FnScope N_wrapped ["n"] (defScope s_wrapped) := ⟨rfl, rfl, rfl, by decide +kernel, rfl, by decide +kernel, by decide +kernel⟩
abbrev s_divided : Stmt := topS 10
abbrev N_divided : List Str := ["word", "one", "other", "quotient", "rest"]
theorem sc_divided : FnScope N_divided ["word", "one", "other"] (defScope s_divided) := ⟨rfl, rfl, rfl, by decide +kernel, rfl, by decide +kernel, by decide +kernel⟩
abbrev s_reckoned : Stmt := topS 11
abbrev N_reckoned : List Str := ["word", "one", "other"]
theorem sc_reckoned : FnScope N_reckoned ["word", "one", "other"] (defScope s_reckoned) := ⟨rfl, rfl, rfl, by decide +kernel, rfl, by decide +kernel, by decide +kernel⟩
abbrev s_denied : Stmt := topS 12
abbrev N_denied : List Str := ["n"]
theorem sc_denied : FnScope N_denied ["n"] (defScope s_denied) := ⟨rfl, rfl, rfl, by decide +kernel, rfl, by decide +kernel, by decide +kernel⟩
abbrev s_Faulted___init__ : Stmt := inClass (topS 14) 0
abbrev N_Faulted___init__ : List Str := ["self", "word"]
theorem sc_Faulted___init__ : FnScope N_Faulted___init__ ["self", "word"] (defScope s_Faulted___init__) := ⟨rfl, rfl, rfl, by decide +kernel, rfl, by decide +kernel, by decide +kernel⟩
abbrev s_Room___init__ : Stmt := inClass (topS 16) 0
abbrev N_Room___init__ : List Str := ["self", "params", "inputs", "rows", "name", "number", "size"]
theorem sc_Room___init__ : FnScope N_Room___init__ ["self", "params", "inputs", "rows"] (defScope s_Room___init__) := ⟨rfl, rfl, rfl, by decide +kernel, rfl, by decide +kernel, by decide +kernel⟩
abbrev s_Room_row_with : Stmt := inClass (topS 16) 1
abbrev N_Room_row_with : List Str := ["self", "name", "place"]
theorem sc_Room_row_with : FnScope N_Room_row_with ["self", "name", "place"] (defScope s_Room_row_with) := ⟨rfl, rfl, rfl, by decide +kernel, rfl, by decide +kernel, by decide +kernel⟩
abbrev s_Room_worth : Stmt := inClass (topS 16) 2
abbrev N_Room_worth : List Str := ["self", "e", "place", "one", "found"]
theorem sc_Room_worth : FnScope N_Room_worth ["self", "e"] (defScope s_Room_worth) := ⟨rfl, rfl, rfl, by decide +kernel, rfl, by decide +kernel, by decide +kernel⟩
abbrev s_Play___init__ : Stmt := inClass (topS 17) 0
abbrev N_Play___init__ : List Str := ["self", "helpers", "most", "name", "params", "body"]
theorem sc_Play___init__ : FnScope N_Play___init__ ["self", "helpers", "most"] (defScope s_Play___init__) := ⟨rfl, rfl, rfl, by decide +kernel, rfl, by decide +kernel, by decide +kernel⟩
abbrev s_Play_take_turn : Stmt := inClass (topS 17) 1
abbrev N_Play_take_turn : List Str := ["self"]
theorem sc_Play_take_turn : FnScope N_Play_take_turn ["self"] (defScope s_Play_take_turn) := ⟨rfl, rfl, rfl, by decide +kernel, rfl, by decide +kernel, by decide +kernel⟩
abbrev s_Play_play_body : Stmt := inClass (topS 17) 2
abbrev N_Play_play_body : List Str := ["self", "body", "room", "found"]
theorem sc_Play_play_body : FnScope N_Play_play_body ["self", "body", "room"] (defScope s_Play_play_body) := ⟨rfl, rfl, rfl, by decide +kernel, rfl, by decide +kernel, by decide +kernel⟩
abbrev s_Play_do_all : Stmt := inClass (topS 17) 3
abbrev N_Play_do_all : List Str := ["self", "body", "room", "statement", "found"]
theorem sc_Play_do_all : FnScope N_Play_do_all ["self", "body", "room"] (defScope s_Play_do_all) := ⟨rfl, rfl, rfl, by decide +kernel, rfl, by decide +kernel, by decide +kernel⟩
abbrev s_Play_do_one : Stmt := inClass (topS 17) 4
abbrev N_Play_do_one : List Str := ["self", "statement", "room", "word", "number", "place", "params", "body", "inputs", "e"]
theorem sc_Play_do_one : FnScope N_Play_do_one ["self", "statement", "room"] (defScope s_Play_do_one) := ⟨rfl, rfl, rfl, by decide +kernel, rfl, by decide +kernel, by decide +kernel⟩
abbrev s_Play_again : Stmt := inClass (topS 17) 5
abbrev N_Play_again : List Str := ["self", "statement", "room", "found"]
theorem sc_Play_again : FnScope N_Play_again ["self", "statement", "room"] (defScope s_Play_again) := ⟨rfl, rfl, rfl, by decide +kernel, rfl, by decide +kernel, by decide +kernel⟩
abbrev s_is_input : Stmt := topS 18
abbrev N_is_input : List Str := ["thing"]
theorem sc_is_input : FnScope N_is_input ["thing"] (defScope s_is_input) := ⟨rfl, rfl, rfl, by decide +kernel, rfl, by decide +kernel, by decide +kernel⟩
abbrev s_need_inputs : Stmt := topS 19
abbrev N_need_inputs : List Str := ["inputs", "many", "one"]
theorem sc_need_inputs : FnScope N_need_inputs ["inputs", "many"] (defScope s_need_inputs) := ⟨rfl, rfl, rfl, by decide +kernel, rfl, by decide +kernel, by decide +kernel⟩
abbrev s_played : Stmt := topS 20
abbrev N_played : List Str := ["program", "inputs", "most", "play", "end", "e"]
theorem sc_played : FnScope N_played ["program", "inputs", "most"] (defScope s_played) := ⟨rfl, rfl, rfl, by decide +kernel, rfl, by decide +kernel, by decide +kernel⟩
abbrev s__law_cell_at : Stmt := topS 22
abbrev N__law_cell_at : List Str := ["_law_script", "_law_k"]
theorem sc__law_cell_at : FnScope N__law_cell_at ["_law_script", "_law_k"] (defScope s__law_cell_at) := ⟨rfl, rfl, rfl, by decide +kernel, rfl, by decide +kernel, by decide +kernel⟩
abbrev s__law_whole : Stmt := topS 23
abbrev N__law_whole : List Str := ["_law_found"]
theorem sc__law_whole : FnScope N__law_whole ["_law_found"] (defScope s__law_whole) := ⟨rfl, rfl, rfl, by decide +kernel, rfl, by decide +kernel, by decide +kernel⟩
abbrev s__law_held : Stmt := topS 24
abbrev N__law_held : List Str := ["_law_cell"]
theorem sc__law_held : FnScope N__law_held ["_law_cell"] (defScope s__law_held) := ⟨rfl, rfl, rfl, by decide +kernel, rfl, by decide +kernel, by decide +kernel⟩
abbrev s__law_mixed : Stmt := topS 25
abbrev N__law_mixed : List Str := ["_law_cell", "_law_k", "_law_many", "_law_left", "_law_some", "_law_made"]
theorem sc__law_mixed : FnScope N__law_mixed ["_law_cell", "_law_k", "_law_many"] (defScope s__law_mixed) := ⟨rfl, rfl, rfl, by decide +kernel, rfl, by decide +kernel, by decide +kernel⟩
abbrev s__law_kept : Stmt := topS 26
abbrev N__law_kept : List Str := ["_law_words"]
theorem sc__law_kept : FnScope N__law_kept [] (defScope s__law_kept) := ⟨rfl, rfl, rfl, by decide +kernel, rfl, by decide +kernel, by decide +kernel⟩
abbrev s__law_letter : Stmt := topS 27
abbrev N__law_letter : List Str := ["_law_k"]
theorem sc__law_letter : FnScope N__law_letter ["_law_k"] (defScope s__law_letter) := ⟨rfl, rfl, rfl, by decide +kernel, rfl, by decide +kernel, by decide +kernel⟩
abbrev s__law_names : Stmt := topS 28
abbrev N__law_names : List Str := ["_law_cell", "_law_near", "_law_at", "_law_root", "_law_names_here", "_law_start", "_law_k", "_law_letter_here", "_law_name", "_law_j"]
theorem sc__law_names : FnScope N__law_names ["_law_cell"] (defScope s__law_names) := ⟨rfl, rfl, rfl, by decide +kernel, rfl, by decide +kernel, by decide +kernel⟩
abbrev s__law_number_by : Stmt := topS 29
abbrev N__law_number_by : List Str := ["_law_cell", "_law_k", "_law_some"]
theorem sc__law_number_by : FnScope N__law_number_by ["_law_cell", "_law_k"] (defScope s__law_number_by) := ⟨rfl, rfl, rfl, by decide +kernel, rfl, by decide +kernel, by decide +kernel⟩
abbrev s__law_within : Stmt := topS 30
abbrev N__law_within : List Str := ["_law_cell", "_law_k"]
theorem sc__law_within : FnScope N__law_within ["_law_cell", "_law_k"] (defScope s__law_within) := ⟨rfl, rfl, rfl, by decide +kernel, rfl, by decide +kernel, by decide +kernel⟩
abbrev s__law_expression : Stmt := topS 31
abbrev N__law_expression : List Str := ["_law_cell", "_law_deep", "_law_info", "_law_names_here", "_law_rows", "_law_kind", "_law_one_here", "_law_word_here", "_law_other"]
theorem sc__law_expression : FnScope N__law_expression ["_law_cell", "_law_deep", "_law_info"] (defScope s__law_expression) := ⟨rfl, rfl, rfl, by decide +kernel, rfl, by decide +kernel, by decide +kernel⟩
abbrev s__law_expressions : Stmt := topS 32
abbrev N__law_expressions : List Str := ["_law_cell", "_law_many", "_law_info", "_law_k"]
theorem sc__law_expressions : FnScope N__law_expressions ["_law_cell", "_law_many", "_law_info"] (defScope s__law_expressions) := ⟨rfl, rfl, rfl, by decide +kernel, rfl, by decide +kernel, by decide +kernel⟩
abbrev s__law_plain : Stmt := topS 33
abbrev N__law_plain : List Str := ["_law_cell", "_law_info", "_law_names_here", "_law_rows", "_law_heads", "_law_word_here", "_law_es", "_law_x", "_law_place", "_law_head"]
theorem sc__law_plain : FnScope N__law_plain ["_law_cell", "_law_info"] (defScope s__law_plain) := ⟨rfl, rfl, rfl, by decide +kernel, rfl, by decide +kernel, by decide +kernel⟩
abbrev s__law_nest : Stmt := topS 34
abbrev N__law_nest : List Str := ["_law_cell", "_law_way", "_law_cells", "_law_deep", "_law_info", "_law_asked", "_law_yes", "_law_no", "_law_first", "_law_x"]
theorem sc__law_nest : FnScope N__law_nest ["_law_cell", "_law_way", "_law_cells", "_law_deep", "_law_info"] (defScope s__law_nest) := ⟨rfl, rfl, rfl, by decide +kernel, rfl, by decide +kernel, by decide +kernel⟩
abbrev s__law_body : Stmt := topS 35
abbrev N__law_body : List Str := ["_law_cells", "_law_deep", "_law_info", "_law_found", "_law_cell", "_law_way"]
theorem sc__law_body : FnScope N__law_body ["_law_cells", "_law_deep", "_law_info"] (defScope s__law_body) := ⟨rfl, rfl, rfl, by decide +kernel, rfl, by decide +kernel, by decide +kernel⟩
abbrev s__law_inner_cell : Stmt := topS 36
abbrev N__law_inner_cell : List Str := ["_law_script", "_law_first", "_law_k", "_law_j", "_law_late"]
theorem sc__law_inner_cell : FnScope N__law_inner_cell ["_law_script", "_law_first", "_law_k", "_law_j"] (defScope s__law_inner_cell) := ⟨rfl, rfl, rfl, by decide +kernel, rfl, by decide +kernel, by decide +kernel⟩
abbrev s__law_program : Stmt := topS 37
abbrev N__law_program : List Str := ["_law_script", "_law_first", "_law_cell", "_law_names_here", "_law_head", "_law_most", "_law_rows", "_law_helpers", "_law_heads", "_law_k", "_law_own", "_law_params", "_law_cells", "_law_variables", "_law_name", "_law_info", "_law_j", "_law_row"]
theorem sc__law_program : FnScope N__law_program ["_law_script", "_law_first"] (defScope s__law_program) := ⟨rfl, rfl, rfl, by decide +kernel, rfl, by decide +kernel, by decide +kernel⟩
abbrev s__law_alike : Stmt := topS 38
abbrev N__law_alike : List Str := ["_law_found", "_law_due", "_law_k"]
theorem sc__law_alike : FnScope N__law_alike ["_law_found", "_law_due"] (defScope s__law_alike) := ⟨rfl, rfl, rfl, by decide +kernel, rfl, by decide +kernel, by decide +kernel⟩
abbrev s__law_worth : Stmt := topS 39
abbrev N__law_worth : List Str := ["_law_e", "_law_room", "_law_one_here", "_law_other", "_law_left"]
theorem sc__law_worth : FnScope N__law_worth ["_law_e", "_law_room"] (defScope s__law_worth) := ⟨rfl, rfl, rfl, by decide +kernel, rfl, by decide +kernel, by decide +kernel⟩
abbrev s__law_done : Stmt := topS 40
abbrev N__law_done : List Str := ["_law_body_here", "_law_room", "_law_play", "_law_s", "_law_end"]
theorem sc__law_done : FnScope N__law_done ["_law_body_here", "_law_room", "_law_play"] (defScope s__law_done) := ⟨rfl, rfl, rfl, by decide +kernel, rfl, by decide +kernel, by decide +kernel⟩
abbrev s__law_again : Stmt := topS 41
abbrev N__law_again : List Str := ["_law_s", "_law_room", "_law_play", "_law_asked", "_law_end"]
theorem sc__law_again : FnScope N__law_again ["_law_s", "_law_room", "_law_play"] (defScope s__law_again) := ⟨rfl, rfl, rfl, by decide +kernel, rfl, by decide +kernel, by decide +kernel⟩
abbrev s__law_one : Stmt := topS 42
abbrev N__law_one : List Str := ["_law_s", "_law_room", "_law_play", "_law_pieces", "_law_worths", "_law_e"]
theorem sc__law_one : FnScope N__law_one ["_law_s", "_law_room", "_law_play"] (defScope s__law_one) := ⟨rfl, rfl, rfl, by decide +kernel, rfl, by decide +kernel, by decide +kernel⟩
abbrev s__law_called : Stmt := topS 43
abbrev N__law_called : List Str := ["_law_s", "_law_worths", "_law_room", "_law_play", "_law_params", "_law_body_here", "_law_end"]
theorem sc__law_called : FnScope N__law_called ["_law_s", "_law_worths", "_law_room", "_law_play"] (defScope s__law_called) := ⟨rfl, rfl, rfl, by decide +kernel, rfl, by decide +kernel, by decide +kernel⟩
abbrev s__law_played : Stmt := topS 44
abbrev N__law_played : List Str := ["_law_program_here", "_law_inputs_here", "_law_most", "_law_play", "_law_name", "_law_params", "_law_body_here", "_law_room", "_law_size", "_law_end"]
theorem sc__law_played : FnScope N__law_played ["_law_program_here", "_law_inputs_here", "_law_most"] (defScope s__law_played) := ⟨rfl, rfl, rfl, by decide +kernel, rfl, by decide +kernel, by decide +kernel⟩
abbrev s__law_is_end : Stmt := topS 45
abbrev N__law_is_end : List Str := ["_law_found", "_law_due"]
theorem sc__law_is_end : FnScope N__law_is_end ["_law_found", "_law_due"] (defScope s__law_is_end) := ⟨rfl, rfl, rfl, by decide +kernel, rfl, by decide +kernel, by decide +kernel⟩
abbrev s__law_inputs_by : Stmt := topS 46
abbrev N__law_inputs_by : List Str := ["_law_cell", "_law_many", "_law_held_here", "_law_k"]
theorem sc__law_inputs_by : FnScope N__law_inputs_by ["_law_cell", "_law_many"] (defScope s__law_inputs_by) := ⟨rfl, rfl, rfl, by decide +kernel, rfl, by decide +kernel, by decide +kernel⟩
abbrev s__law_inputs : Stmt := topS 47
abbrev N__law_inputs : List Str := ["_law_program_here", "_law_script", "_law_at"]
theorem sc__law_inputs : FnScope N__law_inputs ["_law_program_here", "_law_script", "_law_at"] (defScope s__law_inputs) := ⟨rfl, rfl, rfl, by decide +kernel, rfl, by decide +kernel, by decide +kernel⟩
abbrev s__law_class : Stmt := topS 48
abbrev N__law_class : List Str := ["_law_e", "_law_kinds"]
theorem sc__law_class : FnScope N__law_class ["_law_e"] (defScope s__law_class) := ⟨rfl, rfl, rfl, by decide +kernel, rfl, by decide +kernel, by decide +kernel⟩
abbrev s__law_word : Stmt := topS 49
abbrev N__law_word : List Str := ["_law_program_here", "_law_inputs_here", "_law_error", "_law_e"]
theorem sc__law_word : FnScope N__law_word ["_law_program_here", "_law_inputs_here"] (defScope s__law_word) := ⟨rfl, rfl, rfl, by decide +kernel, rfl, by decide +kernel, by decide +kernel⟩
abbrev s__law_odd : Stmt := topS 50
abbrev N__law_odd : List Str := ["_law_inputs_here", "_law_cell", "_law_way", "_law_at", "_law_some"]
theorem sc__law_odd : FnScope N__law_odd ["_law_inputs_here", "_law_cell"] (defScope s__law_odd) := ⟨rfl, rfl, rfl, by decide +kernel, rfl, by decide +kernel, by decide +kernel⟩
abbrev s_law : Stmt := topS 51
abbrev N_law : List Str := ["_law_script", "_law_program_here", "_law_inputs_here", "_law_kept_here", "_law_odd_here", "_law_due", "_law_handed"]
theorem sc_law : FnScope N_law ["_law_script"] (defScope s_law) := ⟨rfl, rfl, rfl, by decide +kernel, rfl, by decide +kernel, by decide +kernel⟩
abbrev FnP (K : PySem.W.Frag) (x : Str) (st : Stmt) (f : Addr) (fd : FuncData) : Prop := FunD K x x (defArgs st) (defBody st) (defScope st) [] [] f fd
abbrev FnM (K : PySem.W.Frag) (x q : Str) (st : Stmt) (f : Addr) (fd : FuncData) : Prop := FunD K x q (defArgs st) (defBody st) (defScope st) [] [] f fd
structure Top (K : PySem.W.Frag) (mg : Str → Option Value) where
  fd_wrapped : FuncData
  F_wrapped : FnP K "wrapped" s_wrapped (He.ga K "wrapped") fd_wrapped
  b_wrapped : Binds K fd_wrapped ["n"] []
  g_wrapped : mg "wrapped" = some (.ref (He.ga K "wrapped"))
  fd_divided : FuncData
  F_divided : FnP K "divided" s_divided (He.ga K "divided") fd_divided
  b_divided : Binds K fd_divided ["word", "one", "other"] []
  g_divided : mg "divided" = some (.ref (He.ga K "divided"))
  fd_reckoned : FuncData
  F_reckoned : FnP K "reckoned" s_reckoned (He.ga K "reckoned") fd_reckoned
  b_reckoned : Binds K fd_reckoned ["word", "one", "other"] []
  g_reckoned : mg "reckoned" = some (.ref (He.ga K "reckoned"))
  fd_denied : FuncData
  F_denied : FnP K "denied" s_denied (He.ga K "denied") fd_denied
  b_denied : Binds K fd_denied ["n"] []
  g_denied : mg "denied" = some (.ref (He.ga K "denied"))
  fd_Faulted___init__ : FuncData
  F_Faulted___init__ : FnM K "__init__" "Faulted.__init__" s_Faulted___init__ (He.ma K (He.ga K "Faulted") "__init__") fd_Faulted___init__
  b_Faulted___init__ : Binds K fd_Faulted___init__ ["self", "word"] []
  fd_Room___init__ : FuncData
  F_Room___init__ : FnM K "__init__" "Room.__init__" s_Room___init__ (He.ma K (He.ga K "Room") "__init__") fd_Room___init__
  me_Room___init__ : Meth K (He.ga K "Room") "__init__" (He.ma K (He.ga K "Room") "__init__")
  b_Room___init__ : Binds K fd_Room___init__ ["self", "params", "inputs", "rows"] []
  fd_Room_row_with : FuncData
  F_Room_row_with : FnM K "row_with" "Room.row_with" s_Room_row_with (He.ma K (He.ga K "Room") "row_with") fd_Room_row_with
  me_Room_row_with : Meth K (He.ga K "Room") "row_with" (He.ma K (He.ga K "Room") "row_with")
  b_Room_row_with : Binds K fd_Room_row_with ["self", "name", "place"] []
  fd_Room_worth : FuncData
  F_Room_worth : FnM K "worth" "Room.worth" s_Room_worth (He.ma K (He.ga K "Room") "worth") fd_Room_worth
  me_Room_worth : Meth K (He.ga K "Room") "worth" (He.ma K (He.ga K "Room") "worth")
  b_Room_worth : Binds K fd_Room_worth ["self", "e"] []
  fd_Play___init__ : FuncData
  F_Play___init__ : FnM K "__init__" "Play.__init__" s_Play___init__ (He.ma K (He.ga K "Play") "__init__") fd_Play___init__
  me_Play___init__ : Meth K (He.ga K "Play") "__init__" (He.ma K (He.ga K "Play") "__init__")
  b_Play___init__ : Binds K fd_Play___init__ ["self", "helpers", "most"] []
  fd_Play_take_turn : FuncData
  F_Play_take_turn : FnM K "take_turn" "Play.take_turn" s_Play_take_turn (He.ma K (He.ga K "Play") "take_turn") fd_Play_take_turn
  me_Play_take_turn : Meth K (He.ga K "Play") "take_turn" (He.ma K (He.ga K "Play") "take_turn")
  b_Play_take_turn : Binds K fd_Play_take_turn ["self"] []
  fd_Play_play_body : FuncData
  F_Play_play_body : FnM K "play_body" "Play.play_body" s_Play_play_body (He.ma K (He.ga K "Play") "play_body") fd_Play_play_body
  me_Play_play_body : Meth K (He.ga K "Play") "play_body" (He.ma K (He.ga K "Play") "play_body")
  b_Play_play_body : Binds K fd_Play_play_body ["self", "body", "room"] []
  fd_Play_do_all : FuncData
  F_Play_do_all : FnM K "do_all" "Play.do_all" s_Play_do_all (He.ma K (He.ga K "Play") "do_all") fd_Play_do_all
  me_Play_do_all : Meth K (He.ga K "Play") "do_all" (He.ma K (He.ga K "Play") "do_all")
  b_Play_do_all : Binds K fd_Play_do_all ["self", "body", "room"] []
  fd_Play_do_one : FuncData
  F_Play_do_one : FnM K "do_one" "Play.do_one" s_Play_do_one (He.ma K (He.ga K "Play") "do_one") fd_Play_do_one
  me_Play_do_one : Meth K (He.ga K "Play") "do_one" (He.ma K (He.ga K "Play") "do_one")
  b_Play_do_one : Binds K fd_Play_do_one ["self", "statement", "room"] []
  fd_Play_again : FuncData
  F_Play_again : FnM K "again" "Play.again" s_Play_again (He.ma K (He.ga K "Play") "again") fd_Play_again
  me_Play_again : Meth K (He.ga K "Play") "again" (He.ma K (He.ga K "Play") "again")
  b_Play_again : Binds K fd_Play_again ["self", "statement", "room"] []
  fd_is_input : FuncData
  F_is_input : FnP K "is_input" s_is_input (He.ga K "is_input") fd_is_input
  b_is_input : Binds K fd_is_input ["thing"] []
  g_is_input : mg "is_input" = some (.ref (He.ga K "is_input"))
  fd_need_inputs : FuncData
  F_need_inputs : FnP K "need_inputs" s_need_inputs (He.ga K "need_inputs") fd_need_inputs
  b_need_inputs : Binds K fd_need_inputs ["inputs", "many"] []
  g_need_inputs : mg "need_inputs" = some (.ref (He.ga K "need_inputs"))
  fd_played : FuncData
  F_played : FunD K "played" "played" (defArgs s_played) (defBody s_played) (defScope s_played) [.int 1000] [] (He.ga K "played") fd_played
  b2_played : ∃ ds, Vals [.int 1000] ds ∧ Binds K fd_played ["program", "inputs", "most"] ds
  b_played : ∃ ds, Vals [] ds ∧ Binds K fd_played ["program", "inputs", "most"] ds
  g_played : mg "played" = some (.ref (He.ga K "played"))
  fd__law_cell_at : FuncData
  F__law_cell_at : FnP K "_law_cell_at" s__law_cell_at (He.ga K "_law_cell_at") fd__law_cell_at
  b__law_cell_at : Binds K fd__law_cell_at ["_law_script", "_law_k"] []
  g__law_cell_at : mg "_law_cell_at" = some (.ref (He.ga K "_law_cell_at"))
  fd__law_whole : FuncData
  F__law_whole : FnP K "_law_whole" s__law_whole (He.ga K "_law_whole") fd__law_whole
  b__law_whole : Binds K fd__law_whole ["_law_found"] []
  g__law_whole : mg "_law_whole" = some (.ref (He.ga K "_law_whole"))
  fd__law_held : FuncData
  F__law_held : FnP K "_law_held" s__law_held (He.ga K "_law_held") fd__law_held
  b__law_held : Binds K fd__law_held ["_law_cell"] []
  g__law_held : mg "_law_held" = some (.ref (He.ga K "_law_held"))
  fd__law_mixed : FuncData
  F__law_mixed : FnP K "_law_mixed" s__law_mixed (He.ga K "_law_mixed") fd__law_mixed
  b__law_mixed : Binds K fd__law_mixed ["_law_cell", "_law_k", "_law_many"] []
  g__law_mixed : mg "_law_mixed" = some (.ref (He.ga K "_law_mixed"))
  fd__law_kept : FuncData
  F__law_kept : FnP K "_law_kept" s__law_kept (He.ga K "_law_kept") fd__law_kept
  b__law_kept : Binds K fd__law_kept [] []
  g__law_kept : mg "_law_kept" = some (.ref (He.ga K "_law_kept"))
  fd__law_letter : FuncData
  F__law_letter : FnP K "_law_letter" s__law_letter (He.ga K "_law_letter") fd__law_letter
  b__law_letter : Binds K fd__law_letter ["_law_k"] []
  g__law_letter : mg "_law_letter" = some (.ref (He.ga K "_law_letter"))
  fd__law_names : FuncData
  F__law_names : FnP K "_law_names" s__law_names (He.ga K "_law_names") fd__law_names
  b__law_names : Binds K fd__law_names ["_law_cell"] []
  g__law_names : mg "_law_names" = some (.ref (He.ga K "_law_names"))
  fd__law_number_by : FuncData
  F__law_number_by : FnP K "_law_number_by" s__law_number_by (He.ga K "_law_number_by") fd__law_number_by
  b__law_number_by : Binds K fd__law_number_by ["_law_cell", "_law_k"] []
  g__law_number_by : mg "_law_number_by" = some (.ref (He.ga K "_law_number_by"))
  fd__law_within : FuncData
  F__law_within : FnP K "_law_within" s__law_within (He.ga K "_law_within") fd__law_within
  b__law_within : Binds K fd__law_within ["_law_cell", "_law_k"] []
  g__law_within : mg "_law_within" = some (.ref (He.ga K "_law_within"))
  fd__law_expression : FuncData
  F__law_expression : FnP K "_law_expression" s__law_expression (He.ga K "_law_expression") fd__law_expression
  b__law_expression : Binds K fd__law_expression ["_law_cell", "_law_deep", "_law_info"] []
  g__law_expression : mg "_law_expression" = some (.ref (He.ga K "_law_expression"))
  fd__law_expressions : FuncData
  F__law_expressions : FnP K "_law_expressions" s__law_expressions (He.ga K "_law_expressions") fd__law_expressions
  b__law_expressions : Binds K fd__law_expressions ["_law_cell", "_law_many", "_law_info"] []
  g__law_expressions : mg "_law_expressions" = some (.ref (He.ga K "_law_expressions"))
  fd__law_plain : FuncData
  F__law_plain : FnP K "_law_plain" s__law_plain (He.ga K "_law_plain") fd__law_plain
  b__law_plain : Binds K fd__law_plain ["_law_cell", "_law_info"] []
  g__law_plain : mg "_law_plain" = some (.ref (He.ga K "_law_plain"))
  fd__law_nest : FuncData
  F__law_nest : FnP K "_law_nest" s__law_nest (He.ga K "_law_nest") fd__law_nest
  b__law_nest : Binds K fd__law_nest ["_law_cell", "_law_way", "_law_cells", "_law_deep", "_law_info"] []
  g__law_nest : mg "_law_nest" = some (.ref (He.ga K "_law_nest"))
  fd__law_body : FuncData
  F__law_body : FnP K "_law_body" s__law_body (He.ga K "_law_body") fd__law_body
  b__law_body : Binds K fd__law_body ["_law_cells", "_law_deep", "_law_info"] []
  g__law_body : mg "_law_body" = some (.ref (He.ga K "_law_body"))
  fd__law_inner_cell : FuncData
  F__law_inner_cell : FnP K "_law_inner_cell" s__law_inner_cell (He.ga K "_law_inner_cell") fd__law_inner_cell
  b__law_inner_cell : Binds K fd__law_inner_cell ["_law_script", "_law_first", "_law_k", "_law_j"] []
  g__law_inner_cell : mg "_law_inner_cell" = some (.ref (He.ga K "_law_inner_cell"))
  fd__law_program : FuncData
  F__law_program : FnP K "_law_program" s__law_program (He.ga K "_law_program") fd__law_program
  b__law_program : Binds K fd__law_program ["_law_script", "_law_first"] []
  g__law_program : mg "_law_program" = some (.ref (He.ga K "_law_program"))
  fd__law_alike : FuncData
  F__law_alike : FnP K "_law_alike" s__law_alike (He.ga K "_law_alike") fd__law_alike
  b__law_alike : Binds K fd__law_alike ["_law_found", "_law_due"] []
  g__law_alike : mg "_law_alike" = some (.ref (He.ga K "_law_alike"))
  fd__law_worth : FuncData
  F__law_worth : FnP K "_law_worth" s__law_worth (He.ga K "_law_worth") fd__law_worth
  b__law_worth : Binds K fd__law_worth ["_law_e", "_law_room"] []
  g__law_worth : mg "_law_worth" = some (.ref (He.ga K "_law_worth"))
  fd__law_done : FuncData
  F__law_done : FnP K "_law_done" s__law_done (He.ga K "_law_done") fd__law_done
  b__law_done : Binds K fd__law_done ["_law_body_here", "_law_room", "_law_play"] []
  g__law_done : mg "_law_done" = some (.ref (He.ga K "_law_done"))
  fd__law_again : FuncData
  F__law_again : FnP K "_law_again" s__law_again (He.ga K "_law_again") fd__law_again
  b__law_again : Binds K fd__law_again ["_law_s", "_law_room", "_law_play"] []
  g__law_again : mg "_law_again" = some (.ref (He.ga K "_law_again"))
  fd__law_one : FuncData
  F__law_one : FnP K "_law_one" s__law_one (He.ga K "_law_one") fd__law_one
  b__law_one : Binds K fd__law_one ["_law_s", "_law_room", "_law_play"] []
  g__law_one : mg "_law_one" = some (.ref (He.ga K "_law_one"))
  fd__law_called : FuncData
  F__law_called : FnP K "_law_called" s__law_called (He.ga K "_law_called") fd__law_called
  b__law_called : Binds K fd__law_called ["_law_s", "_law_worths", "_law_room", "_law_play"] []
  g__law_called : mg "_law_called" = some (.ref (He.ga K "_law_called"))
  fd__law_played : FuncData
  F__law_played : FnP K "_law_played" s__law_played (He.ga K "_law_played") fd__law_played
  b__law_played : Binds K fd__law_played ["_law_program_here", "_law_inputs_here", "_law_most"] []
  g__law_played : mg "_law_played" = some (.ref (He.ga K "_law_played"))
  fd__law_is_end : FuncData
  F__law_is_end : FnP K "_law_is_end" s__law_is_end (He.ga K "_law_is_end") fd__law_is_end
  b__law_is_end : Binds K fd__law_is_end ["_law_found", "_law_due"] []
  g__law_is_end : mg "_law_is_end" = some (.ref (He.ga K "_law_is_end"))
  fd__law_inputs_by : FuncData
  F__law_inputs_by : FnP K "_law_inputs_by" s__law_inputs_by (He.ga K "_law_inputs_by") fd__law_inputs_by
  b__law_inputs_by : Binds K fd__law_inputs_by ["_law_cell", "_law_many"] []
  g__law_inputs_by : mg "_law_inputs_by" = some (.ref (He.ga K "_law_inputs_by"))
  fd__law_inputs : FuncData
  F__law_inputs : FnP K "_law_inputs" s__law_inputs (He.ga K "_law_inputs") fd__law_inputs
  b__law_inputs : Binds K fd__law_inputs ["_law_program_here", "_law_script", "_law_at"] []
  g__law_inputs : mg "_law_inputs" = some (.ref (He.ga K "_law_inputs"))
  fd__law_class : FuncData
  F__law_class : FnP K "_law_class" s__law_class (He.ga K "_law_class") fd__law_class
  b__law_class : Binds K fd__law_class ["_law_e"] []
  g__law_class : mg "_law_class" = some (.ref (He.ga K "_law_class"))
  fd__law_word : FuncData
  F__law_word : FnP K "_law_word" s__law_word (He.ga K "_law_word") fd__law_word
  b__law_word : Binds K fd__law_word ["_law_program_here", "_law_inputs_here"] []
  g__law_word : mg "_law_word" = some (.ref (He.ga K "_law_word"))
  fd__law_odd : FuncData
  F__law_odd : FnP K "_law_odd" s__law_odd (He.ga K "_law_odd") fd__law_odd
  b__law_odd : Binds K fd__law_odd ["_law_inputs_here", "_law_cell"] []
  g__law_odd : mg "_law_odd" = some (.ref (He.ga K "_law_odd"))
  fd_law : FuncData
  F_law : FnP K "law" s_law (He.ga K "law") fd_law
  b_law : Binds K fd_law ["_law_script"] []
  g_law : mg "law" = some (.ref (He.ga K "law"))
  g_WorkError : mg "WorkError" = some (.ref (He.ga K "WorkError"))
  we_WorkError : WeI K (He.ga K "WorkError")
  x_WorkError : PySem.W.excIn K (He.ga K "WorkError") He.veBase "ValueError.__new__" = true ∧ PySem.W.keepIn K (.ref (He.ga K "WorkError")) = true ∧ PySem.W.subIn K (.ref (He.ga K "WorkError")) (.type "BaseException") = some true ∧ PySem.W.typeIn K (.ref (He.ga K "WorkError")) = some (.type "type")
  g_NoText : mg "NoText" = some (.ref (He.ga K "NoText"))
  g_NoInputs : mg "NoInputs" = some (.ref (He.ga K "NoInputs"))
  x_NoInputs : PySem.W.excIn K (He.ga K "NoInputs") He.veBase "ValueError.__new__" = true ∧ PySem.W.keepIn K (.ref (He.ga K "NoInputs")) = true ∧ PySem.W.subIn K (.ref (He.ga K "NoInputs")) (.type "BaseException") = some true ∧ PySem.W.typeIn K (.ref (He.ga K "NoInputs")) = some (.type "type")
  g_NoPass : mg "NoPass" = some (.ref (He.ga K "NoPass"))
  x_NoPass : PySem.W.excIn K (He.ga K "NoPass") He.veBase "ValueError.__new__" = true ∧ PySem.W.keepIn K (.ref (He.ga K "NoPass")) = true ∧ PySem.W.subIn K (.ref (He.ga K "NoPass")) (.type "BaseException") = some true ∧ PySem.W.typeIn K (.ref (He.ga K "NoPass")) = some (.type "type")
  g_NoBoxes : mg "NoBoxes" = some (.ref (He.ga K "NoBoxes"))
  x_NoBoxes : PySem.W.excIn K (He.ga K "NoBoxes") He.veBase "ValueError.__new__" = true ∧ PySem.W.keepIn K (.ref (He.ga K "NoBoxes")) = true ∧ PySem.W.subIn K (.ref (He.ga K "NoBoxes")) (.type "BaseException") = some true ∧ PySem.W.typeIn K (.ref (He.ga K "NoBoxes")) = some (.type "type")
  g_Faulted : mg "Faulted" = some (.ref (He.ga K "Faulted"))
  o_Faulted : OexC K (He.ga K "Faulted")
  in_Faulted : OIn K (He.ga K "Faulted") (He.ma K (He.ga K "Faulted") "__init__")
  xf_Faulted : XfC K (He.ga K "Faulted")
  nf_Faulted_word : PySem.W.findIn K (.ref (He.ga K "Faulted")) "word" = some none
  g_Unended : mg "Unended" = some (.ref (He.ga K "Unended"))
  x_Unended : PySem.W.excIn K (He.ga K "Unended") He.veBase "ValueError.__new__" = true ∧ PySem.W.keepIn K (.ref (He.ga K "Unended")) = true ∧ PySem.W.subIn K (.ref (He.ga K "Unended")) (.type "BaseException") = some true ∧ PySem.W.typeIn K (.ref (He.ga K "Unended")) = some (.type "type")
  g_Room : mg "Room" = some (.ref (He.ga K "Room"))
  cl_Room : Cls K (He.ga K "Room")
  no_Room_known : NoAttr K (He.ga K "Room") "known"
  no_Room_rows : NoAttr K (He.ga K "Room") "rows"
  mk_Room : Mk K (He.ga K "Room") (He.ma K (He.ga K "Room") "__init__")
  g_Play : mg "Play" = some (.ref (He.ga K "Play"))
  cl_Play : Cls K (He.ga K "Play")
  no_Play_helpers : NoAttr K (He.ga K "Play") "helpers"
  no_Play_left : NoAttr K (He.ga K "Play") "left"
  no_Play_told : NoAttr K (He.ga K "Play") "told"
  mk_Play : Mk K (He.ga K "Play") (He.ma K (He.ga K "Play") "__init__")
  em_Unended_Unended : PySem.W.exmOne K (.ref (He.ga K "Unended")) (.ref (He.ga K "Unended")) = some true
  em_Unended_Faulted : PySem.W.exmOne K (.ref (He.ga K "Unended")) (.ref (He.ga K "Faulted")) = some false
  em_Faulted_Faulted : PySem.W.exmOne K (.ref (He.ga K "Faulted")) (.ref (He.ga K "Faulted")) = some true
  em_NoInputs_WorkError : PySem.W.exmOne K (.ref (He.ga K "NoInputs")) (.ref (He.ga K "WorkError")) = some true
  xi_NoInputs : ExcC K (He.ga K "NoInputs")
  ki_NoInputs_NoText : PySem.W.kitOne K (.ref (He.ga K "NoInputs")) (.ref (He.ga K "NoText")) = some false
  ki_NoInputs_NoInputs : PySem.W.kitOne K (.ref (He.ga K "NoInputs")) (.ref (He.ga K "NoInputs")) = some true
  ki_NoInputs_NoPass : PySem.W.kitOne K (.ref (He.ga K "NoInputs")) (.ref (He.ga K "NoPass")) = some false
  ki_NoInputs_NoBoxes : PySem.W.kitOne K (.ref (He.ga K "NoInputs")) (.ref (He.ga K "NoBoxes")) = some false
  ki_NoInputs_VE : PySem.W.kitOne K (.ref (He.ga K "NoInputs")) (.type "ValueError") = some true
  m_ValueError : mg "ValueError" = none
  m_all : mg "all" = none
  m_bool : mg "bool" = none
  m_dict : mg "dict" = none
  m_divmod : mg "divmod" = none
  m_int : mg "int" = none
  m_isinstance : mg "isinstance" = none
  m_len : mg "len" = none
  m_list : mg "list" = none
  m_max : mg "max" = none
  m_min : mg "min" = none
  m_range : mg "range" = none
  m_repr : mg "repr" = none
  m_str : mg "str" = none
  m_tuple : mg "tuple" = none
  m_zip : mg "zip" = none
  t_HALF : Tok
  c_HALF : mg "HALF" = some (.int 2147483648 t_HALF)
  t_ROUND : Tok
  c_ROUND : mg "ROUND" = some (.int 4294967296 t_ROUND)
/-! data without lists stays -/
mutual
def nLd : PyData → Bool
  | .list _ => false
  | .dict _ => false
  | .tuple xs => nLs xs
  | .none => true
  | .bool _ => true
  | .int _ => true
  | .str _ => true
def nLs : List PyData → Bool
  | [] => true
  | x :: r => nLd x && nLs r
end
theorem sqT_kp {K : PySem.W.Frag} {S : Addr → Prop} {H H' : Hp} {a : Addr} {xs : List V} (k : Kp S H H') (h : SqT K H a xs) : SqT K H' a xs := by
  rcases h with (e | ⟨o, e⟩) | e
  · exact .inl (.inl (k _ _ e fun _ z => z))
  · exact .inl (.inr ⟨o, k _ _ e fun _ z => z⟩)
  · exact .inr e
mutual
theorem dp_kp {K : PySem.W.Frag} {S : Addr → Prop} {H H' : Hp} (k : Kp S H H') : ∀ (d : PyData) (v : V), nLd d = true → Dp K H v d → Dp K H' v d
  | .none, _, _, h => by cases h; exact .non
  | .bool b, _, _, h => by cases h; exact .bl b
  | .int i, _, _, h => by cases h; exact .int i
  | .str x, _, _, h => by cases h; exact .str x
  | .list _, _, n, _ => by cases n
  | .dict _, _, n, _ => by cases n
  | .tuple ds, _, n, h => by
    cases h with
    | tup hs ha => exact .tup (sqT_kp k hs) (dpAll_kp k ds _ n ha)
theorem dpAll_kp {K : PySem.W.Frag} {S : Addr → Prop} {H H' : Hp} (k : Kp S H H') : ∀ (ds : List PyData) (vs : List V), nLs ds = true → DpAll K H vs ds → DpAll K H' vs ds
  | [], _, _, h => by cases h; exact .nil
  | d :: ds, _, n, h => by
    have n2 : nLd d = true ∧ nLs ds = true := by
      unfold nLs at n
      exact Bool.and_eq_true_iff.mp n
    cases h with
    | cons h1 h2 => exact .cons (dp_kp k d _ n2.1 h1) (dpAll_kp k ds _ n2.2 h2)
end
section
variable {K : PySem.W.Frag} {H : Hp}
theorem dp_tup {v : V} {ds : List PyData} (h : Dp K H v (.tuple ds)) : ∃ a xs, v = .ref a ∧ SqT K H a xs ∧ DpAll K H xs ds := by
  cases h with
  | tup h1 h2 => exact ⟨_, _, rfl, h1, h2⟩
theorem dp_str {v : V} {z : Str} (h : Dp K H v (.str z)) : v = .str z := by cases h; rfl
theorem dp_int {v : V} {z : Int} (h : Dp K H v (.int z)) : v = .int z := by cases h; rfl
theorem dpAll_cons {vs : List V} {d : PyData} {ds : List PyData} (h : DpAll K H vs (d :: ds)) : ∃ v r, vs = v :: r ∧ Dp K H v d ∧ DpAll K H r ds := by
  cases h with
  | cons h1 h2 => exact ⟨_, _, rfl, h1, h2⟩
theorem dpAll_nil {vs : List V} (h : DpAll K H vs []) : vs = [] := by cases h; rfl
theorem dpAll_len : ∀ {vs : List V} {ds : List PyData}, DpAll K H vs ds → vs.length = ds.length
  | _, _, .nil => rfl
  | _, _, .cons _ t => by rw [List.length_cons, List.length_cons, dpAll_len t]
theorem dpAll_get : ∀ {vs : List V} {ds : List PyData} {i : Nat} {d : PyData}, DpAll K H vs ds → ds[i]? = some d → ∃ v, vs[i]? = some v ∧ Dp K H v d
  | _, _, _, _, .nil, e => by simp at e
  | _, _, 0, _, .cons h _, e => ⟨_, rfl, (Option.some.inj e) ▸ h⟩
  | _, _, i + 1, _, .cons _ t, e => dpAll_get (i := i) t e
theorem dpAll_getV : ∀ {vs : List V} {ds : List PyData} {i : Nat} {v : V}, DpAll K H vs ds → vs[i]? = some v → ∃ d, ds[i]? = some d ∧ Dp K H v d
  | _, _, _, _, .nil, e => by simp at e
  | _, _, 0, _, .cons h _, e => ⟨_, rfl, (Option.some.inj e) ▸ h⟩
  | _, _, i + 1, _, .cons _ t, e => dpAll_getV (i := i) t e
theorem dpAll_app : ∀ {vs ws : List V} {ds es : List PyData}, DpAll K H vs ds → DpAll K H ws es → DpAll K H (vs ++ ws) (ds ++ es)
  | _, _, _, _, .nil, s => s
  | _, _, _, _, .cons h t, s => .cons h (dpAll_app t s)
theorem dpAll_take : ∀ {vs : List V} {ds : List PyData} (n : Nat), DpAll K H vs ds → DpAll K H (vs.take n) (ds.take n)
  | _, _, 0, _ => .nil
  | _, _, _ + 1, .nil => .nil
  | _, _, n + 1, .cons h t => .cons h (dpAll_take n t)
theorem dpAll_drop : ∀ {vs : List V} {ds : List PyData} (n : Nat), DpAll K H vs ds → DpAll K H (vs.drop n) (ds.drop n)
  | _, _, 0, h => h
  | _, _, _ + 1, .nil => .nil
  | _, _, n + 1, .cons _ t => dpAll_drop n t
theorem dpAll_strs : ∀ {vs : List V} {zs : List Str}, DpAll K H vs (zs.map PyData.str) → vs = zs.map V.str
  | _, [], h => dpAll_nil h
  | _, z :: zs, h => by
    obtain ⟨v, r, rfl, h1, h2⟩ := dpAll_cons h
    rw [dp_str h1, dpAll_strs h2]
    rfl
theorem strs_dpAll : ∀ (zs : List Str), DpAll K H (zs.map V.str) (zs.map PyData.str)
  | [] => .nil
  | z :: zs => .cons (.str z) (strs_dpAll zs)
end

section
variable {P : Program} {w : World} {K : PySem.W.Frag} {mg : Str → Option Value} {base : Heap}
def isB : PyData → Bool
  | .bool _ => true
  | _ => false
def tyS : PyData → String
  | .none => "NoneType"
  | .bool _ => "bool"
  | .int _ => "int"
  | .str _ => "str"
  | .list _ => "list"
  | .tuple _ => "tuple"
  | .dict _ => "dict"
theorem ty_lst {H : Hp} {a : Addr} {xs : List V} (h : SqL K H a xs) : TyX K H (.ref a) (.type "list") := by
  rcases h with (h | ⟨ob, h⟩) | ⟨o, its, n, hk, hc, _⟩
  · exact .base (.lst h)
  · exact .base (.frz h)
  · exact .kList hk hc
theorem ty_tup {H : Hp} {a : Addr} {xs : List V} (h : SqT K H a xs) : TyX K H (.ref a) (.type "tuple") := by
  rcases h with (h | ⟨ob, h⟩) | ⟨o, its, n, hk, hc, _⟩
  · exact .base (.tup h)
  · exact .fTuple h
  · exact .kTuple hk hc
theorem dp_ty {H : Hp} {v : V} {d : PyData} (h : Dp K H v d) : TyX K H v (.type (tyS d)) := by
  cases h with
  | non => exact .base .non
  | bl b => exact .base (.bl b)
  | int i => exact .base (.int i)
  | str x => exact .base (.str x)
  | lst h _ => exact ty_lst h
  | tup h _ => exact ty_tup h
def isI : PyData → Bool
  | .int _ => true
  | .bool _ => true
  | _ => false
def isT : PyData → Bool
  | .tuple _ => true
  | _ => false
def isS : PyData → Bool
  | .str _ => true
  | _ => false
theorem kit_int : ∀ d : PyData, PySem.W.kitOne K (.type (tyS d)) (.type "int") = some (isI d)
  | .none => kit_ty (a := "NoneType") (b := "int") (r := false) (by decide +kernel)
  | .bool _ => kit_ty (a := "bool") (b := "int") (r := true) (by decide +kernel)
  | .int _ => kit_ty (a := "int") (b := "int") (r := true) (by decide +kernel)
  | .str _ => kit_ty (a := "str") (b := "int") (r := false) (by decide +kernel)
  | .list _ => kit_ty (a := "list") (b := "int") (r := false) (by decide +kernel)
  | .tuple _ => kit_ty (a := "tuple") (b := "int") (r := false) (by decide +kernel)
  | .dict _ => kit_ty (a := "dict") (b := "int") (r := false) (by decide +kernel)
theorem kit_bool : ∀ d : PyData, PySem.W.kitOne K (.type (tyS d)) (.type "bool") = some (isB d)
  | .none => kit_ty (a := "NoneType") (b := "bool") (r := false) (by decide +kernel)
  | .bool _ => kit_ty (a := "bool") (b := "bool") (r := true) (by decide +kernel)
  | .int _ => kit_ty (a := "int") (b := "bool") (r := false) (by decide +kernel)
  | .str _ => kit_ty (a := "str") (b := "bool") (r := false) (by decide +kernel)
  | .list _ => kit_ty (a := "list") (b := "bool") (r := false) (by decide +kernel)
  | .tuple _ => kit_ty (a := "tuple") (b := "bool") (r := false) (by decide +kernel)
  | .dict _ => kit_ty (a := "dict") (b := "bool") (r := false) (by decide +kernel)
theorem kit_tup : ∀ d : PyData, PySem.W.kitOne K (.type (tyS d)) (.type "tuple") = some (isT d)
  | .none => kit_ty (a := "NoneType") (b := "tuple") (r := false) (by decide +kernel)
  | .bool _ => kit_ty (a := "bool") (b := "tuple") (r := false) (by decide +kernel)
  | .int _ => kit_ty (a := "int") (b := "tuple") (r := false) (by decide +kernel)
  | .str _ => kit_ty (a := "str") (b := "tuple") (r := false) (by decide +kernel)
  | .list _ => kit_ty (a := "list") (b := "tuple") (r := false) (by decide +kernel)
  | .tuple _ => kit_ty (a := "tuple") (b := "tuple") (r := true) (by decide +kernel)
  | .dict _ => kit_ty (a := "dict") (b := "tuple") (r := false) (by decide +kernel)
theorem kit_str : ∀ d : PyData, PySem.W.kitOne K (.type (tyS d)) (.type "str") = some (isS d)
  | .none => kit_ty (a := "NoneType") (b := "str") (r := false) (by decide +kernel)
  | .bool _ => kit_ty (a := "bool") (b := "str") (r := false) (by decide +kernel)
  | .int _ => kit_ty (a := "int") (b := "str") (r := false) (by decide +kernel)
  | .str _ => kit_ty (a := "str") (b := "str") (r := true) (by decide +kernel)
  | .list _ => kit_ty (a := "list") (b := "str") (r := false) (by decide +kernel)
  | .tuple _ => kit_ty (a := "tuple") (b := "str") (r := false) (by decide +kernel)
  | .dict _ => kit_ty (a := "dict") (b := "str") (r := false) (by decide +kernel)
mutual
theorem dp_sm {H H' : Hp} (k : Same H H') : ∀ {v : V} {d : PyData}, Dp K H v d → Dp K H' v d
  | _, _, .non => .non
  | _, _, .bl b => .bl b
  | _, _, .int i => .int i
  | _, _, .str x => .str x
  | _, _, .lst h da => .lst (k.seq h) (dpAll_sm k da)
  | _, _, .tup h da => .tup (sqT_kp (Kp.of_same (S := fun _ => False) k) h) (dpAll_sm k da)
theorem dpAll_sm {H H' : Hp} (k : Same H H') : ∀ {vs : List V} {ds : List PyData}, DpAll K H vs ds → DpAll K H' vs ds
  | _, _, .nil => .nil
  | _, _, .cons h r => .cons (dp_sm k h) (dpAll_sm k r)
end
/-- a value != a shallow one -/
def rNeE (K : PySem.W.Frag) : R2 := fun x y H Q => ∃ d e, Dp K H x d ∧ Dp K H y e ∧ d.canLay0 = true ∧ e.canLay0 = true ∧ e.depth ≤ 64 ∧ Q (.bl (!PyData.eqv d e)) H
theorem op_neE {X : Cx} (hu : X.A.units + 64 < cLine) : OpR X (compareOp .NotEq) (rNeE X.K) := by
  intro pins s σ H x y v u Q I rx ry h
  obtain ⟨d, e, hd, he, sd, se, de, q⟩ := h
  obtain ⟨as, r1⟩ := Dp.reads I d x v hd rx
  obtain ⟨bs, r2⟩ := Dp.reads I e y u he ry
  refine SeqAt.compareNe_reads r1 r2 sd se ?_ ⟨.bl _, H, I, rfl, q⟩
  have : min d.depth e.depth ≤ e.depth := Nat.min_le_right _ _
  omega
theorem in_strs {z : Str} {ws : List Str} : inV (.str z) (ws.map V.str) = decide (z ∈ ws) := by
  unfold inV
  rw [List.any_map]
  by_cases h : z ∈ ws
  · rw [decide_eq_true h]
    refine List.any_eq_true.mpr ⟨z, h, ?_⟩
    show (z == z) = true
    exact beq_self_eq_true z
  · rw [decide_eq_false h]
    refine List.any_eq_false.mpr fun x hx e => h ?_
    have e2 : (x == z) = true := e
    rw [← eq_of_beq e2]
    exact hx
theorem ifT {c : Bool} {A B : Prop} (hc : c = true) (h : A) : if c = true then A else B := by rw [if_pos hc]; exact h
theorem ifF {c : Bool} {A B : Prop} (hc : c = false) (h : B) : if c = true then A else B := by rw [if_neg (by rw [hc]; exact Bool.false_ne_true)]; exact h
theorem cd {i j : Int} (h0 : 0 < j) (h1 : j < 2 ^ 64) : CDivW i j := wide_div (b := 64) h0 (by omega) (by decide) (by decide)
theorem at_ints2 {ns : List Int} {i : Int} (h0 : 0 ≤ i) (h1 : i < ns.length) : ∃ z, atI (ns.map V.int) i = some (.int z) := ⟨_, at_ints h0 h1⟩
theorem strs_at {zs : List Str} {i : Int} (h0 : 0 ≤ i) (h1 : i < zs.length) : ∃ z ∈ zs, atI (zs.map V.str) i = some (.str z) := by
  obtain ⟨x, hx, e⟩ := at_list (ns := zs.map V.str) h0 (by rw [List.length_map]; exact h1)
  obtain ⟨z, hz, rfl⟩ := List.mem_map.mp hx
  exact ⟨z, hz, e⟩
def Scp (K : PySem.W.Frag) (H : Hp) (a : Addr) (ns : List Int) : Prop := ns.length ≤ 63 ∧ (∀ z ∈ ns, Builtin.Int.intBits z ≤ 1048576) ∧ SqL K H a (ns.map V.int)
theorem Scp.sm {H H' : Hp} {a : Addr} {ns : List Int} (h : Scp K H a ns) (k : Same H H') : Scp K H' a ns := ⟨h.1, h.2.1, k.seq h.2.2⟩
theorem same_upd {H H' : Hp} {D : Addr} {o : HO} (s : Same H H') (n : H D = none) : Same H (upd H' D o) := fun b x hb => by
  rw [upd_ne (ne_of_none hb n)]
  exact s _ _ hb
theorem tail_no {x : V} {zs : List V} : ¬ (HT.sIx (x :: zs).length 0 (some 1) = 0 ∧ HT.sIx (x :: zs).length (x :: zs).length none = (x :: zs).length) := by
  have e1 : HT.sIx (x :: zs).length 0 (some 1) = 1 := by
    show min 1 (zs.length + 1) = 1
    omega
  rw [e1]
  exact fun z => absurd z.1 (by decide)
theorem cut_tail {x : V} {zs : List V} : cutV (x :: zs) (some 1) none = zs := by
  have e1 : HT.sIx (x :: zs).length 0 (some 1) = 1 := by
    show min 1 (zs.length + 1) = 1
    omega
  have e2 : HT.sIx (x :: zs).length (x :: zs).length none = zs.length + 1 := rfl
  unfold cutV
  rw [e1, e2]
  simp
theorem sqT_sm {H H' : Hp} {a : Addr} {xs : List V} (s : Same H H') (h : SqT K H a xs) : SqT K H' a xs := sqT_kp (Kp.of_same (S := fun _ => False) s) h
end

/-! programs, in plain words -/
inductive Ex where
  | num (n : Int)
  | nam (x : Str)
  | at_ (r : Str) (e : Ex)
  | no (e : Ex)
  | op (w : Str) (a b : Ex)
inductive Sm where
  | set (x : Str) (e : Ex)
  | put (r : Str) (e f : Ex)
  | tell (e : Ex)
  | ite (e : Ex) (ys ns : List Sm)
  | loop (e : Ex) (b : List Sm)
  | call (x h : Str) (es : List Ex)
  | fail (n : Int)
  | give (e : Ex)
def Ex.d : Ex → PyData
  | .num n => .tuple [.str "number", .int n]
  | .nam x => .tuple [.str "name", .str x]
  | .at_ r e => .tuple [.str "at", .str r, e.d]
  | .no e => .tuple [.str "not", e.d]
  | .op w a b => .tuple [.str w, a.d, b.d]
mutual
def Sm.d : Sm → PyData
  | .set x e => .tuple [.str "set", .str x, e.d]
  | .put r e f => .tuple [.str "put", .str r, e.d, f.d]
  | .tell e => .tuple [.str "tell", e.d]
  | .ite e ys ns => .tuple [.str "if", e.d, .tuple (Sm.ds ys), .tuple (Sm.ds ns)]
  | .loop e b => .tuple [.str "while", e.d, .tuple (Sm.ds b)]
  | .call x h es => .tuple [.str "call", .str x, .str h, .tuple (es.map Ex.d)]
  | .fail n => .tuple [.str "fail", .int n]
  | .give e => .tuple [.str "give", e.d]
def Sm.ds : List Sm → List PyData
  | [] => []
  | s :: r => s.d :: Sm.ds r
end
theorem Sm.ds_eq : ∀ l : List Sm, Sm.ds l = l.map Sm.d
  | [] => by simp [Sm.ds]
  | s :: r => by rw [Sm.ds, Sm.ds_eq r]; rfl
theorem noLs_all {l : List PyData} (h : ∀ x ∈ l, nLd x = true) : nLs l = true := by
  induction l with
  | nil => rfl
  | cons x r ih =>
    unfold nLs
    rw [h x (List.mem_cons_self ..), ih fun y hy => h y (List.mem_cons_of_mem _ hy)]
    rfl
theorem Ex.noL : ∀ e : Ex, nLd e.d = true
  | .num _ => rfl
  | .nam _ => rfl
  | .at_ r e => by simp [Ex.d, nLd, nLs, Ex.noL e]
  | .no e => by simp [Ex.d, nLd, nLs, Ex.noL e]
  | .op w a b => by simp [Ex.d, nLd, nLs, Ex.noL a, Ex.noL b]
mutual
theorem Sm.noL : ∀ s : Sm, nLd s.d = true
  | .set x e => by simp [Sm.d, nLd, nLs, Ex.noL e]
  | .put r e f => by simp [Sm.d, nLd, nLs, Ex.noL e, Ex.noL f]
  | .tell e => by simp [Sm.d, nLd, nLs, Ex.noL e]
  | .ite e ys ns => by simp [Sm.d, nLd, nLs, Ex.noL e, Sm.noLs ys, Sm.noLs ns]
  | .loop e b => by simp [Sm.d, nLd, nLs, Ex.noL e, Sm.noLs b]
  | .call x h es => by
    have : nLs (es.map Ex.d) = true := noLs_all fun x hx => by
      obtain ⟨e, _, rfl⟩ := List.mem_map.mp hx
      exact Ex.noL e
    simp [Sm.d, nLd, nLs, this]
  | .fail n => rfl
  | .give e => by simp [Sm.d, nLd, nLs, Ex.noL e]
theorem Sm.noLs : ∀ l : List Sm, nLs (Sm.ds l) = true
  | [] => by simp [Sm.ds, nLs]
  | s :: r => by simp [Sm.ds, nLs, Sm.noL s, Sm.noLs r]
end

section
variable {P : Program} {w : World} {K : PySem.W.Frag} {mg : Str → Option Value} {base : Heap}
def wr (n : Int) : Int := (n + 2147483648) % 4294967296 - 2147483648
def sp_wrapped : Sp := fun vs H Q _ => ∃ n : Int, vs = [.int n] ∧ Q (.int (wr n)) H
theorem ok_wrapped (T : Top K mg) : FnOk P w K mg base CX0 1 (He.ga K "wrapped") T.fd_wrapped ["n"] sp_wrapped := by
  refine T.F_wrapped.ok sc_wrapped (fun vs H Q E h => ?_) (fun cdv A outer s H vs Q E hr h => ?_)
  · obtain ⟨n, rfl, _⟩ := h
    rfl
  · obtain ⟨n, rfl, q⟩ := h
    refine ⟨_, PSs.nox (pss_one (ps_ret (pe_op op_sub (pe_op op_mod (pe_op op_add (pv 0) (pe_glob (v := .int 2147483648) (by rfl) T.c_HALF ⟨_, rfl⟩)) (pe_glob (v := .int 4294967296) (by rfl) T.c_ROUND ⟨_, rfl⟩)) (pe_glob (v := .int 2147483648) (by rfl) T.c_HALF ⟨_, rfl⟩)))), ?_⟩
    exact ⟨_, rfl, _, _, rfl, rfl, _, _, rfl, rfl, (by show (0 : Int) < 4294967296; decide), _, _, rfl, rfl, q⟩
/-- a number of 32 bits -/
def In32 (a : Int) : Prop := -2147483648 ≤ a ∧ a ≤ 2147483647
theorem log_small {j : Int} (h : -2147483648 ≤ j ∧ j ≤ 2147483648) : j.natAbs.log2 < 9000 := by
  have h1 : j.natAbs < 2 ^ 40 := by omega
  have := PySem.Flt.log2_lt_of (show 0 < 40 by decide) h1
  omega
def sp_divided : Sp := fun vs H Q _ => ∃ (wd : Str) (a b : Int), vs = [.str wd, .int a, .int b] ∧ In32 a ∧ In32 b ∧ (b = 0 → Q .non H) ∧
  (b ≠ 0 → ∀ H', Same H H' → (wd = "div" → Q (.int (wr (a.fdiv b))) H') ∧ (wd ≠ "div" → Q (.int (wr (a.fmod b))) H'))
theorem ok_divided (T : Top K mg) : FnOk P w K mg base CX0 2 (He.ga K "divided") T.fd_divided ["word", "one", "other"] sp_divided := by
  have G_wrapped := ok_wrapped (P := P) (w := w) (base := base) T
  refine T.F_divided.ok sc_divided (fun vs H Q E h => ?_) (fun cdv A outer s H vs Q E hr h => ?_)
  · obtain ⟨wd, a, b, rfl, _⟩ := h
    rfl
  · obtain ⟨wd, a, b, rfl, ha, hb, q0, q1⟩ := h
    refine ⟨_, PSs.nox (pss_cons (ps_if (pt_cmpR op_eq (pv 2) pe_int (nomark _)) (pss_one (ps_ret pe_non)) pss_nil)
        (pss_cons (ps_asg (pe_callB call_divmodG (by rfl) T.m_divmod (by decide +kernel) (pa_cons (pv 1) (pa_cons (pv 2) pa_nil))) (pg_tup (n := 2) (by rfl) (pgs_cons (pg_name (i := 3) sc_divided.nd rfl (Or.inl rfl)) (pgs_cons (pg_name (i := 4) sc_divided.nd rfl (Or.inl rfl)) pgs_nil))))
        (pss_one (ps_ret (pe_call G_wrapped (hr.mono (by omega)) (by rfl) T.g_wrapped T.F_wrapped.kp T.b_wrapped .nil pass0 (pa_cons (pe_ifExp (pt_cmpR op_eq (pv 0) pe_str (nomark _)) (pv 3) (pv 4)) pa_nil)))))), ?_⟩
    refine ⟨_, rfl, rfl, _, rfl, ite2 (fun e => ?_) (fun e => ?_)⟩
    · have e1 : b = 0 := V.int.inj (of_decide_eq_true e)
      exact q0 e1
    · have e1 : b ≠ 0 := fun z => e (decide_eq_true (congrArg V.int z))
      refine ⟨_, rfl, _, rfl, a, b, rfl, ⟨e1, log_small ⟨hb.1, by have := hb.2; omega⟩⟩, fun p np => ?_⟩
      refine ⟨p, _, rfl, .of upd_same, rfl, _, _, rfl, _, _, rfl, rfl, ?_⟩
      obtain ⟨qa, qb⟩ := q1 e1 _ (same_new np)
      refine ⟨_, rfl, rfl, _, rfl, ite2 (fun e => ?_) (fun e => ?_)⟩
      · have e2 : wd = "div" := V.str.inj (of_decide_eq_true e)
        exact ⟨_, rfl, _, rfl, qa e2⟩
      · have e2 : wd ≠ "div" := fun z => e (decide_eq_true (congrArg V.str z))
        exact ⟨_, rfl, _, rfl, qb e2⟩
def b2n (b : Bool) : Int := if b then 1 else 0
/-- what a word comes to -/
inductive Due (a b : Int) : Str → V → Prop where
  | div0 (h : b = 0) : Due a b "div" .non
  | rem0 (h : b = 0) : Due a b "rem" .non
  | div (h : b ≠ 0) : Due a b "div" (.int (wr (a.fdiv b)))
  | rem (h : b ≠ 0) : Due a b "rem" (.int (wr (a.fmod b)))
  | add : Due a b "add" (.int (wr (a + b)))
  | sub : Due a b "sub" (.int (wr (a - b)))
  | mul : Due a b "mul" (.int (wr (a * b)))
  | less : Due a b "less" (.int (b2n (decide (a < b))))
  | same : Due a b "same" (.int (b2n (decide (a = b))))
def wds : List Str := ["add", "sub", "mul", "div", "rem", "less", "same"]
def sp_reckoned : Sp := fun vs H Q _ => ∃ (wd : Str) (a b : Int) (v : V), vs = [.str wd, .int a, .int b] ∧ In32 a ∧ In32 b ∧ Due a b wd v ∧ ∀ H', Same H H' → Q v H'
theorem ok_reckoned (T : Top K mg) : FnOk P w K mg base CX0 3 (He.ga K "reckoned") T.fd_reckoned ["word", "one", "other"] sp_reckoned := by
  have G_wrapped := ok_wrapped (P := P) (w := w) (base := base) T
  have G_divided := ok_divided (P := P) (w := w) (base := base) T
  refine T.F_reckoned.ok sc_reckoned (fun vs H Q E h => ?_) (fun cdv A outer s H vs Q E hr h => ?_)
  · obtain ⟨wd, a, b, v, rfl, _⟩ := h
    rfl
  · obtain ⟨wd, a, b, v, rfl, ha, hb, hd, q⟩ := h
    refine ⟨_, PSs.nox (pss_cons (ps_if (pt_cmpR op_in_seq (pv 0) (pe_tup (pa_cons pe_str (pa_cons pe_str pa_nil))) (by rfl)) (pss_one (ps_ret (pe_call G_divided (hr.mono (by omega)) (by rfl) T.g_divided T.F_divided.kp T.b_divided .nil pass0 (pa_cons (pv 0) (pa_cons (pv 1) (pa_cons (pv 2) pa_nil)))))) pss_nil)
        (pss_cons (ps_if (pt_cmpR op_eq (pv 0) pe_str (nomark _)) (pss_one (ps_ret (pe_call G_wrapped (hr.mono (by omega)) (by rfl) T.g_wrapped T.F_wrapped.kp T.b_wrapped .nil pass0 (pa_cons (pe_op op_add (pv 1) (pv 2)) pa_nil)))) pss_nil)
        (pss_cons (ps_if (pt_cmpR op_eq (pv 0) pe_str (nomark _)) (pss_one (ps_ret (pe_call G_wrapped (hr.mono (by omega)) (by rfl) T.g_wrapped T.F_wrapped.kp T.b_wrapped .nil pass0 (pa_cons (pe_op op_sub (pv 1) (pv 2)) pa_nil)))) pss_nil)
        (pss_cons (ps_if (pt_cmpR op_eq (pv 0) pe_str (nomark _)) (pss_one (ps_ret (pe_call G_wrapped (hr.mono (by omega)) (by rfl) T.g_wrapped T.F_wrapped.kp T.b_wrapped .nil pass0 (pa_cons (pe_op op_mul (pv 1) (pv 2)) pa_nil)))) pss_nil)
        (pss_cons (ps_if (pt_cmpR op_eq (pv 0) pe_str (nomark _)) (pss_one (ps_ret (pe_callTy call_int1 (by rfl) T.m_int (by decide +kernel) (pa_cons (pe_cmpR op_lt (pv 1) (pv 2) (nomark _)) pa_nil)))) pss_nil)
        (pss_one (ps_ret (pe_callTy call_int1 (by rfl) T.m_int (by decide +kernel) (pa_cons (pe_cmpR op_eq (pv 1) (pv 2) (nomark _)) pa_nil))))))))), ?_⟩
    refine ⟨_, rfl, by decide, fun p np => ?_⟩
    have sm := same_new (o := .tup [.str "div", .str "rem"]) np
    refine ⟨p, _, rfl, .inr (.of upd_same), rfl, by decide +kernel, _, rfl, ?_⟩
    have ok : ∀ {x : Str} {y : Str} {A B : Prop}, x ≠ y → B → if decide (V.str x = V.str y) = true then A else B := fun h hB => ifN (fun z => h (V.str.inj z)) hB
    have gd : wds ≠ [] := by decide
    cases hd with
    | div0 h => exact ⟨_, rfl, _, rfl, _, rfl, _, a, b, rfl, ha, hb, fun _ => q _ sm, fun z => absurd h z⟩
    | rem0 h => exact ⟨_, rfl, _, rfl, _, rfl, _, a, b, rfl, ha, hb, fun _ => q _ sm, fun z => absurd h z⟩
    | div h => exact ⟨_, rfl, _, rfl, _, rfl, _, a, b, rfl, ha, hb, fun z => absurd z h, fun _ H' s2 => ⟨fun _ => q _ (sm.trans s2), fun z => absurd rfl z⟩⟩
    | rem h => exact ⟨_, rfl, _, rfl, _, rfl, _, a, b, rfl, ha, hb, fun z => absurd z h, fun _ H' s2 => ⟨fun z => absurd z (by decide +kernel), fun _ => q _ (sm.trans s2)⟩⟩
    | add => exact ⟨_, rfl, rfl, _, rfl, ifD rfl ⟨_, rfl, _, rfl, _, _, rfl, rfl, _, rfl, q _ sm⟩⟩
    | sub => exact ⟨_, rfl, rfl, _, rfl, ok (by decide +kernel) ⟨_, rfl, rfl, _, rfl, ifD rfl ⟨_, rfl, _, rfl, _, _, rfl, rfl, _, rfl, q _ sm⟩⟩⟩
    | mul => exact ⟨_, rfl, rfl, _, rfl, ok (by decide +kernel) ⟨_, rfl, rfl, _, rfl, ok (by decide +kernel) ⟨_, rfl, rfl, _, rfl, ifD rfl ⟨_, rfl, _, rfl, _, _, rfl, rfl, .inl ⟨by have := ha.1; omega, by have := ha.2; omega⟩, _, rfl, q _ sm⟩⟩⟩⟩
    | less => exact ⟨_, rfl, rfl, _, rfl, ok (by decide +kernel) ⟨_, rfl, rfl, _, rfl, ok (by decide +kernel) ⟨_, rfl, rfl, _, rfl, ok (by decide +kernel) ⟨_, rfl, rfl, _, rfl, ifD rfl ⟨_, rfl, _, rfl, _, _, rfl, rfl, .inr ⟨_, rfl, q _ sm⟩⟩⟩⟩⟩⟩
    | same => exact ⟨_, rfl, rfl, _, rfl, ok (by decide +kernel) ⟨_, rfl, rfl, _, rfl, ok (by decide +kernel) ⟨_, rfl, rfl, _, rfl, ok (by decide +kernel) ⟨_, rfl, rfl, _, rfl, ok (by decide +kernel) ⟨_, rfl, _, rfl, rfl, .inr ⟨_, rfl, by
        rw [show decide (V.int a = V.int b) = decide (a = b) by by_cases z : a = b <;> simp [z]]
        exact q _ sm⟩⟩⟩⟩⟩⟩
theorem wr_in {n : Int} (h : In32 n) : wr n = n := by
  obtain ⟨h1, h2⟩ := h
  unfold wr
  omega
def sp_denied : Sp := fun vs H Q _ => ∃ n : Int, vs = [.int n] ∧ Q (.int (b2n (decide (V.int n = V.int 0)))) H
theorem ok_denied (T : Top K mg) : FnOk P w K mg base CX0 1 (He.ga K "denied") T.fd_denied ["n"] sp_denied := by
  refine T.F_denied.ok sc_denied (fun vs H Q E h => ?_) (fun cdv A outer s H vs Q E hr h => ?_)
  · obtain ⟨n, rfl, _⟩ := h
    rfl
  · obtain ⟨n, rfl, q⟩ := h
    refine ⟨_, PSs.nox (pss_one (ps_ret (pe_callTy call_int1 (by rfl) T.m_int (by decide +kernel) (pa_cons (pe_cmpR op_eq (pv 0) pe_int (nomark _)) pa_nil)))), ?_⟩
    exact ⟨_, rfl, rfl, .inr ⟨_, rfl, q⟩⟩
end

/-! playing, in plain words: rows, helpers, faults -/
abbrev Kn := Str → Option Int
abbrev Rw := Str → List Int
def rck (w : Str) (a b : Int) : Option Int :=
  if w = "add" then some (wr (a + b)) else if w = "sub" then some (wr (a - b)) else if w = "mul" then some (wr (a * b))
  else if w = "less" then some (b2n (decide (a < b))) else if w = "same" then some (b2n (decide (a = b)))
  else if w = "div" then (if b = 0 then none else some (wr (a.fdiv b))) else (if b = 0 then none else some (wr (a.fmod b)))
def vOf : Option Int → V
  | some v => .int v
  | none => .non
theorem due_rck {w : Str} {a b : Int} (hw : w ∈ wds) : Due a b w (vOf (rck w a b)) := by
  unfold rck
  by_cases h1 : w = "add"
  · subst h1; rw [if_pos rfl]; exact .add
  rw [if_neg h1]
  by_cases h2 : w = "sub"
  · subst h2; rw [if_pos rfl]; exact .sub
  rw [if_neg h2]
  by_cases h3 : w = "mul"
  · subst h3; rw [if_pos rfl]; exact .mul
  rw [if_neg h3]
  by_cases h4 : w = "less"
  · subst h4; rw [if_pos rfl]; exact .less
  rw [if_neg h4]
  by_cases h5 : w = "same"
  · subst h5; rw [if_pos rfl]; exact .same
  rw [if_neg h5]
  by_cases h6 : w = "div"
  · subst h6
    rw [if_pos rfl]
    by_cases hb : b = 0
    · rw [if_pos hb]; exact .div0 hb
    · rw [if_neg hb]; exact .div hb
  rw [if_neg h6]
  have h7 : w = "rem" := by
    unfold wds at hw
    simp only [List.mem_cons, List.not_mem_nil, or_false] at hw
    rcases hw with h | h | h | h | h | h | h
    all_goals first | exact absurd h h1 | exact absurd h h2 | exact absurd h h3 | exact absurd h h4 | exact absurd h h5 | exact absurd h h6 | exact h
  subst h7
  by_cases hb : b = 0
  · rw [if_pos hb]; exact .rem0 hb
  · rw [if_neg hb]; exact .rem hb
theorem wr_32 (n : Int) : In32 (wr n) := by
  unfold wr In32
  omega
theorem b2n_32 (b : Bool) : In32 (b2n b) := by cases b <;> exact ⟨by decide, by decide⟩
theorem rck_32 {w : Str} {a b v : Int} (h : rck w a b = some v) : In32 v := by
  unfold rck at h
  repeat' (split at h)
  all_goals first | (cases h; exact wr_32 _) | (cases h; exact b2n_32 _) | cases h
def wx : Ex → Kn → Rw → Except Str Int
  | .num n, _, _ => .ok n
  | .nam x, kn, _ => .ok ((kn x).getD 0)
  | .no e, kn, rw => match wx e kn rw with
    | .error w => .error w
    | .ok v => .ok (b2n (decide (V.int v = V.int 0)))
  | .op w a b, kn, rw => match wx a kn rw with
    | .error f => .error f
    | .ok u => match wx b kn rw with
      | .error f => .error f
      | .ok v => match rck w u v with
        | none => .error "division"
        | some z => .ok z
  | .at_ r e, kn, rw => match wx e kn rw with
    | .error f => .error f
    | .ok p => if 0 ≤ p ∧ p < (rw r).length then .ok ((rw r).getD p.toNat 0) else .error "place"
def Ex.dep : Ex → Nat
  | .num _ => 0
  | .nam _ => 0
  | .no e => e.dep + 1
  | .op _ a b => max a.dep b.dep + 1
  | .at_ _ e => e.dep + 1
def Ex.wf (rs : List Str) : Ex → Prop
  | .num n => In32 n
  | .nam _ => True
  | .no e => e.wf rs
  | .op w a b => w ∈ wds ∧ a.wf rs ∧ b.wf rs
  | .at_ r e => r ∈ rs ∧ e.wf rs
def Kn32 (kn : Kn) : Prop := ∀ x v, kn x = some v → In32 v
def Rw32 (rw : Rw) : Prop := ∀ x, ∀ v ∈ rw x, In32 v
theorem in32_0 : In32 0 := ⟨by decide, by decide⟩
theorem wx_32 {kn : Kn} {rw : Rw} {rs : List Str} (hk : Kn32 kn) (hr : Rw32 rw) : ∀ {e : Ex} {v : Int}, e.wf rs → wx e kn rw = .ok v → In32 v
  | .num n, v, h, hv => by cases hv; exact h
  | .nam x, v, _, hv => by
    have e : (kn x).getD 0 = v := by
      have := hv
      unfold wx at this
      cases this
      rfl
    cases hx : kn x with
    | none => rw [hx] at e; cases e; exact in32_0
    | some u => rw [hx] at e; cases e; exact hk x u hx
  | .no e, v, h, hv => by
    unfold wx at hv
    cases he : wx e kn rw with
    | error w => rw [he] at hv; cases hv
    | ok u => rw [he] at hv; cases hv; exact b2n_32 _
  | .op w a b, v, h, hv => by
    unfold wx at hv
    cases ha : wx a kn rw with
    | error f => rw [ha] at hv; cases hv
    | ok u =>
      rw [ha] at hv
      cases hb : wx b kn rw with
      | error f => rw [hb] at hv; cases hv
      | ok x =>
        rw [hb] at hv
        dsimp only at hv
        cases hc : rck w u x with
        | none => rw [hc] at hv; cases hv
        | some z => rw [hc] at hv; cases hv; exact rck_32 hc
  | .at_ r e, v, h, hv => by
    unfold wx at hv
    cases ha : wx e kn rw with
    | error f => rw [ha] at hv; cases hv
    | ok p =>
      rw [ha] at hv
      dsimp only at hv
      by_cases hp : 0 ≤ p ∧ p < (rw r).length
      · rw [if_pos hp] at hv
        cases hv
        exact getD_all (hr r) hp.1 hp.2
      · rw [if_neg hp] at hv; cases hv
def wxs : List Ex → Kn → Rw → Except Str (List Int)
  | [], _, _ => .ok []
  | e :: r, kn, rw => match wx e kn rw with
    | .error f => .error f
    | .ok v => match wxs r kn rw with
      | .error f => .error f
      | .ok vs => .ok (v :: vs)
inductive Rs where
  | fin
  | gave (v : Int)
  | on
  | flt (w : Str)
structure PSt where
  kn : Kn
  rw : Rw
  lf : Nat
  td : List Int
abbrev Hs := Str → Option (List Str × List Sm)
def kput (kn : Kn) (x : Str) (v : Int) : Kn := fun y => if y = x then some v else kn y
def rput (rw : Rw) (x : Str) (i : Nat) (v : Int) : Rw := fun y => if y = x then (rw x).set i v else rw y
def knZ (xs : List (Str × Int)) : Kn := xs.foldl (fun k p => kput k p.1 p.2) (fun _ => none)
def failW (n : Int) : Str := ("fail " : Str) ++ (toString n : Str)
theorem empty_app (x : Str) : Str.empty ++ x = x := by
  cases x with
  | mk c => show Str.mk (#[] ++ c) = _; rw [Array.empty_append]
mutual
def doAll (hs : Hs) : Nat → List Sm → PSt → Option (Rs × PSt)
  | 0, _, _ => none
  | _ + 1, [], s => some (.fin, s)
  | F + 1, m :: r, s => if s.lf = 0 then some (.on, s) else match doOne hs F m { s with lf := s.lf - 1 } with
    | none => none
    | some (.fin, s') => doAll hs F r s'
    | some (.gave v, s') => some (.gave v, s')
    | some (.on, s') => some (.on, s')
    | some (.flt w, s') => some (.flt w, s')
def doOne (hs : Hs) : Nat → Sm → PSt → Option (Rs × PSt)
  | 0, _, _ => none
  | F + 1, m, s => match m with
    | .set x e => match wx e s.kn s.rw with
      | .error f => some (.flt f, s)
      | .ok v => some (.fin, { s with kn := kput s.kn x v })
    | .tell e => match wx e s.kn s.rw with
      | .error f => some (.flt f, s)
      | .ok v => some (.fin, { s with td := s.td ++ [v] })
    | .give e => match wx e s.kn s.rw with
      | .error f => some (.flt f, s)
      | .ok v => some (.gave v, s)
    | .put r e f => match wx e s.kn s.rw with
      | .error f => some (.flt f, s)
      | .ok p => match wx f s.kn s.rw with
        | .error f => some (.flt f, s)
        | .ok v => if 0 ≤ p ∧ p < (s.rw r).length then some (.fin, { s with rw := rput s.rw r p.toNat v }) else some (.flt "place", s)
    | .ite e ys ns => match wx e s.kn s.rw with
      | .error f => some (.flt f, s)
      | .ok v => doAll hs F (if v ≠ 0 then ys else ns) s
    | .loop e b => again hs F e b s
    | .fail n => some (.flt (failW n), s)
    | .call x h es => match hs h with
      | none => none
      | some (ps, body) => match wxs es s.kn s.rw with
        | .error f => some (.flt f, s)
        | .ok vs => match doAll hs F body { kn := knZ (ps.zip vs), rw := fun _ => [], lf := s.lf, td := s.td } with
          | none => none
          | some (.fin, s1) => some (.fin, { s with kn := kput s.kn x 0, lf := s1.lf, td := s1.td })
          | some (.gave v, s1) => some (.fin, { s with kn := kput s.kn x v, lf := s1.lf, td := s1.td })
          | some (.on, s1) => some (.on, { s with lf := s1.lf, td := s1.td })
          | some (.flt w, s1) => some (.flt w, { s with lf := s1.lf, td := s1.td })
def again (hs : Hs) : Nat → Ex → List Sm → PSt → Option (Rs × PSt)
  | 0, _, _, _ => none
  | F + 1, e, b, s => match wx e s.kn s.rw with
    | .error f => some (.flt f, s)
    | .ok v => if v = 0 then some (.fin, s) else match doAll hs F b s with
      | none => none
      | some (.fin, s') => if s'.lf = 0 then some (.on, s') else again hs F e b { s' with lf := s'.lf - 1 }
      | some (.gave v, s') => some (.gave v, s')
      | some (.on, s') => some (.on, s')
      | some (.flt w, s') => some (.flt w, s')
end
def CallsOk : Prop := True
def Ex.ok (rs : List Str) (e : Ex) : Prop := e.dep < 10 ∧ e.wf rs
def Sm.ok (hs : Hs) : Nat → List Str → Sm → Prop
  | 0, _, _ => False
  | _ + 1, rs, .set _ e => e.ok rs
  | _ + 1, rs, .tell e => e.ok rs
  | _ + 1, rs, .give e => e.ok rs
  | _ + 1, rs, .put r e f => r ∈ rs ∧ e.ok rs ∧ f.ok rs
  | _ + 1, _, .fail n => In32 n ∧ SeqAt.shaped (.str (failW n)) = true
  | n + 1, rs, .ite e ys ns => e.ok rs ∧ (∀ m ∈ ys, Sm.ok hs n rs m) ∧ ∀ m ∈ ns, Sm.ok hs n rs m
  | n + 1, rs, .loop e b => e.ok rs ∧ ∀ m ∈ b, Sm.ok hs n rs m
  | n + 1, rs, .call _ h es => CallsOk ∧ (∀ e ∈ es, e.ok rs) ∧ es.length ≤ 100 ∧ ∃ ps body, hs h = some (ps, body) ∧ ps.length = es.length ∧ ∀ m ∈ body, Sm.ok hs n [] m
/-! all of it ends -/
theorem fuel1 (hs : Hs) (F : Nat) : (∀ bd s r, doAll hs F bd s = some r → doAll hs (F + 1) bd s = some r) ∧ (∀ m s r, doOne hs F m s = some r → doOne hs (F + 1) m s = some r) ∧ (∀ e b s r, again hs F e b s = some r → again hs (F + 1) e b s = some r) := by
  induction F with
  | zero =>
    refine ⟨fun bd s r h => ?_, fun m s r h => ?_, fun e b s r h => ?_⟩
    · simp [doAll] at h
    · simp [doOne] at h
    · simp [again] at h
  | succ F ih =>
    obtain ⟨iA, iO, iW⟩ := ih
    refine ⟨fun bd s r h => ?_, fun m s r h => ?_, fun e b s r h => ?_⟩
    · cases bd with
      | nil => rw [doAll] at h ⊢; exact h
      | cons m rs =>
        rw [doAll] at h
        rw [doAll]
        by_cases l0 : s.lf = 0
        · rw [if_pos l0] at h ⊢; exact h
        · rw [if_neg l0] at h ⊢
          cases ho : doOne hs F m { s with lf := s.lf - 1 } with
          | none => rw [ho] at h; cases h
          | some q =>
            obtain ⟨r1, s1⟩ := q
            rw [ho] at h
            rw [iO _ _ _ ho]
            cases r1 with
            | fin => exact iA _ _ _ h
            | gave v => exact h
            | on => exact h
            | flt w => exact h
    · cases m with
      | set x e => rw [doOne] at h ⊢; exact h
      | tell e => rw [doOne] at h ⊢; exact h
      | give e => rw [doOne] at h ⊢; exact h
      | put r e f => rw [doOne] at h ⊢; exact h
      | fail n => rw [doOne] at h ⊢; exact h
      | ite e ys ns =>
        rw [doOne] at h ⊢
        cases hw : wx e s.kn s.rw with
        | error f => rw [hw] at h; exact h
        | ok v => rw [hw] at h; exact iA _ _ _ h
      | loop e b =>
        rw [doOne] at h ⊢
        exact iW _ _ _ _ h
      | call x g es =>
        rw [doOne] at h ⊢
        cases hg : hs g with
        | none => rw [hg] at h; cases h
        | some pb =>
          obtain ⟨ps, body⟩ := pb
          rw [hg] at h
          dsimp only at h ⊢
          cases hw : wxs es s.kn s.rw with
          | error f => rw [hw] at h; exact h
          | ok vs =>
            rw [hw] at h
            dsimp only at h ⊢
            cases ho : doAll hs F body { kn := knZ (ps.zip vs), rw := fun _ => [], lf := s.lf, td := s.td } with
            | none => rw [ho] at h; cases h
            | some q => rw [ho] at h; rw [iA _ _ _ ho]; exact h
    · rw [again] at h
      rw [again]
      cases hw : wx e s.kn s.rw with
      | error f => rw [hw] at h; exact h
      | ok v =>
        rw [hw] at h
        dsimp only at h ⊢
        by_cases hv : v = 0
        · rw [if_pos hv] at h ⊢; exact h
        · rw [if_neg hv] at h ⊢
          cases ho : doAll hs F b s with
          | none => rw [ho] at h; cases h
          | some q =>
            obtain ⟨r1, s1⟩ := q
            rw [ho] at h
            rw [iA _ _ _ ho]
            cases r1 with
            | fin =>
              dsimp only at h ⊢
              by_cases l0 : s1.lf = 0
              · rw [if_pos l0] at h ⊢; exact h
              · rw [if_neg l0] at h ⊢; exact iW _ _ _ _ h
            | gave v => exact h
            | on => exact h
            | flt w => exact h
theorem fuelA {hs : Hs} {F G : Nat} {bd : List Sm} {s : PSt} {r : Rs × PSt} (l : F ≤ G) (h : doAll hs F bd s = some r) : doAll hs G bd s = some r := by
  induction l with
  | refl => exact h
  | step _ ih => exact (fuel1 hs _).1 _ _ _ ih
theorem fuelO {hs : Hs} {F G : Nat} {m : Sm} {s : PSt} {r : Rs × PSt} (l : F ≤ G) (h : doOne hs F m s = some r) : doOne hs G m s = some r := by
  induction l with
  | refl => exact h
  | step _ ih => exact (fuel1 hs _).2.1 _ _ _ ih
theorem fuelW {hs : Hs} {F G : Nat} {e : Ex} {b : List Sm} {s : PSt} {r : Rs × PSt} (l : F ≤ G) (h : again hs F e b s = some r) : again hs G e b s = some r := by
  induction l with
  | refl => exact h
  | step _ ih => exact (fuel1 hs _).2.2 _ _ _ _ ih
/-- turns go down only; what is told is bounded by them -/
theorem size1 (hs : Hs) (F : Nat) : (∀ bd s r s', doAll hs F bd s = some (r, s') → s'.lf ≤ s.lf ∧ s'.td.length + s'.lf ≤ s.td.length + s.lf) ∧ (∀ m s r s', doOne hs F m s = some (r, s') → s'.lf ≤ s.lf ∧ s'.td.length + s'.lf ≤ s.td.length + s.lf + 1) ∧ (∀ e b s r s', again hs F e b s = some (r, s') → s'.lf ≤ s.lf ∧ s'.td.length + s'.lf ≤ s.td.length + s.lf) := by
  induction F with
  | zero =>
    refine ⟨fun bd s r s' h => ?_, fun m s r s' h => ?_, fun e b s r s' h => ?_⟩
    · simp [doAll] at h
    · simp [doOne] at h
    · simp [again] at h
  | succ F ih =>
    obtain ⟨iA, iO, iW⟩ := ih
    refine ⟨fun bd s r s' h => ?_, fun m s r s' h => ?_, fun e b s r s' h => ?_⟩
    · cases bd with
      | nil => rw [doAll] at h; cases h; exact ⟨Nat.le_refl _, Nat.le_refl _⟩
      | cons m rs =>
        rw [doAll] at h
        by_cases l0 : s.lf = 0
        · rw [if_pos l0] at h; cases h; exact ⟨Nat.le_refl _, Nat.le_refl _⟩
        · rw [if_neg l0] at h
          cases ho : doOne hs F m { s with lf := s.lf - 1 } with
          | none => rw [ho] at h; cases h
          | some q =>
            obtain ⟨r1, s1⟩ := q
            rw [ho] at h
            have a := iO _ _ _ _ ho
            dsimp only at a
            cases r1 with
            | fin => have := iA _ _ _ _ h; omega
            | gave v => cases h; omega
            | on => cases h; omega
            | flt w => cases h; omega
    · cases m with
      | set x e =>
        rw [doOne] at h
        cases hw : wx e s.kn s.rw with
        | error f => rw [hw] at h; cases h; exact ⟨Nat.le_refl _, Nat.le_succ _⟩
        | ok v => rw [hw] at h; cases h; exact ⟨Nat.le_refl _, Nat.le_succ _⟩
      | tell e =>
        rw [doOne] at h
        cases hw : wx e s.kn s.rw with
        | error f => rw [hw] at h; cases h; exact ⟨Nat.le_refl _, Nat.le_succ _⟩
        | ok v => rw [hw] at h; cases h; refine ⟨Nat.le_refl _, ?_⟩; show (s.td ++ [v]).length + s.lf ≤ _; rw [List.length_append, List.length_singleton]; omega
      | give e =>
        rw [doOne] at h
        cases hw : wx e s.kn s.rw with
        | error f => rw [hw] at h; cases h; exact ⟨Nat.le_refl _, Nat.le_succ _⟩
        | ok v => rw [hw] at h; cases h; exact ⟨Nat.le_refl _, Nat.le_succ _⟩
      | put r e f =>
        rw [doOne] at h
        cases hw : wx e s.kn s.rw with
        | error g => rw [hw] at h; cases h; exact ⟨Nat.le_refl _, Nat.le_succ _⟩
        | ok p =>
          rw [hw] at h
          dsimp only at h
          cases hv : wx f s.kn s.rw with
          | error g => rw [hv] at h; cases h; exact ⟨Nat.le_refl _, Nat.le_succ _⟩
          | ok v =>
            rw [hv] at h
            dsimp only at h
            split at h
            · cases h; exact ⟨Nat.le_refl _, Nat.le_succ _⟩
            · cases h; exact ⟨Nat.le_refl _, Nat.le_succ _⟩
      | fail n => rw [doOne] at h; cases h; exact ⟨Nat.le_refl _, Nat.le_succ _⟩
      | ite e ys ns =>
        rw [doOne] at h
        cases hw : wx e s.kn s.rw with
        | error f => rw [hw] at h; cases h; exact ⟨Nat.le_refl _, Nat.le_succ _⟩
        | ok v => rw [hw] at h; have := iA _ _ _ _ h; omega
      | loop e b =>
        rw [doOne] at h
        have := iW _ _ _ _ _ h
        omega
      | call x g es =>
        rw [doOne] at h
        cases hg : hs g with
        | none => rw [hg] at h; cases h
        | some pb =>
          obtain ⟨ps, body⟩ := pb
          rw [hg] at h
          dsimp only at h
          cases hw : wxs es s.kn s.rw with
          | error f => rw [hw] at h; cases h; exact ⟨Nat.le_refl _, Nat.le_succ _⟩
          | ok vs =>
            rw [hw] at h
            dsimp only at h
            cases ho : doAll hs F body { kn := knZ (ps.zip vs), rw := fun _ => [], lf := s.lf, td := s.td } with
            | none => rw [ho] at h; cases h
            | some q =>
              obtain ⟨r1, s1⟩ := q
              rw [ho] at h
              have a := iA _ _ _ _ ho
              dsimp only at a
              cases r1 <;> (cases h; dsimp only; omega)
    · rw [again] at h
      cases hw : wx e s.kn s.rw with
      | error f => rw [hw] at h; cases h; exact ⟨Nat.le_refl _, Nat.le_refl _⟩
      | ok v =>
        rw [hw] at h
        dsimp only at h
        by_cases hv : v = 0
        · rw [if_pos hv] at h; cases h; exact ⟨Nat.le_refl _, Nat.le_refl _⟩
        · rw [if_neg hv] at h
          cases ho : doAll hs F b s with
          | none => rw [ho] at h; cases h
          | some q =>
            obtain ⟨r1, s1⟩ := q
            rw [ho] at h
            have a := iA _ _ _ _ ho
            cases r1 with
            | fin =>
              dsimp only at h
              by_cases l0 : s1.lf = 0
              · rw [if_pos l0] at h; cases h; exact a
              · rw [if_neg l0] at h
                have := iW _ _ _ _ _ h
                dsimp only at this
                omega
            | gave v => cases h; exact a
            | on => cases h; exact a
            | flt w => cases h; exact a
/-- with turns to count by, all ends -/
theorem total (hs : Hs) (L : Nat) : (∀ n rs bd s, (∀ m ∈ bd, Sm.ok hs n rs m) → s.lf ≤ L → ∃ F r, doAll hs F bd s = some r) ∧ (∀ n rs m s, Sm.ok hs n rs m → s.lf ≤ L → ∃ F r, doOne hs F m s = some r) := by
  have step : ∀ L, (∀ n rs m s, Sm.ok hs n rs m → s.lf < L → ∃ F r, doOne hs F m s = some r) → ∀ n rs bd s, (∀ m ∈ bd, Sm.ok hs n rs m) → s.lf ≤ L → ∃ F r, doAll hs F bd s = some r := by
    intro L hO n rs bd
    induction bd with
    | nil => exact fun s _ _ => ⟨1, _, by rw [doAll]⟩
    | cons m r ih =>
      intro s hok hl
      by_cases l0 : s.lf = 0
      · exact ⟨1, _, by rw [doAll, if_pos l0]⟩
      · obtain ⟨F1, ⟨r1, s1⟩, e1⟩ := hO n rs m { s with lf := s.lf - 1 } (hok m (List.mem_cons_self ..)) (by dsimp only; omega)
        have a := (size1 hs F1).2.1 _ _ _ _ e1
        dsimp only at a
        cases r1 with
        | fin =>
          obtain ⟨F2, r2, e2⟩ := ih s1 (fun m hm => hok m (List.mem_cons_of_mem _ hm)) (by omega)
          refine ⟨max F1 F2 + 1, r2, ?_⟩
          rw [doAll, if_neg l0, fuelO (Nat.le_max_left F1 F2) e1]
          exact fuelA (Nat.le_max_right F1 F2) e2
        | gave v => exact ⟨F1 + 1, _, by rw [doAll, if_neg l0, e1]⟩
        | on => exact ⟨F1 + 1, _, by rw [doAll, if_neg l0, e1]⟩
        | flt w => exact ⟨F1 + 1, _, by rw [doAll, if_neg l0, e1]⟩
  have one : ∀ L, (∀ n rs bd s, (∀ m ∈ bd, Sm.ok hs n rs m) → s.lf ≤ L → ∃ F r, doAll hs F bd s = some r) → ∀ n rs m s, Sm.ok hs n rs m → s.lf ≤ L → ∃ F r, doOne hs F m s = some r := by
    intro L hA n rs m s hok hl
    cases n with
    | zero => cases hok
    | succ n =>
    cases m with
    | set x e => refine ⟨1, ?_⟩; rw [doOne]; cases wx e s.kn s.rw <;> exact ⟨_, rfl⟩
    | tell e => refine ⟨1, ?_⟩; rw [doOne]; cases wx e s.kn s.rw <;> exact ⟨_, rfl⟩
    | give e => refine ⟨1, ?_⟩; rw [doOne]; cases wx e s.kn s.rw <;> exact ⟨_, rfl⟩
    | put r e f =>
      refine ⟨1, ?_⟩
      rw [doOne]
      cases wx e s.kn s.rw with
      | error g => exact ⟨_, rfl⟩
      | ok p =>
        cases wx f s.kn s.rw with
        | error g => exact ⟨_, rfl⟩
        | ok v =>
          dsimp only
          split
          · exact ⟨_, rfl⟩
          · exact ⟨_, rfl⟩
    | fail k => exact ⟨1, _, by rw [doOne]⟩
    | ite e ys ns =>
      cases hw : wx e s.kn s.rw with
      | error g => exact ⟨1, _, by rw [doOne, hw]⟩
      | ok v =>
        obtain ⟨F, r, e1⟩ := hA n rs (if v ≠ 0 then ys else ns) s (fun m hm => by
          split at hm
          · exact hok.2.1 m hm
          · exact hok.2.2 m hm) hl
        exact ⟨F + 1, r, by rw [doOne, hw]; exact e1⟩
    | loop e b =>
      have key : ∀ k (s : PSt), s.lf ≤ k → s.lf ≤ L → ∃ F r, again hs F e b s = some r := by
        intro k
        induction k with
        | zero =>
          intro s hk hl
          cases hw : wx e s.kn s.rw with
          | error g => exact ⟨1, _, by rw [again, hw]⟩
          | ok v =>
            by_cases hv : v = 0
            · exact ⟨1, _, by rw [again, hw]; dsimp only; rw [if_pos hv]⟩
            · obtain ⟨F, ⟨r1, s1⟩, e1⟩ := hA n rs b s hok.2 hl
              have a := (size1 hs F).1 _ _ _ _ e1
              cases r1 with
              | fin => exact ⟨F + 1, _, by rw [again, hw]; dsimp only; rw [if_neg hv, e1]; dsimp only; rw [if_pos (by omega)]⟩
              | gave v => exact ⟨F + 1, _, by rw [again, hw]; dsimp only; rw [if_neg hv, e1]⟩
              | on => exact ⟨F + 1, _, by rw [again, hw]; dsimp only; rw [if_neg hv, e1]⟩
              | flt w => exact ⟨F + 1, _, by rw [again, hw]; dsimp only; rw [if_neg hv, e1]⟩
        | succ k ih =>
          intro s hk hl
          cases hw : wx e s.kn s.rw with
          | error g => exact ⟨1, _, by rw [again, hw]⟩
          | ok v =>
            by_cases hv : v = 0
            · exact ⟨1, _, by rw [again, hw]; dsimp only; rw [if_pos hv]⟩
            · obtain ⟨F, ⟨r1, s1⟩, e1⟩ := hA n rs b s hok.2 hl
              have a := (size1 hs F).1 _ _ _ _ e1
              cases r1 with
              | fin =>
                by_cases l0 : s1.lf = 0
                · exact ⟨F + 1, _, by rw [again, hw]; dsimp only; rw [if_neg hv, e1]; dsimp only; rw [if_pos l0]⟩
                · obtain ⟨F2, r2, e2⟩ := ih { s1 with lf := s1.lf - 1 } (by dsimp only; omega) (by dsimp only; omega)
                  refine ⟨max F F2 + 1, r2, ?_⟩
                  rw [again, hw]
                  dsimp only
                  rw [if_neg hv, fuelA (Nat.le_max_left F F2) e1]
                  dsimp only
                  rw [if_neg l0]
                  exact fuelW (Nat.le_max_right F F2) e2
              | gave v => exact ⟨F + 1, _, by rw [again, hw]; dsimp only; rw [if_neg hv, e1]⟩
              | on => exact ⟨F + 1, _, by rw [again, hw]; dsimp only; rw [if_neg hv, e1]⟩
              | flt w => exact ⟨F + 1, _, by rw [again, hw]; dsimp only; rw [if_neg hv, e1]⟩
      obtain ⟨F, r, e1⟩ := key s.lf s (Nat.le_refl _) hl
      exact ⟨F + 1, r, by rw [doOne]; exact e1⟩
    | call x g es =>
      obtain ⟨_, _, _, ps, body, hg, _, hb⟩ := hok
      cases hw : wxs es s.kn s.rw with
      | error f => exact ⟨1, _, by rw [doOne, hg]; dsimp only; rw [hw]⟩
      | ok vs =>
        obtain ⟨F, ⟨r1, s1⟩, e1⟩ := hA n [] body { kn := knZ (ps.zip vs), rw := fun _ => [], lf := s.lf, td := s.td } hb hl
        refine ⟨F + 1, ?_⟩
        rw [doOne, hg]
        dsimp only
        rw [hw]
        dsimp only
        rw [e1]
        cases r1 <;> exact ⟨_, rfl⟩
  have all : ∀ L n rs bd s, (∀ m ∈ bd, Sm.ok hs n rs m) → s.lf ≤ L → ∃ F r, doAll hs F bd s = some r := by
    intro L
    induction L with
    | zero => exact step 0 (fun n rs m s _ h => absurd h (Nat.not_lt_zero _))
    | succ L ih => exact step (L + 1) (fun n rs m s hok hl => one L ih n rs m s hok (by omega))
  exact ⟨all L, one L (all L)⟩

section
variable {P : Program} {w : World} {K : PySem.W.Frag} {mg : Str → Option Value} {base : Heap}
def roomF (d r : Addr) : List (Str × V) := [("known", .ref d), ("rows", .ref r)]
theorem roomF_known (d r : Addr) : (roomF d r).lookup ("known" : Str) = some (.ref d) := by
  unfold roomF
  rw [List.lookup_cons, show (("known" : Str) == "known") = true by decide +kernel]
theorem roomF_rows (d r : Addr) : (roomF d r).lookup ("rows" : Str) = some (.ref r) := by
  unfold roomF
  rw [List.lookup_cons, show (("rows" : Str) == "known") = false by decide +kernel, List.lookup_cons, show (("rows" : Str) == "rows") = true by decide +kernel]
theorem roomF_no {d r : Addr} {m : Str} (h1 : (m == ("known" : Str)) = false) (h2 : (m == ("rows" : Str)) = false) : (roomF d r).lookup m = none := by
  unfold roomF
  rw [List.lookup_cons, h1, List.lookup_cons, h2]
  rfl
theorem none_sm {H H1 : Hp} {a : Addr} (s : Same H H1) (h : H1 a = none) : H a = none := by
  cases e : H a with
  | none => rfl
  | some o => rw [s a o e] at h; cases h
structure Adr where
  p : Addr
  d : Addr
  q : Addr
  t : Addr
  r : Addr
  ra : Str → Addr
/-- a Room: its names and rows -/
structure RoomAt (K : PySem.W.Frag) (H : Hp) (A : Adr) (rs : List Str) (kn : Kn) (rw : Rw) (n : Nat) : Prop where
  ob : ∃ dx, H A.p = some (.ins (He.ga K "Room") dx (roomF A.d A.r))
  dk : ∃ kvs : List (Key × V), H A.d = some (.dK kvs) ∧ kvs.length ≤ n ∧ ∀ x, valV kvs (.inr x) = (kn x).map V.int
  rk : ∃ rvs : List (Key × V), H A.r = some (.dK rvs) ∧ ∀ x ∈ rs, valV rvs (.inr x) = some (.ref (A.ra x))
  rl : ∀ x ∈ rs, H (A.ra x) = some (.lst ((rw x).map V.int))
theorem RoomAt.sm {H H' : Hp} {A : Adr} {rs : List Str} {kn : Kn} {rw : Rw} {n : Nat} (h : RoomAt K H A rs kn rw n) (s : Same H H') : RoomAt K H' A rs kn rw n := by
  obtain ⟨⟨dx, e⟩, ⟨kvs, e2, l, v⟩, ⟨rvs, e3, v3⟩, rl⟩ := h
  exact ⟨⟨dx, s _ _ e⟩, ⟨kvs, s _ _ e2, l, v⟩, ⟨rvs, s _ _ e3, v3⟩, fun x hx => s _ _ (rl x hx)⟩
def wordF (w : Str) : HO := .xd [("word", .str w)]
def sp_fi (K : PySem.W.Frag) : Sp := fun vs H Q _ => ∃ (a : Addr) (w : Str), vs = [.ref a, .str w] ∧ H a = some (exo a (He.ga K "Faulted") none) ∧ ∀ dx, H dx = none → dx ≠ a → Q .non (upd (upd H dx (exd dx [("word", .str w)])) a (exo a (He.ga K "Faulted") (some dx)))
theorem ok_Faulted_init (T : Top K mg) : FnOk P w K mg base CX0 1 (He.ma K (He.ga K "Faulted") "__init__") T.fd_Faulted___init__ ["self", "word"] (sp_fi K) := by
  refine T.F_Faulted___init__.ok sc_Faulted___init__ (fun vs H Q E h => ?_) (fun cdv A outer s H vs Q E hr h => ?_)
  · obtain ⟨a, w, rfl, _⟩ := h
    rfl
  · obtain ⟨a, w, rfl, ha, q⟩ := h
    refine ⟨_, PSs.nox (pss_cons (ps_expr (pe_weinit (by rfl) T.g_WorkError T.we_WorkError (pa_cons (pv 0) (pa_cons (pv 1) pa_nil))))
        (pss_one (ps_ost (pv 0) (pv 1)))), ?_⟩
    refine ⟨_, rfl, _, rfl, a, He.ga K "Faulted", [.str w], rfl, (by simp), T.o_Faulted, ha, ?_⟩
    exact ⟨_, rfl, _, rfl, a, He.ga K "Faulted", rfl, T.o_Faulted, T.nf_Faulted_word, .inl ⟨ha, fun dx hdx ne => q dx hdx ne⟩⟩
/-- a fault goes out -/
theorem flt_mk {H : Hp} {w : Str} {E : XK} (q : ∀ H' d, Same H H' → H' d = some (wordF w) → E (.ref (He.ga K "Faulted")) (some d) H') :
    ([V.str w] : List V).length ≤ 1000 ∧ ∀ a, H a = none → sp_fi K (.ref a :: ([V.str w] ++ [])) (upd H a (exo a (He.ga K "Faulted") none)) (fun v H2 => v = .non ∧ ∃ (d : Addr) (fs : List (Str × V)), H2 a = some (exo a (He.ga K "Faulted") (some d)) ∧ H2 d = some (exd d fs) ∧ H d = none ∧ E (.ref (He.ga K "Faulted")) (some d) (upd (del H2 a) d (.xd fs))) (fun _ _ _ => False) := by
  refine ⟨by simp, fun a ha => ⟨a, w, rfl, upd_same, fun dx hdx ne => ⟨rfl, dx, _, upd_same, by rw [upd_ne ne]; exact upd_same, ?_, q _ dx (fun b o hb => ?_) upd_same⟩⟩⟩
  · rw [upd_ne ne] at hdx
    exact hdx
  · rw [upd_ne ne] at hdx
    rw [upd_ne (ne_of_none hb hdx), del_ne (ne_of_none hb ha), upd_ne (ne_of_none hb ha), upd_ne (ne_of_none hb hdx), upd_ne (ne_of_none hb ha)]
    exact hb
def FltE (K : PySem.W.Frag) (H : Hp) (w : Str) (E : XK) : Prop := ∀ H' d, Same H H' → H' d = some (wordF w) → E (.ref (He.ga K "Faulted")) (some d) H'
theorem FltE.sm {H H1 : Hp} {w : Str} {E : XK} (h : FltE K H w E) (s : Same H H1) : FltE K H1 w E := fun H' d s' e => h H' d (s.trans s') e
def sp_rowwith (K : PySem.W.Frag) : Sp := fun vs H Q E => ∃ (A : Adr) (rs : List Str) (kn : Kn) (rw : Rw) (n : Nat) (x : Str) (z : Int), vs = [.ref A.p, .str x, .int z] ∧ RoomAt K H A rs kn rw n ∧ x ∈ rs ∧ (0 ≤ z ∧ z < (rw x).length → Q (.ref (A.ra x)) H) ∧ (¬ (0 ≤ z ∧ z < (rw x).length) → FltE K H "place" E)
theorem ok_Room_row_with (T : Top K mg) : FnOk P w K mg base (L2.CX P w) 3 (He.ma K (He.ga K "Room") "row_with") T.fd_Room_row_with ["self", "name", "place"] (sp_rowwith K) := by
  have G_Faulted___init__ := ok_Faulted_init (P := P) (w := w) (base := base) T
  refine T.F_Room_row_with.ok sc_Room_row_with (fun vs H Q E h => ?_) (fun cdv A outer s H vs Q E hr h => ?_)
  · obtain ⟨A, rs, kn, rw, n, x, z, rfl, _⟩ := h
    rfl
  · obtain ⟨B, rs, kn, rw', n, x, z, rfl, ro, hx, q0, q1⟩ := h
    refine ⟨_, (pss_cons (ps_if (pt_not (pt_chain op_le op_lt pe_int (pv 2) (pe_callB call_len_seq (by rfl) T.m_len (by decide +kernel) (pa_cons (pe_dget (hu_of hr) (pe_fld (pv 0) rfl) (pv 1) (fun _ _ => rfl)) pa_nil)))) (pss_one (ps_raise rfl (takes_of rfl rfl rfl rfl) (pmk_oex T.o_Faulted T.in_Faulted.iC T.in_Faulted.tI G_Faulted___init__ (hr.mono (by omega)) T.b_Faulted___init__ .nil pass0 (by rfl) T.g_Faulted (pa_cons pe_str pa_nil)))) pss_nil)
        (pss_one (ps_ret (pe_dget (hu_of hr) (pe_fld (pv 0) rfl) (pv 1) (fun _ _ => rfl))))), ?_⟩
    obtain ⟨dx, ep⟩ := ro.ob
    obtain ⟨rvs, er, hv⟩ := ro.rk
    have el := ro.rl x hx
    have hl : ((rw' x).map V.int).length = (rw' x).length := List.length_map ..
    have hd : DGet H B.r (.str x) (some (.ref (B.ra x))) := by
      have := DGet.k (k := .inr x) er
      rw [hv x hx] at this
      exact this
    refine ⟨_, rfl, _, _, rfl, rfl, _, rfl, ite2 (fun e0 => ?_) (fun e0 => ?_)⟩
    · have h0 : 0 ≤ z := of_decide_eq_true e0
      refine ⟨_, rfl, B.p, _, dx, _, _, rfl, ep, T.cl_Room, T.no_Room_rows, roomF_rows _ _, _, rfl, B.r, _, rfl, hd, B.ra x, _, rfl, .inl (.of el), _, _, rfl, rfl, _, rfl, ?_⟩
      rw [hl]
      by_cases hz : z < ((rw' x).length : Int)
      · refine ifNF hz ?_
        exact ⟨_, rfl, B.p, _, dx, _, _, rfl, ep, T.cl_Room, T.no_Room_rows, roomF_rows _ _, _, rfl, B.r, _, rfl, hd, q0 ⟨h0, hz⟩⟩
      · refine ifNT hz ?_
        exact flt_mk (q1 fun y => hz y.2)
    · have h0 : ¬ 0 ≤ z := fun y => e0 (decide_eq_true y)
      refine ⟨_, rfl, ifT rfl ?_⟩
      exact flt_mk (q1 fun y => h0 y.1)
def sp_worth (K : PySem.W.Frag) (n : Nat) : Sp := fun vs H Q E => ∃ (A : Adr) (rs : List Str) (v : V) (e : Ex) (kn : Kn) (rw : Rw) (lm : Nat), vs = [.ref A.p, v] ∧ e.dep < n ∧ e.wf rs ∧ RoomAt K H A rs kn rw lm ∧ Kn32 kn ∧ Rw32 rw ∧ Dp K H v e.d ∧ (∀ z, wx e kn rw = .ok z → ∀ H', Same H H' → Q (.int z) H') ∧ ∀ f, wx e kn rw = .error f → FltE K H f E
theorem wds_not {w : Str} (h : w ∈ wds) : w ≠ "number" ∧ w ≠ "name" ∧ w ≠ "at" ∧ w ≠ "not" := by
  unfold wds at h
  simp only [List.mem_cons, List.not_mem_nil, or_false] at h
  rcases h with rfl | rfl | rfl | rfl | rfl | rfl | rfl <;> decide +kernel
theorem ok_Room_worth (T : Top K mg) : ∀ n : Nat, FnOk P w K mg base (L2.CX P w) (n + 5) (He.ma K (He.ga K "Room") "worth") T.fd_Room_worth ["self", "e"] (sp_worth K n)
  | 0 => by
    refine T.F_Room_worth.ok sc_Room_worth (fun vs H Q E h => ?_) (fun cdv A outer s H vs Q E hr h => ?_)
    · obtain ⟨A, rs, v, e, kn, rw, lm, rfl, _⟩ := h
      rfl
    · obtain ⟨A, rs, v, e, kn, rw, lm, rfl, h1, _⟩ := h
      omega
  | n + 1 => by
    have G_Room_worth := ok_Room_worth T n
    have G_Room_row_with := ok_Room_row_with (P := P) (w := w) (base := base) T
    have G_reckoned := ok_reckoned (P := P) (w := w) (base := base) T
    have G_denied := ok_denied (P := P) (w := w) (base := base) T
    have G_Faulted___init__ := ok_Faulted_init (P := P) (w := w) (base := base) T
    refine T.F_Room_worth.ok sc_Room_worth (fun vs H Q E h => ?_) (fun cdv A outer s H vs Q E hr h => ?_)
    · obtain ⟨A, rs, v, e, kn, rw, lm, rfl, _⟩ := h
      rfl
    · obtain ⟨B, rs, v, e, kn, rw', lm, rfl, hn, wf, ro, kn32, rw32, dp, q, qf⟩ := h
      refine ⟨_, (pss_cons (ps_if (pt_cmpR op_eq (pe_ix ix_tup (pv 1) pe_int (fun _ _ => rfl)) pe_str (nomark _)) (pss_one (ps_ret (pe_ix ix_tup (pv 1) pe_int (fun _ _ => rfl)))) pss_nil)
        (pss_cons (ps_if (pt_cmpR op_eq (pe_ix ix_tup (pv 1) pe_int (fun _ _ => rfl)) pe_str (nomark _)) (pss_one (ps_ret (pe_dget2 (hu_of hr) (pe_fld (pv 0) rfl) (pe_ix ix_tup (pv 1) pe_int (fun _ _ => rfl)) pe_int ⟨rfl, rfl, rfl, rfl⟩))) pss_nil)
        (pss_cons (ps_if (pt_cmpR op_eq (pe_ix ix_tup (pv 1) pe_int (fun _ _ => rfl)) pe_str (nomark _)) (pss_cons (ps_set (i := 2) sc_Room_worth.nd rfl (Or.inl rfl) (pe_meth (pv 0) T.cl_Room T.me_Room_worth G_Room_worth (hr.mono (by omega)) T.b_Room_worth .nil (passes_call (takes_of rfl rfl rfl rfl) (fun _ _ _ _ h => h)) (pa_cons (pe_ix ix_tup (pv 1) pe_int (fun _ _ => rfl)) pa_nil)))
        (pss_one (ps_ret (pe_ix ix_list (pe_meth (pv 0) T.cl_Room T.me_Room_row_with G_Room_row_with (hr.mono (by omega)) T.b_Room_row_with .nil (passes_call (takes_of rfl rfl rfl rfl) (fun _ _ _ _ h => h)) (pa_cons (pe_ix ix_tup (pv 1) pe_int (fun _ _ => rfl)) (pa_cons (pv 2) pa_nil))) (pv 2) (fun _ _ => rfl))))) pss_nil)
        (pss_cons (ps_if (pt_cmpR op_eq (pe_ix ix_tup (pv 1) pe_int (fun _ _ => rfl)) pe_str (nomark _)) (pss_one (ps_ret (pe_call G_denied (hr.mono (by omega)) (by rfl) T.g_denied T.F_denied.kp T.b_denied .nil pass0 (pa_cons (pe_meth (pv 0) T.cl_Room T.me_Room_worth G_Room_worth (hr.mono (by omega)) T.b_Room_worth .nil (passes_call (takes_of rfl rfl rfl rfl) (fun _ _ _ _ h => h)) (pa_cons (pe_ix ix_tup (pv 1) pe_int (fun _ _ => rfl)) pa_nil)) pa_nil)))) pss_nil)
        (pss_cons (ps_set (i := 3) sc_Room_worth.nd rfl (Or.inl rfl) (pe_meth (pv 0) T.cl_Room T.me_Room_worth G_Room_worth (hr.mono (by omega)) T.b_Room_worth .nil (passes_call (takes_of rfl rfl rfl rfl) (fun _ _ _ _ h => h)) (pa_cons (pe_ix ix_tup (pv 1) pe_int (fun _ _ => rfl)) pa_nil)))
        (pss_cons (ps_set (i := 4) sc_Room_worth.nd rfl (Or.inl rfl) (pe_call G_reckoned (hr.mono (by omega)) (by rfl) T.g_reckoned T.F_reckoned.kp T.b_reckoned .nil pass0 (pa_cons (pe_ix ix_tup (pv 1) pe_int (fun _ _ => rfl)) (pa_cons (pv 3) (pa_cons (pe_meth (pv 0) T.cl_Room T.me_Room_worth G_Room_worth (hr.mono (by omega)) T.b_Room_worth .nil (passes_call (takes_of rfl rfl rfl rfl) (fun _ _ _ _ h => h)) (pa_cons (pe_ix ix_tup (pv 1) pe_int (fun _ _ => rfl)) pa_nil)) pa_nil)))))
        (pss_cons (ps_if (pt_cmpR op_isN (pv 4) pe_non (nomark _)) (pss_one (ps_raise rfl (takes_of rfl rfl rfl rfl) (pmk_oex T.o_Faulted T.in_Faulted.iC T.in_Faulted.tI G_Faulted___init__ (hr.mono (by omega)) T.b_Faulted___init__ .nil pass0 (by rfl) T.g_Faulted (pa_cons pe_str pa_nil)))) pss_nil)
        (pss_one (ps_ret (pv 4)))))))))), ?_⟩
      have nv : ∀ {x y : Str} {A B : Prop}, x ≠ y → B → if decide (V.str x = V.str y) = true then A else B := fun h hB => ifN (fun z => h (V.str.inj z)) hB
      obtain ⟨dx, ep⟩ := ro.ob
      cases e with
      | num m =>
        obtain ⟨t, xs, rfl, ht, da⟩ := dp_tup dp
        obtain ⟨x0, r0, rfl, d0, e0⟩ := dpAll_cons da
        obtain ⟨x1, r1, rfl, d1, e1⟩ := dpAll_cons e0
        cases dp_str d0
        cases dp_int d1
        refine ⟨_, rfl, t, _, 0, _, rfl, rfl, ht, atI_nat (j := 0) rfl, rfl, _, rfl, ifD rfl ?_⟩
        exact ⟨_, rfl, t, _, 1, _, rfl, rfl, ht, atI_nat (j := 1) rfl, q _ rfl _ (Same.refl _)⟩
      | nam x =>
        obtain ⟨t, xs, rfl, ht, da⟩ := dp_tup dp
        obtain ⟨x0, r0, rfl, d0, e0⟩ := dpAll_cons da
        obtain ⟨x1, r1, rfl, d1, e1⟩ := dpAll_cons e0
        cases dp_str d0
        cases dp_str d1
        obtain ⟨kvs, ed, _, hv⟩ := ro.dk
        refine ⟨_, rfl, t, _, 0, _, rfl, rfl, ht, atI_nat (j := 0) rfl, rfl, _, rfl, ifN (by decide +kernel) ?_⟩
        refine ⟨_, rfl, t, _, 0, _, rfl, rfl, ht, atI_nat (j := 0) rfl, rfl, _, rfl, ifD rfl ?_⟩
        refine ⟨_, rfl, B.p, _, dx, _, _, rfl, ep, T.cl_Room, T.no_Room_known, roomF_known _ _, B.d, rfl, .inl ⟨_, .inl ed⟩, _, rfl, t, _, 1, _, rfl, rfl, ht, atI_nat (j := 1) rfl, _, DGet.k (k := .inr x) ed, ?_⟩
        rw [hv x]
        have e9 : ((kn x).map V.int).getD (.int 0) = .int ((kn x).getD 0) := by cases kn x <;> rfl
        rw [e9]
        exact q _ rfl _ (Same.refl _)
      | at_ r a =>
        obtain ⟨t, xs, rfl, ht, da⟩ := dp_tup dp
        obtain ⟨x0, r0, rfl, d0, e0⟩ := dpAll_cons da
        obtain ⟨x1, r1, rfl, d1, e1⟩ := dpAll_cons e0
        obtain ⟨x2, r2, rfl, d2, e2⟩ := dpAll_cons e1
        cases dp_str d0
        cases dp_str d1
        have hd : a.dep < n := by
          have : a.dep + 1 < n + 1 := hn
          omega
        refine ⟨_, rfl, t, _, 0, _, rfl, rfl, ht, atI_nat (j := 0) rfl, rfl, _, rfl, ifN (by decide +kernel) ?_⟩
        refine ⟨_, rfl, t, _, 0, _, rfl, rfl, ht, atI_nat (j := 0) rfl, rfl, _, rfl, ifN (by decide +kernel) ?_⟩
        refine ⟨_, rfl, t, _, 0, _, rfl, rfl, ht, atI_nat (j := 0) rfl, rfl, _, rfl, ifD rfl ?_⟩
        refine ⟨_, rfl, B.p, dx, _, rfl, ep, roomF_no (by decide +kernel) (by decide +kernel), _, rfl, t, _, 2, _, rfl, rfl, ht, atI_nat (j := 2) rfl, B, rs, x2, a, kn, rw', lm, rfl, hd, wf.2, ro, kn32, rw32, d2, fun z hz H1 s1 => ?_, fun f hf => qf f (by unfold wx; rw [hf])⟩
        have ro1 := ro.sm s1
        refine ⟨_, rfl, B.p, dx, _, rfl, s1 _ _ ep, roomF_no (by decide +kernel) (by decide +kernel), _, rfl, t, _, 1, _, rfl, rfl, sqT_sm s1 ht, atI_nat (j := 1) rfl, _, rfl, B, rs, kn, rw', lm, r, z, rfl, ro1, wf.1, fun hp => ?_, fun hp => ?_⟩
        · refine ⟨_, rfl, B.ra r, _, z, _, rfl, rfl, .of (ro1.rl r wf.1), at_ints hp.1 hp.2, ?_⟩
          exact q _ (by unfold wx; rw [hz]; dsimp only; rw [if_pos hp]) _ s1
        · exact (qf "place" (by unfold wx; rw [hz]; dsimp only; rw [if_neg hp])).sm s1
      | no a =>
        obtain ⟨t, xs, rfl, ht, da⟩ := dp_tup dp
        obtain ⟨x0, r0, rfl, d0, e0⟩ := dpAll_cons da
        obtain ⟨x1, r1, rfl, d1, e1⟩ := dpAll_cons e0
        cases dp_str d0
        have hd : a.dep < n := by
          have : a.dep + 1 < n + 1 := hn
          omega
        refine ⟨_, rfl, t, _, 0, _, rfl, rfl, ht, atI_nat (j := 0) rfl, rfl, _, rfl, ifN (by decide +kernel) ?_⟩
        refine ⟨_, rfl, t, _, 0, _, rfl, rfl, ht, atI_nat (j := 0) rfl, rfl, _, rfl, ifN (by decide +kernel) ?_⟩
        refine ⟨_, rfl, t, _, 0, _, rfl, rfl, ht, atI_nat (j := 0) rfl, rfl, _, rfl, ifN (by decide +kernel) ?_⟩
        refine ⟨_, rfl, t, _, 0, _, rfl, rfl, ht, atI_nat (j := 0) rfl, rfl, _, rfl, ifD rfl ?_⟩
        refine ⟨_, rfl, B.p, dx, _, rfl, ep, roomF_no (by decide +kernel) (by decide +kernel), _, rfl, t, _, 1, _, rfl, rfl, ht, atI_nat (j := 1) rfl, B, rs, x1, a, kn, rw', lm, rfl, hd, wf, ro, kn32, rw32, d1, fun z hz H1 s1 => ?_, fun f hf => qf f (by unfold wx; rw [hf])⟩
        exact ⟨z, rfl, q _ (by unfold wx; rw [hz]) _ s1⟩
      | op wd a b =>
        obtain ⟨w1, w2, w3, w4⟩ := wds_not wf.1
        obtain ⟨t, xs, rfl, ht, da⟩ := dp_tup dp
        obtain ⟨x0, r0, rfl, d0, e0⟩ := dpAll_cons da
        obtain ⟨x1, r1, rfl, d1, e1⟩ := dpAll_cons e0
        obtain ⟨x2, r2, rfl, d2, e2⟩ := dpAll_cons e1
        cases dp_str d0
        have hd : max a.dep b.dep + 1 < n + 1 := hn
        have hda : a.dep < n := by
          have := Nat.le_max_left a.dep b.dep
          omega
        have hdb : b.dep < n := by
          have := Nat.le_max_right a.dep b.dep
          omega
        refine ⟨_, rfl, t, _, 0, _, rfl, rfl, ht, atI_nat (j := 0) rfl, rfl, _, rfl, nv w1 ?_⟩
        refine ⟨_, rfl, t, _, 0, _, rfl, rfl, ht, atI_nat (j := 0) rfl, rfl, _, rfl, nv w2 ?_⟩
        refine ⟨_, rfl, t, _, 0, _, rfl, rfl, ht, atI_nat (j := 0) rfl, rfl, _, rfl, nv w3 ?_⟩
        refine ⟨_, rfl, t, _, 0, _, rfl, rfl, ht, atI_nat (j := 0) rfl, rfl, _, rfl, nv w4 ?_⟩
        refine ⟨_, rfl, B.p, dx, _, rfl, ep, roomF_no (by decide +kernel) (by decide +kernel), _, rfl, t, _, 1, _, rfl, rfl, ht, atI_nat (j := 1) rfl, B, rs, x1, a, kn, rw', lm, rfl, hda, wf.2.1, ro, kn32, rw32, d1, fun u hu H1 s1 => ?_, fun f hf => qf f (by unfold wx; rw [hf])⟩
        have ro1 := ro.sm s1
        have ht1 := sqT_sm s1 ht
        refine ⟨_, rfl, t, _, 0, _, rfl, rfl, ht1, atI_nat (j := 0) rfl, _, rfl, _, rfl, B.p, dx, _, rfl, s1 _ _ ep, roomF_no (by decide +kernel) (by decide +kernel), _, rfl, t, _, 2, _, rfl, rfl, ht1, atI_nat (j := 2) rfl, B, rs, x2, b, kn, rw', lm, rfl, hdb, wf.2.2, ro1, kn32, rw32, dp_sm s1 d2, fun v hv H2 s2 => ?_, fun f hf => (qf f (by unfold wx; rw [hu]; dsimp only; rw [hf])).sm s1⟩
        have s12 := s1.trans s2
        refine ⟨wd, u, v, vOf (rck wd u v), rfl, wx_32 kn32 rw32 wf.2.1 hu, wx_32 kn32 rw32 wf.2.2 hv, due_rck wf.1, fun H3 s3 => ?_⟩
        have s13 := s12.trans s3
        cases hc : rck wd u v with
        | none =>
          refine ⟨_, rfl, rfl, _, rfl, ifT rfl ?_⟩
          exact flt_mk ((qf "division" (by unfold wx; rw [hu]; dsimp only; rw [hv]; dsimp only; rw [hc])).sm s13)
        | some z =>
          refine ⟨_, rfl, rfl, _, rfl, ifF rfl ?_⟩
          exact ⟨_, rfl, q _ (by unfold wx; rw [hu]; dsimp only; rw [hv]; dsimp only; rw [hc]) _ s13⟩
end

section
variable {P : Program} {w : World} {K : PySem.W.Frag} {mg : Str → Option Value} {base : Heap}
def playF (h : Addr) (lf : Int) (t : Addr) : List (Str × V) := [("helpers", .ref h), ("left", .int lf), ("told", .ref t)]
theorem playF_left (h t : Addr) (lf : Int) : (playF h lf t).lookup ("left" : Str) = some (.int lf) := by
  unfold playF
  rw [List.lookup_cons, show (("left" : Str) == "helpers") = false by decide +kernel, List.lookup_cons, show (("left" : Str) == "left") = true by decide +kernel]
theorem playF_told (h t : Addr) (lf : Int) : (playF h lf t).lookup ("told" : Str) = some (.ref t) := by
  unfold playF
  rw [List.lookup_cons, show (("told" : Str) == "helpers") = false by decide +kernel, List.lookup_cons, show (("told" : Str) == "left") = false by decide +kernel, List.lookup_cons, show (("told" : Str) == "told") = true by decide +kernel]
theorem playF_helpers (h t : Addr) (lf : Int) : (playF h lf t).lookup ("helpers" : Str) = some (.ref h) := by
  unfold playF
  rw [List.lookup_cons, show (("helpers" : Str) == "helpers") = true by decide +kernel]
theorem playF_no {h t : Addr} {lf : Int} {m : Str} (h1 : (m == ("helpers" : Str)) = false) (h2 : (m == ("left" : Str)) = false) (h3 : (m == ("told" : Str)) = false) : (playF h lf t).lookup m = none := by
  unfold playF
  rw [List.lookup_cons, h1, List.lookup_cons, h2, List.lookup_cons, h3]
  rfl
theorem playF_put (h t : Addr) (lf l2 : Int) : putF "left" (.int l2) (playF h lf t) = playF h l2 t := by
  unfold playF
  show (if ("helpers" : Str) = "left" then _ else (("helpers" : Str), V.ref h) :: (if ("left" : Str) = "left" then (("left" : Str), V.int l2) :: [(("told" : Str), V.ref t)] else _)) = _
  rw [if_neg (by decide +kernel), if_pos rfl]
/-- what may be changed -/
def SA (rs : List Str) (A : Adr) (a : Addr) : Prop := a = A.d ∨ a = A.q ∨ a = A.t ∨ ∃ x ∈ rs, a = A.ra x
def helpD (pb : List Str × List Sm) : PyData := .tuple [.tuple (pb.1.map PyData.str), .tuple (Sm.ds pb.2)]
theorem strs_nl : ∀ l : List Str, nLs (l.map PyData.str) = true
  | [] => by simp [nLs]
  | a :: r => by rw [List.map_cons, nLs, strs_nl r]; simp [nLd]
theorem helpD_nl (pb : List Str × List Sm) : nLd (helpD pb) = true := by simp [helpD, nLd, nLs, strs_nl, Sm.noLs]
/-- the helpers, by their names -/
def HelpAt (K : PySem.W.Frag) (H : Hp) (h : Addr) (hs : Hs) : Prop := ∃ hvs : List (Key × V), H h = some (.dK hvs) ∧ ∀ x pb, hs x = some pb → ∃ u, valV hvs (.inr x) = some u ∧ Dp K H u (helpD pb)
theorem HelpAt.sm {H H' : Hp} {h : Addr} {hs : Hs} (k : HelpAt K H h hs) (s : Same H H') : HelpAt K H' h hs := by
  obtain ⟨hvs, e, f⟩ := k
  exact ⟨hvs, s _ _ e, fun x pb hx => by obtain ⟨u, a, b⟩ := f x pb hx; exact ⟨u, a, dp_sm s b⟩⟩
theorem HelpAt.kp {S : Addr → Prop} {H H' : Hp} {h : Addr} {hs : Hs} (k : HelpAt K H h hs) (s : Kp S H H') (ns : ¬ S h) : HelpAt K H' h hs := by
  obtain ⟨hvs, e, f⟩ := k
  exact ⟨hvs, s _ _ e (fun z => absurd z ns), fun x pb hx => by obtain ⟨u, a, b⟩ := f x pb hx; exact ⟨u, a, dp_kp s _ _ (helpD_nl pb) b⟩⟩
structure Std (K : PySem.W.Frag) (hs : Hs) (rs : List Str) (A : Adr) (h : Addr) (M N : Nat) (H : Hp) (s : PSt) : Prop where
  ro : RoomAt K H A rs s.kn s.rw (N - s.lf)
  ob : ∃ qx, H A.q = some (.ins (He.ga K "Play") qx (playF h (s.lf : Int) A.t))
  tl : H A.t = some (.lst (s.td.map V.int))
  hk : HelpAt K H h hs
  k32 : Kn32 s.kn
  r32 : Rw32 s.rw
  sz : s.td.length + s.lf ≤ M
  nz : s.lf ≤ N
  m6 : M ≤ 6000
  n6 : N ≤ 7000
  pq : A.p ≠ A.q
  rd : A.r ≠ A.d
  hd : h ≠ A.d
  rt : ∀ x ∈ rs, A.ra x ≠ A.t
  ri : ∀ x ∈ rs, ∀ y ∈ rs, A.ra x = A.ra y → x = y
theorem Std.sm {hs : Hs} {rs : List Str} {A : Adr} {h : Addr} {M N : Nat} {H H' : Hp} {s : PSt} (k : Std K hs rs A h M N H s) (e : Same H H') : Std K hs rs A h M N H' s := by
  obtain ⟨qx, e0⟩ := k.ob
  exact ⟨k.ro.sm e, ⟨qx, e _ _ e0⟩, e _ _ k.tl, k.hk.sm e, k.k32, k.r32, k.sz, k.nz, k.m6, k.n6, k.pq, k.rd, k.hd, k.rt, k.ri⟩
theorem Std.mono {hs : Hs} {rs : List Str} {A : Adr} {h : Addr} {M N M' N' : Nat} {H : Hp} {s : PSt} (k : Std K hs rs A h M N H s) (l : M ≤ M') (l6 : M' ≤ 6000) (ln : N ≤ N') (n6 : N' ≤ 7000) : Std K hs rs A h M' N' H s := by
  obtain ⟨h1, ⟨kvs, h2, h3, h4⟩, h5, h6⟩ := k.ro
  exact ⟨⟨h1, ⟨kvs, h2, by omega, h4⟩, h5, h6⟩, k.ob, k.tl, k.hk, k.k32, k.r32, by have := k.sz; omega, by have := k.nz; omega, l6, n6, k.pq, k.rd, k.hd, k.rt, k.ri⟩
/-- what stands apart -/
structure Apart (rs : List Str) (A : Adr) (h : Addr) : Prop where
  pd : A.p ≠ A.d
  pt : A.p ≠ A.t
  dq : A.d ≠ A.q
  dt : A.d ≠ A.t
  qt : A.q ≠ A.t
  rq : A.r ≠ A.q
  rt : A.r ≠ A.t
  hq : h ≠ A.q
  ht : h ≠ A.t
  ap : ∀ x ∈ rs, A.ra x ≠ A.p
  ad : ∀ x ∈ rs, A.ra x ≠ A.d
  aq : ∀ x ∈ rs, A.ra x ≠ A.q
  ar : ∀ x ∈ rs, A.ra x ≠ A.r
  ah : ∀ x ∈ rs, A.ra x ≠ h
theorem Std.ap {hs : Hs} {rs : List Str} {A : Adr} {h : Addr} {M N : Nat} {H : Hp} {s : PSt} (k : Std K hs rs A h M N H s) : Apart rs A h := by
  obtain ⟨⟨dx, e1⟩, ⟨kvs, e2, _⟩, ⟨rvs, e5, _⟩, e6⟩ := k.ro
  obtain ⟨qx, e3⟩ := k.ob
  have e4 := k.tl
  obtain ⟨hvs, e7, _⟩ := k.hk
  refine ⟨fun z => ?_, fun z => ?_, fun z => ?_, fun z => ?_, fun z => ?_, fun z => ?_, fun z => ?_, fun z => ?_, fun z => ?_, fun x hx z => ?_, fun x hx z => ?_, fun x hx z => ?_, fun x hx z => ?_, fun x hx z => ?_⟩
  · rw [z, e2] at e1; cases e1
  · rw [z, e4] at e1; cases e1
  · rw [z, e3] at e2; cases e2
  · rw [z, e4] at e2; cases e2
  · rw [z, e4] at e3; cases e3
  · rw [z, e3] at e5; cases e5
  · rw [z, e4] at e5; cases e5
  · rw [z, e3] at e7; cases e7
  · rw [z, e4] at e7; cases e7
  · have := e6 x hx; rw [z, e1] at this; cases this
  · have := e6 x hx; rw [z, e2] at this; cases this
  · have := e6 x hx; rw [z, e3] at this; cases this
  · have := e6 x hx; rw [z, e5] at this; cases this
  · have := e6 x hx; rw [z, e7] at this; cases this
theorem Std.hno {hs : Hs} {rs : List Str} {A : Adr} {h : Addr} {M N : Nat} {H : Hp} {s : PSt} (k : Std K hs rs A h M N H s) : ¬ SA rs A h := fun z => by
  have a := k.ap
  rcases z with z | z | z | ⟨x, hx, z⟩
  · exact k.hd z
  · exact a.hq z
  · exact a.ht z
  · exact a.ah x hx z.symm
theorem Std.turn {hs : Hs} {rs : List Str} {A : Adr} {h : Addr} {M N : Nat} {H : Hp} {s : PSt} {qx : Addr} (k : Std K hs rs A h M N H s) (eq : H A.q = some (.ins (He.ga K "Play") qx (playF h (s.lf : Int) A.t))) (l0 : s.lf ≠ 0) :
    Std K hs rs A h (M - 1) (N - 1) (upd H A.q (.ins (He.ga K "Play") qx (playF h ((s.lf - 1 : Nat) : Int) A.t))) { s with lf := s.lf - 1 } := by
  have a := k.ap
  obtain ⟨⟨dx, e1⟩, ⟨kvs, e2, l2, hv⟩, ⟨rvs, e5, v5⟩, e6⟩ := k.ro
  have sz := k.sz
  have nz := k.nz
  have m6 := k.m6
  have n6 := k.n6
  refine ⟨⟨⟨dx, by rw [upd_ne k.pq]; exact e1⟩, ⟨kvs, by rw [upd_ne a.dq]; exact e2, ?_, hv⟩, ⟨rvs, by rw [upd_ne a.rq]; exact e5, v5⟩, fun x hx => by rw [upd_ne (a.aq x hx)]; exact e6 x hx⟩, ⟨qx, upd_same⟩, by rw [upd_ne a.qt.symm]; exact k.tl, k.hk.kp (Kp.upd (S := fun z => z = A.q) eq trivial rfl) a.hq, k.k32, k.r32, ?_, ?_, by omega, by omega, k.pq, k.rd, k.hd, k.rt, k.ri⟩
  · show kvs.length ≤ N - 1 - (s.lf - 1)
    omega
  · show s.td.length + (s.lf - 1) ≤ M - 1
    omega
  · show s.lf - 1 ≤ N - 1
    omega
def Post (K : PySem.W.Frag) (hs : Hs) (rs : List Str) (A : Adr) (h : Addr) (M N : Nat) (H : Hp) (s : PSt) (Q : VK) (E : XK) : Rs → Prop
  | .fin => ∀ H', Kp (SA rs A) H H' → Std K hs rs A h M N H' s → Q .non H'
  | .gave v => ∀ H', Kp (SA rs A) H H' → Std K hs rs A h M N H' s → In32 v → Q (.int v) H'
  | .on => ∀ H', Kp (SA rs A) H H' → Std K hs rs A h M N H' s → E (.ref (He.ga K "Unended")) none H'
  | .flt w => ∀ H' d, Kp (SA rs A) H H' → Std K hs rs A h M N H' s → H' d = some (wordF w) → E (.ref (He.ga K "Faulted")) (some d) H'
theorem Post.kp {hs : Hs} {rs : List Str} {A : Adr} {h : Addr} {M N : Nat} {H H1 : Hp} {s : PSt} {Q : VK} {E : XK} {r : Rs} (k : Kp (SA rs A) H H1) (p : Post K hs rs A h M N H s Q E r) : Post K hs rs A h M N H1 s Q E r := by
  cases r with
  | fin => exact fun H' k' st => p H' (k.trans k') st
  | gave v => exact fun H' k' st i => p H' (k.trans k') st i
  | on => exact fun H' k' st => p H' (k.trans k') st
  | flt w => exact fun H' d k' st e => p H' d (k.trans k') st e
theorem Post.mono {hs : Hs} {rs : List Str} {A : Adr} {h : Addr} {M M' N N' : Nat} {H : Hp} {s : PSt} {Q : VK} {E : XK} {r : Rs} (l : M ≤ M') (l6 : M' ≤ 6000) (ln : N ≤ N') (n6 : N' ≤ 7000) (p : Post K hs rs A h M' N' H s Q E r) : Post K hs rs A h M N H s Q E r := by
  cases r with
  | fin => exact fun H' k' st => p H' k' (st.mono l l6 ln n6)
  | gave v => exact fun H' k' st i => p H' k' (st.mono l l6 ln n6) i
  | on => exact fun H' k' st => p H' k' (st.mono l l6 ln n6)
  | flt w => exact fun H' d k' st e => p H' d k' (st.mono l l6 ln n6) e
/-- a fault of an expression -/
theorem Post.flt {hs : Hs} {rs : List Str} {A : Adr} {h : Addr} {M N : Nat} {H : Hp} {s : PSt} {Q : VK} {E : XK} {f : Str} (p : Post K hs rs A h M N H s Q E (.flt f)) (st : Std K hs rs A h M N H s) : FltE K H f E := fun H' d e x => p H' d (Kp.of_same e) (st.sm e) x
def sp_turn (K : PySem.W.Frag) : Sp := fun vs H Q E => ∃ (hs : Hs) (rs : List Str) (A : Adr) (h : Addr) (M N : Nat) (s : PSt), vs = [.ref A.q] ∧ Std K hs rs A h M N H s ∧ (s.lf = 0 → E (.ref (He.ga K "Unended")) none H) ∧ (s.lf ≠ 0 → ∀ H', Kp (SA rs A) H H' → Std K hs rs A h (M - 1) (N - 1) H' { s with lf := s.lf - 1 } → Q .non H')
theorem ok_Play_take_turn (T : Top K mg) : FnOk P w K mg base (L2.CX P w) 1 (He.ma K (He.ga K "Play") "take_turn") T.fd_Play_take_turn ["self"] (sp_turn K) := by
  refine T.F_Play_take_turn.ok sc_Play_take_turn (fun vs H Q E h => ?_) (fun cdv A outer s H vs Q E hr h => ?_)
  · obtain ⟨hs, rs, A, h, M, N, s, rfl, _⟩ := h
    rfl
  · obtain ⟨hs, rs, B, hh, M, N, s, rfl, st, q0, q1⟩ := h
    refine ⟨_, (pss_cons (ps_if (pt_cmpR op_eq (pe_fld (pv 0) rfl) pe_int (nomark _)) (pss_one (ps_raise rfl (takes_of rfl rfl rfl rfl) (pmk_own PySem.F.excBase_ValueError T.x_Unended.1 T.g_Unended T.x_Unended.2.1 (raises_own T.x_Unended.2.2.1 T.x_Unended.2.2.2) rfl))) pss_nil)
        (pss_one (ps_fldaug (pv 0) pe_int in_sub))), ?_⟩
    obtain ⟨qx, eq⟩ := st.ob
    refine ⟨_, rfl, B.q, _, qx, _, _, rfl, eq, T.cl_Play, T.no_Play_left, playF_left _ _ _, rfl, _, rfl, ?_⟩
    by_cases h : s.lf = 0
    · refine ifD (by rw [h]; rfl) ?_
      exact q0 h
    · refine ifN (fun z => h (by have := V.int.inj z; omega)) ?_
      refine ⟨_, rfl, B.q, _, qx, _, _, rfl, eq, T.cl_Play, T.no_Play_left, playF_left _ _ _, _, _, rfl, rfl, _, _, eq, (by show 3 < 1000; decide), ?_⟩
      rw [playF_put]
      have hl : ((s.lf : Nat) : Int) - 1 = ((s.lf - 1 : Nat) : Int) := by omega
      rw [hl]
      exact q1 h _ (Kp.upd eq trivial (.inr (.inl rfl))) (st.turn eq h)
def sp_all (K : PySem.W.Frag) (n : Nat) : Sp := fun vs H Q E => ∃ (hs : Hs) (rs : List Str) (A : Adr) (h : Addr) (M N : Nat) (s s' : PSt) (v : V) (bd : List Sm) (r : Rs) (F : Nat), vs = [.ref A.q, v, .ref A.p] ∧ Std K hs rs A h M N H s ∧ Dp K H v (.tuple (Sm.ds bd)) ∧ (∀ m ∈ bd, m.ok hs n rs) ∧ doAll hs F bd s = some (r, s') ∧ Post K hs rs A h M N H s' Q E r
def sp_one (K : PySem.W.Frag) (n : Nat) : Sp := fun vs H Q E => ∃ (hs : Hs) (rs : List Str) (A : Adr) (h : Addr) (M N : Nat) (s s' : PSt) (v : V) (m : Sm) (r : Rs) (F : Nat), vs = [.ref A.q, v, .ref A.p] ∧ Std K hs rs A h M N H s ∧ Dp K H v m.d ∧ m.ok hs n rs ∧ doOne hs F m s = some (r, s') ∧ M < 6000 ∧ N < 7000 ∧ Post K hs rs A h (M + 1) (N + 1) H s' Q E r
def sp_again (K : PySem.W.Frag) (n : Nat) : Sp := fun vs H Q E => ∃ (hs : Hs) (rs : List Str) (A : Adr) (h : Addr) (M N : Nat) (s s' : PSt) (v : V) (e : Ex) (b : List Sm) (r : Rs) (F : Nat), vs = [.ref A.q, v, .ref A.p] ∧ Std K hs rs A h M N H s ∧ Dp K H v (Sm.loop e b).d ∧ e.ok rs ∧ (∀ m ∈ b, m.ok hs n rs) ∧ again hs F e b s = some (r, s') ∧ Post K hs rs A h M N H s' Q E r
theorem ok_all_of (T : Top K mg) (n k : Nat) (hk : 2 ≤ k) (G_Play_do_one : FnOk P w K mg base (L2.CX P w) k (He.ma K (He.ga K "Play") "do_one") T.fd_Play_do_one ["self", "statement", "room"] (sp_one K n)) :
    FnOk P w K mg base (L2.CX P w) (k + 1) (He.ma K (He.ga K "Play") "do_all") T.fd_Play_do_all ["self", "body", "room"] (sp_all K n) := by
  have G_Play_take_turn := ok_Play_take_turn (P := P) (w := w) (base := base) T
  refine T.F_Play_do_all.ok sc_Play_do_all (fun vs H Q E h => ?_) (fun cdv A outer s H vs Q E hr h => ?_)
  · obtain ⟨hs, rs, A, h, M, N, s, s', v, bd, r, F, rfl, _⟩ := h
    rfl
  · obtain ⟨hs, rs, B, hh, M, N, s, s', v, bd, r, F, rfl, st, dp, ok, hd, po⟩ := h
    refine ⟨_, (pss_cons (ps_for (passes_of rfl) (by rfl) (pi_tup (pv 1)) (pg_name (i := 3) sc_Play_do_all.nd rfl (Or.inl rfl)) (pss_cons (ps_expr (pe_meth0 (pv 0) T.cl_Play T.me_Play_take_turn G_Play_take_turn (hr.mono (by omega)) T.b_Play_take_turn .nil (passes_call (takes_of rfl rfl rfl rfl) (fun _ _ _ _ h => h))))
        (pss_cons (ps_set (i := 4) sc_Play_do_all.nd rfl (Or.inl rfl) (pe_meth (pv 0) T.cl_Play T.me_Play_do_one G_Play_do_one (hr.mono (by omega)) T.b_Play_do_one .nil (passes_call (takes_of rfl rfl rfl rfl) (fun _ _ _ _ h => h)) (pa_cons (pv 3) (pa_cons (pv 2) pa_nil))))
        (pss_one (ps_if (pt_cmpR op_notN (pv 4) pe_non (nomark _)) (pss_one (ps_ret (pv 4))) pss_nil)))))
        (pss_one (ps_ret pe_non))), ?_⟩
    obtain ⟨p0, xs, rfl, hp, da⟩ := dp_tup dp
    have lx := dpAll_len da
    rw [Sm.ds_eq, List.length_map] at lx
    refine ⟨_, rfl, p0, rfl, ⟨_, hp⟩, ?_⟩
    refine for_tup (K := K) (xs := xs) (fun j σ' H' => Kp (SA rs B) H H' ∧ ∃ (F' : Nat) (s1 : PSt) (x3 x4 : Option V), Std K hs rs B hh M N H' s1 ∧ doAll hs F' (bd.drop j) s1 = some (r, s') ∧ σ' = [some (.ref B.q), some (.ref p0), some (.ref B.p), x3, x4]) ?_ ?_ ?_ ?_
    · exact ⟨Kp.refl, F, s, none, none, st, hd, rfl⟩
    · rintro j σ' H' _ ⟨k', _⟩
      exact sqT_kp k' hp
    · rintro j y σ' H1 hy ⟨k1, F', s1, x3, x4, st1, hd1, rfl⟩
      have jl : j < bd.length := by
        have := (List.getElem?_eq_some_iff.mp hy).1
        omega
      obtain ⟨m, hm⟩ : ∃ m, bd[j]? = some m := ⟨bd[j], List.getElem?_eq_getElem jl⟩
      have hdrop : bd.drop j = m :: bd.drop (j + 1) := by
        rw [List.drop_eq_getElem_cons jl]
        rw [List.getElem?_eq_getElem jl] at hm
        cases hm
        rfl
      rw [hdrop] at hd1
      cases F' with
      | zero => simp [doAll] at hd1
      | succ F' =>
        rw [doAll] at hd1
        obtain ⟨qx, eq⟩ := st1.ob
        refine ⟨_, rfl, B.q, qx, _, rfl, eq, playF_no (by decide +kernel) (by decide +kernel) (by decide +kernel), hs, rs, B, hh, M, N, s1, rfl, st1, fun l0 => ?_, fun l0 H2 k2 st2 => ?_⟩
        · rw [if_pos l0] at hd1
          cases hd1
          exact po _ k1 st1
        · rw [if_neg l0] at hd1
          have k12 := k1.trans k2
          obtain ⟨d, hdd, ddd⟩ := dpAll_getV da hy
          rw [Sm.ds_eq, List.getElem?_map, hm] at hdd
          cases hdd
          have dm := dp_kp k12 _ _ (Sm.noL m) ddd
          obtain ⟨qx2, eq2⟩ := st2.ob
          cases ho : doOne hs F' m { s1 with lf := s1.lf - 1 } with
          | none => rw [ho] at hd1; cases hd1
          | some rs' =>
            obtain ⟨r1, s2⟩ := rs'
            rw [ho] at hd1
            have sz := st1.sz
            have nz := st1.nz
            have m1 : M - 1 + 1 = M := by omega
            have n1 : N - 1 + 1 = N := by omega
            have m6 := st1.m6
            have n6 := st1.n6
            refine ⟨_, rfl, B.q, qx2, _, rfl, eq2, playF_no (by decide +kernel) (by decide +kernel) (by decide +kernel), _, rfl, _, rfl, hs, rs, B, hh, M - 1, N - 1, _, s2, y, m, r1, F', rfl, st2, dm, ok m (List.mem_of_getElem? hm), ho, by omega, by omega, ?_⟩
            rw [m1, n1]
            cases r1 with
            | fin =>
              intro H3 k3 st3
              refine ⟨_, rfl, rfl, _, rfl, ?_⟩
              exact ⟨k12.trans k3, F', s2, _, _, st3, hd1, rfl⟩
            | gave v =>
              intro H3 k3 st3 i3
              cases hd1
              refine ⟨_, rfl, rfl, _, rfl, ?_⟩
              exact ⟨_, rfl, po _ (k12.trans k3) st3 i3⟩
            | on =>
              intro H3 k3 st3
              cases hd1
              exact po _ (k12.trans k3) st3
            | flt w =>
              intro H3 d3 k3 st3 e3
              cases hd1
              exact po _ d3 (k12.trans k3) st3 e3
    · rintro σ' H1 ⟨k1, F', s1, x3, x4, st1, hd1, rfl⟩
      rw [lx, List.drop_length] at hd1
      cases F' with
      | zero => simp [doAll] at hd1
      | succ F' =>
        rw [doAll] at hd1
        cases hd1
        exact po _ k1 st1
end

theorem while_m {c : TT} {tb : TS} {D : Ends} {σ : L2.St} {H : Hp} (Pv : Nat → L2.St → Hp → Prop) (h0 : ∃ m, Pv m σ H)
    (hs : ∀ m σ H, Pv m σ H → c σ H fun b H1 => if b = true then tb { D with nx := fun σ' H' => ∃ m', m' < m ∧ Pv m' σ' H', ct := fun σ' H' => ∃ m', m' < m ∧ Pv m' σ' H', bk := D.nx } σ H1 else D.nx σ H1)
    (mono : ∀ σ H Q Q', (∀ b H1, Q b H1 → Q' b H1) → c σ H Q → c σ H Q') : tWhile c tb D σ H := by
  refine ⟨Pv, h0, ?_⟩
  intro m σ H p
  refine mono σ H _ _ (fun b H1 q => ?_) (hs m σ H p)
  cases b with
  | true => exact ⟨_, fun σ' H' h => h, q⟩
  | false => exact q

section
variable {P : Program} {w : World} {K : PySem.W.Frag} {mg : Str → Option Value} {base : Heap}
theorem ok_again_of (T : Top K mg) (n k : Nat) (hk : 15 ≤ k) (G_Play_do_all : FnOk P w K mg base (L2.CX P w) k (He.ma K (He.ga K "Play") "do_all") T.fd_Play_do_all ["self", "body", "room"] (sp_all K n)) :
    FnOk P w K mg base (L2.CX P w) (k + 1) (He.ma K (He.ga K "Play") "again") T.fd_Play_again ["self", "statement", "room"] (sp_again K n) := by
  have G_Play_take_turn := ok_Play_take_turn (P := P) (w := w) (base := base) T
  have G_Room_worth := ok_Room_worth (P := P) (w := w) (base := base) T 10
  refine T.F_Play_again.ok sc_Play_again (fun vs H Q E h => ?_) (fun cdv A outer s H vs Q E hr h => ?_)
  · obtain ⟨hs, rs, A, h, M, N, s, s', v, e, b, r, F, rfl, _⟩ := h
    rfl
  · obtain ⟨hs, rs, B, hh, M, N, s, s', v, e, b, r, F, rfl, st, dp, eo, ok, hd, po⟩ := h
    refine ⟨_, (pss_cons (ps_while (passes_of rfl) (pt_cmpR op_ne (pe_meth (pv 2) T.cl_Room T.me_Room_worth G_Room_worth (hr.mono (by omega)) T.b_Room_worth .nil (passes_call (takes_of rfl rfl rfl rfl) (fun _ _ _ _ h => h)) (pa_cons (pe_ix ix_tup (pv 1) pe_int (fun _ _ => rfl)) pa_nil)) pe_int (nomark _)) (pss_cons (ps_set (i := 3) sc_Play_again.nd rfl (Or.inl rfl) (pe_meth (pv 0) T.cl_Play T.me_Play_do_all G_Play_do_all (hr.mono (by omega)) T.b_Play_do_all .nil (passes_call (takes_of rfl rfl rfl rfl) (fun _ _ _ _ h => h)) (pa_cons (pe_ix ix_tup (pv 1) pe_int (fun _ _ => rfl)) (pa_cons (pv 2) pa_nil))))
        (pss_cons (ps_if (pt_cmpR op_notN (pv 3) pe_non (nomark _)) (pss_one (ps_ret (pv 3))) pss_nil)
        (pss_one (ps_expr (pe_meth0 (pv 0) T.cl_Play T.me_Play_take_turn G_Play_take_turn (hr.mono (by omega)) T.b_Play_take_turn .nil (passes_call (takes_of rfl rfl rfl rfl) (fun _ _ _ _ h => h))))))))
        (pss_one (ps_ret pe_non))), ?_⟩
    obtain ⟨p0, xs, rfl, hp, da⟩ := dp_tup dp
    obtain ⟨x0, r0, rfl, d0, e0⟩ := dpAll_cons da
    obtain ⟨x1, r1, rfl, d1, e1⟩ := dpAll_cons e0
    obtain ⟨x2, r2, rfl, d2, e2⟩ := dpAll_cons e1
    refine while_m (fun m σ' H' => Kp (SA rs B) H H' ∧ ∃ (s1 : PSt) (x3 : Option V), Std K hs rs B hh M N H' s1 ∧ again hs m e b s1 = some (r, s') ∧ σ' = [some (.ref B.q), some (.ref p0), some (.ref B.p), x3]) ?_ ?_ ?_
    · exact ⟨F, Kp.refl, s, none, st, hd, rfl⟩
    · rintro m σ' H1 ⟨k1, s1, x3, st1, hd1, rfl⟩
      cases m with
      | zero => simp [again] at hd1
      | succ m =>
        rw [again] at hd1
        obtain ⟨dx, ep⟩ := st1.ro.ob
        have hp1 := sqT_kp k1 hp
        refine ⟨_, rfl, B.p, dx, _, rfl, ep, roomF_no (by decide +kernel) (by decide +kernel), _, rfl, p0, _, 1, _, rfl, rfl, hp1, atI_nat (j := 1) rfl, B, rs, x1, e, s1.kn, s1.rw, _, rfl, eo.1, eo.2, st1.ro, st1.k32, st1.r32, dp_kp k1 _ _ (Ex.noL e) d1, fun z hw H2 s2 => ?_, fun f hf => ?_⟩
        · rw [hw] at hd1
          dsimp only at hd1
          have k2 := k1.trans (Kp.of_same s2)
          have st2 := st1.sm s2
          refine ⟨rfl, _, rfl, ?_⟩
          by_cases hz : z = 0
          · rw [if_pos hz] at hd1
            cases hd1
            refine ifNF (by rw [hz]) ?_
            exact po _ k2 st2
          · rw [if_neg hz] at hd1
            refine ifNT (fun y => hz (V.int.inj y)) ?_
            cases ha : doAll hs m b s1 with
            | none => rw [ha] at hd1; cases hd1
            | some rs' =>
              obtain ⟨r1, s2'⟩ := rs'
              rw [ha] at hd1
              obtain ⟨qx, eq⟩ := st2.ob
              refine ⟨_, rfl, B.q, qx, _, rfl, eq, playF_no (by decide +kernel) (by decide +kernel) (by decide +kernel), _, rfl, p0, _, 2, _, rfl, rfl, sqT_kp k2 hp, atI_nat (j := 2) rfl, _, rfl, hs, rs, B, hh, M, N, s1, s2', x2, b, r1, m, rfl, st2, dp_kp k2 _ _ (by rw [nLd]; exact Sm.noLs b) d2, ok, ha, ?_⟩
              cases r1 with
              | fin =>
                intro H3 k3 st3
                have k13 := k2.trans k3
                refine ⟨_, rfl, rfl, _, rfl, ?_⟩
                obtain ⟨qx3, eq3⟩ := st3.ob
                dsimp only at hd1
                refine ⟨_, rfl, B.q, qx3, _, rfl, eq3, playF_no (by decide +kernel) (by decide +kernel) (by decide +kernel), hs, rs, B, hh, M, N, s2', rfl, st3, fun l0 => ?_, fun l0 H4 k4 st4 => ?_⟩
                · rw [if_pos l0] at hd1
                  cases hd1
                  exact po _ k13 st3
                · rw [if_neg l0] at hd1
                  exact ⟨m, Nat.lt_succ_self _, k13.trans k4, _, _, st4.mono (by omega) st3.m6 (by omega) st3.n6, hd1, rfl⟩
              | gave v =>
                intro H3 k3 st3 i3
                cases hd1
                refine ⟨_, rfl, rfl, _, rfl, ?_⟩
                exact ⟨_, rfl, po _ (k2.trans k3) st3 i3⟩
              | on =>
                intro H3 k3 st3
                cases hd1
                exact po _ (k2.trans k3) st3
              | flt w =>
                intro H3 d3 k3 st3 e3
                cases hd1
                exact po _ d3 (k2.trans k3) st3 e3
        · rw [hf] at hd1
          cases hd1
          exact (po.kp k1).flt st1
    · intro σ' H' Q1 Q2 h hc
      obtain ⟨v1, a1, a, dx, fs, a2, a3, a4, v2, a5, pp, ys, i, y, a6, a7, a8, a9, A, rs, v, e', kn, rw, lm, b1, b2, b3, b4, b5, b6, b7, f, g⟩ := hc
      exact ⟨v1, a1, a, dx, fs, a2, a3, a4, v2, a5, pp, ys, i, y, a6, a7, a8, a9, A, rs, v, e', kn, rw, lm, b1, b2, b3, b4, b5, b6, b7, fun z hz H2 s2 => by obtain ⟨c1, k, c2, c3⟩ := f z hz H2 s2; exact ⟨c1, k, c2, h _ _ c3⟩, g⟩
end

/-! several except clauses, some of them with a name: own rule -/
namespace TryN
open PySem PySem.Spec PyProof.Rows L2
def endsOff (i : Nat) (D : Ends) : Ends := { nx := fun σ' H' => D.nx (σ'.set i none) H', rt := D.rt, bk := fun σ' H' => D.bk (σ'.set i none) H', ct := fun σ' H' => D.ct (σ'.set i none) H' }
def wNam (K : PySem.W.Frag) (Wout : WX) (D : Ends) : List (Value × Option Nat × (Addr → Value → Option Addr → TS)) → WX
  | [] => Wout
  | (c, none, ts) :: r => fun cls d σ H => ∃ b, PySem.W.exmOne K cls c = some b ∧ (b = true → ∀ a, H a = none → ts a cls d D σ H) ∧ (b = false → wNam K Wout D r cls d σ H)
  | (c, some i, ts) :: r => fun cls d σ H => ∃ b, PySem.W.exmOne K cls c = some b ∧ (b = true → ∀ a, H a = none → ts a cls d (endsOff i D) (σ.set i (some (.ref a))) H) ∧ (b = false → wNam K Wout D r cls d σ H)
inductive HdsN (X : Cx) : List ExceptHandler → List (Value × Option Nat × (Addr → Value → Option Addr → TS)) → Prop
  | nil : HdsN X [] []
  | cons {x : Str} {c : Value} {ts : Addr → Value → Option Addr → TS} {b₀ : Stmt} {suite : List Stmt} {np pos' : Pos} {hds : List ExceptHandler} {l : List (Value × Option Nat × (Addr → Value → Option Addr → TS))} (hc : Names X x c)
      (hsu : ∀ (a : Addr) (oe : Obj) (cls : Value) (d : Option Addr) (pn : List (Addr × Obj)), Zc cls d oe → (∃ vs, oe.data = .fields vs) → PSs (X.suite a ((a, oe) :: pn)) (b₀ :: suite) (ts a cls d)) (r : HdsN X hds l) :
      HdsN X (.ExceptHandler (some (.Name x np)) none (b₀ :: suite) pos' :: hds) ((c, none, ts) :: l)
  | as {x n : Str} {i : Nat} {c : Value} {ts : Addr → Value → Option Addr → TS} {b₀ : Stmt} {suite : List Stmt} {np pos' : Pos} {hds : List ExceptHandler} {l : List (Value × Option Nat × (Addr → Value → Option Addr → TS))} (hc : Names X x c)
      (hi : X.N[i]? = some n) (hln : X.env.kindOf n = some .local)
      (hsu : ∀ (a : Addr) (oe : Obj) (cls : Value) (d : Option Addr) (pn : List (Addr × Obj)), Zc cls d oe → (∃ vs, oe.data = .fields vs) → PSs (X.suite a ((a, oe) :: pn)) (b₀ :: suite) (ts a cls d)) (r : HdsN X hds l) :
      HdsN X (.ExceptHandler (some (.Name x np)) (some n) (b₀ :: suite) pos' :: hds) ((c, some i, ts) :: l)
section
variable {X : Cx} {body : List Stmt} {h₀ : ExceptHandler} {hds : List ExceptHandler} {l : List (Value × Option Nat × (Addr → Value → Option Addr → TS))} {pos : Pos} {tb : WX → TS} {Wout : WX}
theorem ps_try_nam (hs : X.stack = X.env :: X.outer) (hf : X.env.frame = some X.env.locals) (hN : X.N.Nodup) (tk : Takes X Wout)
    (hb : ∀ (W : WX) (pn : List (Addr × Obj)) (xe : Value → Shared → Prop), Takes (X.tr pn xe) W → PassesOwn (model X.prog X.w) X.A X.env xe → PSs (X.tr pn xe) body (tb W))
    (hh : HdsN X (h₀ :: hds) l) : PS X (.Try body (h₀ :: hds) [] [] pos) (fun D σ H => tb (wNam X.K Wout D l) D σ H) := by
  refine ⟨fun pins s σ H D I h => ?_⟩
  have ok := I.ok
  have hfr : X.A.frames = some (X.env :: X.outer) := by rw [ok.frames, hs]
  refine wpAny_Try_except ?_
  refine wpAny_mono ((hb (wNam X.K Wout D l) (X.pn ++ pins) (fun e s₁ => wpAny (model X.prog X.w) X.A (noteFrame e X.env) (fun _ s₂ => wpAny (model X.prog X.w) X.A (setFlight e none) (fun _ s₃ =>
    wpAny (model X.prog X.w) X.A (handleBy e X.env (h₀ :: hds)) (SP X pins D) X.xe s₃) X.xe s₂) X.xe s₁) (fun u s' xx => ?_) PassesOwn.looking).run [] s σ H D (I.toTry _) h) (fun f s1 hsp => ?_) (fun e s1 he => he)
  · obtain ⟨a, B, sI, pins', σ', H', cls, d, rfl, J', nb, up, sky, na, os, ag, w⟩ := xx
    have J : Inv X pins σ' H' sI := J'.ofTry ok
    have sky' : Sky B (X.env :: X.outer) a (Zc cls d) X.env.locals s'.heap := by rw [← hs]; exact sky
    show wpAny (model X.prog X.w) X.A (noteFrame (.ref a) X.env) _ _ _
    refine Sky.land Zc.steady hfr hf sky' fun h3 fl3 up3 => ?_
    have J3 : Inv X pins σ' H' { s' with heap := h3 } := J.landed nb fl3.1 (up.trans up3) os ag
    obtain ⟨oe3, vs3, he3, hz3, hd3⟩ := fl3.there
    have nfr : a ∉ frs (X.env :: X.outer) := fun hm => by
      obtain ⟨_, o', e', hnf⟩ := fl3.2.2.1.mem hm
      rw [he3] at e'
      cases e'
      exact hnf _ hd3
    have nL : a ≠ X.env.locals := fun z => nfr (List.mem_filterMap.mpr ⟨X.env, List.mem_cons_self, by rw [hf, z]⟩)
    have nF : a ∉ X.fs := fun hm => by
      obtain ⟨e, he, q⟩ := List.mem_filterMap.mp hm
      exact nfr (List.mem_filterMap.mpr ⟨e, List.mem_cons_of_mem _ he, q⟩)
    have S3 := J3.suite he3 hd3 na nL nF
    have LT : PySem.W.Looks (model X.prog X.w) h3 (typeOf (.ref a)) cls := fun A Q E s k q => wpAny_typeOf_ref (k _ _ he3) (by rw [hz3.1]; exact q)
    have test : ∀ {x : Str} {np : Pos} {c : Value} {Q : Value → Shared → Prop} {E : Value → Shared → Prop}, Names X x c → Q c { s' with heap := h3 } → wpAny (model X.prog X.w) (X.A.mark (some (.ref a))) (eval (.Name x np) X.env) Q E { s' with heap := h3 } := fun {x np c Q E} hc q => by
      obtain ⟨hg, hdbg, hm | ⟨hm, hv, hnn⟩⟩ := hc
      · exact ld_glob (X := X.suite a ((a, oe3) :: (X.pn ++ pins))) S3 hg hm q hdbg
      · exact ld_blt (X := X.suite a ((a, oe3) :: (X.pn ++ pins))) S3 hg hm hv q hnn hdbg
    have go : ∀ {hds' : List ExceptHandler} {l' : List (Value × Option Nat × (Addr → Value → Option Addr → TS))}, HdsN X hds' l' → wNam X.K Wout D l' cls d σ' H' →
        wpAny (model X.prog X.w) X.A (handleBy (.ref a) X.env hds') (SP X pins D) X.xe { s' with heap := h3 } := by
      intro hds' l' hk
      induction hk with
      | nil =>
        intro w
        refine wpAny_handleBy_nil ?_
        obtain ⟨k1, k2, k3, oe, vs, T, oT, ts', he, hz, hd, h1, hr⟩ := id fl3
        unfold PySem.passOn
        refine wpAny_bind (wpAny_field he hd h1 ?_)
        rw [if_neg (show ¬ ((Value.ref T == Value.none) = true) from by simp)]
        have fin : wpAny (model X.prog X.w) X.A (setFlight (.ref a) X.env.frame) (fun _ s4 => wpAny (model X.prog X.w) X.A (throw (.ref a) : Sem Flow) (SP X pins D) X.xe s4) X.xe { s' with heap := h3 } := by
          rw [hf]
          refine HandSPX.setFlight_upZ fl3 fun h4 hh4 up4 => wpAny_throw (tk _ _ ?_)
          exact ⟨a, B, sI, pins, σ', H', cls, d, rfl, J, nb, (up.trans up3).trans up4, .inr (.inr (by rw [hs]; exact hh4)), na, os, ag, w⟩
        first
          | exact wpAny_bind (wpAny_pure (wpAny_bind fin))
          | exact wpAny_bind fin
      | @cons x c ts b₀ suite np pos' hds2 l2 hc hsu r ih =>
        intro w
        obtain ⟨b, hb1, hyes, hno⟩ := w
        refine wpAny_handleBy_cons (codeAny_handlers_test ?_) (by intro q; cases q)
        refine test hc ((PySem.W.exm_one (M := model X.prog X.w) (J3.kIn) LT hb1).here ?_)
        cases b with
        | true =>
          refine codeAny_handlers_suite ?_
          refine HandSPX.lands_againZ fl3 fun h4 fl4 up4 => ?_
          have J4 : Inv X pins σ' H' { s' with heap := h4 } := J.landed nb fl4.1 ((up.trans up3).trans up4) os ag
          obtain ⟨oe4, vs4, he4, hz4, hd4⟩ := fl4.there
          have S4 := J4.suite he4 hd4 na nL nF
          refine wpAny_mono ((hsu a oe4 cls d (X.pn ++ pins) hz4 ⟨_, hd4⟩).run [] _ _ H' _ S4 (hyes rfl a na)) (fun f s6 hsp => ?_) (fun _ _ z => False.elim z)
          cases f with
          | next => obtain ⟨σ6, H6, S6, q6⟩ := hsp; exact ⟨_, _, S6.unsuite ok, q6⟩
          | brk => obtain ⟨σ6, H6, S6, q6⟩ := hsp; exact ⟨_, _, S6.unsuite ok, q6⟩
          | cont => obtain ⟨σ6, H6, S6, q6⟩ := hsp; exact ⟨_, _, S6.unsuite ok, q6⟩
          | ret u => obtain ⟨v6, σ6, H6, S6, r6, q6⟩ := hsp; exact ⟨_, _, _, S6.unsuite ok, r6, q6⟩
        | false =>
          show wpAny _ X.A (handleBy (.ref a) X.env hds2) _ _ _
          exact ih (hno rfl)
      | @as x n i c ts b₀ suite np pos' hds2 l2 hc hi hln hsu r ih =>
        intro w
        obtain ⟨b, hb1, hyes, hno⟩ := w
        refine wpAny_handleBy_cons (codeAny_handlers_test ?_) (by intro q; cases q)
        refine test hc ((PySem.W.exm_one (M := model X.prog X.w) (J3.kIn) LT hb1).here ?_)
        cases b with
        | true =>
          refine codeAny_handlers_suite_as ?_
          refine HandSPX.lands_againZ fl3 fun h4 fl4 up4 => ?_
          have J4 : Inv X pins σ' H' { s' with heap := h4 } := J.landed nb fl4.1 ((up.trans up3).trans up4) os ag
          obtain ⟨oe4, vs4, he4, hz4, hd4⟩ := fl4.there
          have S4 := J4.suite he4 hd4 na nL nF
          refine store_ok (X := X.suite a ((a, oe4) :: (X.pn ++ pins))) (v := .ref a) S4 hN hi (.inl hln) rfl (fun s5 S5 => ?_) (.inr hln)
          refine wpAny_mono ((hsu a oe4 cls d (X.pn ++ pins) hz4 ⟨_, hd4⟩).run [] s5 _ H' _ S5 (hyes rfl a na)) (fun f s6 hsp => ?_) (fun _ _ z => False.elim z)
          have end_ : ∀ {σ6 : L2.St} {H6 : Hp} {Q : Shared → Prop}, Inv (X.suite a ((a, oe4) :: (X.pn ++ pins))) [] σ6 H6 s6 → (∀ s7, Inv X pins (σ6.set i none) H6 s7 → Q s7) →
              wpAny (model X.prog X.w) X.A (do bindName X.env n .none; unbindBehindTheSuite X.env n pos') (fun _ s7 => Q s7) X.xe s6 := fun {σ6 H6 Q} S6 hq => gone_ok (S6.unsuite ok) hN hi hln hq
          cases f with
          | next => obtain ⟨σ6, H6, S6, q6⟩ := hsp; exact end_ S6 fun s7 J7 => ⟨_, _, J7, q6⟩
          | brk => obtain ⟨σ6, H6, S6, q6⟩ := hsp; exact end_ S6 fun s7 J7 => ⟨_, _, J7, q6⟩
          | cont => obtain ⟨σ6, H6, S6, q6⟩ := hsp; exact end_ S6 fun s7 J7 => ⟨_, _, J7, q6⟩
          | ret u => obtain ⟨v6, σ6, H6, S6, r6, q6⟩ := hsp; exact end_ S6 fun s7 J7 => ⟨_, _, _, J7, r6, q6⟩
        | false =>
          show wpAny _ X.A (handleBy (.ref a) X.env hds2) _ _ _
          exact ih (hno rfl)
    exact go hh w
  · cases f with
    | next => obtain ⟨σ', H', J', q⟩ := hsp; exact wpAny_execs_nil ⟨σ', H', J'.ofTry ok, q⟩
    | brk => obtain ⟨σ', H', J', q⟩ := hsp; exact ⟨σ', H', J'.ofTry ok, q⟩
    | cont => obtain ⟨σ', H', J', q⟩ := hsp; exact ⟨σ', H', J'.ofTry ok, q⟩
    | ret u => obtain ⟨v, σ', H', J', r, q⟩ := hsp; exact ⟨v, σ', H', J'.ofTry ok, r, q⟩
end
section
variable {X : Cx} {CX : CXT} {k : Nat} {f C : Addr} {fd : FuncData} {ps : List Str} {sp : Sp} {dvs : List V} {ds : List Value} {E : L2.St → XK} {m : Str} {p apos pos : Pos} {o e : Expr} {es : List Expr} {ta : TE} {t : TA}
/-- o.m(e, ..), what is raised is wished for at the caller's slots -/
def tMethAt (C : Addr) (m : Str) (sp : Sp) (dvs : List V) (E : L2.St → XK) (ta : TE) (t : TA) : TE := fun σ H Q => tMeth C m sp dvs (E σ) ta t σ H Q
theorem pe_methAt {pl : Sem Bool} (he : PE X o ta) (c : Cls X.K C) (hm : Meth X.K C m f) (F : FnOk X.prog X.w X.K X.mg X.base CX k f fd ps sp) (hr : Room k X.A) (hb : Binds X.K fd ps ds) (hd : Vals dvs ds) (hx : ∀ σ, PassesAt CX X σ (E σ)) (ha : PA X (e :: es) t)
    (hst : starEach (e :: es) X.env = (false, eval e X.env) :: starEach es X.env := by rfl) (hpl : (backTo pos (starEach es X.env)).any (·.1) = false := by rfl)
    (ht : eval (.Call (.Attribute o m apos) (e :: es) [] pos) X.env = (do
      let ov ← eval o X.env
      standAt apos.atName
      let (f, first) ← holding [ov] (getMethod ov m pl)
      callWith pos f first (backTo pos (starEach (e :: es) X.env)) (backToKw pos (keywordEach [] X.env))) := by rfl) :
    PE X (.Call (.Attribute o m apos) (e :: es) [] pos) (tMethAt C m sp dvs E ta t) := by
  refine ⟨fun pins s σ H Q I h => ?_⟩
  refine PySem.W.methodCall_KW (pl := pl) (thn (he.run pins s σ H _ I h) fun u s1 ⟨x, H1, I1, rx, a, dx, fs, ex, ea, l, q⟩ => ?_) ht
  subst ex
  obtain rfl : u = Value.ref a := rx
  refine getmeth_ok I1 ea c hm l ?_
  refine PySem.W.callWith_K (first := [.ref a]) (h₀ := X.base) I.ok.mod.kin hm.kp (thn (ha.run pos pins s1 σ H1 _ I1 q) fun us s2 ⟨vs, H2, I2, r, q2⟩ => ⟨I2.kIn, ?_⟩) hst hpl
  exact run_fnSD (us := .ref a :: us) (vs := .ref a :: vs) F hr hb hd (hx σ) I2 (.cons rfl r) q2
end
end TryN

/-! zip(t, l), t a tuple, l a list: own rule -/
namespace ZipM
open PySem PySem.Spec PyProof.Rows L2
def ItzM (K : PySem.W.Frag) (a b : Addr) : It :=
  ⟨fun i H => ∃ (xs ys : List V) (x y : V), SqT K H a xs ∧ SqL K H b ys ∧ xs[i]? = some x ∧ ys[i]? = some y,
    fun i H v H' => ∃ T x y, v = .ref T ∧ H T = none ∧ H' = upd H T (.tup [x, y]) ∧ (∀ xs, SqT K H a xs → xs[i]? = some x) ∧ ∀ ys, SqL K H b ys → ys[i]? = some y,
    fun i H => ∃ xs ys : List V, SqT K H a xs ∧ SqL K H b ys ∧ xs.length = i ∧ ys.length = i⟩
theorem sep_of {z TI TO i1 i2 a b : Addr} (D : ZipApart z TI TO i1 i2 a b) : ZipSep2 z TI TO i1 i2 [i1, a] [i2, b] where
  TIz := D.TIz
  TOz := D.TOz
  TITO := D.TITO
  TIi1 := D.TIi1
  mem1 := by simp
  zf1 := by
    intro h
    have h' : z = i1 ∨ z = a := by simpa using h
    rcases h' with e | e
    · exact D.i1z e.symm
    · exact D.l1z e.symm
  Tf1 := by
    intro h
    have h' : TO = i1 ∨ TO = a := by simpa using h
    rcases h' with e | e
    · exact D.TOi1 e
    · exact D.l1TO e.symm
  TIi2 := D.TIi2
  mem2 := by simp
  zf2 := by
    intro h
    have h' : z = i2 ∨ z = b := by simpa using h
    rcases h' with e | e
    · exact D.i2z e.symm
    · exact D.l2z e.symm
  Tf2 := by
    intro h
    have h' : TO = i2 ∨ TO = b := by simpa using h
    rcases h' with e | e
    · exact D.TOi2 e
    · exact D.l2TO e.symm
  sep1_2 := by
    intro h
    have h' : i1 = i2 ∨ i1 = b := by simpa using h
    rcases h' with e | e
    · exact D.i12 e
    · exact D.l2i1 e.symm
  sep2_1 := by
    intro h
    have h' : i2 = i1 ∨ i2 = a := by simpa using h
    rcases h' with e | e
    · exact D.i12 e.symm
    · exact D.l1i2 e.symm
theorem turn {P : Program} {w : World} {K : PySem.W.Frag} {elts : List Expr} {kk : Nat} {tpos : Pos} {a b z TI TO i1 i2 : Addr} (D : ZipApart z TI TO i1 i2 a b) (n1 : a ≠ i1) (n2 : b ≠ i2) :
    Turn P w K (.Tuple elts kk tpos) (ItzM K a b) [z, TI, TO, i1, i2] z (fun i h => IsZip h z TI TO .none ∧ IsPair h TI (.ref i1) (.ref i2) ∧ (∃ x y, IsPair h TO x y) ∧ h.IsTupleIter i1 a i ∧ h.IsListIter i2 b i) where
  mem := by simp
  obj := fun i h st c hc => by
    obtain ⟨hz, hTI, ⟨x, y, hTO⟩, ⟨o1, e1, _, d1⟩, ⟨o2, e2, _, d2⟩⟩ := st
    have e' : c = z ∨ c = TI ∨ c = TO ∨ c = i1 ∨ c = i2 := by simpa using hc
    rcases e' with q | q | q | q | q
    · rw [q]; exact ⟨_, hz, fun v q => nomatch q⟩
    · rw [q]; exact ⟨_, hTI, fun v q => nomatch q⟩
    · rw [q]; exact ⟨_, hTO, fun v q => nomatch q⟩
    · rw [q]; exact ⟨o1, e1, fun v q => by rw [d1] at q; cases q⟩
    · rw [q]; exact ⟨o2, e2, fun v q => by rw [d2] at q; cases q⟩
  keep := fun i h h' st k => by
    obtain ⟨hz, hTI, ⟨x, y, hTO⟩, h1, h2⟩ := st
    exact ⟨k z (by simp) _ hz, k TI (by simp) _ hTI, ⟨x, y, k TO (by simp) _ hTO⟩, h1.at fun o q => k i1 (by simp) o q, h2.at fun o q => k i2 (by simp) o q⟩
  item := by
    intro X hP hw hK hc i pins s σ H E I hf st hg
    subst hP hw hK
    obtain ⟨hz, hTI, ⟨x0, y0, hTO⟩, h1, h2⟩ := st
    obtain ⟨xs, ys, x, y, hqx, hqy, hx, hy⟩ := hg
    obtain ⟨its, rv, p, _⟩ := I.tuple hqx
    obtain ⟨its2, rv2, p2, _⟩ := I.list hqy
    obtain ⟨u, hu, ru⟩ := rv.get hx
    obtain ⟨u2, hu2, ru2⟩ := rv2.get hy
    have hh := I.ok.hd hc
    have hzl : z < s.heap.objs.size := Heap.lt_size hz
    have lt1 : i < its.toArray.size := by
      have := (List.getElem?_eq_some_iff.mp hu).1
      simpa using this
    have lt2 : i < its2.toArray.size := by
      have := (List.getElem?_eq_some_iff.mp hu2).1
      simpa using this
    refine wpAny_pyNext_zipD2_item (sep_of D) (Draws.tuple (A := X.A.in1) hh i1 a n1 its.toArray) (Draws.list (A := X.A.in1) hh i2 b n2 its2.toArray) hz hTI hTO ⟨h1, p⟩ ⟨h2, p2.isList⟩ lt1 lt2 fun x1 x2 h' tk y1 y2 z' TO' d1 d2 hT hsz hk => ?_
    have eu : x1 = u := by
      have q : its.toArray[i]? = some u := by simpa using hu
      rw [q] at y1
      exact (Option.some.inj y1).symm
    have eu2 : x2 = u2 := by
      have q : its2.toArray[i]? = some u2 := by simpa using hu2
      rw [q] at y2
      exact (Option.some.inj y2).symm
    subst eu eu2
    refine ⟨_, rfl, wpAny_letOwnedTupleGo_zip (s := { s with heap := h', toks := tk }) z' fun h'' z'' sb => ?_⟩
    have hT2 : h''.get? s.heap.objs.size = some { cls := .type "tuple", data := .seq #[x1, x2] } := (sb.2 _ (Nat.ne_of_gt hzl)).trans hT
    have new : ObjOk X.prog X.w (upd H s.heap.objs.size (.tup [x, y])) h'' s.heap.objs.size (.tup [x, y]) :=
      ⟨by show 2 ≤ sizeLine; decide, [x1, x2], .cons ru (.cons ru2 .nil), ⟨_, hT2, rfl, _, rfl⟩⟩
    have I1 : Inv X pins σ (upd H s.heap.objs.size (.tup [x, y])) { s with heap := h'', toks := tk } :=
      I.turnedNew (t' := tk) (ch := [z, TI, TO, i1, i2]) (fun c o hb q => (sb.2 c (fun q' => hb (by simp [q']))).trans (hk c o (fun q' => hb (by simp [q'])) (fun q' => hb (by simp [q'])) (fun q' => hb (by simp [q'])) (fun q' => hb (by simp [q'])) q)) hf (Nat.le_refl _) new
    refine ⟨.ref s.heap.objs.size, _, I1, rfl, ⟨_, x, y, rfl, I.hok.fresh (Nat.le_refl _), rfl, fun l hl => by rw [I.tuple_inj hl hqx]; exact hx, fun l hl => by rw [I.list_inj hl hqy]; exact hy⟩, ⟨z'', ?_, ⟨x1, x2, ?_⟩, ?_, ?_⟩, fun c hcm => ?_⟩
    · exact (sb.2 _ D.TIz).trans (hk _ _ D.TIz D.TITO D.TIi1 D.TIi2 hTI)
    · exact (sb.2 _ D.TOz).trans TO'
    · exact d1.1.at fun o q => (sb.2 _ D.i1z).trans q
    · exact d2.1.at fun o q => (sb.2 _ D.i2z).trans q
    · have hlt : c < s.heap.objs.size := by
        have e' : c = z ∨ c = TI ∨ c = TO ∨ c = i1 ∨ c = i2 := by simpa using hcm
        rcases e' with q | q | q | q | q
        · rw [q]; exact hzl
        · rw [q]; exact Heap.lt_size hTI
        · rw [q]; exact Heap.lt_size hTO
        · rw [q]; obtain ⟨_, e1, _⟩ := h1; exact Heap.lt_size e1
        · rw [q]; obtain ⟨_, e2, _⟩ := h2; exact Heap.lt_size e2
      rw [upd_ne (Nat.ne_of_lt hlt)]
      exact (hf c hcm).1
  done := by
    intro X hP hw hK hc i pins s σ H E I hf st hg
    subst hP hw hK
    obtain ⟨hz, hTI, ⟨x0, y0, hTO⟩, h1, h2⟩ := st
    obtain ⟨xs, ys, hqx, hqy, l1, l2⟩ := hg
    obtain ⟨its, rv, p, _⟩ := I.tuple hqx
    obtain ⟨its2, rv2, p2, _⟩ := I.list hqy
    have hh := I.ok.hd hc
    have e1 : i = its.toArray.size := by
      have := rv.length
      rw [List.size_toArray]
      omega
    have e2 : i = its2.toArray.size := by
      have := rv2.length
      rw [List.size_toArray]
      omega
    exact wpAny_pyNext_zipD2_end (sep_of D) (Draws.tuple (A := X.A.in1) hh i1 a n1 its.toArray) (Draws.list (A := X.A.in1) hh i2 b n2 its2.toArray) hz hTI hTO ⟨h1, p⟩ ⟨h2, p2.isList⟩ (Nat.le_of_eq e1) (Nat.le_of_eq e2) (.inl e1) fun h' tk hk => ⟨rfl, I.turnedL (t' := tk) (ch := [z, TI, TO, i1, i2]) (fun c o hb q =>
      hk c o (fun q' => hb (by simp [q'])) (fun q' => hb (by simp [q'])) (fun q' => hb (by simp [q'])) (fun q' => hb (by simp [q'])) q) hf⟩
  self := fun A i s Q E st h => wpAny_pyIter_zip st.1 h
def iZipM (K : PySem.W.Frag) (ta : TA) : TI := fun σ H R => ta σ H fun vs H1 => ∃ a b xs ys, vs = [.ref a, .ref b] ∧ ((SqT K H1 a xs ∧ SqL K H1 b ys ∧ R (ItzM K a b) H1) ∨ (SqT K H1 a xs ∧ SqT K H1 b ys ∧ R (RZ.ItzT K a b) H1))
theorem pi_zipM {X : Cx} {e e2 : Expr} {ta : TA} {p pos tpos : Pos} {elts : List Expr} {kk : Nat} (hg : Gl X "zip") (hm : X.mg "zip" = none) (ha : PA X [e, e2] ta)
    (hs : starEach [e, e2] X.env = (false, eval e X.env) :: starEach [e2] X.env := by rfl) (hpl : (backTo pos (starEach [e2] X.env)).any (·.1) = false := by rfl) :
    PI X (.Tuple elts kk tpos) (.Call (.Name "zip" p) [e, e2] [] pos) (iZipM X.K ta) := by
  refine ⟨fun pins s σ H R I h => ?_⟩
  refine Call_ (ld_blt I hg hm PyProof.Rows.boot_zip (PyProof.Rows.callWith_type1 (thn (ha.run pos pins s σ H _ I h) fun us s1 ⟨vs, H1, I1, r1, q1⟩ => ?_) hs hpl))
  obtain ⟨a, b, xs, ys, ex, q1⟩ := q1
  subst ex
  cases r1 with
  | cons r rr =>
    cases rr with
    | cons r' rr =>
      cases rr
      cases r
      cases r'
      have fresh5 : ∀ c, c ∈ [s1.heap.objs.size + 4, s1.heap.objs.size + 2, s1.heap.objs.size + 3, s1.heap.objs.size, s1.heap.objs.size + 1] → FpOk X pins H1 c := fun c hcm => by
        have e' : c = s1.heap.objs.size + 4 ∨ c = s1.heap.objs.size + 2 ∨ c = s1.heap.objs.size + 3 ∨ c = s1.heap.objs.size ∨ c = s1.heap.objs.size + 1 := by simpa using hcm
        have hle : s1.heap.objs.size ≤ c := by
          rcases e' with z | z | z | z | z
          · rw [z]; exact Nat.le_add_right _ _
          · rw [z]; exact Nat.le_add_right _ _
          · rw [z]; exact Nat.le_add_right _ _
          · rw [z]; exact Nat.le_refl _
          · rw [z]; exact Nat.le_add_right _ _
        exact I1.fpOk hle (I1.hok.fresh hle)
      rcases q1 with ⟨hqx, hqy, q⟩ | ⟨hqx, hqy, q⟩
      · obtain ⟨its, rv, p1, _⟩ := I1.tuple hqx
        obtain ⟨its2, rv2, p2, _⟩ := I1.list hqy
        obtain ⟨o1, ho1, _⟩ := id p1
        have lt1 := Heap.lt_size ho1
        have lt2 := p2.lt
        refine zip_begins2 (begins_tuple a its.toArray) (begins_list b its2.toArray) p1 p2.isList fun h' hz hTI hTO h1 h2 hsz hk => wpAny_pyIter_zip hz ?_
        have I2 : Inv X pins σ H1 { s1 with heap := h' } := I1.kept (t' := s1.toks) hk
        exact ⟨s1.heap.objs.size + 4, [s1.heap.objs.size + 4, s1.heap.objs.size + 2, s1.heap.objs.size + 3, s1.heap.objs.size, s1.heap.objs.size + 1], _, _, H1, rfl, I2, turn (PySem.W.ktu_apart s1.heap.objs.size a b lt1 lt2) (Nat.ne_of_lt lt1) (Nat.ne_of_lt (Nat.lt_succ_of_lt lt2)), ⟨hz, hTI, ⟨_, _, hTO⟩, ⟨_, h1, rfl, rfl⟩, ⟨_, h2, rfl, rfl⟩⟩, fresh5, q⟩
      · obtain ⟨its, rv, p1, _⟩ := I1.tuple hqx
        obtain ⟨its2, rv2, p2, _⟩ := I1.tuple hqy
        obtain ⟨o1, ho1, _⟩ := id p1
        obtain ⟨o2, ho2, _⟩ := id p2
        refine RZ.call_zipT (show s1.heap.IsTuple a its.toArray from p1) (show s1.heap.IsTuple b its2.toArray from p2) fun h' hz hTI hTO h1 h2 hsz hk => wpAny_pyIter_zip hz ?_
        have I2 : Inv X pins σ H1 { s1 with heap := h' } := I1.kept (t' := s1.toks) hk
        exact ⟨s1.heap.objs.size + 4, [s1.heap.objs.size + 4, s1.heap.objs.size + 2, s1.heap.objs.size + 3, s1.heap.objs.size, s1.heap.objs.size + 1], _, _, H1, rfl, I2, RZ.turn_zipT (PySem.W.ktu_apart s1.heap.objs.size a b (Heap.lt_size ho1) (Heap.lt_size ho2)), ⟨hz, hTI, ⟨_, _, hTO⟩, h1, h2⟩, fresh5, q⟩
theorem for_zipM {K : PySem.W.Frag} {a b : Addr} {xs ys : List V} {g : TG} {tb : TS} {D : Ends} {σ : L2.St} {H : Hp} (hl : xs.length = ys.length) (Pv : Nat → L2.St → Hp → Prop) (h0 : Pv 0 σ H) (hq : ∀ i σ H, Pv i σ H → SqT K H a xs ∧ SqL K H b ys)
    (hs : ∀ (i : Nat) (x y : V) (T : Addr) (σ : L2.St) (H : Hp), xs[i]? = some x → ys[i]? = some y → Pv i σ H → H T = none → g (.ref T) σ (upd H T (.tup [x, y])) fun σ2 H2 => tb { D with nx := Pv (i + 1), ct := Pv (i + 1), bk := D.nx } σ2 H2) (hd : ∀ σ H, Pv xs.length σ H → D.nx σ H) :
    ∃ W : Nat → Nat → L2.St → Hp → Prop, (∃ m, W 0 m σ H) ∧ ∀ i m σ H, W i m σ H →
      ((ItzM K a b).stop i H ∧ D.nx σ H) ∨ ((ItzM K a b).go i H ∧ ∃ N : L2.St → Hp → Prop, (∀ σ' H', N σ' H' → ∃ m', m' < m ∧ W (i + 1) m' σ' H') ∧ ∀ v H', (ItzM K a b).yld i H v H' → g v σ H' fun σ2 H2 => tb { D with nx := N, ct := N, bk := D.nx } σ2 H2) := by
  refine ⟨fun i m σ H => m = xs.length - i ∧ i ≤ xs.length ∧ Pv i σ H, ⟨xs.length, rfl, Nat.zero_le _, h0⟩, ?_⟩
  rintro i m σ H ⟨rfl, hi, p⟩
  obtain ⟨qx, qy⟩ := hq i σ H p
  by_cases hlt : i < xs.length
  · have hx : xs[i]? = some xs[i] := List.getElem?_eq_getElem hlt
    have hlt2 : i < ys.length := by omega
    have hy : ys[i]? = some ys[i] := List.getElem?_eq_getElem hlt2
    refine .inr ⟨⟨xs, ys, _, _, qx, qy, hx, hy⟩, Pv (i + 1), fun σ' H' p' => ⟨xs.length - (i + 1), by omega, rfl, hlt, p'⟩, fun v H' y => ?_⟩
    obtain ⟨T, x', y', rfl, hT, rfl, f1, f2⟩ := y
    exact hs i x' y' T σ H (f1 xs qx) (f2 ys qy) p hT
  · have e : i = xs.length := by omega
    subst e
    exact .inl ⟨⟨xs, ys, qx, qy, rfl, hl.symm⟩, hd σ H p⟩
end ZipM

/-! a list comprehension whose element may raise: own rule (after lc_core, with the error's way kept) -/
namespace LcX
open PySem PySem.Spec PyProof.Rows L2
def postX (M : Model) (A : Around) (E : Value → Shared → Prop) (use : Option (Value → Sem Unit)) (Q : Value → Shared → Prop) (acc : Value) (ce : Env) (r : Result) (s' : Shared) : Prop :=
  match r, use with
  | .ok _, none => ∃ m, s'.heap.Ns ce.locals m ∧ ∀ h', Heap.SameBut ce.locals s'.heap h' → Q acc { s' with heap := h' }
  | .ok _, some u => wpAny M A (u acc) (fun _ s'' => ∃ m, s''.heap.Ns ce.locals m ∧ ∀ h', Heap.SameBut ce.locals s''.heap h' → Q .none { s'' with heap := h' }) E s'
  | .error x, _ => ∃ m, s'.heap.Ns ce.locals m ∧ ∀ h', Heap.SameBut ce.locals s'.heap h' → wpAny M A (passOn "comprehension.variables-let-go" x ce : Sem Value) (fun _ _ => False) E { s' with heap := h' }
section
variable {M : Model} {A : Around} {E : Value → Shared → Prop} {s : Shared} {env : Env}
theorem comp_free {e : Expr} {scope : Scope} {pos : Pos} {newAcc first : Sem Value} {g : Comprehension} {gs : List Comprehension} {cl : List (Str × Addr)} {use : Option (Value → Sem Unit)} {Q : Value → Shared → Prop}
    (hcl : clausesOf e = g :: gs) (hs : ∀ x, foldedSetIterable g.iter env x = pure x) (hclos : closureFor scope env = pure cl)
    (hkind : scope.kind = .function) (hnames : ∀ x ∈ scope.names, x.2 = .local → scope.names.lookup x.1 = some .local)
    (h : wpAny M A first (fun x s₁ => wpAny M A (pyIter x) (fun it s₂ => wpAny M A newAcc (fun acc s₃ =>
      wpAny M A (newFunctionEnv scope env.globals cl [] env.qual none .none (some env)) (fun cenv s₄ =>
        codeAny M A (.compStart e 0 it acc { cenv with scope := relabel scope env }) (postX M A E use Q acc { cenv with scope := relabel scope env }) s₄) E s₃) E s₂) E s₁) E s) :
    wpAny M A (comprehension e scope env pos newAcc false first use) Q E s := by
  unfold comprehension
  rw [hclos, hcl]
  refine wpAny_bind (wpAny_mono h (fun x s₁ h₁ => wpAny_bind (wpAny_standAt (wpAny_bind (wpAny_of_eq (hs x) (wpAny_bind (wpAny_holding (wpAny_mono h₁ (fun it s₂ h₂ =>
    wpAny_standIf (wpAny_bind (wpAny_mono h₂ (fun acc s₃ h₃ => wpAny_bind (wpAny_pure (wpAny_bind (wpAny_mono h₃ (fun cenv s₄ h₄ => ?_) fun _ _ h' => h')))) fun _ _ h' => h')))
      fun _ _ h' => h'))))))) fun _ _ h' => h')
  dsimp only
  have hv : ∀ x ∈ (scope.names.filter fun x => (x.2 == .local || x.2 == .cell) && x.1 != (".0" : Str)).reverse, x.2 = .local →
      Env.kindOf { cenv with scope := relabel scope env } x.1 = some .local := fun x hx hl => lookup_relabel_local (hnames x (List.mem_filter.mp (List.mem_reverse.mp hx)).1 hl)
  have hv' : ∀ x ∈ (scope.names.filter fun x => (x.2 == .local || x.2 == .cell) && x.1 != (".0" : Str)).reverse.drop 1 ++ (scope.names.filter fun x => (x.2 == .local || x.2 == .cell) && x.1 != (".0" : Str)).reverse.take 1,
      x.2 = .local → Env.kindOf { cenv with scope := relabel scope env } x.1 = some .local := fun x hx hl => by
    rcases List.mem_append.mp hx with h1 | h1
    · exact hv x (List.mem_of_mem_drop h1) hl
    · exact hv x (List.mem_of_mem_take h1) hl
  refine wpAny_holding (wpAny_bind (wpAny_attempt (wpAny_holding (wpAny_run (codeAny_mono h₄ fun r s' hr => ?_)))))
  cases r with
  | ok f =>
    cases use with
    | none =>
      obtain ⟨m, hn, hr⟩ := hr
      exact wpAny_bind (wpAny_holding (wpAny_comp_letGo (cenv := { cenv with scope := relabel scope env }) hkind _ s' m hv hn fun h' m' _ hs' => wpAny_pure (hr h' hs')))
    | some u =>
      refine wpAny_bind (wpAny_rule (wpAny_bind (wpAny_holding (wpAny_mono hr (fun _ s'' hr' => ?_) fun _ _ h' => h'))))
      obtain ⟨m, hn, hr'⟩ := hr'
      exact wpAny_bind (wpAny_comp_letGo (cenv := { cenv with scope := relabel scope env }) hkind _ s'' m hv' hn fun h' m' _ hs' => wpAny_pure (hr' h' hs'))
  | error x =>
    have hr' : ∃ m, s'.heap.Ns cenv.locals m ∧ ∀ h', Heap.SameBut cenv.locals s'.heap h' → wpAny M A (passOn "comprehension.variables-let-go" x { cenv with scope := relabel scope env } : Sem Value) (fun _ _ => False) E { s' with heap := h' } := by cases use <;> exact hr
    obtain ⟨m, hn, hr⟩ := hr'
    exact wpAny_bind (wpAny_holding (wpAny_comp_letGo (cenv := { cenv with scope := relabel scope env }) hkind _ s' m hv hn fun h' m' _ hs' => wpAny_mono (hr h' hs') (fun _ _ f => f.elim) fun _ _ y => y))
end
theorem note_env (e : Value) {cenv env : Env} (h : cenv.frame = env.frame) : noteFrame e cenv = noteFrame e env := by
  unfold noteFrame PySem.frameOf
  rw [h]
theorem ff_but {h h' B B' : Heap} {C : Addr} (k : ∀ b, b ≠ C → h'.get? b = h.get? b) (hB : ∀ b, B.get? b = none → B'.get? b = none) : ∀ {l : List Env}, h.FunFrames B l → (∀ L ∈ frs l, L ≠ C) → h'.FunFrames B' l
  | [], _, _ => trivial
  | env :: l, hh, hc => by
    obtain ⟨hk, ⟨L, o, hf, hn, ho, hd⟩, hr⟩ := hh
    exact ⟨hk, ⟨L, o, hf, hB L hn, (k L (hc L (List.mem_filterMap.mpr ⟨env, List.mem_cons_self, hf⟩))).trans ho, hd⟩, ff_but k hB hr fun b hb => by
      obtain ⟨e, he, q⟩ := List.mem_filterMap.mp hb
      exact hc b (List.mem_filterMap.mpr ⟨e, List.mem_cons_of_mem _ he, q⟩)⟩
/-- an exception that a call let out, in the air of X -/
def XF (X : Cx) (E : XK) (u : Value) (s' : Shared) : Prop :=
  ∃ (a : Addr) (B : Heap) (sI : Shared) (pins : List (Addr × Obj)) (σ : L2.St) (H : Hp) (cls : Value) (d : Option Addr),
    u = .ref a ∧ Inv X pins σ H sI ∧ (∀ b o, sI.heap.get? b = some o → b ∉ frs X.stack → B.get? b = some o) ∧ sI.heap.UpToSlots s'.heap ∧
      HandSPX.FlyingZ B X.stack a (Zc cls d) s'.heap ∧ H a = none ∧ s'.os = sI.os ∧ AllBare s'.gens ∧ E cls d H
section
variable {X : Cx} {pins : List (Addr × Obj)} {σ : L2.St} {H : Hp} {s s' : Shared} {E : XK}
theorem XF.of_call (I : Inv X pins σ H s) {u : Value} (c : L2.CX X.prog X.w X.stack H s E u s') : XF X E u s' := by
  obtain ⟨a, B, H', cls, d, rfl, fl, hok, ub, na, os, ag, hE⟩ := c
  obtain ⟨G, g1, g2⟩ := restrict s'.heap fun b => (B.get? b).isSome || decide (b ∈ frs X.stack)
  have st : B.StaysIn s'.heap := fl.1
  have gB : ∀ b o, B.get? b = some o → G.get? b = some o := fun b o e => by
    rw [g1 b (by simp [e])]
    exact st b o e
  have gF : ∀ b, b ∈ frs X.stack → G.get? b = s'.heap.get? b := fun b hb => g1 b (by simp [hb])
  have og : ∀ b o, G.get? b = some o → s'.heap.get? b = some o ∧ ((B.get? b).isSome = true ∨ b ∈ frs X.stack) := fun b o e => by
    cases q : ((B.get? b).isSome || decide (b ∈ frs X.stack)) with
    | false => rw [g2 b q] at e; cases e
    | true =>
      rw [g1 b q] at e
      exact ⟨e, by simpa [Bool.or_eq_true] using q⟩
  refine ⟨a, B, { s with heap := G, gens := s'.gens, drawn := s'.drawn, toks := s'.toks }, pins, σ, H', cls, d, rfl, ?_, fun b o e hb => ?_, Heap.UpToSlots.of_keeps fun b o e => (og b o e).1, fl, na, os, ag, hE⟩
  · refine I.call (ch := []) ⟨fun b o e n hb _ => gB b o (ub.keep b o e n hb), fun b o e n hb _ => ?_, fun b o e n _ => ub.free b o e n, fun b o e _ => ?_, ub.tups, ub.frzs, ub.tbls⟩ (hok.kept gB) ag (fun _ z => nomatch z)
    · obtain ⟨sl, q⟩ := ub.slot b o e hb
      exact ⟨sl, by rw [gF b hb]; exact q⟩
    · by_cases hb : b ∈ frs X.stack
      · obtain ⟨sl, q⟩ := ub.slot b o e hb
        exact ⟨_, by rw [gF b hb]; exact q⟩
      · obtain ⟨o', q⟩ := ub.there b o e hb
        exact ⟨o', gB b o' q⟩
  · obtain ⟨e', h⟩ := og b o e
    rcases h with h | h
    · obtain ⟨o', q⟩ := Option.isSome_iff_exists.mp h
      have z := st b o' q
      rw [e'] at z; cases z
      exact q
    · exact absurd h hb
end
section
variable {X : Cx}
/-- the block's error becomes the def's -/
theorem out_of {pins : List (Addr × Obj)} {σ : L2.St} {H3 : Hp} {s3 : Shared} {scope : Scope} {ce : Env} {fp : List Addr} {E : XK} {use : Option (Value → Sem Unit)} {Qf : Value → Shared → Prop} {acc : Value}
    (hs : X.stack = X.env :: X.outer) (hf : X.env.frame = some X.env.locals) (tk : Takes X (fun cls d _ H => E cls d H)) (I3 : Inv X pins σ H3 s3) (f3 : ∀ b ∈ fp, FpOk X pins H3 b ∧ b < s3.heap.objs.size)
    (cL : ce.locals = s3.heap.objs.size) (cF : ce.frame = X.env.frame) {u : Value} {s' : Shared} (x : XF (X.blk s3 H3 scope ce fp) E u s') :
    notedBy (model X.prog X.w) X.A ce (fun e s' => postX (model X.prog X.w) X.A X.xe use Qf acc ce (.error e) s') u s' := by
  obtain ⟨a, B, sI, pins', σ', H', cls, d, rfl, IB, nb, up, fl, na, os, ag, w⟩ := x
  have hfr : X.A.frames = some (X.env :: X.outer) := by rw [I3.ok.frames, hs]
  have nC : H' ce.locals = none := IB.free
  have fC := I3.fpOk (b := ce.locals) (H' := H') (by rw [cL]; exact Nat.le_refl _) nC
  have cS : ce.locals ∉ frs X.stack := fun hm => by
    rcases List.mem_cons.mp (I3.stkSub _ hm) with z | z
    · exact fC.2.1 z
    · exact fC.2.2.1 z
  obtain ⟨m, hn, _⟩ := IB.loc
  have hn : sI.heap.Ns ce.locals m := hn
  show wpAny _ _ (noteFrame (.ref a) ce) _ _ s'
  rw [note_env (.ref a) cF]
  refine HandSPX.looks_onZ (L := X.env.locals) (outer := X.outer) Zc.steady hfr hf (by rw [← hs]; exact fl) (fun h1 hh up1 => ?_)
  rw [← hs] at hh
  obtain ⟨oC, es, ep, hoC, r5⟩ := hn
  have bC : B.get? ce.locals = some oC := nb _ _ hoC cS
  have aC : a ≠ ce.locals := fun e => by rw [← e, hh.2.1] at bC; cases bC
  refine ⟨m, ⟨oC, es, ep, hh.1 _ _ bC, r5⟩, fun h2 sb => ?_⟩
  have k2 : ∀ b, b ≠ ce.locals → h2.get? b = h1.get? b := fun b hb => sb.2 b hb
  have hB : ∀ b, B.get? b = none → (PySem.W.hideAll B [ce.locals]).get? b = none := fun b e => by
    cases q : (PySem.W.hideAll B [ce.locals]).get? b with
    | none => rfl
    | some o =>
      have z := PySem.W.of_hideAll _ q
      rw [e] at z; cases z
  have ofB : ∀ b o, (PySem.W.hideAll B [ce.locals]).get? b = some o → B.get? b = some o ∧ b ≠ ce.locals := fun b o e => ⟨PySem.W.of_hideAll _ e, fun z => by
    rw [z, PySem.W.hideAll_none [ce.locals] (by simp)] at e; cases e⟩
  have ofI : ∀ b o, (PySem.W.hideAll sI.heap [ce.locals]).get? b = some o → sI.heap.get? b = some o ∧ b ≠ ce.locals := fun b o e => ⟨PySem.W.of_hideAll _ e, fun z => by
    rw [z, PySem.W.hideAll_none [ce.locals] (by simp)] at e; cases e⟩
  have hh2 : HandSPX.HeldZ (PySem.W.hideAll B [ce.locals]) X.stack a (Zc cls d) X.env.locals h2 := by
    obtain ⟨k1, kk, k3, oe, vs, T, oT, ts, he, hz, hd, h1', hnT, hTe, hT, hdT, h3⟩ := hh
    have TC : T ≠ ce.locals := fun e => by rw [e, bC] at hnT; cases hnT
    refine ⟨fun b o e => ?_, hB _ kk, ff_but k2 hB k3 fun L hL e => cS (by rw [← e]; exact hL), oe, vs, T, oT, ts, (k2 a aC).trans he, hz, hd, h1', hB _ hnT, hTe, (k2 T TC).trans hT, hdT, h3⟩
    obtain ⟨e1, e2⟩ := ofB b o e
    exact (k2 b e2).trans (k1 b o e1)
  obtain ⟨q1, q2, q3, oe, vs, T, oT, ts, he, hz, hd, h1', hr⟩ := id hh2
  unfold PySem.passOn
  refine wpAny_bind (wpAny_field he hd h1' ?_)
  rw [if_neg (show ¬ ((Value.ref T == Value.none) = true) from by simp)]
  have u0 : Un (frs X.stack) fp H3 H' s3.heap sI.heap := IB.base
  have nlt : ∀ b o, s3.heap.get? b = some o → b ∉ [ce.locals] := fun b o e z => by
    rw [List.mem_singleton.mp z, cL] at e
    exact absurd (Heap.lt_size e) (Nat.lt_irrefl _)
  have J : Inv X pins σ H' { sI with heap := PySem.W.hideAll sI.heap [ce.locals] } := by
    refine I3.call' (ch := fp) IB.os ⟨fun b o e n hb hx => PySem.W.hideAll_get _ (u0.keep b o e n hb hx) (nlt b o e), fun b o e n hb hx => ?_, u0.free, fun b o e hx => ?_, u0.tups, u0.frzs, u0.tbls⟩ ?_ IB.bare fun b hb => ⟨(f3 b hb).1.2.2.2.1, (f3 b hb).1.2.1, (f3 b hb).1.2.2.2.2.1, (f3 b hb).1.2.2.2.2.2⟩
    · obtain ⟨sl, q⟩ := u0.slot b o e n hb hx
      exact ⟨sl, PySem.W.hideAll_get _ q (nlt b o e)⟩
    · obtain ⟨o', q⟩ := u0.there b o e hx
      exact ⟨o', PySem.W.hideAll_get _ q (nlt b o e)⟩
    · exact fun b o q => (IB.hok b o q).stay (fun c u hc r => PySem.W.hideAll_get _ r fun hm => by
        have hm := List.mem_singleton.mp hm
        have z : H' c = none := by rw [hm]; exact nC
        rcases hc with hc | hc
        · rw [hc, q] at z; cases z
        · rw [hc] at z; cases z) (fun _ r => r) fun _ _ r => r
  have fin : ∀ {α : Type} (Q : α → Shared → Prop), wpAny (model X.prog X.w) X.A (setFlight (.ref a) ce.frame) (fun _ s4 => wpAny (model X.prog X.w) X.A (throw (.ref a) : Sem α) Q X.xe s4) X.xe { s' with heap := h2 } := fun Q => by
    rw [cF, hf]
    refine HandSPX.setFlight_onZ hh2 fun h4 hh4 up4 => wpAny_throw (tk _ _ ?_)
    refine ⟨a, PySem.W.hideAll B [ce.locals], { sI with heap := PySem.W.hideAll sI.heap [ce.locals] }, pins, σ, H', cls, d, rfl, J, fun b o e hb => ?_, fun b o e hd => ?_, .inr (.inr hh4), na, os, ag, w⟩
    · obtain ⟨e1, e2⟩ := ofI b o e
      exact PySem.W.hideAll_get _ (nb b o e1 hb) (by simpa using e2)
    · obtain ⟨e1, e2⟩ := ofI b o e
      obtain ⟨s1, g1⟩ := up b o e1 hd
      obtain ⟨s2, g2⟩ := up1 b _ g1 hd
      have g3 : h2.get? b = _ := (k2 b e2).trans g2
      obtain ⟨s4, g4⟩ := up4 b _ g3 hd
      exact ⟨s4, g4⟩
  first
    | exact wpAny_bind (wpAny_pure (wpAny_bind (fin _)))
    | exact wpAny_bind (fin _)
theorem lcX_core {pins : List (Addr × Obj)} {s : Shared} {σ : L2.St} {H : Hp} {Q : VK} {elt tg iter : Expr} {ifs : List Expr} {scope : Scope} {own : List (Str × Nat)} {pos pos' : Pos} {wi : TI} {g : TG} {tt : TT} {te : TE} {use : Option (Value → Sem Unit)} {Qf : Value → Shared → Prop} {E : XK}
    (hst : X.stack = X.env :: X.outer) (hfr : X.env.frame = some X.env.locals) (tk : Takes X (fun cls d _ H => E cls d H))
    (hc : X.calm = true) (hN : X.N.Nodup) (I : Inv X pins σ H s) (hi : PI X tg iter wi) (ok : BlkOk X.N X.env.scope scope own)
    (hg : ∀ (s : Shared) (H : Hp) (C : Addr) (cl : List (Str × Addr)) (fp : List Addr), PG (X.blk s H scope (compEnvC scope cl C X.env) fp) tg g) (ht : ∀ (s : Shared) (H : Hp) (C : Addr) (cl : List (Str × Addr)) (fp : List Addr), PTs (X.blk s H scope (compEnvC scope cl C X.env) fp) ifs tt)
    (he : ∀ (s : Shared) (H : Hp) (C : Addr) (cl : List (Str × Addr)) (fp : List Addr) (xe : Value → Shared → Prop), (∀ (pins : List (Addr × Obj)) (σ : L2.St) (H1 : Hp) (s1 : Shared) (e : Value) (s' : Shared), Inv ((X.blk s H scope (compEnvC scope cl C X.env) fp).wish xe) pins σ H1 s1 → L2.CX X.prog X.w X.stack H1 s1 E e s' → xe e s') → PE ((X.blk s H scope (compEnvC scope cl C X.env) fp).wish xe) elt te) (hs : ∀ x, foldedSetIterable iter X.env x = pure x)
    (h : tLc wi g tt te (own.map (·.2)) σ H Q)
    (hRR : ∀ D ce s' m H', Inv X pins σ H' s' → Q (.ref D) H' → s'.heap.Ns ce.locals m → FpOk X pins H' ce.locals → postX (model X.prog X.w) X.A X.xe use Qf (.ref D) ce (.ok .next) s') :
    wpAny (model X.prog X.w) X.A (comprehension (.ListComp elt [⟨tg, iter, ifs, 0⟩] scope pos) scope X.env pos' (newList []) false (eval iter X.env) use) Qf X.xe s := by
  have hfree : ∀ y ∈ scope.names, y.2 = .free → ∃ c, X.env.cells.lookup y.1 = some c := fun y hy e => by
    rcases ok.free y hy e with k | k
    · exact I.ok.has _ (.inl k)
    · exact I.ok.has _ (.inr k)
  refine comp_free (use := use) rfl hs (closure_ok hfree) ok.kind (fun y hy e => by rw [ok.uniq y hy, e])
    (thn (hi.run pins s σ H _ I h) fun xv s1 hx => thn hx fun itv s2 h2 => ?_)
  obtain ⟨it, fp, tn, J, H2, e, I2, T, st2, f2, q⟩ := h2
  subst e
  refine wpAny_newObj_type (newEnv_comp ?_) (by show 0 ≤ sizeLine; decide)
  generalize hD : s2.heap.objs.size = D
  have hDn : H2 D = none := I2.hok.fresh (Nat.le_of_eq hD)
  obtain ⟨W, ⟨m0, w0⟩, turn⟩ := q D hDn
  generalize hs3 : ({ s2 with heap := s2.heap.push { cls := .type "list", data := .seq ([] : List Value).toArray } } : Shared) = s3
  have I3 : Inv X pins σ (upd H2 D (.lst [])) s3 := by
    rw [← hs3]
    refine I2.laid (t' := s2.toks) (fun b o e => Heap.get?_push_of_some _ e) (Nat.le_of_eq hD) ⟨Nat.zero_le _, [], 0, .nil, ?_⟩
    rw [← hD]
    exact Heap.get?_push_size _ rfl
  have h3 : s3.heap = s2.heap.push { cls := .type "list", data := .seq ([] : List Value).toArray } := by rw [← hs3]
  have sz : ∀ b ∈ fp, b < s2.heap.objs.size := fun b hb => by
    obtain ⟨o, e, _⟩ := T.obj _ _ st2 b hb
    exact Heap.lt_size e
  have f3 : ∀ b ∈ fp, FpOk X pins (upd H2 D (.lst [])) b ∧ b < s3.heap.objs.size := fun b hb => by
    have hlt := sz b hb
    refine ⟨⟨?_, (f2 b hb).2⟩, by rw [h3, Heap.size_push]; exact Nat.lt_succ_of_lt hlt⟩
    rw [upd_ne (by rw [← hD]; exact Nat.ne_of_lt hlt)]
    exact (f2 b hb).1
  have st3 : tn 0 s3.heap := T.keep _ _ _ st2 fun b _ o e => by rw [h3]; exact Heap.get?_push_of_some _ e
  have I4 := block_start I3 ok hN f3
  have pg := hg s3 (upd H2 D (.lst [])) s3.heap.objs.size (cellsFrom (s3.heap.objs.size + 1) scope.names (cloFrom X.env.cells scope.names [])) fp
  have pt := ht s3 (upd H2 D (.lst [])) s3.heap.objs.size (cellsFrom (s3.heap.objs.size + 1) scope.names (cloFrom X.env.cells scope.names [])) fp
  have pe := he s3 (upd H2 D (.lst [])) s3.heap.objs.size (cellsFrom (s3.heap.objs.size + 1) scope.names (cloFrom X.env.cells scope.names [])) fp
  show codeAny _ _ (.compStart (.ListComp elt [⟨tg, iter, ifs, 0⟩] scope pos) 0 (.ref it) (.ref D) (compEnvC scope (cellsFrom (s3.heap.objs.size + 1) scope.names (cloFrom X.env.cells scope.names [])) s3.heap.objs.size X.env)) (postX (model X.prog X.w) X.A X.xe use Qf (.ref D) (compEnvC scope (cellsFrom (s3.heap.objs.size + 1) scope.names (cloFrom X.env.cells scope.names [])) s3.heap.objs.size X.env)) { s3 with heap := pushCells (s3.heap.push { cls := .type "dict", data := .dict #[] }) scope.names }
  have nfp : ∀ b ∈ fp, (upd H2 D (.lst [])) b = none := fun b hb => (f3 b hb).1.1
  have cF : (compEnvC scope (cellsFrom (s3.heap.objs.size + 1) scope.names (cloFrom X.env.cells scope.names [])) s3.heap.objs.size X.env).frame = X.env.frame := rfl
  generalize hce : compEnvC scope (cellsFrom (s3.heap.objs.size + 1) scope.names (cloFrom X.env.cells scope.names [])) s3.heap.objs.size X.env = ce at I4 pg pt pe cF ⊢
  have cL : ce.locals = s3.heap.objs.size := by subst hce; rfl
  generalize hH3 : upd H2 D (.lst []) = H3 at I3 I4 pg pt pe w0 nfp f3
  generalize hs4 : ({ s3 with heap := pushCells (s3.heap.push { cls := .type "dict", data := .dict #[] }) scope.names } : Shared) = s4 at I4 ⊢
  have st4 : tn 0 s4.heap := T.keep _ _ _ st3 fun b _ o e => by rw [← hs4]; exact pushCells_keeps _ _ _ _ (Heap.get?_push_of_some _ e)
  have stat : ∀ {σ' : L2.St} {H' : Hp} {s' : Shared}, Inv (X.blk s3 H3 scope ce fp) [] σ' H' s' → (∀ b ∈ fp, H' b = none) → ∀ b ∈ fp, FpOk (X.blk s3 H3 scope ce fp) [] H' b := fun {σ' H' s'} I' hn b hb =>
    ⟨hn b hb, (I'.ok.exf b hb).1, I'.ok.exfs b hb, .inl hb, fun x c e => (I'.ok.exf b hb).2 x c e, fun p hp => absurd (show p ∈ ([] : List (Addr × Obj)) ++ [] from hp) (by simp)⟩
  have pe := pe (XF (X.blk s3 H3 scope ce fp) E) (fun pins σ H1 s1 e s' I1 c1 => XF.of_call (X := X.blk s3 H3 scope ce fp) I1.unwish c1)
  have loop : codeAny (model X.prog X.w) X.A (.compLoop (.ListComp elt [⟨tg, iter, ifs, 0⟩] scope pos) 0 (.ref it) (.ref D) ce) (postX (model X.prog X.w) X.A X.xe use Qf (.ref D) ce) s4 := by
    refine compLoop_any (fun n s' => ∃ i H', Inv (X.blk s3 H3 scope ce fp) [] (wipe σ (own.map (·.2))) H' s' ∧ tn i s'.heap ∧ (∀ b ∈ fp, H' b = none) ∧ W i n H') ?_ m0 ⟨0, H3, I4, st4, nfp, w0⟩
    rintro n s5 ⟨i, H5, I5, st5, n5, w5⟩
    rcases turn i n H5 w5 with ⟨stop, qq⟩ | ⟨go, Nx, hNx, step⟩
    · have td := T.done (X.blk s3 H3 scope ce fp) rfl rfl rfl hc i [] s5 _ H5 (fun _ _ => False) I5 (stat I5 n5) st5 stop
      refine thnF td fun r s6 ⟨hr, I6⟩ => ?_
      subst hr
      have I7 : Inv X pins σ H5 s6 := I3.call' (ch := fp) I6.os I6.base I6.hok I6.bare fun b hb => ⟨(f3 b hb).1.2.2.2.1, (f3 b hb).1.2.1, (f3 b hb).1.2.2.2.2.1, (f3 b hb).1.2.2.2.2.2⟩
      have nC : H5 ce.locals = none := I6.free
      obtain ⟨m, hn, _⟩ := I6.loc
      have hn : s6.heap.Ns ce.locals m := hn
      exact hRR D ce s6 m H5 I7 qq hn (I3.fpOk (by rw [cL]; exact Nat.le_refl _) nC)
    · have ti := T.item (X.blk s3 H3 scope ce fp) rfl rfl rfl hc i [] s5 _ H5 (fun _ _ => False) I5 (stat I5 n5) st5 go
      refine thnF ti fun r s6 ⟨u, hr, h6⟩ => ?_
      subst hr
      refine thnF h6 fun _ s7 ⟨x, H7, I7, r7, y7, st7, n7⟩ => ?_
      have I7' := I7.pinned (stat I7 n7) (T.obj _ _ st7)
      refine thnF (pg.run _ s7 _ H7 x u _ I7' r7 (step x H7 y7)) fun _ s8 ⟨σ8, H8, I8, hw8, q8⟩ => ?_
      refine thnF (pt.run _ s8 σ8 H8 _ I8 q8) fun b s9 ⟨H9, I9, q9⟩ => ?_
      have fin : ∀ {s' : Shared} {H' : Hp}, Inv (X.blk s3 H3 scope ce fp) ([] ++ pinsAt fp s7.heap) σ8 H' s' → Nx H' → ∃ m, m < n ∧ ∃ i H', Inv (X.blk s3 H3 scope ce fp) [] (wipe σ (own.map (·.2))) H' s' ∧ tn i s'.heap ∧ (∀ b ∈ fp, H' b = none) ∧ W i m H' := fun {s' H'} I' nx => by
        obtain ⟨m', hm, w'⟩ := hNx H' nx
        have pin' : ∀ b ∈ fp, ∀ o, s7.heap.get? b = some o → s'.heap.get? b = some o ∧ H' b = none := fun b hb o e =>
          let z := I'.pin (b, o) (List.mem_append_right _ (List.mem_append_right _ (mem_pinsAt hb e)))
          ⟨z.1, z.2.1⟩
        have hl : (wipe σ (own.map (·.2))).length = σ8.length := by rw [← hw8, wipe_length]
        refine ⟨m', hm, i + 1, H', (I'.unpinned (pins := [])).weak hl (fun j v e => ?_), T.keep _ _ _ st7 fun b hb o e => (pin' b hb o e).1, fun b hb => ?_, w'⟩
        · rw [← hw8] at e
          exact (wipe_some e).1
        · obtain ⟨o, e, _⟩ := T.obj _ _ st7 b hb
          exact (pin' b hb o e).2
      cases b with
      | false =>
        simp only [Bool.false_eq_true, if_false] at q9 ⊢
        exact fin I9 q9
      | true =>
        simp only [if_true] at q9 ⊢
        refine wpAny_mono (pe.run _ s9 σ8 H9 _ (I9.wish _) q9) (fun z s10 ⟨yv, H10, I10, r10, acc, hD10, hz10, nx⟩ => ?_) fun u s10 xx => out_of hst hfr tk I3 f3 cL cF xx
        exact app_ok (X := X.blk s3 H3 scope ce fp) I10.unwish hD10 hz10 r10 fun s11 I11 => fin I11 nx
  exact codeAny_compStart_list loop (T.self X.A 0 _ _ _ st4 loop)
/-- name = [..] on one line, the name a local; the element may raise -/
theorem ps_setLcX {i : Nat} {y : Str} {py : Pos} {elt tg iter : Expr} {ifs : List Expr} {scope : Scope} {own : List (Str × Nat)} {pos spos : Pos} {wi : TI} {g : TG} {tt : TT} {te : TE} {E : XK}
    (hst : X.stack = X.env :: X.outer) (hfr : X.env.frame = some X.env.locals) (tk : Takes X (fun cls d _ H => E cls d H))
    (hc : X.calm = true) (hN : X.N.Nodup) (hy : X.N[i]? = some y) (hyl : X.env.scope.names.lookup y = some .local)
    (hsw : swapsWith (.ListComp elt [⟨tg, iter, ifs, 0⟩] scope pos) (some (.Name y py)) spos.line X.env = pure true) (hi : PI X tg iter wi) (ok : BlkOk X.N X.env.scope scope own)
    (hg : ∀ (s : Shared) (H : Hp) (C : Addr) (cl : List (Str × Addr)) (fp : List Addr), PG (X.blk s H scope (compEnvC scope cl C X.env) fp) tg g) (ht : ∀ (s : Shared) (H : Hp) (C : Addr) (cl : List (Str × Addr)) (fp : List Addr), PTs (X.blk s H scope (compEnvC scope cl C X.env) fp) ifs tt)
    (he : ∀ (s : Shared) (H : Hp) (C : Addr) (cl : List (Str × Addr)) (fp : List Addr) (xe : Value → Shared → Prop), (∀ (pins : List (Addr × Obj)) (σ : L2.St) (H1 : Hp) (s1 : Shared) (e : Value) (s' : Shared), Inv ((X.blk s H scope (compEnvC scope cl C X.env) fp).wish xe) pins σ H1 s1 → L2.CX X.prog X.w X.stack H1 s1 E e s' → xe e s') → PE ((X.blk s H scope (compEnvC scope cl C X.env) fp).wish xe) elt te) (hs : ∀ x, foldedSetIterable iter X.env x = pure x := by intro _; rfl) :
    PS X (.Assign [.Name y py] (.ListComp elt [⟨tg, iter, ifs, 0⟩] scope pos) spos) (tAsg (tLc wi g tt te (own.map (·.2))) (gName i)) := by
  refine ⟨fun pins s σ H D I h => ?_⟩
  rw [exec_Assign_Name_used _ _ _ _ hsw]
  refine wpAny_bind (wpAny_standAt (wpAny_bind ?_))
  show wpAny _ X.A (do let _ ← comprehension (.ListComp elt [⟨tg, iter, ifs, 0⟩] scope pos) scope X.env (firstIterPos [⟨tg, iter, ifs, 0⟩] pos) (newList []) false (eval iter X.env) (some (assign (.Name y py) X.env))) _ _ s
  have h : tLc wi g tt te (own.map (·.2)) σ H (fun x H1 => gName i x σ H1 D.nx) := h
  refine wpAny_bind (thn (lcX_core (Qf := fun _ s' => SP X pins D .next s') hst hfr tk hc hN I hi ok hg ht he hs h fun L ce s' m H' I' q hn f => ?_) fun _ s' hq => wpAny_pure (wpAny_pure hq))
  show wpAny _ _ (assign (.Name y py) X.env (.ref L)) _ _ _
  refine wpAny_assign_Name (store_ok2 (v := V.ref L) I' hN hy (.inl hyl) rfl (fun s2 I2 ⟨a, sb, ha⟩ => ?_) (.inr hyl))
  obtain ⟨f0, f1, f2, f3, f4, f5⟩ := f
  have haC : ce.locals ≠ a := by
    rcases ha with z | z
    · rw [z]; exact f1
    · exact fun e => f4 y a z e.symm
  refine ⟨m, hn.sameBut sb haC, fun h3 sb3 => ?_⟩
  exact ⟨_, H', I2.turned (t' := s2.toks) (fun b o hb e => (sb3.2 b hb).trans e) f0 f1 f3 f4 f5, q⟩
end
end LcX

section
variable {P : Program} {w : World} {K : PySem.W.Frag} {mg : Str → Option Value} {base : Heap}
theorem knZ_snoc (xs : List (Str × Int)) (x : Str) (v : Int) : knZ (xs ++ [(x, v)]) = kput (knZ xs) x v := by
  unfold knZ
  rw [List.foldl_append]
  rfl
/-- a sequence of ints, a list or a tuple -/
def SqN (K : PySem.W.Frag) (H : Hp) (a : Addr) (ns : List Int) : Prop := SqL K H a (ns.map V.int) ∨ SqT K H a (ns.map V.int)
theorem kp_at {S : Addr → Prop} {H H1 : Hp} {d : Addr} {o : HO} (k : Kp S H H1) (n : H d = none) : Kp S H (upd H1 d o) := fun c x e f => by
  rw [upd_ne (ne_of_none e n)]
  exact k c x e f
theorem kp_on {S : Addr → Prop} {H H1 : Hp} {d : Addr} {o : HO} {u : HO} (k : Kp S H H1) (e1 : H d = some u) (m : Mut (some u)) (hs : S d) : Kp S H (upd H1 d o) := fun c x e f => by
  by_cases h : c = d
  · subst h
    rw [e1] at e
    cases e
    exact absurd m (f hs)
  · rw [upd_ne h]
    exact k c x e f
theorem sqL_ki {H H' : Hp} {C p dx b : Addr} {fs : List (Str × V)} {xs : List V} (ep : H p = some (.ins C dx fs)) (k : Kp (fun x => x = p) H H') (h : SqL K H b xs) : SqL K H' b xs := by
  rcases h with (h | ⟨ob, h⟩) | h
  · exact .inl (.inl (k _ _ h fun z => by rw [z, ep] at h; cases h))
  · exact .inl (.inr ⟨ob, k _ _ h fun z => by rw [z, ep] at h; cases h⟩)
  · exact .inr h
def ri_inv (K : PySem.W.Frag) (H : Hp) (p dx a b r d : Addr) (ps : List (Str × Int)) (j : Nat) (σ' : L2.St) (H' : Hp) : Prop :=
  Kp (fun x => x = p) H H' ∧ H' p = some (.ins (He.ga K "Room") dx [("known", .ref d)]) ∧ (∃ x4 x5 x6, σ' = [some (.ref p), some (.ref a), some (.ref b), some (.ref r), x4, x5, x6]) ∧
    ∃ kvs : List (Key × V), H' d = some (.dK kvs) ∧ kvs.length ≤ j ∧ ∀ x, valV kvs (.inr x) = (knZ (ps.take j) x).map V.int
theorem ri_step {H : Hp} {p dx a b r d : Addr} {ps : List (Str × Int)} {j : Nat} {σ' : L2.St} {H1 : Hp} {x : Str} {n : Int} {T : Addr} (hd : H d = none) (hj : ps[j]? = some (x, n)) (i : ri_inv K H p dx a b r d ps j σ' H1) (hT : H1 T = none) {v : V}
    {kvs : List (Key × V)} (e2 : H1 d = some (.dK kvs)) (e3 : kvs.length ≤ j) (e4 : ∀ x, valV kvs (.inr x) = (knZ (ps.take j) x).map V.int) (ev : v = .int n) {σ2 : L2.St} (h2 : ∃ x4 x5 x6, σ2 = [some (.ref p), some (.ref a), some (.ref b), some (.ref r), x4, x5, x6]) :
    ri_inv K H p dx a b r d ps (j + 1) σ2 (upd (upd H1 T (.tup [.str x, .int n])) d (.dK (putK kvs (.inr x) v))) := by
  obtain ⟨k1, e1, _, _⟩ := i
  have hdp : d ≠ p := fun z => by rw [z, e1] at e2; cases e2
  have hdT : d ≠ T := fun z => by rw [z, hT] at e2; cases e2
  have hpT : p ≠ T := fun z => by rw [z, hT] at e1; cases e1
  refine ⟨kp_at (k1.trans (Kp.of_same (same_new hT))) hd, ?_, h2, _, upd_same, ?_, fun y => ?_⟩
  · rw [upd_ne hdp.symm, upd_ne hpT]
    exact e1
  · have := length_putK kvs (.inr x) v
    omega
  · have hl := (List.getElem?_eq_some_iff.mp hj).1
    have ht : ps.take (j + 1) = ps.take j ++ [(x, n)] := by
      rw [List.take_succ, hj]
      rfl
    rw [ht, knZ_snoc, valV_put, ev]
    unfold kput
    by_cases hy : y = x
    · rw [if_pos (by rw [hy]), if_pos hy]
      rfl
    · rw [if_neg (fun z => hy (by injection z)), if_neg hy]
      exact e4 y
/-- rows: names and sizes -/
def rowD (x : Str × Nat) : PyData := .tuple [.str x.1, .int (x.2 : Int)]
def rwZ (ws : List (Str × Nat)) : Rw := fun x => match ws.find? (fun q => decide (q.1 = x)) with
  | some q => List.replicate q.2 0
  | none => []
theorem rwZ_32 (ws : List (Str × Nat)) : Rw32 (rwZ ws) := fun x v hv => by
  unfold rwZ at hv
  split at hv
  · rw [List.eq_of_mem_replicate hv]; exact in32_0
  · cases hv
theorem rwZ_of {ws : List (Str × Nat)} {q : Str × Nat} (nd : (ws.map (·.1)).Nodup) (h : q ∈ ws) : rwZ ws q.1 = List.replicate q.2 0 := by
  unfold rwZ
  have : ws.find? (fun y => decide (y.1 = q.1)) = some q := by
    induction ws with
    | nil => cases h
    | cons y r ih =>
      rw [List.find?_cons]
      have nd2 := List.nodup_cons.mp nd
      rcases List.mem_cons.mp h with e | h
      · rw [← e, decide_eq_true rfl]
      · have hne : y.1 ≠ q.1 := fun e => nd2.1 (by show y.1 ∈ _; rw [e]; exact List.mem_map_of_mem (f := (·.1)) h)
        rw [decide_eq_false hne]
        exact ih nd2.2 h
  rw [this]
/-- a new Room, all of it new -/
structure NewRoom (K : PySem.W.Frag) (H H' : Hp) (A : Adr) (rs : List Str) (kn : Kn) (rw : Rw) (n : Nat) : Prop where
  kp : Kp (fun x => x = A.p) H H'
  ro : RoomAt K H' A rs kn rw n
  d0 : H A.d = none
  r0 : H A.r = none
  a0 : ∀ x ∈ rs, H (A.ra x) = none
  rd : A.r ≠ A.d
  ri : ∀ x ∈ rs, ∀ y ∈ rs, A.ra x = A.ra y → x = y
def sp_ri (K : PySem.W.Frag) : Sp := fun vs H Q _ => ∃ (p dx a b r : Addr) (ps : List (Str × Int)) (ws : List (Str × Nat)), vs = [.ref p, .ref a, .ref b, .ref r] ∧ H p = some (.ins (He.ga K "Room") dx []) ∧ SqT K H a (ps.map fun x => V.str x.1) ∧ SqN K H b (ps.map (·.2)) ∧ ps.length ≤ 100 ∧ Dp K H (.ref r) (.tuple (ws.map rowD)) ∧ (ws.map (·.1)).Nodup ∧ (∀ q ∈ ws, q.2 ≤ 100) ∧ ws.length ≤ 100 ∧
  ∀ H' (A : Adr), A.p = p → NewRoom K H H' A (ws.map (·.1)) (knZ ps) (rwZ ws) ps.length → Q .non H'
/-- the rows laid so far -/
structure RowsAt (H H' : Hp) (p dx d r2 : Addr) (C : Addr) (kvs : List (Key × V)) (ws : List (Str × Nat)) (ra : Str → Addr) : Prop where
  kp : Kp (fun x => x = p) H H'
  ep : H' p = some (.ins C dx (roomF d r2))
  ed : H' d = some (.dK kvs)
  er : ∃ rvs : List (Key × V), H' r2 = some (.dK rvs) ∧ rvs.length ≤ ws.length ∧ ∀ x ∈ ws.map (·.1), valV rvs (.inr x) = some (.ref (ra x))
  el : ∀ q ∈ ws, H' (ra q.1) = some (.lst ((List.replicate q.2 (0 : Int)).map V.int)) ∧ H (ra q.1) = none
  ri : ∀ x ∈ ws.map (·.1), ∀ y ∈ ws.map (·.1), ra x = ra y → x = y
theorem flat_rep (n : Nat) : (List.replicate n [V.int 0]).flatten = (List.replicate n (0 : Int)).map V.int := by
  induction n with
  | zero => rfl
  | succ n ih => rw [List.replicate_succ, List.flatten_cons, ih, List.replicate_succ]; rfl
theorem RowsAt.step {H H1 : Hp} {p dx d r2 C : Addr} {kvs rvs : List (Key × V)} {ws : List (Str × Nat)} {ra : Str → Addr} {q : Str × Nat} {z l : Addr} (R : RowsAt H H1 p dx d r2 C kvs ws ra) (hr0 : H r2 = none) (rd : r2 ≠ d) (hq : q.1 ∉ ws.map (·.1)) (nz : H1 z = none)
    (nl : upd H1 z (.lst [.int 0]) l = none) (e2 : H1 r2 = some (.dK rvs)) (l2 : rvs.length ≤ ws.length) (v2 : ∀ x ∈ ws.map (·.1), valV rvs (.inr x) = some (.ref (ra x))) :
    RowsAt H (upd (upd (upd H1 z (.lst [.int 0])) l (.lst ((List.replicate q.2 (0 : Int)).map V.int))) r2 (.dK (putK rvs (.inr q.1) (.ref l)))) p dx d r2 C kvs (ws ++ [q]) (fun y => if y = q.1 then l else ra y) := by
  have lz : l ≠ z := fun e => by rw [e, upd_same] at nl; cases nl
  have nl1 : H1 l = none := by rw [upd_ne lz] at nl; exact nl
  have ne : ∀ {b : Addr} {o : HO}, H1 b = some o → b ≠ z ∧ b ≠ l := fun {b o} e => ⟨ne_of_none e nz, ne_of_none e nl1⟩
  have at_ : ∀ {b : Addr} {o : HO}, H1 b = some o → b ≠ r2 → (upd (upd (upd H1 z (.lst [.int 0])) l (.lst ((List.replicate q.2 (0 : Int)).map V.int))) r2 (.dK (putK rvs (.inr q.1) (.ref l)))) b = some o := fun {b o} e h => by
    rw [upd_ne h, upd_ne (ne e).2, upd_ne (ne e).1]
    exact e
  have rp : p ≠ r2 := fun e => by have := R.ep; rw [e, e2] at this; cases this
  have rl : l ≠ r2 := fun e => by rw [e, e2] at nl1; cases nl1
  have fresh : ∀ {b : Addr}, H1 b = none → H b = none := fun {b} h => by
    cases e : H b with
    | none => rfl
    | some o =>
      by_cases hb : b = p
      · rw [hb, R.ep] at h; cases h
      · rw [R.kp b o e (fun y => absurd y hb)] at h; cases h
  have mem : ∀ {x : Str}, x ∈ (ws ++ [q]).map (·.1) → x = q.1 ∨ (x ≠ q.1 ∧ x ∈ ws.map (·.1)) := fun {x} hx => by
    by_cases e : x = q.1
    · exact .inl e
    · rw [List.map_append] at hx
      rcases List.mem_append.mp hx with h | h
      · exact .inr ⟨e, h⟩
      · exact absurd (List.mem_singleton.mp h) e
  refine ⟨fun b o e hk => ?_, at_ R.ep rp, at_ R.ed rd.symm, ⟨_, upd_same, ?_, fun x hx => ?_⟩, fun y hy => ?_, fun x hx y hy e => ?_⟩
  · have e1 := R.kp b o e hk
    exact at_ e1 (fun z => by rw [z] at e; rw [hr0] at e; cases e)
  · have := length_putK rvs (.inr q.1) (.ref l)
    rw [List.length_append, List.length_singleton]
    omega
  · rw [valV_put]
    rcases mem hx with e | ⟨e, h⟩
    · rw [if_pos (by rw [e]), if_pos e]
    · rw [if_neg (fun z => e (by injection z)), if_neg e]
      exact v2 x h
  · rcases List.mem_append.mp hy with h | h
    · have hne : y.1 ≠ q.1 := fun e => hq (by rw [← e]; exact List.mem_map_of_mem (f := (·.1)) h)
      rw [if_neg hne]
      obtain ⟨a1, a2⟩ := R.el y h
      exact ⟨at_ a1 (fun z => by rw [z, e2] at a1; cases a1), a2⟩
    · rw [List.mem_singleton.mp h, if_pos rfl]
      exact ⟨by rw [upd_ne rl]; exact upd_same, fresh nl1⟩
  · have inH : ∀ {x : Str}, x ∈ ws.map (·.1) → ra x ≠ l := fun {x} hx e => by
      obtain ⟨y, hy, rfl⟩ := List.mem_map.mp hx
      have := (R.el y hy).1
      rw [e, nl1] at this
      cases this
    rcases mem hx with e1 | ⟨e1, h1⟩ <;> rcases mem hy with e2 | ⟨e2, h2⟩
    · rw [e1, e2]
    · rw [if_pos e1, if_neg e2] at e; exact absurd e.symm (inH h2)
    · rw [if_neg e1, if_pos e2] at e; exact absurd e (inH h1)
    · rw [if_neg e1, if_neg e2] at e; exact R.ri x h1 y h2 e
theorem ok_Room_init (T : Top K mg) : FnOk P w K mg base CX0 1 (He.ma K (He.ga K "Room") "__init__") T.fd_Room___init__ ["self", "params", "inputs", "rows"] (sp_ri K) := by
  refine T.F_Room___init__.ok sc_Room___init__ (fun vs H Q E h => ?_) (fun cdv A outer s H vs Q E hr h => ?_)
  · obtain ⟨p, dx, a, b, r, ps, ws, rfl, _⟩ := h
    rfl
  · obtain ⟨p, dx, a, b, r, ps, ws, rfl, ep, ha, hb, lp, hrw, nd, w100, lw, q⟩ := h
    refine ⟨_, PSs.nox (pss_cons (ps_fld (pv 0) pe_dnewK rfl)
        (pss_cons (ps_for PassesOwn.never (by rfl) (ZipM.pi_zipM (by rfl) T.m_zip (pa_cons (pv 1) (pa_cons (pv 2) pa_nil))) (pg_tup (n := 2) (by rfl) (pgs_cons (pg_name (i := 4) sc_Room___init__.nd rfl (Or.inl rfl)) (pgs_cons (pg_name (i := 5) sc_Room___init__.nd rfl (Or.inl rfl)) pgs_nil))) (pss_one (ps_dput (hu_of hr) (pe_fld (pv 0) rfl) (pv 4) (pv 5) (by rfl))))
        (pss_cons (ps_fld (pv 0) pe_dnewK rfl)
        (pss_one (ps_for PassesOwn.never (by rfl) (pi_tup (pv 3)) (pg_tup (n := 2) (by rfl) (pgs_cons (pg_name (i := 4) sc_Room___init__.nd rfl (Or.inl rfl)) (pgs_cons (pg_name (i := 6) sc_Room___init__.nd rfl (Or.inl rfl)) pgs_nil))) (pss_one (ps_dput (hu_of hr) (pe_fld (pv 0) rfl) (pv 4) (pe_op op_rep (pe_lst (pa_cons pe_int pa_nil)) (pv 6)) (by rfl)))))))), ?_⟩
    intro d hd
    have hdp : d ≠ p := fun z => by rw [z, ep] at hd; cases hd
    have epd : upd H d (.dK []) p = some (.ins (He.ga K "Room") dx []) := by
      rw [upd_ne hdp.symm]
      exact ep
    refine ⟨_, rfl, p, _, dx, _, rfl, epd, T.cl_Room, T.no_Room_known, by decide, ?_⟩
    have k0 : Kp (fun x => x = p) H (upd (upd H d (.dK [])) p (.ins (He.ga K "Room") dx [("known", .ref d)])) := kp_on (kp_at Kp.refl hd) ep trivial rfl
    have i0 : ∀ x4 x5 x6, ri_inv K H p dx a b r d ps 0 [some (.ref p), some (.ref a), some (.ref b), some (.ref r), x4, x5, x6] (upd (upd H d (.dK [])) p (.ins (He.ga K "Room") dx [("known", .ref d)])) := fun x4 x5 x6 =>
      ⟨k0, upd_same, ⟨_, _, _, rfl⟩, [], by rw [upd_ne hdp]; exact upd_same, Nat.le_refl _, fun x => rfl⟩
    dsimp only
    refine seq_by (fun σ' H' => ri_inv K H p dx a b r d ps ps.length σ' H') ?_ ?_
    rotate_left
    · intro N hN
      refine ⟨_, rfl, _, rfl, a, b, ps.map (fun x => V.str x.1), (ps.map (·.2)).map V.int, rfl, ?_⟩
      have getp : ∀ {i : Nat} {x y : V}, (ps.map fun x => V.str x.1)[i]? = some x → ((ps.map (·.2)).map V.int)[i]? = some y → ∃ q : Str × Int, ps[i]? = some q ∧ x = .str q.1 ∧ y = .int q.2 := fun {i x y} hx hy => by
        rw [List.getElem?_map] at hx
        rw [List.getElem?_map, List.getElem?_map] at hy
        cases hq : ps[i]? with
        | none => rw [hq] at hx; cases hx
        | some q => rw [hq] at hx hy; cases hx; cases hy; exact ⟨q, rfl, rfl, rfl⟩
      have ll : (ps.map fun x => V.str x.1).length = ((ps.map (·.2)).map V.int).length := by
        rw [List.length_map, List.length_map, List.length_map]
      rcases hb with hb | hb
      · refine .inl ⟨sqT_kp k0 ha, sqL_ki ep k0 hb, ?_⟩
        refine ZipM.for_zipM (K := K) ll (ri_inv K H p dx a b r d ps) (i0 _ _ _) ?_ ?_ ?_
        · intro j σ' H' iv
          exact ⟨sqT_kp iv.1 ha, sqL_ki ep iv.1 hb⟩
        · intro i x y T' σ' H1 hx hy iv hT
          obtain ⟨q1, hq, rfl, rfl⟩ := getp hx hy
          have iv0 := iv
          obtain ⟨k1, e1, ⟨x4, x5, x6, rfl⟩, kvs, e2, e3, e4⟩ := iv
          have hdT : d ≠ T' := fun z => by rw [z, hT] at e2; cases e2
          have hpT : p ≠ T' := fun z => by rw [z, hT] at e1; cases e1
          have il := (List.getElem?_eq_some_iff.mp hq).1
          refine ⟨T', _, rfl, .inl (.inl upd_same), rfl, _, _, rfl, _, _, rfl, rfl, _, rfl, _, rfl, p, _, dx, _, _, rfl, by rw [upd_ne hpT]; exact e1, T.cl_Room, T.no_Room_known, rfl, _, rfl, d, _, rfl, .inl ⟨kvs, .inr q1.1, by rw [upd_ne hdT]; exact e2, rfl, ?_, rfl⟩, ?_⟩
          · rw [sizeLine_eq]
            omega
          · exact ri_step hd hq iv0 hT e2 e3 e4 rfl ⟨_, _, _, rfl⟩
        · intro σ' H1 iv
          rw [List.length_map] at iv
          exact hN _ _ iv
      · refine .inr ⟨sqT_kp k0 ha, sqT_kp k0 hb, ?_⟩
        refine RZ.for_zipT (K := K) ll (ri_inv K H p dx a b r d ps) (i0 _ _ _) ?_ ?_ ?_
        · intro j σ' H' iv
          exact ⟨sqT_kp iv.1 ha, sqT_kp iv.1 hb⟩
        · intro i x y T' σ' H1 hx hy iv hT
          obtain ⟨q1, hq, rfl, rfl⟩ := getp hx hy
          have iv0 := iv
          obtain ⟨k1, e1, ⟨x4, x5, x6, rfl⟩, kvs, e2, e3, e4⟩ := iv
          have hdT : d ≠ T' := fun z => by rw [z, hT] at e2; cases e2
          have hpT : p ≠ T' := fun z => by rw [z, hT] at e1; cases e1
          have il := (List.getElem?_eq_some_iff.mp hq).1
          refine ⟨T', _, rfl, .inl (.inl upd_same), rfl, _, _, rfl, _, _, rfl, rfl, _, rfl, _, rfl, p, _, dx, _, _, rfl, by rw [upd_ne hpT]; exact e1, T.cl_Room, T.no_Room_known, rfl, _, rfl, d, _, rfl, .inl ⟨kvs, .inr q1.1, by rw [upd_ne hdT]; exact e2, rfl, ?_, rfl⟩, ?_⟩
          · rw [sizeLine_eq]
            omega
          · exact ri_step hd hq iv0 hT e2 e3 e4 rfl ⟨_, _, _, rfl⟩
        · intro σ' H1 iv
          rw [List.length_map] at iv
          exact hN _ _ iv
    intro σ' H1 iv
    obtain ⟨k1, e1, ⟨x4, x5, x6, rfl⟩, kvs, e2, e3, e4⟩ := iv
    intro r2 hr2
    have hrp : p ≠ r2 := fun z => by rw [z, hr2] at e1; cases e1
    have hrd : d ≠ r2 := fun z => by rw [z, hr2] at e2; cases e2
    have hr0 : H r2 = none := by
      cases h : H r2 with
      | none => rfl
      | some o =>
        have := k1 r2 o h (fun z => absurd z hrp.symm)
        rw [hr2] at this
        cases this
    refine ⟨_, rfl, p, _, dx, _, rfl, by rw [upd_ne hrp]; exact e1, T.cl_Room, T.no_Room_rows, (by show 1 < 1000; decide), ?_⟩
    have k3 : Kp (fun x => x = p) H (upd (upd H1 r2 (.dK [])) p (.ins (He.ga K "Room") dx (roomF d r2))) := kp_on (kp_at k1 hr0) ep trivial rfl
    obtain ⟨r0, xs, er, hrS, da⟩ := dp_tup hrw
    cases er
    have lx := dpAll_len da
    rw [List.length_map] at lx
    have R0 : RowsAt H (upd (upd H1 r2 (.dK [])) p (.ins (He.ga K "Room") dx (roomF d r2))) p dx d r2 (He.ga K "Room") kvs [] (fun _ => 0) := by
      refine ⟨k3, upd_same, by rw [upd_ne hdp, upd_ne hrd]; exact e2, ⟨[], by rw [upd_ne hrp.symm]; exact upd_same, Nat.le_refl _, (fun x hx => by cases hx)⟩, (fun q hq => by cases hq), (fun x hx => by cases hx)⟩
    refine ⟨_, rfl, r, rfl, ⟨_, sqT_kp k3 hrS⟩, ?_⟩
    refine for_tup (K := K) (xs := xs) (fun j σ' H' => (∃ ra, RowsAt H H' p dx d r2 (He.ga K "Room") kvs (ws.take j) ra) ∧ ∃ x4 x5 x6, σ' = [some (.ref p), some (.ref a), some (.ref b), some (.ref r), x4, x5, x6]) ?_ ?_ ?_ ?_
    · exact ⟨⟨_, by rw [List.take_zero]; exact R0⟩, _, _, _, rfl⟩
    · rintro j σ' H' _ ⟨⟨ra, R⟩, _⟩
      exact sqT_kp R.kp hrS
    · rintro j y σ' H2 hy ⟨⟨ra, R⟩, y4, y5, y6, rfl⟩
      have jl : j < ws.length := by
        have := (List.getElem?_eq_some_iff.mp hy).1
        omega
      obtain ⟨dy, hdy, ddy⟩ := dpAll_getV da hy
      rw [List.getElem?_map, List.getElem?_eq_getElem jl] at hdy
      cases hdy
      have ddy2 := dp_kp R.kp _ _ (by simp [rowD, nLd, nLs]) ddy
      obtain ⟨tp, ts, rfl, htp, dts⟩ := dp_tup ddy2
      obtain ⟨t0, u0, rfl, g0, f0⟩ := dpAll_cons dts
      obtain ⟨t1, u1, rfl, g1, f1⟩ := dpAll_cons f0
      cases dpAll_nil f1
      cases dp_str g0
      cases dp_int g1
      obtain ⟨rvs, er2, lr2, vr2⟩ := R.er
      have w1 := w100 ws[j] (List.getElem_mem jl)
      refine ⟨tp, _, rfl, htp, rfl, _, _, rfl, _, _, rfl, rfl, (by show 1 ≤ sizeLine; decide), fun z nz => ?_⟩
      refine ⟨_, rfl, z, _, _, rfl, rfl, upd_same, by omega, by omega, ?_, fun l nl => ?_⟩
      · rw [sizeLine_eq, Int.toNat_natCast]
        show 1 * _ ≤ _
        omega
      rw [Int.toNat_natCast, flat_rep]
      have nz1 := nz
      have hpz : p ≠ z := fun e => by have := R.ep; rw [e, nz] at this; cases this
      have lz : l ≠ z := fun e => by rw [e, upd_same] at nl; cases nl
      have nl1 : H2 l = none := by rw [upd_ne lz] at nl; exact nl
      have hpl : p ≠ l := fun e => by have := R.ep; rw [e, nl1] at this; cases this
      have r2z : r2 ≠ z := ne_of_none er2 nz
      have r2l : r2 ≠ l := ne_of_none er2 nl1
      have nq : (ws[j]).1 ∉ (ws.take j).map (·.1) := fun hm => by
        have hs : ws.take (j + 1) = ws.take j ++ [ws[j]] := by rw [List.take_succ, List.getElem?_eq_getElem jl]; rfl
        have nd' : ((ws.take (j + 1)).map (·.1)).Nodup := nd.sublist ((List.take_sublist _ _).map _)
        rw [hs, List.map_append, List.nodup_append] at nd'
        exact nd'.2.2 _ hm _ (List.mem_singleton.mpr rfl) rfl
      refine ⟨_, rfl, p, _, dx, _, _, rfl, by rw [upd_ne hpl, upd_ne hpz]; exact R.ep, T.cl_Room, T.no_Room_rows, roomF_rows _ _, _, rfl, r2, _, rfl, .inl ⟨rvs, .inr (ws[j]).1, by rw [upd_ne r2l, upd_ne r2z]; exact er2, rfl, ?_, rfl⟩, ?_⟩
      · rw [sizeLine_eq]
        have : (ws.take j).length ≤ j := List.length_take_le ..
        omega
      · refine ⟨⟨fun y => if y = (ws[j]).1 then l else ra y, ?_⟩, _, _, _, rfl⟩
        have hs : ws.take (j + 1) = ws.take j ++ [ws[j]] := by rw [List.take_succ, List.getElem?_eq_getElem jl]; rfl
        rw [hs]
        exact R.step hr0 hrd.symm nq nz nl er2 lr2 vr2
    · rintro σ' H2 ⟨⟨ra, R⟩, _⟩
      rw [lx, List.take_length] at R
      obtain ⟨rvs, er2, lr2, vr2⟩ := R.er
      refine q H2 ⟨p, d, 0, 0, r2, ra⟩ rfl ⟨R.kp, ⟨⟨dx, R.ep⟩, ⟨kvs, R.ed, e3, fun x => by rw [e4 x, List.take_length]⟩, ⟨rvs, er2, vr2⟩, fun x hx => ?_⟩, hd, hr0, fun x hx => ?_, hrd.symm, R.ri⟩
      · obtain ⟨y, hy, rfl⟩ := List.mem_map.mp hx
        rw [rwZ_of nd hy]
        exact (R.el y hy).1
      · obtain ⟨y, hy, rfl⟩ := List.mem_map.mp hx
        exact (R.el y hy).2
theorem kn32_of {ps : List (Str × Int)} (h : ∀ x ∈ ps, In32 x.2) : Kn32 (knZ ps) := by
  have gen : ∀ (ps : List (Str × Int)) (k : Kn), Kn32 k → (∀ x ∈ ps, In32 x.2) → Kn32 (ps.foldl (fun k p => kput k p.1 p.2) k) := by
    intro ps
    induction ps with
    | nil => exact fun k hk _ => hk
    | cons p r ih =>
      intro k hk h
      refine ih _ ?_ (fun x hx => h x (List.mem_cons_of_mem _ hx))
      intro y v hy
      have hy : kput k p.1 p.2 y = some v := hy
      unfold kput at hy
      by_cases e : y = p.1
      · rw [if_pos e] at hy
        cases hy
        exact h p (List.mem_cons_self ..)
      · rw [if_neg e] at hy
        exact hk y v hy
  exact gen ps _ (fun x v h => by cases h) h
theorem same_made {H : Hp} {a dx C : Addr} (ha : H a = none) (hx : H dx = none) (ne : dx ≠ a) : Same H (upd (upd H dx (.own a)) a (.ins C dx [])) := fun c o e => by
  rw [upd_ne (ne_of_none e ha), upd_ne (ne_of_none e hx)]
  exact e
end

section
variable {P : Program} {w : World} {K : PySem.W.Frag} {mg : Str → Option Value} {base : Heap}
def sp_riL (K : PySem.W.Frag) : Sp := fun vs H Q _ => ∃ (p dx a b r : Addr) (ps : List (Str × Int)), vs = [.ref p, .ref a, .ref b, .ref r] ∧ H p = some (.ins (He.ga K "Room") dx []) ∧ SqT K H a (ps.map fun x => V.str x.1) ∧ SqL K H b ((ps.map (·.2)).map V.int) ∧ ps.length ≤ 100 ∧ SqL K H r [] ∧
  ∀ H' (A : Adr), A.p = p → NewRoom K H H' A [] (knZ ps) (fun _ => []) ps.length → Q .non H'
theorem ok_Room_initL (T : Top K mg) : FnOk P w K mg base CX0 1 (He.ma K (He.ga K "Room") "__init__") T.fd_Room___init__ ["self", "params", "inputs", "rows"] (sp_riL K) := by
  refine T.F_Room___init__.ok sc_Room___init__ (fun vs H Q E h => ?_) (fun cdv A outer s H vs Q E hr h => ?_)
  · obtain ⟨p, dx, a, b, r, ps, rfl, _⟩ := h
    rfl
  · obtain ⟨p, dx, a, b, r, ps, rfl, ep, ha, hb, lp, hrw, q⟩ := h
    refine ⟨_, PSs.nox (pss_cons (ps_fld (pv 0) pe_dnewK rfl)
        (pss_cons (ps_for PassesOwn.never (by rfl) (ZipM.pi_zipM (by rfl) T.m_zip (pa_cons (pv 1) (pa_cons (pv 2) pa_nil))) (pg_tup (n := 2) (by rfl) (pgs_cons (pg_name (i := 4) sc_Room___init__.nd rfl (Or.inl rfl)) (pgs_cons (pg_name (i := 5) sc_Room___init__.nd rfl (Or.inl rfl)) pgs_nil))) (pss_one (ps_dput (hu_of hr) (pe_fld (pv 0) rfl) (pv 4) (pv 5) (by rfl))))
        (pss_cons (ps_fld (pv 0) pe_dnewK rfl)
        (pss_one (ps_for PassesOwn.never (by rfl) (pi_list (pv 3)) (pg_tup (n := 2) (by rfl) (pgs_cons (pg_name (i := 4) sc_Room___init__.nd rfl (Or.inl rfl)) (pgs_cons (pg_name (i := 6) sc_Room___init__.nd rfl (Or.inl rfl)) pgs_nil))) (pss_one (ps_dput (hu_of hr) (pe_fld (pv 0) rfl) (pv 4) (pe_op op_rep (pe_lst (pa_cons pe_int pa_nil)) (pv 6)) (by rfl)))))))), ?_⟩
    intro d hd
    have hdp : d ≠ p := fun z => by rw [z, ep] at hd; cases hd
    have epd : upd H d (.dK []) p = some (.ins (He.ga K "Room") dx []) := by
      rw [upd_ne hdp.symm]
      exact ep
    refine ⟨_, rfl, p, _, dx, _, rfl, epd, T.cl_Room, T.no_Room_known, by decide, ?_⟩
    have k0 : Kp (fun x => x = p) H (upd (upd H d (.dK [])) p (.ins (He.ga K "Room") dx [("known", .ref d)])) := kp_on (kp_at Kp.refl hd) ep trivial rfl
    have i0 : ∀ x4 x5 x6, ri_inv K H p dx a b r d ps 0 [some (.ref p), some (.ref a), some (.ref b), some (.ref r), x4, x5, x6] (upd (upd H d (.dK [])) p (.ins (He.ga K "Room") dx [("known", .ref d)])) := fun x4 x5 x6 =>
      ⟨k0, upd_same, ⟨_, _, _, rfl⟩, [], by rw [upd_ne hdp]; exact upd_same, Nat.le_refl _, fun x => rfl⟩
    dsimp only
    refine seq_by (fun σ' H' => ri_inv K H p dx a b r d ps ps.length σ' H') ?_ ?_
    rotate_left
    · intro N hN
      refine ⟨_, rfl, _, rfl, a, b, ps.map (fun x => V.str x.1), (ps.map (·.2)).map V.int, rfl, ?_⟩
      have getp : ∀ {i : Nat} {x y : V}, (ps.map fun x => V.str x.1)[i]? = some x → ((ps.map (·.2)).map V.int)[i]? = some y → ∃ q : Str × Int, ps[i]? = some q ∧ x = .str q.1 ∧ y = .int q.2 := fun {i x y} hx hy => by
        rw [List.getElem?_map] at hx
        rw [List.getElem?_map, List.getElem?_map] at hy
        cases hq : ps[i]? with
        | none => rw [hq] at hx; cases hx
        | some q => rw [hq] at hx hy; cases hx; cases hy; exact ⟨q, rfl, rfl, rfl⟩
      have ll : (ps.map fun x => V.str x.1).length = ((ps.map (·.2)).map V.int).length := by
        rw [List.length_map, List.length_map, List.length_map]
      refine .inl ⟨sqT_kp k0 ha, sqL_ki ep k0 hb, ?_⟩
      refine ZipM.for_zipM (K := K) ll (ri_inv K H p dx a b r d ps) (i0 _ _ _) ?_ ?_ ?_
      · intro j σ' H' iv
        exact ⟨sqT_kp iv.1 ha, sqL_ki ep iv.1 hb⟩
      · intro i x y T' σ' H1 hx hy iv hT
        obtain ⟨q1, hq, rfl, rfl⟩ := getp hx hy
        have iv0 := iv
        obtain ⟨k1, e1, ⟨x4, x5, x6, rfl⟩, kvs, e2, e3, e4⟩ := iv
        have hdT : d ≠ T' := fun z => by rw [z, hT] at e2; cases e2
        have hpT : p ≠ T' := fun z => by rw [z, hT] at e1; cases e1
        have il := (List.getElem?_eq_some_iff.mp hq).1
        refine ⟨T', _, rfl, .inl (.inl upd_same), rfl, _, _, rfl, _, _, rfl, rfl, _, rfl, _, rfl, p, _, dx, _, _, rfl, by rw [upd_ne hpT]; exact e1, T.cl_Room, T.no_Room_known, rfl, _, rfl, d, _, rfl, .inl ⟨kvs, .inr q1.1, by rw [upd_ne hdT]; exact e2, rfl, ?_, rfl⟩, ?_⟩
        · rw [sizeLine_eq]
          omega
        · exact ri_step hd hq iv0 hT e2 e3 e4 rfl ⟨_, _, _, rfl⟩
      · intro σ' H1 iv
        rw [List.length_map] at iv
        exact hN _ _ iv
    intro σ' H1 iv
    obtain ⟨k1, e1, ⟨x4, x5, x6, rfl⟩, kvs, e2, e3, e4⟩ := iv
    intro r2 hr2
    have hrp : p ≠ r2 := fun z => by rw [z, hr2] at e1; cases e1
    have hrd : d ≠ r2 := fun z => by rw [z, hr2] at e2; cases e2
    have hr0 : H r2 = none := by
      cases h : H r2 with
      | none => rfl
      | some o =>
        have := k1 r2 o h (fun z => absurd z hrp.symm)
        rw [hr2] at this
        cases this
    refine ⟨_, rfl, p, _, dx, _, rfl, by rw [upd_ne hrp]; exact e1, T.cl_Room, T.no_Room_rows, (by show 1 < 1000; decide), ?_⟩
    have k3 : Kp (fun x => x = p) H (upd (upd H1 r2 (.dK [])) p (.ins (He.ga K "Room") dx (roomF d r2))) := kp_on (kp_at k1 hr0) ep trivial rfl
    refine ⟨_, rfl, r, rfl, ⟨_, sqL_ki ep k3 hrw⟩, ?_⟩
    refine for_list (K := K) (xs := []) (fun j σ' H' => H' = upd (upd H1 r2 (.dK [])) p (.ins (He.ga K "Room") dx (roomF d r2))) ?_ ?_ ?_ ?_
    · rfl
    · rintro j σ' H' _ rfl
      exact sqL_ki ep k3 hrw
    · rintro j y σ' H2 hy _
      cases hy
    · rintro σ' H2 rfl
      refine q _ ⟨p, d, 0, 0, r2, fun _ => 0⟩ rfl ⟨k3, ⟨⟨dx, upd_same⟩, ⟨kvs, by show upd _ p _ d = _; rw [upd_ne hdp, upd_ne hrd]; exact e2, e3, fun x => by rw [e4 x, List.take_length]⟩, ⟨[], by show upd _ p _ r2 = _; rw [upd_ne hrp.symm]; exact upd_same, (fun x hx => by cases hx)⟩, (fun x hx => by cases hx)⟩, hd, hr0, (fun x hx => by cases hx), hrd.symm, (fun x hx => by cases hx)⟩
end

section
variable {P : Program} {w : World} {K : PySem.W.Frag} {mg : Str → Option Value} {base : Heap}
def PostB (K : PySem.W.Frag) (hs : Hs) (rs : List Str) (A : Adr) (h : Addr) (M N : Nat) (H : Hp) (s : PSt) (Q : VK) (E : XK) : Rs → Prop
  | .fin => ∀ H', Kp (SA rs A) H H' → Std K hs rs A h M N H' s → Q (.int 0) H'
  | .gave v => ∀ H', Kp (SA rs A) H H' → Std K hs rs A h M N H' s → In32 v → Q (.int v) H'
  | .on => ∀ H', Kp (SA rs A) H H' → Std K hs rs A h M N H' s → E (.ref (He.ga K "Unended")) none H'
  | .flt w => ∀ H' d, Kp (SA rs A) H H' → Std K hs rs A h M N H' s → H' d = some (wordF w) → E (.ref (He.ga K "Faulted")) (some d) H'
def sp_body (K : PySem.W.Frag) (n : Nat) : Sp := fun vs H Q E => ∃ (hs : Hs) (rs : List Str) (A : Adr) (h : Addr) (M N : Nat) (s s' : PSt) (v : V) (bd : List Sm) (r : Rs) (F : Nat), vs = [.ref A.q, v, .ref A.p] ∧ Std K hs rs A h M N H s ∧ Dp K H v (.tuple (Sm.ds bd)) ∧ (∀ m ∈ bd, m.ok hs n rs) ∧ doAll hs F bd s = some (r, s') ∧ PostB K hs rs A h M N H s' Q E r
theorem ok_body_of (T : Top K mg) (n k : Nat) (G_Play_do_all : FnOk P w K mg base (L2.CX P w) k (He.ma K (He.ga K "Play") "do_all") T.fd_Play_do_all ["self", "body", "room"] (sp_all K n)) : FnOk P w K mg base (L2.CX P w) (k + 1) (He.ma K (He.ga K "Play") "play_body") T.fd_Play_play_body ["self", "body", "room"] (sp_body K n) := by
  refine T.F_Play_play_body.ok sc_Play_play_body (fun vs H Q E h => ?_) (fun cdv A outer s H vs Q E hr h => ?_)
  · obtain ⟨hs, rs, A, h, M, N, s, s', v, bd, r, F, rfl, _⟩ := h
    rfl
  · obtain ⟨hs, rs, B, hh, M, N, s, s', v, bd, r, F, rfl, st, dp, ok, hd, po⟩ := h
    refine ⟨_, (pss_cons (ps_set (i := 3) sc_Play_play_body.nd rfl (Or.inl rfl) (pe_meth (pv 0) T.cl_Play T.me_Play_do_all G_Play_do_all (hr.mono (by omega)) T.b_Play_do_all .nil (passes_call (takes_of rfl rfl rfl rfl) (fun _ _ _ _ h => h)) (pa_cons (pv 1) (pa_cons (pv 2) pa_nil))))
        (pss_one (ps_ret (pe_ifExp (pt_cmpR op_isN (pv 3) pe_non (nomark _)) pe_int (pv 3))))), ?_⟩
    obtain ⟨qx, eq⟩ := st.ob
    refine ⟨_, rfl, B.q, qx, _, rfl, eq, playF_no (by decide +kernel) (by decide +kernel) (by decide +kernel), _, rfl, _, rfl, hs, rs, B, hh, M, N, s, s', v, bd, r, F, rfl, st, dp, ok, hd, ?_⟩
    cases r with
    | fin =>
      intro H' k' st'
      refine ⟨_, rfl, rfl, _, rfl, ?_⟩
      exact po H' k' st'
    | gave v =>
      intro H' k' st' i'
      refine ⟨_, rfl, rfl, _, rfl, ?_⟩
      exact ⟨_, rfl, po H' k' st' i'⟩
    | on => exact po
    | flt w => exact po
end

section
variable {K : PySem.W.Frag}
theorem wxs_err {kn : Kn} {rw : Rw} : ∀ {es : List Ex} {i : Nat} {vs : List Int} {e : Ex} {f : Str}, wxs (es.take i) kn rw = .ok vs → es[i]? = some e → wx e kn rw = .error f → wxs es kn rw = .error f
  | [], i, vs, e, f, _, h, _ => by simp at h
  | a :: r, 0, vs, e, f, _, h, he => by
    simp at h
    subst h
    simp only [wxs, he]
  | a :: r, i + 1, vs, e, f, h0, h, he => by
    rw [List.take_succ_cons] at h0
    rw [List.getElem?_cons_succ] at h
    unfold wxs at h0 ⊢
    cases ha : wx a kn rw with
    | error g => rw [ha] at h0; cases h0
    | ok v =>
      rw [ha] at h0
      dsimp only at h0 ⊢
      cases hb : wxs (r.take i) kn rw with
      | error g => rw [hb] at h0; cases h0
      | ok us => rw [wxs_err hb h he]
theorem wxs_add {kn : Kn} {rw : Rw} : ∀ {es : List Ex} {i : Nat} {vs : List Int} {e : Ex} {v : Int}, wxs (es.take i) kn rw = .ok vs → es[i]? = some e → wx e kn rw = .ok v → wxs (es.take (i + 1)) kn rw = .ok (vs ++ [v])
  | [], i, vs, e, v, _, h, _ => by simp at h
  | a :: r, 0, vs, e, v, h0, h, he => by
    simp at h
    subst h
    simp only [List.take_zero, wxs] at h0
    cases h0
    simp only [Nat.zero_add, List.take_succ_cons, List.take_zero, wxs, he]
    rfl
  | a :: r, i + 1, vs, e, v, h0, h, he => by
    rw [List.take_succ_cons] at h0 ⊢
    rw [List.getElem?_cons_succ] at h
    unfold wxs at h0 ⊢
    cases ha : wx a kn rw with
    | error g => rw [ha] at h0; cases h0
    | ok u =>
      rw [ha] at h0
      dsimp only at h0 ⊢
      cases hb : wxs (r.take i) kn rw with
      | error g => rw [hb] at h0; cases h0
      | ok us =>
        rw [hb] at h0
        cases h0
        rw [wxs_add hb h he]
        rfl
theorem wxs_32q {kn : Kn} {rw : Rw} {rs : List Str} (hk : Kn32 kn) (hr : Rw32 rw) : ∀ {es : List Ex} {vs : List Int}, (∀ e ∈ es, e.wf rs) → wxs es kn rw = .ok vs → ∀ v ∈ vs, In32 v
  | [], vs, _, h, v, hv => by simp only [wxs] at h; cases h; cases hv
  | a :: r, vs, hw, h, v, hv => by
    unfold wxs at h
    cases ha : wx a kn rw with
    | error g => rw [ha] at h; cases h
    | ok u =>
      rw [ha] at h
      dsimp only at h
      cases hb : wxs r kn rw with
      | error g => rw [hb] at h; cases h
      | ok us =>
        rw [hb] at h
        cases h
        rcases List.mem_cons.mp hv with e | h2
        · rw [e]
          exact wx_32 hk hr (hw a (List.mem_cons_self ..)) ha
        · exact wxs_32q hk hr (fun e he => hw e (List.mem_cons_of_mem _ he)) hb v h2
/-- back from a helper: our own room stands as it stood -/
theorem Std.back {hs : Hs} {rs : List Str} {A B : Adr} {h : Addr} {M N N' : Nat} {H H3 H4 : Hp} {s s1 : PSt} (k : Std K hs rs B h M N H s) (s3 : Same H H3) (k4 : Kp (SA [] { A with q := B.q, t := B.t }) H3 H4) (nd : H A.d = none) (st4 : Std K hs [] { A with q := B.q, t := B.t } h M N' H4 s1) (l1 : s1.lf ≤ s.lf) :
    Kp (SA rs B) H H4 ∧ Std K hs rs B h M N H4 { s with lf := s1.lf, td := s1.td } := by
  have a := k.ap
  have kk : ∀ {c : Addr} {o : HO}, H c = some o → c ≠ B.q → c ≠ B.t → H4 c = some o := fun {c o} e h1 h2 => k4 c o (s3 c o e) (fun z => by
    rcases z with z | z | z | ⟨x, hx, _⟩
    · have : H c = none := by rw [z]; exact nd
      rw [this] at e; cases e
    · exact absurd z h1
    · exact absurd z h2
    · cases hx)
  refine ⟨fun c o e hk => k4 c o (s3 c o e) (fun z => hk (by
    rcases z with z | z | z | ⟨x, hx, _⟩
    · have : H c = none := by rw [z]; exact nd
      rw [this] at e; cases e
    · exact .inr (.inl z)
    · exact .inr (.inr (.inl z))
    · cases hx)), ?_⟩
  obtain ⟨⟨dx, e1⟩, ⟨kvs, e2, l2, hv⟩, ⟨rvs, e5, v5⟩, e6⟩ := k.ro
  have nz := k.nz
  refine ⟨⟨⟨dx, kk e1 k.pq a.pt⟩, ⟨kvs, kk e2 a.dq a.dt, ?_, hv⟩, ⟨rvs, kk e5 a.rq a.rt, v5⟩, fun x hx => kk (e6 x hx) (a.aq x hx) (k.rt x hx)⟩, st4.ob, st4.tl, st4.hk, k.k32, k.r32, st4.sz, ?_, k.m6, k.n6, k.pq, k.rd, k.hd, k.rt, k.ri⟩
  · show kvs.length ≤ N - s1.lf
    omega
  · show s1.lf ≤ N
    omega
end

section
variable {P : Program} {w : World} {K : PySem.W.Frag} {mg : Str → Option Value} {base : Heap}
theorem len_ofS (x : String) : (Str.ofString x).length = x.toList.length := by
  have h0 : (Str.ofString x).length = (Str.ofString x).cps.toList.length := by simp [Str.length]
  have := TL.tl_ofString x
  rw [h0, show (Str.ofString x).cps.toList = x.toList.map Char.toNat from this, List.length_map]
theorem app_len (a b : Str) : (a ++ b).length = a.length + b.length := by
  show (a.cps ++ b.cps).size = _
  rw [Array.size_append]
  rfl
theorem int_len {n : Int} (h : In32 n) : ((toString n : String) : Str).length ≤ 13 := by
  obtain ⟨h1, h2⟩ := h
  rw [len_ofS, String.length_toList]
  exact Nat.le_trans (PySem.int_text_length_le10 (k := 10) (by decide) (by omega)) (by decide)
theorem ixN_of {n j : Nat} (hj : j < n) : ixN n (j : Int) = some j := by
  unfold ixN
  rw [if_pos (by omega), if_pos (by omega)]
  simp
theorem kn32_put {kn : Kn} {x : Str} {v : Int} (h : Kn32 kn) (hv : In32 v) : Kn32 (kput kn x v) := fun y u hy => by
  unfold kput at hy
  by_cases h2 : y = x
  · rw [if_pos h2] at hy
    cases hy
    exact hv
  · rw [if_neg h2] at hy
    exact h y u hy
theorem val_put {kvs : List (Key × V)} {kn : Kn} {x : Str} {v : Int} (hv : ∀ x, valV kvs (.inr x) = (kn x).map V.int) (y : Str) : valV (putK kvs (.inr x) (.int v)) (.inr y) = (kput kn x v y).map V.int := by
  rw [valV_put]
  unfold kput
  by_cases hy : y = x
  · rw [if_pos (by rw [hy]), if_pos hy]
    rfl
  · rw [if_neg (fun z => hy (by injection z)), if_neg hy]
    exact hv y
theorem Std.put {hs : Hs} {rs : List Str} {A : Adr} {h : Addr} {M N : Nat} {H : Hp} {s : PSt} {kvs : List (Key × V)} {x : Str} {v : Int} (k : Std K hs rs A h M N H s) (e : H A.d = some (.dK kvs)) (l : kvs.length ≤ N - s.lf) (hv : ∀ x, valV kvs (.inr x) = (s.kn x).map V.int) (v32 : In32 v) (m6 : M < 6000) (n6 : N < 7000) :
    Std K hs rs A h (M + 1) (N + 1) (upd H A.d (.dK (putK kvs (.inr x) (.int v)))) { s with kn := kput s.kn x v } := by
  have a := k.ap
  obtain ⟨dx, ep⟩ := k.ro.ob
  obtain ⟨rvs, er, hr⟩ := k.ro.rk
  obtain ⟨qx, eq⟩ := k.ob
  have sz := k.sz
  have nz := k.nz
  refine ⟨⟨⟨dx, by rw [upd_ne a.pd]; exact ep⟩, ⟨_, upd_same, ?_, val_put hv⟩, ⟨rvs, by rw [upd_ne k.rd]; exact er, hr⟩, fun x hx => by rw [upd_ne (a.ad x hx)]; exact k.ro.rl x hx⟩, ⟨qx, by rw [upd_ne a.dq.symm]; exact eq⟩, by rw [upd_ne a.dt.symm]; exact k.tl, k.hk.kp (Kp.upd (S := fun z => z = A.d) e trivial rfl) k.hd, kn32_put k.k32 v32, k.r32, by show s.td.length + s.lf ≤ M + 1; omega, by show s.lf ≤ N + 1; omega, by omega, by omega, k.pq, k.rd, k.hd, k.rt, k.ri⟩
  have := length_putK kvs (.inr x) (.int v)
  show (putK kvs (.inr x) (.int v)).length ≤ N + 1 - s.lf
  omega
theorem Std.say {hs : Hs} {rs : List Str} {A : Adr} {h : Addr} {M N : Nat} {H : Hp} {s : PSt} {v : Int} (k : Std K hs rs A h M N H s) (m6 : M < 6000) (n6 : N < 7000) : Std K hs rs A h (M + 1) (N + 1) (upd H A.t (.lst (s.td.map V.int ++ [.int v]))) { s with td := s.td ++ [v] } := by
  have a := k.ap
  obtain ⟨⟨dx, ep⟩, ⟨kvs, ed, l, hv⟩, ⟨rvs, er, hr⟩, rl⟩ := k.ro
  obtain ⟨qx, eq⟩ := k.ob
  have sz := k.sz
  have nz := k.nz
  refine ⟨⟨⟨dx, by rw [upd_ne a.pt]; exact ep⟩, ⟨kvs, by rw [upd_ne a.dt]; exact ed, ?_, hv⟩, ⟨rvs, by rw [upd_ne a.rt]; exact er, hr⟩, fun x hx => by rw [upd_ne (k.rt x hx)]; exact rl x hx⟩, ⟨qx, by rw [upd_ne a.qt]; exact eq⟩, ?_, k.hk.kp (Kp.upd (S := fun z => z = A.t) k.tl trivial rfl) a.ht, k.k32, k.r32, ?_, by show s.lf ≤ N + 1; omega, by omega, by omega, k.pq, k.rd, k.hd, k.rt, k.ri⟩
  · show kvs.length ≤ N + 1 - s.lf
    omega
  · rw [upd_same]
    show _ = some (HO.lst ((s.td ++ [v]).map V.int))
    rw [List.map_append]
    rfl
  · show (s.td ++ [v]).length + s.lf ≤ M + 1
    rw [List.length_append, List.length_singleton]
    omega
theorem rw32_put {rw' : Rw} {x : Str} {i : Nat} {v : Int} (h : Rw32 rw') (hv : In32 v) : Rw32 (rput rw' x i v) := fun y u hu => by
  unfold rput at hu
  by_cases hy : y = x
  · rw [if_pos hy] at hu
    rcases List.mem_or_eq_of_mem_set hu with z | z
    · exact h x u z
    · rw [z]; exact hv
  · rw [if_neg hy] at hu
    exact h y u hu
theorem Std.rput {hs : Hs} {rs : List Str} {A : Adr} {h : Addr} {M N : Nat} {H : Hp} {s : PSt} {x : Str} {i : Nat} {v : Int} (k : Std K hs rs A h M N H s) (hx : x ∈ rs) (v32 : In32 v) : Std K hs rs A h M N (upd H (A.ra x) (.lst (((s.rw x).map V.int).set i (.int v)))) { s with rw := rput s.rw x i v } := by
  have a := k.ap
  obtain ⟨⟨dx, ep⟩, ⟨kvs, ed, l, hv⟩, ⟨rvs, er, hr⟩, rl⟩ := k.ro
  obtain ⟨qx, eq⟩ := k.ob
  refine ⟨⟨⟨dx, by rw [upd_ne (a.ap x hx).symm]; exact ep⟩, ⟨kvs, by rw [upd_ne (a.ad x hx).symm]; exact ed, l, hv⟩, ⟨rvs, by rw [upd_ne (a.ar x hx).symm]; exact er, hr⟩, fun y hy => ?_⟩, ⟨qx, by rw [upd_ne (a.aq x hx).symm]; exact eq⟩, by rw [upd_ne (k.rt x hx).symm]; exact k.tl, k.hk.kp (Kp.upd (S := fun z => z = A.ra x) (rl x hx) trivial rfl) (fun z => a.ah x hx z.symm), k.k32, rw32_put k.r32 v32, k.sz, k.nz, k.m6, k.n6, k.pq, k.rd, k.hd, k.rt, k.ri⟩
  show upd H (A.ra x) _ (A.ra y) = some (.lst ((if y = x then (s.rw x).set i v else s.rw y).map V.int))
  by_cases e : y = x
  · rw [e, if_pos rfl, upd_same, List.map_set]
  · rw [if_neg e, upd_ne (fun z => e (k.ri y hy x hx z))]
    exact rl y hy
theorem ok_one_of (T : Top K mg) (n k : Nat) (hk : 15 ≤ k) (G_Play_do_all : FnOk P w K mg base (L2.CX P w) k (He.ma K (He.ga K "Play") "do_all") T.fd_Play_do_all ["self", "body", "room"] (sp_all K n)) :
    FnOk P w K mg base (L2.CX P w) (k + 3) (He.ma K (He.ga K "Play") "do_one") T.fd_Play_do_one ["self", "statement", "room"] (sp_one K (n + 1)) := by
  have G_Play_again := ok_again_of T n k hk G_Play_do_all
  have G_Room_worth := ok_Room_worth (P := P) (w := w) (base := base) T 10
  have G_Room_row_with := ok_Room_row_with (P := P) (w := w) (base := base) T
  have G_Faulted___init__ := ok_Faulted_init (P := P) (w := w) (base := base) T
  have G_Play_play_body := ok_body_of T n k G_Play_do_all
  have G_Room___init__ := ok_Room_initL (P := P) (w := w) (base := base) T
  refine T.F_Play_do_one.ok sc_Play_do_one (fun vs H Q E h => ?_) (fun cdv A outer s H vs Q E hr h => ?_)
  · obtain ⟨hs, rs, A, h, M, N, s, s', v, m, r, F, rfl, _⟩ := h
    rfl
  · obtain ⟨hs, rs, B, hh, M, N, s, s', v, m, r, F, rfl, st, dp, ok, hd, m6, n6, po⟩ := h
    refine ⟨_, (pss_cons (ps_set (i := 3) sc_Play_do_one.nd rfl (Or.inl rfl) (pe_ix ix_tup (pv 1) pe_int (fun _ _ => rfl)))
        (pss_cons (ps_if (pt_cmpR op_eq (pv 3) pe_str (nomark _)) (pss_one (ps_ret (pe_meth (pv 2) T.cl_Room T.me_Room_worth G_Room_worth (hr.mono (by omega)) T.b_Room_worth .nil (passes_call (takes_of rfl rfl rfl rfl) (fun _ _ _ _ h => h)) (pa_cons (pe_ix ix_tup (pv 1) pe_int (fun _ _ => rfl)) pa_nil)))) pss_nil)
        (pss_cons (ps_if (pt_cmpR op_eq (pv 3) pe_str (nomark _)) (pss_cons (ps_set (i := 4) sc_Play_do_one.nd rfl (Or.inl rfl) (pe_ix ix_tup (pv 1) pe_int (fun _ _ => rfl)))
        (pss_one (ps_raise rfl (takes_of rfl rfl rfl rfl) (pmk_oex T.o_Faulted T.in_Faulted.iC T.in_Faulted.tI G_Faulted___init__ (hr.mono (by omega)) T.b_Faulted___init__ .nil pass0 (by rfl) T.g_Faulted (pa_cons (pe_joined (.cons pe_str (.cons (pe_fmt (pv 4)) .nil))) pa_nil))))) pss_nil)
        (pss_cons (ps_if (pt_cmpR op_eq (pv 3) pe_str (nomark _)) (pss_one (ps_ret (pe_meth (pv 0) T.cl_Play T.me_Play_do_all G_Play_do_all (hr.mono (by omega)) T.b_Play_do_all .nil (passes_call (takes_of rfl rfl rfl rfl) (fun _ _ _ _ h => h)) (pa_cons (pe_ifExp (pt_cmpR op_ne (pe_meth (pv 2) T.cl_Room T.me_Room_worth G_Room_worth (hr.mono (by omega)) T.b_Room_worth .nil (passes_call (takes_of rfl rfl rfl rfl) (fun _ _ _ _ h => h)) (pa_cons (pe_ix ix_tup (pv 1) pe_int (fun _ _ => rfl)) pa_nil)) pe_int (nomark _)) (pe_ix ix_tup (pv 1) pe_int (fun _ _ => rfl)) (pe_ix ix_tup (pv 1) pe_int (fun _ _ => rfl))) (pa_cons (pv 2) pa_nil))))) pss_nil)
        (pss_cons (ps_if (pt_cmpR op_eq (pv 3) pe_str (nomark _)) (pss_one (ps_ret (pe_meth (pv 0) T.cl_Play T.me_Play_again G_Play_again (hr.mono (by omega)) T.b_Play_again .nil (passes_call (takes_of rfl rfl rfl rfl) (fun _ _ _ _ h => h)) (pa_cons (pv 1) (pa_cons (pv 2) pa_nil))))) pss_nil)
        (pss_cons (ps_if (pt_cmpR op_eq (pv 3) pe_str (nomark _)) (pss_one (ps_dput (hu_of hr) (pe_fld (pv 2) rfl) (pe_ix ix_tup (pv 1) pe_int (fun _ _ => rfl)) (pe_meth (pv 2) T.cl_Room T.me_Room_worth G_Room_worth (hr.mono (by omega)) T.b_Room_worth .nil (passes_call (takes_of rfl rfl rfl rfl) (fun _ _ _ _ h => h)) (pa_cons (pe_ix ix_tup (pv 1) pe_int (fun _ _ => rfl)) pa_nil)) (by rfl))) (pss_one (ps_if (pt_cmpR op_eq (pv 3) pe_str (nomark _)) (pss_one (ps_expr (pe_bm PySem.F.plainAttrs_list PySem.F.slot_list_append PySem.F.type_list_append mt_append (pe_fld (pv 0) rfl) (pa_cons (pe_meth (pv 2) T.cl_Room T.me_Room_worth G_Room_worth (hr.mono (by omega)) T.b_Room_worth .nil (passes_call (takes_of rfl rfl rfl rfl) (fun _ _ _ _ h => h)) (pa_cons (pe_ix ix_tup (pv 1) pe_int (fun _ _ => rfl)) pa_nil)) pa_nil)))) (pss_one (ps_if (pt_cmpR op_eq (pv 3) pe_str (nomark _)) (pss_cons (ps_set (i := 5) sc_Play_do_one.nd rfl (Or.inl rfl) (pe_meth (pv 2) T.cl_Room T.me_Room_worth G_Room_worth (hr.mono (by omega)) T.b_Room_worth .nil (passes_call (takes_of rfl rfl rfl rfl) (fun _ _ _ _ h => h)) (pa_cons (pe_ix ix_tup (pv 1) pe_int (fun _ _ => rfl)) pa_nil)))
        (pss_cons (ps_set (i := 4) sc_Play_do_one.nd rfl (Or.inl rfl) (pe_meth (pv 2) T.cl_Room T.me_Room_worth G_Room_worth (hr.mono (by omega)) T.b_Room_worth .nil (passes_call (takes_of rfl rfl rfl rfl) (fun _ _ _ _ h => h)) (pa_cons (pe_ix ix_tup (pv 1) pe_int (fun _ _ => rfl)) pa_nil)))
        (pss_one (ps_asg (pv 4) (pg_sub (pe_meth (pv 2) T.cl_Room T.me_Room_row_with G_Room_row_with (hr.mono (by omega)) T.b_Room_row_with .nil (passes_call (takes_of rfl rfl rfl rfl) (fun _ _ _ _ h => h)) (pa_cons (pe_ix ix_tup (pv 1) pe_int (fun _ _ => rfl)) (pa_cons (pv 5) pa_nil))) (pv 5) set_list))))) (pss_cons (ps_asg (pe_dget (hu_of hr) (pe_fld (pv 0) rfl) (pe_ix ix_tup (pv 1) pe_int (fun _ _ => rfl)) (fun _ _ => rfl)) (pg_tup (n := 2) (by rfl) (pgs_cons (pg_name (i := 6) sc_Play_do_one.nd rfl (Or.inl rfl)) (pgs_cons (pg_name (i := 7) sc_Play_do_one.nd rfl (Or.inl rfl)) pgs_nil))))
        (pss_cons (LcX.ps_setLcX (i := 8) (own := [("e", 9)]) rfl rfl (takes_of rfl rfl rfl rfl) (by rfl) sc_Play_do_one.nd rfl rfl (sw_true rfl rfl rfl (by decide +kernel)) (pi_tup (pe_ix ix_tup (pv 1) pe_int (fun _ _ => rfl))) (blkOk_by (own := [("e", 9)]) (N := N_Play_do_one) (sc := defScope s_Play_do_one) (by decide +kernel)) (fun _ _ _ _ _ => (pg_name (i := 9) sc_Play_do_one.nd rfl (Or.inl rfl))) (fun _ _ _ _ _ => pts_nil) (fun _ _ _ _ _ _ hp => (pe_meth (pv 2) T.cl_Room T.me_Room_worth G_Room_worth (hr.mono (by omega)) T.b_Room_worth .nil hp (pa_cons (pv 9) pa_nil))))
        (pss_one (ps_dput (hu_of hr) (pe_fld (pv 2) rfl) (pe_ix ix_tup (pv 1) pe_int (fun _ _ => rfl)) (pe_meth (pv 0) T.cl_Play T.me_Play_play_body G_Play_play_body (hr.mono (by omega)) T.b_Play_play_body .nil (passes_call (takes_of rfl rfl rfl rfl) (fun _ _ _ _ h => h)) (pa_cons (pv 7) (pa_cons (pe_make T.mk_Room G_Room___init__ (hr.mono (by omega)) (by rfl) T.g_Room T.b_Room___init__ .nil pass0 (pa_cons (pv 6) (pa_cons (pv 8) (pa_cons (pe_lst pa_nil) pa_nil)))) pa_nil))) (by rfl))))))))))
        (pss_one (ps_ret pe_non)))))))), ?_⟩
    obtain ⟨dx, ep⟩ := st.ro.ob
    obtain ⟨qx, eq⟩ := st.ob
    have up : Std K hs rs B hh (M + 1) (N + 1) H s := st.mono (by omega) (by omega) (by omega) (by omega)
    cases F with
    | zero => simp [doOne] at hd
    | succ F =>
      cases m with
      | give e =>
        obtain ⟨p0, xs, rfl, hp, da⟩ := dp_tup dp
        obtain ⟨x0, r0, rfl, d0, e0⟩ := dpAll_cons da
        obtain ⟨x1, r1, rfl, d1, e1⟩ := dpAll_cons e0
        cases dp_str d0
        rw [doOne] at hd
        refine ⟨_, rfl, p0, _, 0, _, rfl, rfl, hp, atI_nat (j := 0) rfl, ?_⟩
        refine ⟨_, rfl, rfl, _, rfl, ifD rfl ?_⟩
        refine ⟨_, rfl, B.p, dx, _, rfl, ep, roomF_no (by decide +kernel) (by decide +kernel), _, rfl, p0, _, 1, _, rfl, rfl, hp, atI_nat (j := 1) rfl, B, rs, x1, e, s.kn, s.rw, _, rfl, ok.1, ok.2, st.ro, st.k32, st.r32, d1, fun z hw H2 s2 => ?_, fun f hf => ?_⟩
        · rw [hw] at hd
          cases hd
          exact po _ (Kp.of_same s2) (up.sm s2) (wx_32 st.k32 st.r32 ok.2 hw)
        · rw [hf] at hd
          cases hd
          exact po.flt up
      | fail n =>
        obtain ⟨p0, xs, rfl, hp, da⟩ := dp_tup dp
        obtain ⟨x0, r0, rfl, d0, e0⟩ := dpAll_cons da
        obtain ⟨x1, r1, rfl, d1, e1⟩ := dpAll_cons e0
        cases dp_str d0
        cases dp_int d1
        rw [doOne] at hd
        cases hd
        refine ⟨_, rfl, p0, _, 0, _, rfl, rfl, hp, atI_nat (j := 0) rfl, ?_⟩
        refine ⟨_, rfl, rfl, _, rfl, ifN (by decide +kernel) ?_⟩
        refine ⟨_, rfl, rfl, _, rfl, ifD rfl ?_⟩
        refine ⟨_, rfl, p0, _, 1, _, rfl, rfl, hp, atI_nat (j := 1) rfl, ?_⟩
        have hl : n.natAbs.log2 < 1920 := by
          have i32 : In32 n := ok.1
          have h1 : n.natAbs < 2 ^ 40 := by
            have := i32.1
            have := i32.2
            omega
          have := PySem.Flt.log2_lt_of (show 0 < 40 by decide) h1
          omega
        have hlen := int_len (n := n) ok.1
        refine ⟨_, rfl, by decide +kernel, _, rfl, .inr ⟨n, rfl, hl, _, rfl, ?_, ?_⟩⟩
        · rw [empty_app]
          have := app_len ("fail " : Str) (toString n : Str)
          rw [this, sizeLine_eq]
          have : ("fail " : Str).length = 5 := by decide +kernel
          omega
        · rw [empty_app]
          exact flt_mk (po.flt up)
      | tell e =>
        obtain ⟨p0, xs, rfl, hp, da⟩ := dp_tup dp
        obtain ⟨x0, r0, rfl, d0, e0⟩ := dpAll_cons da
        obtain ⟨x1, r1, rfl, d1, e1⟩ := dpAll_cons e0
        cases dp_str d0
        rw [doOne] at hd
        refine ⟨_, rfl, p0, _, 0, _, rfl, rfl, hp, atI_nat (j := 0) rfl, ?_⟩
        refine ⟨_, rfl, rfl, _, rfl, ifN (by decide +kernel) ?_⟩
        refine ⟨_, rfl, rfl, _, rfl, ifN (by decide +kernel) ?_⟩
        refine ⟨_, rfl, rfl, _, rfl, ifN (by decide +kernel) ?_⟩
        refine ⟨_, rfl, rfl, _, rfl, ifN (by decide +kernel) ?_⟩
        refine ⟨_, rfl, rfl, _, rfl, ifN (by decide +kernel) ?_⟩
        refine ⟨_, rfl, rfl, _, rfl, ifD rfl ?_⟩
        refine ⟨_, rfl, B.q, _, qx, _, _, rfl, eq, T.cl_Play, T.no_Play_told, playF_told _ _ _, .inl ⟨rfl, _, .of st.tl⟩, ?_⟩
        refine ⟨_, rfl, B.p, dx, _, rfl, ep, roomF_no (by decide +kernel) (by decide +kernel), _, rfl, p0, _, 1, _, rfl, rfl, hp, atI_nat (j := 1) rfl, B, rs, x1, e, s.kn, s.rw, _, rfl, ok.1, ok.2, st.ro, st.k32, st.r32, d1, fun z hw H2 s2 => ?_, fun f hf => ?_⟩
        · rw [hw] at hd
          cases hd
          have st2 := st.sm s2
          refine ⟨B.t, _, _, rfl, rfl, st2.tl, ?_, ?_⟩
          · rw [List.length_map, sizeLine_eq]
            have := st.sz
            omega
          · exact po _ ((Kp.of_same s2).trans (Kp.upd st2.tl trivial (.inr (.inr (.inl rfl))))) (st2.say m6 n6)
        · rw [hf] at hd
          cases hd
          exact po.flt up
      | set x e =>
        obtain ⟨p0, xs, rfl, hp, da⟩ := dp_tup dp
        obtain ⟨x0, r0, rfl, d0, e0⟩ := dpAll_cons da
        obtain ⟨x1, r1, rfl, d1, e1⟩ := dpAll_cons e0
        obtain ⟨x2, r2, rfl, d2, e2⟩ := dpAll_cons e1
        cases dp_str d0
        cases dp_str d1
        rw [doOne] at hd
        refine ⟨_, rfl, p0, _, 0, _, rfl, rfl, hp, atI_nat (j := 0) rfl, ?_⟩
        refine ⟨_, rfl, rfl, _, rfl, ifN (by decide +kernel) ?_⟩
        refine ⟨_, rfl, rfl, _, rfl, ifN (by decide +kernel) ?_⟩
        refine ⟨_, rfl, rfl, _, rfl, ifN (by decide +kernel) ?_⟩
        refine ⟨_, rfl, rfl, _, rfl, ifN (by decide +kernel) ?_⟩
        refine ⟨_, rfl, rfl, _, rfl, ifD rfl ?_⟩
        refine ⟨_, rfl, B.p, dx, _, rfl, ep, roomF_no (by decide +kernel) (by decide +kernel), _, rfl, p0, _, 2, _, rfl, rfl, hp, atI_nat (j := 2) rfl, B, rs, x2, e, s.kn, s.rw, _, rfl, ok.1, ok.2, st.ro, st.k32, st.r32, d2, fun z hw H2 s2 => ?_, fun f hf => ?_⟩
        · rw [hw] at hd
          cases hd
          have st2 := st.sm s2
          obtain ⟨kvs, ed, lk, hv⟩ := st2.ro.dk
          refine ⟨_, rfl, B.p, _, dx, _, _, rfl, s2 _ _ ep, T.cl_Room, T.no_Room_known, roomF_known _ _, _, rfl, p0, _, 1, _, rfl, rfl, sqT_sm s2 hp, atI_nat (j := 1) rfl, B.d, _, rfl, .inl ⟨kvs, .inr x, ed, rfl, ?_, rfl⟩, ?_⟩
          · rw [sizeLine_eq]
            omega
          · exact po _ ((Kp.of_same s2).trans (Kp.upd ed trivial (.inl rfl))) (st2.put ed lk hv (wx_32 st.k32 st.r32 ok.2 hw) m6 n6)
        · rw [hf] at hd
          cases hd
          exact po.flt up
      | put x e f =>
        obtain ⟨p0, xs, rfl, hp, da⟩ := dp_tup dp
        obtain ⟨x0, r0, rfl, d0, e0⟩ := dpAll_cons da
        obtain ⟨x1, r1, rfl, d1, e1⟩ := dpAll_cons e0
        obtain ⟨x2, r2, rfl, d2, e2⟩ := dpAll_cons e1
        obtain ⟨x3, r3, rfl, d3, e3⟩ := dpAll_cons e2
        cases dp_str d0
        cases dp_str d1
        rw [doOne] at hd
        refine ⟨_, rfl, p0, _, 0, _, rfl, rfl, hp, atI_nat (j := 0) rfl, ?_⟩
        refine ⟨_, rfl, rfl, _, rfl, ifN (by decide +kernel) ?_⟩
        refine ⟨_, rfl, rfl, _, rfl, ifN (by decide +kernel) ?_⟩
        refine ⟨_, rfl, rfl, _, rfl, ifN (by decide +kernel) ?_⟩
        refine ⟨_, rfl, rfl, _, rfl, ifN (by decide +kernel) ?_⟩
        refine ⟨_, rfl, rfl, _, rfl, ifN (by decide +kernel) ?_⟩
        refine ⟨_, rfl, rfl, _, rfl, ifN (by decide +kernel) ?_⟩
        refine ⟨_, rfl, rfl, _, rfl, ifD rfl ?_⟩
        refine ⟨_, rfl, B.p, dx, _, rfl, ep, roomF_no (by decide +kernel) (by decide +kernel), _, rfl, p0, _, 2, _, rfl, rfl, hp, atI_nat (j := 2) rfl, B, rs, x2, e, s.kn, s.rw, _, rfl, ok.2.1.1, ok.2.1.2, st.ro, st.k32, st.r32, d2, fun z hw H2 s2 => ?_, fun g hf => ?_⟩
        · rw [hw] at hd
          dsimp only at hd
          have st2 := st.sm s2
          refine ⟨_, rfl, B.p, dx, _, rfl, s2 _ _ ep, roomF_no (by decide +kernel) (by decide +kernel), _, rfl, p0, _, 3, _, rfl, rfl, sqT_sm s2 hp, atI_nat (j := 3) rfl, B, rs, x3, f, s.kn, s.rw, _, rfl, ok.2.2.1, ok.2.2.2, st2.ro, st.k32, st.r32, dp_sm s2 d3, fun v hv H3 s3 => ?_, fun g hf => ?_⟩
          · rw [hv] at hd
            dsimp only at hd
            have s23 := s2.trans s3
            have st3 := st.sm s23
            refine ⟨_, rfl, _, rfl, B.p, dx, _, rfl, s23 _ _ ep, roomF_no (by decide +kernel) (by decide +kernel), _, rfl, p0, _, 1, _, rfl, rfl, sqT_sm s23 hp, atI_nat (j := 1) rfl, _, rfl, B, rs, s.kn, s.rw, _, x, z, rfl, st3.ro, ok.1, fun hz => ?_, fun hz => ?_⟩
            · rw [if_pos hz] at hd
              cases hd
              have el := st3.ro.rl x ok.1
              obtain ⟨j, rfl⟩ := Int.eq_ofNat_of_zero_le hz.1
              refine ⟨_, rfl, B.ra x, _, _, j, rfl, rfl, el, ?_, ?_⟩
              · rw [List.length_map]
                exact ixN_of (by omega)
              · exact po _ ((Kp.of_same s23).trans (Kp.upd el trivial (.inr (.inr (.inr ⟨x, ok.1, rfl⟩))))) ((st3.mono (by omega) (by omega) (by omega) (by omega)).rput ok.1 (wx_32 st.k32 st.r32 ok.2.2.2 hv))
            · rw [if_neg hz] at hd
              cases hd
              exact (po.kp (Kp.of_same s23)).flt (up.sm s23)
          · rw [hf] at hd
            cases hd
            exact (po.kp (Kp.of_same s2)).flt (up.sm s2)
        · rw [hf] at hd
          cases hd
          exact po.flt up
      | ite e ys ns =>
        obtain ⟨p0, xs, rfl, hp, da⟩ := dp_tup dp
        obtain ⟨x0, r0, rfl, d0, e0⟩ := dpAll_cons da
        obtain ⟨x1, r1, rfl, d1, e1⟩ := dpAll_cons e0
        obtain ⟨x2, r2, rfl, d2, e2⟩ := dpAll_cons e1
        obtain ⟨x3, r3, rfl, d3, e3⟩ := dpAll_cons e2
        cases dp_str d0
        rw [doOne] at hd
        refine ⟨_, rfl, p0, _, 0, _, rfl, rfl, hp, atI_nat (j := 0) rfl, ?_⟩
        refine ⟨_, rfl, rfl, _, rfl, ifN (by decide +kernel) ?_⟩
        refine ⟨_, rfl, rfl, _, rfl, ifN (by decide +kernel) ?_⟩
        refine ⟨_, rfl, rfl, _, rfl, ifD rfl ?_⟩
        refine ⟨_, rfl, B.q, qx, _, rfl, eq, playF_no (by decide +kernel) (by decide +kernel) (by decide +kernel), ?_⟩
        refine ⟨_, rfl, B.p, dx, _, rfl, ep, roomF_no (by decide +kernel) (by decide +kernel), _, rfl, p0, _, 1, _, rfl, rfl, hp, atI_nat (j := 1) rfl, B, rs, x1, e, s.kn, s.rw, _, rfl, ok.1.1, ok.1.2, st.ro, st.k32, st.r32, d1, fun z hw H2 s2 => ?_, fun f hf => ?_⟩
        · rw [hw] at hd
          dsimp only at hd
          have st2 := st.sm s2
          have hp2 := sqT_sm s2 hp
          have po2 := Post.mono (Nat.le_succ M) (by omega) (Nat.le_succ N) (by omega) (Post.kp (Kp.of_same s2) po)
          refine ⟨rfl, _, rfl, ?_⟩
          by_cases hz : z = 0
          · rw [if_neg (fun y => y hz)] at hd
            refine ifNF (by rw [hz]) ?_
            exact ⟨_, rfl, p0, _, 3, _, rfl, rfl, hp2, atI_nat (j := 3) rfl, _, rfl, hs, rs, B, hh, M, N, s, s', x3, ns, r, F, rfl, st2, dp_sm s2 d3, ok.2.2, hd, po2⟩
          · rw [if_pos hz] at hd
            refine ifNT (fun y => hz (V.int.inj y)) ?_
            exact ⟨_, rfl, p0, _, 2, _, rfl, rfl, hp2, atI_nat (j := 2) rfl, _, rfl, hs, rs, B, hh, M, N, s, s', x2, ys, r, F, rfl, st2, dp_sm s2 d2, ok.2.1, hd, po2⟩
        · rw [hf] at hd
          cases hd
          exact po.flt up
      | loop e b =>
        have dp0 := dp
        obtain ⟨p0, xs, rfl, hp, da⟩ := dp_tup dp
        obtain ⟨x0, r0, rfl, d0, e0⟩ := dpAll_cons da
        cases dp_str d0
        rw [doOne] at hd
        have po2 := Post.mono (Nat.le_succ M) (by omega) (Nat.le_succ N) (by omega) po
        refine ⟨_, rfl, p0, _, 0, _, rfl, rfl, hp, atI_nat (j := 0) rfl, ?_⟩
        refine ⟨_, rfl, rfl, _, rfl, ifN (by decide +kernel) ?_⟩
        refine ⟨_, rfl, rfl, _, rfl, ifN (by decide +kernel) ?_⟩
        refine ⟨_, rfl, rfl, _, rfl, ifN (by decide +kernel) ?_⟩
        refine ⟨_, rfl, rfl, _, rfl, ifD rfl ?_⟩
        exact ⟨_, rfl, B.q, qx, _, rfl, eq, playF_no (by decide +kernel) (by decide +kernel) (by decide +kernel), _, rfl, _, rfl, hs, rs, B, hh, M, N, s, s', _, e, b, r, F, rfl, st, dp0, ok.1, ok.2, hd, po2⟩
      | call x h es =>
        obtain ⟨_, okE, l100, pr, bdy, hh1, lpe, okB⟩ := ok
        obtain ⟨p0, xs, rfl, hp, da⟩ := dp_tup dp
        obtain ⟨x0, r0, rfl, d0, e0⟩ := dpAll_cons da
        obtain ⟨x1, r1, rfl, d1, e1⟩ := dpAll_cons e0
        obtain ⟨x2, r2, rfl, d2, e2⟩ := dpAll_cons e1
        obtain ⟨x3, r3, rfl, d3, e3⟩ := dpAll_cons e2
        cases dp_str d0
        cases dp_str d1
        cases dp_str d2
        obtain ⟨p3, es3, rfl, hp3, d33⟩ := dp_tup d3
        have l3 : es3.length = es.length := by rw [dpAll_len d33, List.length_map]
        rw [doOne] at hd
        rw [hh1] at hd
        dsimp only at hd
        refine ⟨_, rfl, p0, _, 0, _, rfl, rfl, hp, atI_nat (j := 0) rfl, ?_⟩
        refine ⟨_, rfl, rfl, _, rfl, ifN (by decide +kernel) ?_⟩
        refine ⟨_, rfl, rfl, _, rfl, ifN (by decide +kernel) ?_⟩
        refine ⟨_, rfl, rfl, _, rfl, ifN (by decide +kernel) ?_⟩
        refine ⟨_, rfl, rfl, _, rfl, ifN (by decide +kernel) ?_⟩
        refine ⟨_, rfl, rfl, _, rfl, ifN (by decide +kernel) ?_⟩
        refine ⟨_, rfl, rfl, _, rfl, ifN (by decide +kernel) ?_⟩
        refine ⟨_, rfl, rfl, _, rfl, ifN (by decide +kernel) ?_⟩
        obtain ⟨hvs, ehv, fhv⟩ := st.hk
        obtain ⟨u, hu, du⟩ := fhv h (pr, bdy) hh1
        obtain ⟨pu, us, rfl, hpu, dus⟩ := dp_tup du
        obtain ⟨y0, w0, rfl, g0, f0⟩ := dpAll_cons dus
        obtain ⟨y1, w1, rfl, g1, f1⟩ := dpAll_cons f0
        cases dpAll_nil f1
        obtain ⟨pp, us0, rfl, hpp, dpp⟩ := dp_tup g0
        have hd0 : DGet H hh (.str h) (some (.ref pu)) := by
          have := DGet.k (k := .inr h) ehv
          rw [hu] at this
          exact this
        refine ⟨_, rfl, B.q, _, qx, _, _, rfl, eq, T.cl_Play, T.no_Play_helpers, playF_helpers _ _ _, _, rfl, p0, _, 2, _, rfl, rfl, hp, atI_nat (j := 2) rfl, hh, _, rfl, hd0, ?_⟩
        refine ⟨pu, _, rfl, hpu, rfl, _, _, rfl, _, _, rfl, rfl, ?_⟩
        refine ⟨_, rfl, p0, _, 3, _, rfl, rfl, hp, atI_nat (j := 3) rfl, p3, rfl, ⟨_, hp3⟩, fun D nD => ?_⟩
        refine lc_tup (K := K) (a := p3) (xs := es3) (fun i H' => Same H H' ∧ ∃ vs : List Int, wxs (es.take i) s.kn s.rw = .ok vs ∧ H' D = some (.lst (vs.map V.int)) ∧ vs.length = i) ?_ ?_ ?_ ?_
        · exact ⟨same_new nD, [], by simp only [List.take_zero, wxs], upd_same, rfl⟩
        · rintro i H1 _ ⟨s1, _⟩
          exact sqT_sm s1 hp3
        · rintro i y H1 hy ⟨s1, vs, hw, eD, lv⟩
          have il : i < es.length := by
            have := (List.getElem?_eq_some_iff.mp hy).1
            omega
          obtain ⟨dd, hdd, ddd⟩ := dpAll_getV d33 hy
          rw [List.getElem?_map, List.getElem?_eq_getElem il] at hdd
          cases hdd
          have oe := okE es[i] (List.getElem_mem il)
          have gi := List.getElem?_eq_getElem il
          refine ⟨rfl, _, rfl, B.p, dx, _, rfl, s1 _ _ ep, roomF_no (by decide +kernel) (by decide +kernel), _, rfl, B, rs, y, es[i], s.kn, s.rw, _, rfl, oe.1, oe.2, (st.sm s1).ro, st.k32, st.r32, dp_sm s1 ddd, fun z hz H2 s2 => ?_, fun f hf => ?_⟩
          · refine ⟨_, s2 _ _ eD, by rw [List.length_map, lv, sizeLine_eq]; omega, same_upd (s1.trans s2) nD, vs ++ [z], wxs_add hw gi hz, by rw [upd_same, List.map_append]; rfl, by rw [List.length_append, lv]; rfl⟩
          · rw [wxs_err hw gi hf] at hd
            cases hd
            exact (po.flt up).sm s1
        rintro H1 ⟨s1, vs, hw, eD, lv⟩
        rw [l3, List.take_length] at hw
        rw [hw] at hd
        dsimp only at hd
        have v32 := wxs_32q st.k32 st.r32 (fun e he => (okE e he).2) hw
        have lz : pr.length = vs.length := by rw [lpe, lv, l3]
        have hpz1 : (pr.zip vs).map (fun x => V.str x.1) = pr.map V.str := by
          have : (pr.zip vs).map (fun x => V.str x.1) = ((pr.zip vs).map Prod.fst).map V.str := by rw [List.map_map]; rfl
          rw [this, List.map_fst_zip (by omega)]
        have hpz2 : (pr.zip vs).map (·.2) = vs := List.map_snd_zip (by omega)
        have hus0 : us0 = pr.map V.str := by
          have : ∀ {l : List Str} {vs : List V}, DpAll K H vs (l.map PyData.str) → vs = l.map V.str := fun {l} => by
            induction l with
            | nil => intro vs hh; exact dpAll_nil hh
            | cons a r ih =>
              intro vs hh
              obtain ⟨v, q, rfl, g, k⟩ := dpAll_cons hh
              cases dp_str g
              rw [ih k]
              rfl
          exact this dpp
        subst hus0
        dsimp only [gName]
        refine ⟨_, rfl, B.q, qx, _, rfl, s1 _ _ eq, playF_no (by decide +kernel) (by decide +kernel) (by decide +kernel), _, rfl, _, rfl, _, rfl, Nat.zero_le _, fun lp nlp => ?_⟩
        have s2 := s1.trans (same_new (o := .lst []) nlp)
        intro pa px hpa hpx pne
        have mdR := same_made (C := He.ga K "Room") hpa hpx pne
        have s3 := s2.trans mdR
        have npa : H pa = none := none_sm s2 hpa
        refine ⟨pa, px, pp, D, lp, pr.zip vs, rfl, upd_same, by rw [hpz1]; exact sqT_sm s3 hpp, .of (by rw [hpz2]; exact mdR _ _ ((same_new nlp) _ _ eD)), by rw [List.length_zip]; omega, .of (mdR _ _ upd_same), fun H3 A eA nr => ⟨rfl, ?_⟩⟩
        subst eA
        have sH3 : Same H H3 := Kp.same s3 nr.kp (fun b hb => by cases hb; exact npa)
        have nd : H A.d = none := none_sm s3 nr.d0
        have ne0 : ∀ {c : Addr} {o : HO}, H c = some o → c ≠ A.d := fun {c o} e => ne_of_none e nd
        have stI : Std K hs [] { A with q := B.q, t := B.t } hh M (s.lf + 100) H3 { kn := knZ (pr.zip vs), rw := fun _ => [], lf := s.lf, td := s.td } := by
          refine ⟨?_, ⟨qx, sH3 _ _ eq⟩, sH3 _ _ st.tl, st.hk.sm sH3, kn32_of (fun q hq => v32 _ (by rw [← hpz2]; exact List.mem_map_of_mem (f := (·.2)) hq)), (fun x v hv => by cases hv), st.sz, by show s.lf ≤ s.lf + 100; omega, st.m6, ?_, (ne_of_none eq npa).symm, nr.rd, ne0 ehv, (fun x hx => by cases hx), (fun x hx => by cases hx)⟩
          · show RoomAt K H3 _ _ (knZ (pr.zip vs)) (fun _ => []) (s.lf + 100 - s.lf)
            obtain ⟨o1, ⟨kvs, o2, o3, o4⟩, o5, o6⟩ := nr.ro
            refine ⟨o1, ⟨kvs, o2, ?_, o4⟩, o5, o6⟩
            rw [List.length_zip] at o3
            omega
          · have := st.nz
            have := st.sz
            have := st.m6
            omega
        cases hq : doAll hs F bdy { kn := knZ (pr.zip vs), rw := fun _ => [], lf := s.lf, td := s.td } with
        | none => rw [hq] at hd; cases hd
        | some rr =>
          obtain ⟨r1, s1'⟩ := rr
          rw [hq] at hd
          have sz1 := ((size1 hs F).1 _ _ _ _ hq).1
          have sz2 : s1'.lf ≤ s.lf := sz1
          have back := fun (H4 : Hp) (k4 : Kp (SA [] { A with q := B.q, t := B.t }) H3 H4) (st4 : Std K hs [] { A with q := B.q, t := B.t } hh M (s.lf + 100) H4 s1') => st.back sH3 k4 nd st4 sz2
          refine ⟨hs, [], { A with q := B.q, t := B.t }, hh, M, s.lf + 100, _, s1', _, bdy, r1, F, rfl, stI, dp_sm sH3 g1, okB, hq, ?_⟩
          cases r1 with
          | fin =>
            cases hd
            intro H4 k4 st4
            obtain ⟨kO, stO⟩ := back H4 k4 st4
            obtain ⟨dx4, ep4⟩ := stO.ro.ob
            obtain ⟨kvs, ed, lk, hv⟩ := stO.ro.dk
            refine ⟨_, rfl, B.p, _, dx4, _, _, rfl, ep4, T.cl_Room, T.no_Room_known, roomF_known _ _, _, rfl, p0, _, 1, _, rfl, rfl, sqT_kp kO hp, atI_nat (j := 1) rfl, B.d, _, rfl, .inl ⟨kvs, .inr x, ed, rfl, ?_, rfl⟩, ?_⟩
            · rw [sizeLine_eq]
              omega
            · exact po _ (kO.trans (Kp.upd ed trivial (.inl rfl))) (stO.put ed lk hv in32_0 m6 n6)
          | gave v =>
            cases hd
            intro H4 k4 st4 i4
            obtain ⟨kO, stO⟩ := back H4 k4 st4
            obtain ⟨dx4, ep4⟩ := stO.ro.ob
            obtain ⟨kvs, ed, lk, hv⟩ := stO.ro.dk
            refine ⟨_, rfl, B.p, _, dx4, _, _, rfl, ep4, T.cl_Room, T.no_Room_known, roomF_known _ _, _, rfl, p0, _, 1, _, rfl, rfl, sqT_kp kO hp, atI_nat (j := 1) rfl, B.d, _, rfl, .inl ⟨kvs, .inr x, ed, rfl, ?_, rfl⟩, ?_⟩
            · rw [sizeLine_eq]
              omega
            · exact po _ (kO.trans (Kp.upd ed trivial (.inl rfl))) (stO.put ed lk hv i4 m6 n6)
          | on =>
            cases hd
            intro H4 k4 st4
            obtain ⟨kO, stO⟩ := back H4 k4 st4
            exact po H4 kO (stO.mono (by omega) (by omega) (by omega) (by omega))
          | flt f =>
            cases hd
            intro H4 d4 k4 st4 e4
            obtain ⟨kO, stO⟩ := back H4 k4 st4
            exact po H4 d4 kO (stO.mono (by omega) (by omega) (by omega) (by omega)) e4

theorem ok_levels (T : Top K mg) : ∀ n : Nat, FnOk P w K mg base (L2.CX P w) (4 * n + 16) (He.ma K (He.ga K "Play") "do_all") T.fd_Play_do_all ["self", "body", "room"] (sp_all K n)
  | 0 => ok_all_of T 0 15 (by omega) <| by
    refine T.F_Play_do_one.ok sc_Play_do_one (fun vs H Q E h => ?_) (fun cdv A outer s H vs Q E hr h => ?_)
    · obtain ⟨hs, rs, A, h, M, N, s, s', v, m, r, F, rfl, _⟩ := h
      rfl
    · obtain ⟨hs, rs, B, hh, M, N, s, s', v, m, r, F, rfl, st, dp, ok, hd, m6, n6, po⟩ := h
      cases ok
  | n + 1 => ok_all_of T (n + 1) (4 * n + 19) (by omega) (ok_one_of T n (4 * n + 16) (by omega) (ok_levels T n))
end

section
variable {P : Program} {w : World} {K : PySem.W.Frag} {mg : Str → Option Value} {base : Heap}
abbrev Hl := List (Str × List Str × List Sm)
def hlD (x : Str × List Str × List Sm) : PyData := .tuple [.str x.1, .tuple (x.2.1.map PyData.str), .tuple (Sm.ds x.2.2)]
def hsZ (hl : Hl) : Hs := fun x => (hl.find? fun q => decide (q.1 = x)).map (·.2)
theorem hlD_nl (x : Str × List Str × List Sm) : nLd (hlD x) = true := by simp [hlD, nLd, nLs, strs_nl, Sm.noLs]
structure HlAt (K : PySem.W.Frag) (H' : Hp) (h2 : Addr) (hl : Hl) : Prop where
  e : ∃ hvs : List (Key × V), H' h2 = some (.dK hvs) ∧ hvs.length ≤ hl.length ∧ ∀ y ∈ hl, ∃ u, valV hvs (.inr y.1) = some u ∧ Dp K H' u (helpD y.2)
theorem HlAt.help {H' : Hp} {h2 : Addr} {hl : Hl} (h : HlAt K H' h2 hl) : HelpAt K H' h2 (hsZ hl) := by
  obtain ⟨hvs, e, _, f⟩ := h.e
  refine ⟨hvs, e, fun x pb hx => ?_⟩
  unfold hsZ at hx
  cases hf : hl.find? (fun q => decide (q.1 = x)) with
  | none => rw [hf] at hx; cases hx
  | some q =>
    rw [hf] at hx
    cases hx
    have hm := List.mem_of_find?_eq_some hf
    have he : q.1 = x := of_decide_eq_true (List.find?_some (p := fun (q : Str × List Str × List Sm) => decide (q.1 = x)) hf)
    rw [← he]
    exact f q hm
def sp_pi (K : PySem.W.Frag) : Sp := fun vs H Q _ => ∃ (q dx : Addr) (v : V) (hl : Hl) (n : Nat), vs = [.ref q, v, .int n] ∧ H q = some (.ins (He.ga K "Play") dx []) ∧ Dp K H v (.tuple (hl.map hlD)) ∧ (hl.map (·.1)).Nodup ∧ hl.length ≤ 100 ∧
  ∀ H' t h2, Kp (fun x => x = q) H H' → H t = none → H h2 = none → H' q = some (.ins (He.ga K "Play") dx (playF h2 (n : Int) t)) → H' t = some (.lst []) → HelpAt K H' h2 (hsZ hl) → Q .non H'
theorem ok_Play_init (T : Top K mg) : FnOk P w K mg base CX0 1 (He.ma K (He.ga K "Play") "__init__") T.fd_Play___init__ ["self", "helpers", "most"] (sp_pi K) := by
  refine T.F_Play___init__.ok sc_Play___init__ (fun vs H Q E h => ?_) (fun cdv A outer s H vs Q E hr h => ?_)
  · obtain ⟨q, dx, v, hl, n, rfl, _⟩ := h
    rfl
  · obtain ⟨q, dx, v, hl, n, rfl, eq, dp, nd, l100, po⟩ := h
    refine ⟨_, PSs.nox (pss_cons (ps_fld (pv 0) pe_dnewK rfl)
        (pss_cons (ps_for PassesOwn.never (by rfl) (pi_tup (pv 1)) (pg_tup (n := 3) (by rfl) (pgs_cons (pg_name (i := 3) sc_Play___init__.nd rfl (Or.inl rfl)) (pgs_cons (pg_name (i := 4) sc_Play___init__.nd rfl (Or.inl rfl)) (pgs_cons (pg_name (i := 5) sc_Play___init__.nd rfl (Or.inl rfl)) pgs_nil)))) (pss_one (ps_dput (hu_of hr) (pe_fld (pv 0) rfl) (pv 3) (pe_tup (pa_cons (pv 4) (pa_cons (pv 5) pa_nil))) (by rfl))))
        (pss_cons (ps_fld (pv 0) (pv 2) rfl)
        (pss_one (ps_fld (pv 0) (pe_lst pa_nil) rfl))))), ?_⟩
    obtain ⟨h, xs, rfl, hh, da⟩ := dp_tup dp
    have lx := dpAll_len da
    rw [List.length_map] at lx
    intro h2 hn2
    have hq2 : q ≠ h2 := fun z => by rw [z, hn2] at eq; cases eq
    refine ⟨_, rfl, q, _, dx, _, rfl, by rw [upd_ne hq2]; exact eq, T.cl_Play, T.no_Play_helpers, by decide, ?_⟩
    have k1 : Kp (fun x => x = q) H (upd (upd H h2 (.dK [])) q (.ins (He.ga K "Play") dx [("helpers", .ref h2)])) := kp_on (kp_at Kp.refl hn2) eq trivial rfl
    refine ⟨_, rfl, h, rfl, ⟨_, sqT_kp k1 hh⟩, ?_⟩
    refine for_tup (K := K) (xs := xs) (fun j σ' H' => Kp (fun x => x = q) H H' ∧ H' q = some (.ins (He.ga K "Play") dx [("helpers", .ref h2)]) ∧ HlAt K H' h2 (hl.take j) ∧ ∃ x3 x4 x5, σ' = [some (.ref q), some (.ref h), some (.int n), x3, x4, x5]) ?_ ?_ ?_ ?_
    · exact ⟨k1, upd_same, ⟨[], by rw [upd_ne hq2.symm]; exact upd_same, Nat.le_refl _, (fun y hy => by cases hy)⟩, _, _, _, rfl⟩
    · rintro j σ' H' _ ⟨k', _⟩
      exact sqT_kp k' hh
    · rintro j y σ' H1 hy ⟨k2, e1, ⟨hvs, e2, l2, f2⟩, x3, x4, x5, rfl⟩
      have jl : j < hl.length := by
        have := (List.getElem?_eq_some_iff.mp hy).1
        omega
      obtain ⟨dy, hdy, ddy⟩ := dpAll_getV da hy
      rw [List.getElem?_map, List.getElem?_eq_getElem jl] at hdy
      cases hdy
      have ddy2 := dp_kp k2 _ _ (hlD_nl _) ddy
      obtain ⟨tp, ts, rfl, htp, dts⟩ := dp_tup ddy2
      obtain ⟨t0, u0, rfl, g0, f0⟩ := dpAll_cons dts
      obtain ⟨t1, u1, rfl, g1, f1⟩ := dpAll_cons f0
      obtain ⟨t2, u2, rfl, g2, f3⟩ := dpAll_cons f1
      cases dpAll_nil f3
      cases dp_str g0
      refine ⟨tp, _, rfl, htp, rfl, _, _, rfl, _, _, rfl, _, _, rfl, rfl, _, rfl, _, rfl, (by show 2 ≤ sizeLine; decide), fun z nz => ?_⟩
      have hqz : q ≠ z := ne_of_none e1 nz
      have h2z : h2 ≠ z := ne_of_none e2 nz
      have nq : (hl[j]).1 ∉ (hl.take j).map (·.1) := fun hm => by
        have hs : hl.take (j + 1) = hl.take j ++ [hl[j]] := by rw [List.take_succ, List.getElem?_eq_getElem jl]; rfl
        have nd' : ((hl.take (j + 1)).map (·.1)).Nodup := nd.sublist ((List.take_sublist _ _).map _)
        rw [hs, List.map_append, List.nodup_append] at nd'
        exact nd'.2.2 _ hm _ (List.mem_singleton.mpr rfl) rfl
      have ltk : (hl.take j).length ≤ j := List.length_take_le ..
      refine ⟨_, rfl, q, _, dx, _, _, rfl, by rw [upd_ne hqz]; exact e1, T.cl_Play, T.no_Play_helpers, rfl, _, rfl, h2, _, rfl, .inl ⟨hvs, .inr (hl[j]).1, by rw [upd_ne h2z]; exact e2, rfl, ?_, rfl⟩, ?_⟩
      · rw [sizeLine_eq]
        omega
      have e2z : upd H1 z (.tup [t1, t2]) h2 = some (.dK hvs) := by rw [upd_ne h2z]; exact e2
      have kz : Kp (fun x => x = h2) (upd H1 z (.tup [t1, t2])) (upd (upd H1 z (.tup [t1, t2])) h2 (.dK (putK hvs (.inr (hl[j]).1) (.ref z)))) := Kp.upd e2z trivial rfl
      have sz := same_new (o := .tup [t1, t2]) nz
      have hs : hl.take (j + 1) = hl.take j ++ [hl[j]] := by rw [List.take_succ, List.getElem?_eq_getElem jl]; rfl
      refine ⟨?_, by rw [upd_ne hq2, upd_ne hqz]; exact e1, ⟨_, upd_same, ?_, fun y hy => ?_⟩, _, _, _, rfl⟩
      · exact kp_at (k2.trans (Kp.of_same sz)) hn2
      · have := length_putK hvs (.inr (hl[j]).1) (.ref z)
        rw [hs, List.length_append, List.length_singleton]
        omega
      · rw [hs] at hy
        rcases List.mem_append.mp hy with hy | hy
        · have hne : y.1 ≠ (hl[j]).1 := fun e => nq (by rw [← e]; exact List.mem_map_of_mem (f := (·.1)) hy)
          obtain ⟨u, a, b⟩ := f2 y hy
          refine ⟨u, ?_, dp_kp kz _ _ (helpD_nl _) (dp_sm sz b)⟩
          rw [valV_put, if_neg (fun z => hne (by injection z))]
          exact a
        · rw [List.mem_singleton.mp hy]
          refine ⟨.ref z, by rw [valV_put, if_pos rfl], ?_⟩
          refine dp_kp kz _ _ (helpD_nl _) (.tup (.of upd_same) (.cons (dp_sm sz g1) (.cons (dp_sm sz g2) .nil)))
    · rintro σ' H1 ⟨k2, e1, hA, x3, x4, x5, rfl⟩
      rw [lx, List.take_length] at hA
      have hlp := hA.help
      obtain ⟨hvs, e2, _, _⟩ := hA.e
      refine ⟨_, rfl, _, rfl, q, _, dx, _, rfl, e1, T.cl_Play, T.no_Play_left, (by show 1 < 1000; decide), ?_⟩
      refine ⟨Nat.zero_le _, fun t ht => ?_⟩
      have hqt : q ≠ t := fun z => by rw [z, upd_same] at ht; cases ht
      rw [upd_ne hqt.symm] at ht
      have h2t : h2 ≠ t := ne_of_none e2 ht
      have ht0 : H t = none := by
        cases e : H t with
        | none => rfl
        | some o => rw [k2 t o e (fun z => absurd z hqt.symm)] at ht; cases ht
      refine ⟨_, rfl, q, _, dx, _, rfl, by rw [upd_ne hqt]; exact upd_same, T.cl_Play, T.no_Play_told, (by show 2 < 1000; decide), ?_⟩
      have eu : upd H1 q (.ins (He.ga K "Play") dx [("helpers", .ref h2), ("left", .int n)]) q = some (.ins (He.ga K "Play") dx [("helpers", .ref h2), ("left", .int n)]) := upd_same
      have kk : Kp (fun x => x = q) H1 (upd (upd (upd H1 q (.ins (He.ga K "Play") dx [("helpers", .ref h2), ("left", .int n)])) t (.lst [])) q (.ins (He.ga K "Play") dx (playF h2 n t))) := by
        exact kp_on (kp_at (kp_on Kp.refl e1 trivial rfl) ht) e1 trivial rfl
      refine po _ t h2 (k2.trans kk) ht0 hn2 upd_same ?_ (hlp.kp kk hq2.symm)
      rw [upd_ne hqt.symm]
      exact upd_same
def sp_isin : Sp := fun vs H Q _ => ∃ n : Int, vs = [.int n] ∧ In32 n ∧ Q (.bl true) H
theorem ok_is_input (T : Top K mg) : FnOk P w K mg base CX0 2 (He.ga K "is_input") T.fd_is_input ["thing"] sp_isin := by
  have G_wrapped := ok_wrapped (P := P) (w := w) (base := base) T
  refine T.F_is_input.ok sc_is_input (fun vs H Q E h => ?_) (fun cdv A outer s H vs Q E hr h => ?_)
  · obtain ⟨n, rfl, _⟩ := h
    rfl
  · obtain ⟨n, rfl, h32, q⟩ := h
    refine ⟨_, PSs.nox (pss_one (ps_ret (pe_and (pe_callB call_isi (by rfl) T.m_isinstance (by decide +kernel) (pa_cons (pv 0) (pa_cons (pe_bltn (v := .ty "int") (by rfl) T.m_int (by decide +kernel) rfl) pa_nil))) (pe_and (pe_not (pe_callB call_isi (by rfl) T.m_isinstance (by decide +kernel) (pa_cons (pv 0) (pa_cons (pe_bltn (v := .ty "bool") (by rfl) T.m_bool (by decide +kernel) rfl) pa_nil)))) (pe_one (pe_cmpR op_eq (pe_call G_wrapped (hr.mono (by omega)) (by rfl) T.g_wrapped T.F_wrapped.kp T.b_wrapped .nil pass0 (pa_cons (pv 0) pa_nil)) (pv 0) (nomark _))))))), ?_⟩
    have ty : TyX K H (.int n) (.type (tyS (.int n))) := dp_ty (.int n)
    refine ⟨_, rfl, _, _, _, _, true, rfl, .ty _, ty, kit_int (.int n), _, rfl, ifT rfl ?_⟩
    refine ⟨_, rfl, _, _, _, _, false, rfl, .ty _, ty, kit_bool (.int n), _, rfl, _, rfl, ifT rfl ?_⟩
    refine ⟨_, rfl, n, rfl, _, rfl, rfl, ?_⟩
    rw [wr_in h32]
    have e : decide (V.int n = V.int n) = true := decide_eq_true rfl
    rw [e]
    exact q
def sp_need (K : PySem.W.Frag) : Sp := fun vs H Q _ => ∃ (b : Addr) (ns : List Int) (m : Int), vs = [.ref b, .int m] ∧ m = ns.length ∧ SqN K H b ns ∧ (∀ n ∈ ns, In32 n) ∧ ns.length ≤ 100 ∧ ∀ H', Same H H' → Q .non H'
theorem isi_seq (K : PySem.W.Frag) (b : Bool) : PySem.W.kitAny K (.type (if b then "list" else "tuple")) [.type "list", .type "tuple"] = some true := by
  cases b with
  | true => exact kitAny_cons (kit_ty (r := true) (by decide +kernel)) (fun z => nomatch z) fun _ => rfl
  | false => exact kitAny_cons (kit_ty (r := false) (by decide +kernel)) (fun _ => kitAny_cons (kit_ty (r := true) (by decide +kernel)) (fun z => nomatch z) fun _ => rfl) (fun z => nomatch z)
theorem ok_need_inputs (T : Top K mg) : FnOk P w K mg base CX0 3 (He.ga K "need_inputs") T.fd_need_inputs ["inputs", "many"] (sp_need K) := by
  have G_is_input := ok_is_input (P := P) (w := w) (base := base) T
  refine T.F_need_inputs.ok sc_need_inputs (fun vs H Q E h => ?_) (fun cdv A outer s H vs Q E hr h => ?_)
  · obtain ⟨b, ns, m, rfl, _⟩ := h
    rfl
  · obtain ⟨b, ns, m, rfl, rfl, hb, n32, ln, q⟩ := h
    rcases hb with hb | hb
    · refine ⟨_, PSs.nox (pss_cons (ps_if (PW.pt (pw_or (pt_not (pt_val (pe_callB call_isiT (by rfl) T.m_isinstance (by decide +kernel) (pa_cons (pv 0) (pa_cons (pe_tup (pa_cons (pe_bltn (v := .ty "list") (by rfl) T.m_list (by decide +kernel) rfl) (pa_cons (pe_bltn (v := .ty "tuple") (by rfl) T.m_tuple (by decide +kernel) rfl) pa_nil))) pa_nil))))) (pw_or1 (pt_cmpR op_ne (pe_callB call_len_seq (by rfl) T.m_len (by decide +kernel) (pa_cons (pv 0) pa_nil)) (pv 1) (nomark _))))) (pss_one ps_never) pss_nil)
        (pss_one (ps_if (pt_not (pt_val (pe_callB (cr_all (by rfl)) (by rfl) T.m_all (by decide +kernel) (pa_cons (pe_lc (own := [("one", 2)]) (by rfl) sc_need_inputs.nd (pi_list (pv 0)) (blkOk_by (own := [("one", 2)]) (N := N_need_inputs) (sc := defScope s_need_inputs) (by decide +kernel)) (fun _ _ _ _ _ => (pg_name (i := 2) sc_need_inputs.nd rfl (Or.inl rfl))) (fun _ _ _ _ _ => pts_nil) (fun _ _ _ _ _ => (pe_call G_is_input (hr.mono (by omega)) (by rfl) T.g_is_input T.F_is_input.kp T.b_is_input .nil pass0 (pa_cons (pv 2) pa_nil)))) pa_nil)))) (pss_one ps_never) pss_nil))), ?_⟩
      refine ⟨_, rfl, by rw [sizeLine_eq]; show 2 ≤ _; omega, fun tp htp => ?_⟩
      have s1 : Same H (upd H tp (.tup [.ty "list", .ty "tuple"])) := same_new htp
      have hb1 := s1.seq hb
      refine ⟨_, tp, _, _, _, true, rfl, upd_same, .cons (.ty _) (.cons (.ty _) .nil), ty_lst hb1, isi_seq K true, _, rfl, ifF rfl ?_⟩
      refine ⟨_, rfl, b, _, rfl, .inl hb1, _, rfl, rfl, _, rfl, ?_⟩
      rw [List.length_map]
      refine ifNF rfl ?_
      refine ⟨_, rfl, b, rfl, ⟨_, hb1⟩, fun D hD => ?_⟩
      have hD0 : H D = none := by
        cases h : H D with
        | none => rfl
        | some o => rw [s1 D o h] at hD; cases hD
      refine lc_list (K := K) (a := b) (xs := ns.map V.int) (fun j H' => Same H H' ∧ H' D = some (.lst ((List.replicate j true).map V.bl))) ?_ ?_ ?_ ?_
      · exact ⟨same_upd s1 hD0, upd_same⟩
      · intro j H' _ k
        exact k.1.seq hb
      · rintro j x H1 hx ⟨k1, e1⟩
        rw [List.getElem?_map] at hx
        have jl : j < ns.length := by
          cases hj : ns[j]? with
          | none => rw [hj] at hx; cases hx
          | some n => exact (List.getElem?_eq_some_iff.mp hj).1
        rw [List.getElem?_eq_getElem jl] at hx
        cases hx
        refine ⟨rfl, _, rfl, _, rfl, n32 _ (List.getElem_mem jl), _, e1, ?_, same_upd k1 hD0, ?_⟩
        · rw [List.length_map, List.length_replicate, sizeLine_eq]
          omega
        · rw [upd_same, List.replicate_succ', List.map_append]
          rfl
      · rintro H1 ⟨k1, e1⟩
        refine ⟨D, _, rfl, .inl (.inl e1), _, rfl, ?_⟩
        have ea : (List.replicate (ns.map V.int).length true).all id = true := by
          rw [List.all_eq_true]
          intro x hx
          rw [List.eq_of_mem_replicate hx]
          rfl
        rw [ea]
        exact q _ k1
    · refine ⟨_, PSs.nox (pss_cons (ps_if (PW.pt (pw_or (pt_not (pt_val (pe_callB call_isiT (by rfl) T.m_isinstance (by decide +kernel) (pa_cons (pv 0) (pa_cons (pe_tup (pa_cons (pe_bltn (v := .ty "list") (by rfl) T.m_list (by decide +kernel) rfl) (pa_cons (pe_bltn (v := .ty "tuple") (by rfl) T.m_tuple (by decide +kernel) rfl) pa_nil))) pa_nil))))) (pw_or1 (pt_cmpR op_ne (pe_callB call_len_seq (by rfl) T.m_len (by decide +kernel) (pa_cons (pv 0) pa_nil)) (pv 1) (nomark _))))) (pss_one ps_never) pss_nil)
        (pss_one (ps_if (pt_not (pt_val (pe_callB (cr_all (by rfl)) (by rfl) T.m_all (by decide +kernel) (pa_cons (pe_lc (own := [("one", 2)]) (by rfl) sc_need_inputs.nd (pi_tup (pv 0)) (blkOk_by (own := [("one", 2)]) (N := N_need_inputs) (sc := defScope s_need_inputs) (by decide +kernel)) (fun _ _ _ _ _ => (pg_name (i := 2) sc_need_inputs.nd rfl (Or.inl rfl))) (fun _ _ _ _ _ => pts_nil) (fun _ _ _ _ _ => (pe_call G_is_input (hr.mono (by omega)) (by rfl) T.g_is_input T.F_is_input.kp T.b_is_input .nil pass0 (pa_cons (pv 2) pa_nil)))) pa_nil)))) (pss_one ps_never) pss_nil))), ?_⟩
      refine ⟨_, rfl, by rw [sizeLine_eq]; show 2 ≤ _; omega, fun tp htp => ?_⟩
      have s1 : Same H (upd H tp (.tup [.ty "list", .ty "tuple"])) := same_new htp
      have hb1 := sqT_sm s1 hb
      refine ⟨_, tp, _, _, _, true, rfl, upd_same, .cons (.ty _) (.cons (.ty _) .nil), ty_tup hb1, isi_seq K false, _, rfl, ifF rfl ?_⟩
      refine ⟨_, rfl, b, _, rfl, .inr hb1, _, rfl, rfl, _, rfl, ?_⟩
      rw [List.length_map]
      refine ifNF rfl ?_
      refine ⟨_, rfl, b, rfl, ⟨_, hb1⟩, fun D hD => ?_⟩
      have hD0 : H D = none := by
        cases h : H D with
        | none => rfl
        | some o => rw [s1 D o h] at hD; cases hD
      refine lc_tup (K := K) (a := b) (xs := ns.map V.int) (fun j H' => Same H H' ∧ H' D = some (.lst ((List.replicate j true).map V.bl))) ?_ ?_ ?_ ?_
      · exact ⟨same_upd s1 hD0, upd_same⟩
      · intro j H' _ k
        exact sqT_sm k.1 hb
      · rintro j x H1 hx ⟨k1, e1⟩
        rw [List.getElem?_map] at hx
        have jl : j < ns.length := by
          cases hj : ns[j]? with
          | none => rw [hj] at hx; cases hx
          | some n => exact (List.getElem?_eq_some_iff.mp hj).1
        rw [List.getElem?_eq_getElem jl] at hx
        cases hx
        refine ⟨rfl, _, rfl, _, rfl, n32 _ (List.getElem_mem jl), _, e1, ?_, same_upd k1 hD0, ?_⟩
        · rw [List.length_map, List.length_replicate, sizeLine_eq]
          omega
        · rw [upd_same, List.replicate_succ', List.map_append]
          rfl
      · rintro H1 ⟨k1, e1⟩
        refine ⟨D, _, rfl, .inl (.inl e1), _, rfl, ?_⟩
        have ea : (List.replicate (ns.map V.int).length true).all id = true := by
          rw [List.all_eq_true]
          intro x hx
          rw [List.eq_of_mem_replicate hx]
          rfl
        rw [ea]
        exact q _ k1
end

section
variable {P : Program} {w : World} {K : PySem.W.Frag} {mg : Str → Option Value} {base : Heap}
theorem ix_tupQ {X : Cx} (h : X.K = K) : IxR X (rIxT K) := by subst h; exact ix_tup
def Rs.d : Rs → PyData
  | .fin => .tuple [.str "gave", .int 0]
  | .gave v => .tuple [.str "gave", .int v]
  | .on => .tuple [.str "on"]
  | .flt w => .tuple [.str "fault", .str w]
def plD (hl : Hl) (ps : List (Str × Int)) (ws : List (Str × Nat)) (bd : List Sm) : PyData := .tuple [.tuple (hl.map hlD), .tuple (ps.map fun x => .str x.1), .tuple (ws.map rowD), .tuple (Sm.ds bd)]
def enD (s : PSt) (r : Rs) : PyData := .tuple [.tuple (s.td.map PyData.int), r.d]
theorem ints_dp {H : Hp} : ∀ l : List Int, DpAll K H (l.map V.int) (l.map PyData.int)
  | [] => .nil
  | _ :: r => .cons (.int _) (ints_dp r)
theorem strs_of {H : Hp} : ∀ {vs : List V} {ps : List (Str × Int)}, DpAll K H vs (ps.map fun x => PyData.str x.1) → vs = ps.map fun x => V.str x.1
  | _, [], h => by cases h; rfl
  | _, p :: r, h => by
    obtain ⟨x, xs, rfl, h1, h2⟩ := dpAll_cons h
    rw [dp_str h1, strs_of h2]
    rfl
/-- a program that may be played -/
structure PlOk (n : Nat) (hl : Hl) (ps : List (Str × Int)) (ws : List (Str × Nat)) (bd : List Sm) : Prop where
  i32 : ∀ x ∈ ps, In32 x.2
  lp : ps.length ≤ 100
  hn : (hl.map (·.1)).Nodup
  h100 : hl.length ≤ 100
  wn : (ws.map (·.1)).Nodup
  wz : ∀ q ∈ ws, q.2 ≤ 100
  w100 : ws.length ≤ 100
  ok : ∀ m ∈ bd, m.ok (hsZ hl) n (ws.map (·.1))
def st0 (ps : List (Str × Int)) (ws : List (Str × Nat)) (most : Nat) : PSt := { kn := knZ ps, rw := rwZ ws, lf := most, td := [] }
def sp_played (K : PySem.W.Frag) (n : Nat) : Sp := fun vs H Q _ => ∃ (v : V) (b : Addr) (most : Nat) (hl : Hl) (ps : List (Str × Int)) (ws : List (Str × Nat)) (bd : List Sm) (s' : PSt) (r : Rs) (F : Nat), vs = [v, .ref b, .int most] ∧ Dp K H v (plD hl ps ws bd) ∧ SqN K H b (ps.map (·.2)) ∧ PlOk n hl ps ws bd ∧ most ≤ 5000 ∧
  doAll (hsZ hl) F bd (st0 ps ws most) = some (r, s') ∧ ∀ H' u, Same H H' → Dp K H' u (enD s' r) → Q u H'
/-- how played ends: what is told and the end, in new tuples -/
theorem end_dp {H : Hp} {td : List Int} {e : V} {ed : PyData} {tt tr : Addr} (htt : H tt = none) (htr : upd H tt (.tup (td.map V.int)) tr = none) (de : Dp K H e ed) :
    Dp K (upd (upd H tt (.tup (td.map V.int))) tr (.tup [.ref tt, e])) (.ref tr) (.tuple [.tuple (td.map PyData.int), ed]) := by
  have ne : tt ≠ tr := fun z => by rw [← z, upd_same] at htr; cases htr
  refine .tup (.inl (.inl upd_same)) (.cons (.tup (.inl (.inl ?_)) (ints_dp td)) (.cons (dp_sm (same_upd (same_new htt) ?_) de) .nil))
  · rw [upd_ne ne]
    exact upd_same
  · rw [upd_ne ne.symm] at htr
    exact htr
theorem sqN_sm {H H' : Hp} {a : Addr} {ns : List Int} (k : Same H H') (h : SqN K H a ns) : SqN K H' a ns := by
  rcases h with h | h
  · exact .inl (k.seq h)
  · exact .inr (sqT_sm k h)
theorem ret_ok (T : Top K mg) {σ : L2.St} {H : Hp} {q t qx h0 : Addr} {lf : Int} {td : List Int} {e : V} {ed : PyData} {Q : VK} (h3 : σ[3]? = some (some (.ref q))) (h4 : σ[4]? = some (some e)) (eq : H q = some (.ins (He.ga K "Play") qx (playF h0 lf t))) (et : H t = some (.lst (td.map V.int))) (de : Dp K H e ed)
    (po : ∀ H' u, Same H H' → Dp K H' u (.tuple [.tuple (td.map PyData.int), ed]) → Q u H') :
    tTup (tCons (tCB (fun xs H Q => ∃ p ys, xs = [.ref p] ∧ ((SqL K H p ys ∧ ∀ l, H l = none → Q (.ref l) (upd H l (.tup ys))) ∨ (SqT K H p ys ∧ Q (.ref p) H))) (tCons (tFld K (tVar 3) "told") tNil)) (tCons (tVar 4) tNil)) σ H Q := by
  refine ⟨_, h3, q, _, qx, _, _, rfl, eq, T.cl_Play, T.no_Play_told, playF_told _ _ _, t, _, rfl, .inl ⟨.inl (.inl et), fun tt htt => ?_⟩⟩
  refine ⟨_, h4, by rw [sizeLine_eq]; show 2 ≤ _; omega, fun tr htr => ?_⟩
  have ne : tt ≠ tr := fun z => by rw [← z, upd_same] at htr; cases htr
  refine po _ _ (same_upd (same_new htt) ?_) (end_dp htt htr de)
  rw [upd_ne ne.symm] at htr
  exact htr
theorem pair_dp {H : Hp} {tp : Addr} {x : Str} {v : Int} : Dp K (upd H tp (.tup [.str x, .int v])) (.ref tp) (.tuple [.str x, .int v]) := .tup (.inl (.inl upd_same)) (.cons (.str _) (.cons (.int _) .nil))
theorem ok_played (T : Top K mg) (n : Nat) : FnOk P w K mg base CX0 (4 * n + 20) (He.ga K "played") T.fd_played ["program", "inputs", "most"] (sp_played K n) := by
  have G_need_inputs := ok_need_inputs (P := P) (w := w) (base := base) T
  have G_Play___init__ := ok_Play_init (P := P) (w := w) (base := base) T
  have G_Room___init__ := ok_Room_init (P := P) (w := w) (base := base) T
  have G_Play_play_body := ok_body_of (P := P) (w := w) (base := base) T n _ (ok_levels T n)
  refine T.F_played.ok sc_played (fun vs H Q E h => ?_) (fun cdv A outer s H vs Q E hr h => ?_)
  · obtain ⟨v, b, most, hl, ps, ws, bd, s', r, F, rfl, _⟩ := h
    rfl
  · obtain ⟨v, b, most, hl, ps, ws, bd, s', r, F, rfl, dp, hb, pk, m5, hd, q⟩ := h
    refine ⟨_, PSs.nox (pss_cons (ps_expr (pe_call G_need_inputs (hr.mono (by omega)) (by rfl) T.g_need_inputs T.F_need_inputs.kp T.b_need_inputs .nil pass0 (pa_cons (pv 1) (pa_cons (pe_callB call_len_seq (by rfl) T.m_len (by decide +kernel) (pa_cons (pe_ix ix_tup (pv 0) pe_int (fun _ _ => rfl)) pa_nil)) pa_nil))))
        (pss_cons (ps_set (i := 3) sc_played.nd rfl (Or.inl rfl) (pe_make T.mk_Play G_Play___init__ (hr.mono (by omega)) (by rfl) T.g_Play T.b_Play___init__ .nil pass0 (pa_cons (pe_ix ix_tup (pv 0) pe_int (fun _ _ => rfl)) (pa_cons (pv 2) pa_nil))))
        (pss_cons (TryN.ps_try_nam (Wout := fun _ _ _ _ => False) rfl rfl sc_played.nd takes_none5 (fun W pn xe tk _ => (pss_one (ps_set (i := 4) sc_played.nd rfl (Or.inl rfl) (pe_tup (pa_cons pe_str (pa_cons (TryN.pe_methAt (pv 3) T.cl_Play T.me_Play_play_body G_Play_play_body (hr.mono (by omega)) T.b_Play_play_body .nil (fun σ => passAt tk σ) (pa_cons (pe_ix (ix_tupQ (K := K) rfl) (pv 0) pe_int (fun _ _ => rfl)) (pa_cons (pe_make T.mk_Room G_Room___init__ (hr.mono (by omega)) (by rfl) T.g_Room T.b_Room___init__ .nil pass0 (pa_cons (pe_ix (ix_tupQ (K := K) rfl) (pv 0) pe_int (fun _ _ => rfl)) (pa_cons (pv 1) (pa_cons (pe_ix (ix_tupQ (K := K) rfl) (pv 0) pe_int (fun _ _ => rfl)) pa_nil)))) pa_nil))) pa_nil)))))) (TryN.HdsN.as (i := 5) ⟨rfl, by decide, .inl T.g_Faulted⟩ rfl rfl (fun a oe cls d pn hz hf => (pss_one (ps_set (i := 4) sc_played.nd rfl (Or.inl rfl) (pe_tup (pa_cons pe_str (pa_cons (pe_xf T.xf_Faulted T.nf_Faulted_word hz hf (pv 5)) pa_nil)))))) (TryN.HdsN.cons ⟨rfl, by decide, .inl T.g_Unended⟩ (fun a oe cls d pn _ _ => (pss_one (ps_set (i := 4) sc_played.nd rfl (Or.inl rfl) (pe_tup (pa_cons pe_str pa_nil))))) .nil)))
        (pss_one (ps_ret (pe_tup (pa_cons (pe_callTy call_tuple_of (by rfl) T.m_tuple (by decide +kernel) (pa_cons (pe_fld (pv 3) rfl) pa_nil)) (pa_cons (pv 4) pa_nil)))))))), ?_⟩
    obtain ⟨p0, xs, rfl, hp, da⟩ := dp_tup dp
    obtain ⟨x0, r0, rfl, d0, e0⟩ := dpAll_cons da
    obtain ⟨x1, r1, rfl, d1, e1⟩ := dpAll_cons e0
    obtain ⟨x2, r2, rfl, d2, e2⟩ := dpAll_cons e1
    obtain ⟨x3, r3, rfl, d3, e3⟩ := dpAll_cons e2
    obtain ⟨a1, ys, rfl, ha1, z1⟩ := dp_tup d1
    have ey := strs_of z1
    subst ey
    have d2' := d2
    obtain ⟨rw2, _, rfl, hrw2, z2⟩ := dp_tup d2
    refine ⟨_, rfl, _, rfl, p0, _, 1, _, rfl, rfl, hp, atI_nat (j := 1) rfl, a1, _, rfl, .inr ha1, b, ps.map (·.2), _, rfl, by rw [List.length_map, List.length_map], hb, ?_, by rw [List.length_map]; exact pk.lp, fun H1 s1 => ?_⟩
    · intro n hn
      obtain ⟨x, hx, rfl⟩ := List.mem_map.mp hn
      exact pk.i32 x hx
    refine ⟨_, rfl, p0, _, 0, _, rfl, rfl, sqT_sm s1 hp, atI_nat (j := 0) rfl, _, rfl, ?_⟩
    intro qa qx hqa hqx qne
    have sH1 : Same H _ := s1.trans (same_made (C := He.ga K "Play") hqa hqx qne)
    refine ⟨qa, qx, x0, hl, most, rfl, upd_same, dp_sm sH1 d0, pk.hn, pk.h100, fun H2 t h2 k2 ht hh2 eq2 et2 hk2 => ⟨rfl, ?_⟩⟩
    have nqa : H qa = none := none_sm s1 hqa
    have nt : H t = none := none_sm sH1 ht
    have sH2 : Same H H2 := Kp.same sH1 k2 (fun b hb => by cases hb; exact nqa)
    refine ⟨_, rfl, qa, qx, _, rfl, eq2, playF_no (by decide +kernel) (by decide +kernel) (by decide +kernel), ?_⟩
    refine ⟨_, rfl, p0, _, 3, _, rfl, rfl, sqT_sm sH2 hp, atI_nat (j := 3) rfl, ?_⟩
    refine ⟨_, rfl, p0, _, 1, _, rfl, rfl, sqT_sm sH2 hp, atI_nat (j := 1) rfl, _, rfl, _, rfl, p0, _, 2, _, rfl, rfl, sqT_sm sH2 hp, atI_nat (j := 2) rfl, ?_⟩
    intro pa px hpa hpx pne
    have mdR := same_made (C := He.ga K "Room") hpa hpx pne
    have sH2' : Same H _ := sH2.trans mdR
    have npa : H pa = none := none_sm sH2 hpa
    have ne1 : qa ≠ pa := ne_of_none eq2 hpa
    have ne2 : t ≠ pa := ne_of_none et2 hpa
    have hk2' := hk2
    obtain ⟨hvs, eh2, _⟩ := hk2'
    have ne3 : h2 ≠ pa := ne_of_none eh2 hpa
    refine ⟨pa, px, a1, b, rw2, ps, ws, rfl, upd_same, sqT_sm sH2' ha1, sqN_sm sH2' hb, pk.lp, dp_sm sH2' d2', pk.wn, pk.wz, pk.w100, fun H3 B eB nr => ⟨rfl, ?_⟩⟩
    subst eB
    have sH3 : Same H H3 := Kp.same sH2' nr.kp (fun b hb => by cases hb; exact npa)
    have k3 : Kp (fun x => x = B.p) H2 H3 := (Kp.of_same mdR).trans nr.kp
    have eq3 : H3 qa = some (.ins (He.ga K "Play") qx (playF h2 most t)) := k3 _ _ eq2 (fun z => absurd z ne1)
    have et3 : H3 t = some (.lst []) := k3 _ _ et2 (fun z => absurd z ne2)
    have f2 : ∀ {c : Addr} {o : HO}, H2 c = some o → ∀ {e : Addr}, (upd (upd H2 px (.own B.p)) B.p (.ins (He.ga K "Room") px [])) e = none → c ≠ e := fun {c o} hc {e} he z => by
      rw [← z, mdR _ _ hc] at he
      cases he
    have nd : H B.d = none := none_sm sH2' nr.d0
    have noneSA : ∀ c, SA (ws.map (·.1)) { B with q := qa, t := t } c → H c = none := fun c hc => by
      rcases hc with h | h | h | ⟨x, hx, h⟩
      · rw [h]; exact nd
      · rw [h]; exact nqa
      · rw [h]; exact nt
      · rw [h]; exact none_sm sH2' (nr.a0 x hx)
    have st0 : Std K (hsZ hl) (ws.map (·.1)) { B with q := qa, t := t } h2 most (most + ps.length) H3 (st0 ps ws most) := by
      refine ⟨?_, ⟨qx, eq3⟩, et3, hk2.kp k3 ne3, kn32_of pk.i32, rwZ_32 ws, ?_, ?_, by omega, by have := pk.lp; omega, ne1.symm, nr.rd, f2 eh2 nr.d0, fun x hx => (f2 et2 (nr.a0 x hx)).symm, nr.ri⟩
      · show RoomAt K H3 _ _ (knZ ps) (rwZ ws) (most + ps.length - most)
        rw [show most + ps.length - most = ps.length by omega]
        exact ⟨nr.ro.ob, nr.ro.dk, nr.ro.rk, nr.ro.rl⟩
      · show 0 + most ≤ most
        omega
      · show most ≤ most + ps.length
        omega
    refine ⟨hsZ hl, ws.map (·.1), { B with q := qa, t := t }, h2, most, most + ps.length, _, s', x3, bd, r, F, rfl, st0, dp_sm sH3 d3, pk.ok, hd, ?_⟩
    cases r with
    | fin =>
      intro H4 k4 st4
      have sH4 : Same H H4 := Kp.same sH3 k4 noneSA
      obtain ⟨qx4, eq4⟩ := st4.ob
      have et4 := st4.tl
      refine ⟨by rw [sizeLine_eq]; show 2 ≤ _; omega, fun tp htp => ?_⟩
      have nq : qa ≠ tp := ne_of_none eq4 htp
      have nt : t ≠ tp := ne_of_none et4 htp
      refine ret_ok T (σ := [_, _, _, _, _, _]) rfl rfl (by rw [upd_ne nq]; exact eq4) (by rw [upd_ne nt]; exact et4) (pair_dp) (fun H7 u s7 dq => ?_)
      exact q _ u ((same_upd sH4 (none_sm sH4 htp)).trans s7) dq
    | gave v =>
      intro H4 k4 st4 _
      have sH4 : Same H H4 := Kp.same sH3 k4 noneSA
      obtain ⟨qx4, eq4⟩ := st4.ob
      have et4 := st4.tl
      refine ⟨by rw [sizeLine_eq]; show 2 ≤ _; omega, fun tp htp => ?_⟩
      have nq : qa ≠ tp := ne_of_none eq4 htp
      have nt : t ≠ tp := ne_of_none et4 htp
      refine ret_ok T (σ := [_, _, _, _, _, _]) rfl rfl (by rw [upd_ne nq]; exact eq4) (by rw [upd_ne nt]; exact et4) (pair_dp) (fun H7 u s7 dq => ?_)
      exact q _ u ((same_upd sH4 (none_sm sH4 htp)).trans s7) dq
    | on =>
      intro H4 k4 st4
      refine ⟨false, T.em_Unended_Faulted, (fun z => nomatch z), fun _ => ⟨true, T.em_Unended_Unended, fun _ ea hea => ?_, (fun z => nomatch z)⟩⟩
      have sH4 : Same H H4 := Kp.same sH3 k4 noneSA
      obtain ⟨qx4, eq4⟩ := st4.ob
      have et4 := st4.tl
      refine ⟨by rw [sizeLine_eq]; show 1 ≤ _; omega, fun tp htp => ?_⟩
      have nq : qa ≠ tp := ne_of_none eq4 htp
      have nt : t ≠ tp := ne_of_none et4 htp
      refine ret_ok T (σ := [_, _, _, _, _, _]) rfl rfl (by rw [upd_ne nq]; exact eq4) (by rw [upd_ne nt]; exact et4) (.tup (.inl (.inl upd_same)) (.cons (.str _) .nil)) (fun H7 u s7 dq => ?_)
      exact q _ u ((same_upd sH4 (none_sm sH4 htp)).trans s7) dq
    | flt w =>
      intro H4 dw k4 st4 ew
      refine ⟨true, T.em_Faulted_Faulted, fun _ ea hea => ?_, (fun z => nomatch z)⟩
      have sH4 : Same H H4 := Kp.same sH3 k4 noneSA
      obtain ⟨qx4, eq4⟩ := st4.ob
      have et4 := st4.tl
      have lk : ([(("word" : Str), V.str w)] : List (Str × V)).lookup ("word" : Str) = some (.str w) := by
        rw [List.lookup_cons, show (("word" : Str) == "word") = true by decide +kernel]
      refine ⟨_, rfl, rfl, rfl, dw, _, .str w, rfl, ew, lk, by rw [sizeLine_eq]; show 2 ≤ _; omega, fun tp htp => ?_⟩
      have nq : qa ≠ tp := ne_of_none eq4 htp
      have nt : t ≠ tp := ne_of_none et4 htp
      refine ret_ok T (σ := [_, _, _, _, _, _]) rfl rfl (by rw [upd_ne nq]; exact eq4) (by rw [upd_ne nt]; exact et4) (.tup (.inl (.inl upd_same)) (.cons (.str _) (.cons (.str _) .nil))) (fun H7 u s7 dq => ?_)
      exact q _ u ((same_upd sH4 (none_sm sH4 htp)).trans s7) dq
end

section
variable {P : Program} {w : World} {K : PySem.W.Frag} {mg : Str → Option Value} {base : Heap}
/-- the law's room: its names and rows -/
structure LRoom (H : Hp) (A : Adr) (rs : List Str) (kn : Kn) (rw : Rw) (n : Nat) : Prop where
  ob : H A.p = some (.dK [(.inr "known", .ref A.d), (.inr "rows", .ref A.r)])
  dk : ∃ kvs : List (Key × V), H A.d = some (.dK kvs) ∧ kvs.length ≤ n ∧ ∀ x, valV kvs (.inr x) = (kn x).map V.int
  rk : ∃ rvs : List (Key × V), H A.r = some (.dK rvs) ∧ ∀ x ∈ rs, valV rvs (.inr x) = some (.ref (A.ra x))
  rl : ∀ x ∈ rs, H (A.ra x) = some (.lst ((rw x).map V.int))
theorem LRoom.sm {H H' : Hp} {A : Adr} {rs : List Str} {kn : Kn} {rw : Rw} {n : Nat} (h : LRoom H A rs kn rw n) (s : Same H H') : LRoom H' A rs kn rw n := by
  obtain ⟨e, ⟨kvs, e2, l, v⟩, ⟨rvs, e3, v3⟩, rl⟩ := h
  exact ⟨s _ _ e, ⟨kvs, s _ _ e2, l, v⟩, ⟨rvs, s _ _ e3, v3⟩, fun x hx => s _ _ (rl x hx)⟩
theorem LRoom.row {H : Hp} {A : Adr} {rs : List Str} {kn : Kn} {rw : Rw} {n : Nat} {x : Str} (h : LRoom H A rs kn rw n) (hx : x ∈ rs) : DGet H A.r (.str x) (some (.ref (A.ra x))) := by
  obtain ⟨rvs, e3, v3⟩ := h.rk
  have := DGet.k (k := .inr x) e3
  rw [v3 x hx] at this
  exact this
def tbl (a b c d : V) : List (Key × V) := mergeK [] [(.inr "add", a), (.inr "sub", b), (.inr "mul", c), (.inr "less", d)]
theorem tbl_eq (a b c d : V) : tbl a b c d = putK (putK (putK (putK [] (.inr "add") a) (.inr "sub") b) (.inr "mul") c) (.inr "less") d := rfl
theorem tbl_val (a b c d : V) (w : Str) : valV (tbl a b c d) (.inr w) = if w = "less" then some d else if w = "mul" then some c else if w = "sub" then some b else if w = "add" then some a else none := by
  rw [tbl_eq, valV_put, valV_put, valV_put, valV_put]
  have inj : ∀ x y : Str, ((Sum.inr x : Key) = .inr y) = (x = y) := fun x y => propext ⟨fun h => by injection h, fun h => by rw [h]⟩
  simp only [inj]
  rfl
theorem tbl_add (a b c d : V) : valV (tbl a b c d) (.inr "add") = some a := by rw [tbl_val, if_neg (by decide +kernel), if_neg (by decide +kernel), if_neg (by decide +kernel), if_pos rfl]
theorem tbl_sub (a b c d : V) : valV (tbl a b c d) (.inr "sub") = some b := by rw [tbl_val, if_neg (by decide +kernel), if_neg (by decide +kernel), if_pos rfl]
theorem tbl_mul (a b c d : V) : valV (tbl a b c d) (.inr "mul") = some c := by rw [tbl_val, if_neg (by decide +kernel), if_pos rfl]
theorem tbl_less (a b c d : V) : valV (tbl a b c d) (.inr "less") = some d := by rw [tbl_val, if_pos rfl]
theorem tbl_div (a b c d : V) : valV (tbl a b c d) (.inr "div") = none := by rw [tbl_val, if_neg (by decide +kernel), if_neg (by decide +kernel), if_neg (by decide +kernel), if_neg (by decide +kernel)]
theorem tbl_rem (a b c d : V) : valV (tbl a b c d) (.inr "rem") = none := by rw [tbl_val, if_neg (by decide +kernel), if_neg (by decide +kernel), if_neg (by decide +kernel), if_neg (by decide +kernel)]
theorem tbl_same (a b c d : V) : valV (tbl a b c d) (.inr "same") = none := by rw [tbl_val, if_neg (by decide +kernel), if_neg (by decide +kernel), if_neg (by decide +kernel), if_neg (by decide +kernel)]
def sp_lworth (K : PySem.W.Frag) (n : Nat) : Sp := fun vs H Q _ => ∃ (A : Adr) (rs : List Str) (v : V) (e : Ex) (kn : Kn) (rw : Rw) (lm : Nat), vs = [v, .ref A.p] ∧ e.dep < n ∧ e.wf rs ∧ LRoom H A rs kn rw lm ∧ Kn32 kn ∧ Rw32 rw ∧ Dp K H v e.d ∧ (∀ z, wx e kn rw = .ok z → ∀ H', Same H H' → Q (.int z) H') ∧ ∀ f, wx e kn rw = .error f → ∀ H', Same H H' → Q (.str f) H'
theorem ty_int {H : Hp} (z : Int) : TyX K H (.int z) (.type (tyS (.int z))) := dp_ty (.int z)
theorem fmod_is (a b : Int) : a - a.fdiv b * b = a.fmod b := by
  have := Int.mul_fdiv_add_fmod a b
  rw [Int.mul_comm] at this
  omega
theorem ok__law_worth (T : Top K mg) : ∀ n : Nat, FnOk P w K mg base CX0 (n + 1) (He.ga K "_law_worth") T.fd__law_worth ["_law_e", "_law_room"] (sp_lworth K n)
  | 0 => by
    refine T.F__law_worth.ok sc__law_worth (fun vs H Q E h => ?_) (fun cdv A outer s H vs Q E hr h => ?_)
    · obtain ⟨A, rs, v, e, kn, rw, lm, rfl, _⟩ := h
      rfl
    · obtain ⟨A, rs, v, e, kn, rw, lm, rfl, h1, _⟩ := h
      omega
  | n + 1 => by
    have G__law_worth := ok__law_worth T n
    refine T.F__law_worth.ok sc__law_worth (fun vs H Q E h => ?_) (fun cdv A outer s H vs Q E hr h => ?_)
    · obtain ⟨A, rs, v, e, kn, rw, lm, rfl, _⟩ := h
      rfl
    · obtain ⟨B, rs, v, e, kn, rw', lm, rfl, hn, wf, ro, kn32, rw32, dp, q0, qf⟩ := h
      refine ⟨_, PSs.nox (pss_cons (ps_if (pt_cmpR op_eq (pe_ix ix_tup (pv 0) pe_int (fun _ _ => rfl)) pe_str (nomark _)) (pss_one (ps_ret (pe_ix ix_tup (pv 0) pe_int (fun _ _ => rfl)))) pss_nil)
        (pss_cons (ps_if (pt_cmpR op_eq (pe_ix ix_tup (pv 0) pe_int (fun _ _ => rfl)) pe_str (nomark _)) (pss_one (ps_ret (pe_dget2 (hu_of hr) (pe_dget (hu_of hr) (pv 1) pe_str (fun _ _ => rfl)) (pe_ix ix_tup (pv 0) pe_int (fun _ _ => rfl)) pe_int ⟨rfl, rfl, rfl, rfl⟩))) pss_nil)
        (pss_cons (ps_set (i := 2) sc__law_worth.nd rfl (Or.inl rfl) (pe_call G__law_worth (hr.mono (by omega)) (by rfl) T.g__law_worth T.F__law_worth.kp T.b__law_worth .nil pass0 (pa_cons (pe_ix ix_tup (pv 0) (pe_op op_add pe_int (pe_callTy call_int1 (by rfl) T.m_int (by decide +kernel) (pa_cons (pe_cmpR op_eq (pe_ix ix_tup (pv 0) pe_int (fun _ _ => rfl)) pe_str (nomark _)) pa_nil))) (fun _ _ => rfl)) (pa_cons (pv 1) pa_nil))))
        (pss_cons (ps_if (pt_val (pe_callB call_isi (by rfl) T.m_isinstance (by decide +kernel) (pa_cons (pv 2) (pa_cons (pe_bltn (v := .ty "str") (by rfl) T.m_str (by decide +kernel) rfl) pa_nil)))) (pss_one (ps_ret (pv 2))) pss_nil)
        (pss_cons (ps_if (pt_cmpR op_eq (pe_ix ix_tup (pv 0) pe_int (fun _ _ => rfl)) pe_str (nomark _)) (pss_one (ps_ret (pe_callTy call_int1 (by rfl) T.m_int (by decide +kernel) (pa_cons (pe_cmpR op_eq (pv 2) pe_int (nomark _)) pa_nil)))) pss_nil)
        (pss_cons (ps_if (pt_cmpR op_eq (pe_ix ix_tup (pv 0) pe_int (fun _ _ => rfl)) pe_str (nomark _)) (pss_cons (ps_if (PW.pt (pw_or (pt_cmpR op_lt (pv 2) pe_int (nomark _)) (pw_or1 (pt_cmpR op_ge (pv 2) (pe_callB call_len_seq (by rfl) T.m_len (by decide +kernel) (pa_cons (pe_dget (hu_of hr) (pe_dget (hu_of hr) (pv 1) pe_str (fun _ _ => rfl)) (pe_ix ix_tup (pv 0) pe_int (fun _ _ => rfl)) (fun _ _ => rfl)) pa_nil)) (nomark _))))) (pss_one (ps_ret pe_str)) pss_nil)
        (pss_one (ps_ret (pe_ix ix_list (pe_dget (hu_of hr) (pe_dget (hu_of hr) (pv 1) pe_str (fun _ _ => rfl)) (pe_ix ix_tup (pv 0) pe_int (fun _ _ => rfl)) (fun _ _ => rfl)) (pv 2) (fun _ _ => rfl))))) pss_nil)
        (pss_cons (ps_set (i := 3) sc__law_worth.nd rfl (Or.inl rfl) (pe_call G__law_worth (hr.mono (by omega)) (by rfl) T.g__law_worth T.F__law_worth.kp T.b__law_worth .nil pass0 (pa_cons (pe_ix ix_tup (pv 0) pe_int (fun _ _ => rfl)) (pa_cons (pv 1) pa_nil))))
        (pss_cons (ps_if (pt_val (pe_callB call_isi (by rfl) T.m_isinstance (by decide +kernel) (pa_cons (pv 3) (pa_cons (pe_bltn (v := .ty "str") (by rfl) T.m_str (by decide +kernel) rfl) pa_nil)))) (pss_one (ps_ret (pv 3))) pss_nil)
        (pss_cons (ps_if (PW.pt (pw_and (pt_cmpR op_in_seq (pe_ix ix_tup (pv 0) pe_int (fun _ _ => rfl)) (pe_lst (pa_cons pe_str (pa_cons pe_str pa_nil))) (by rfl)) (pw_and1 (pt_cmpR op_eq (pv 3) pe_int (nomark _))))) (pss_one (ps_ret pe_str)) pss_nil)
        (pss_cons (ps_set (i := 4) sc__law_worth.nd rfl (Or.inl rfl) (pe_dget2 (hu_of hr) (pe_disp (pps_cons pe_str (pe_op op_add (pv 2) (pv 3)) (pps_cons pe_str (pe_op op_sub (pv 2) (pv 3)) (pps_cons pe_str (pe_op op_mul (pv 2) (pv 3)) (pps_cons pe_str (pe_callTy call_int1 (by rfl) T.m_int (by decide +kernel) (pa_cons (pe_cmpR op_lt (pv 2) (pv 3) (nomark _)) pa_nil)) pps_nil)))) (by rfl) (by rfl) (fun z => by cases z) (by decide)) (pe_ix ix_tup (pv 0) pe_int (fun _ _ => rfl)) pe_int ⟨rfl, rfl, rfl, rfl⟩))
        (pss_cons (ps_if (pt_cmpR op_eq (pe_ix ix_tup (pv 0) pe_int (fun _ _ => rfl)) pe_str (nomark _)) (pss_one (ps_set (i := 4) sc__law_worth.nd rfl (Or.inl rfl) (pe_callTy call_int1 (by rfl) T.m_int (by decide +kernel) (pa_cons (pe_cmpR op_eq (pv 2) (pv 3) (nomark _)) pa_nil)))) pss_nil)
        (pss_cons (ps_if (pt_cmpR op_in_seq (pe_ix ix_tup (pv 0) pe_int (fun _ _ => rfl)) (pe_lst (pa_cons pe_str (pa_cons pe_str pa_nil))) (by rfl)) (pss_cons (ps_set (i := 4) sc__law_worth.nd rfl (Or.inl rfl) (pe_op op_fdivG (pv 2) (pv 3)))
        (pss_one (ps_set (i := 4) sc__law_worth.nd rfl (Or.inl rfl) (pe_ix ix_list (pe_lst (pa_cons (pv 4) (pa_cons (pe_op op_sub (pv 2) (pe_op op_mul (pv 4) (pv 3))) pa_nil))) (pe_callTy call_int1 (by rfl) T.m_int (by decide +kernel) (pa_cons (pe_cmpR op_eq (pe_ix ix_tup (pv 0) pe_int (fun _ _ => rfl)) pe_str (nomark _)) pa_nil)) (fun _ _ => rfl))))) pss_nil)
        (pss_one (ps_ret (pe_op op_sub (pe_op op_mod (pe_op op_add (pv 4) pe_int) pe_int) pe_int))))))))))))))), ?_⟩
      have ep := ro.ob
      cases e with
      | num m =>
        obtain ⟨t, xs, rfl, ht, da⟩ := dp_tup dp
        obtain ⟨x0, r0, rfl, d0, e0⟩ := dpAll_cons da
        obtain ⟨x1, r1, rfl, d1, e1⟩ := dpAll_cons e0
        cases dp_str d0
        cases dp_int d1
        refine ⟨_, rfl, t, _, 0, _, rfl, rfl, ht, atI_nat (j := 0) rfl, rfl, _, rfl, ifD rfl ?_⟩
        exact ⟨_, rfl, t, _, 1, _, rfl, rfl, ht, atI_nat (j := 1) rfl, q0 _ rfl _ (Same.refl _)⟩
      | nam x =>
        obtain ⟨t, xs, rfl, ht, da⟩ := dp_tup dp
        obtain ⟨x0, r0, rfl, d0, e0⟩ := dpAll_cons da
        obtain ⟨x1, r1, rfl, d1, e1⟩ := dpAll_cons e0
        cases dp_str d0
        cases dp_str d1
        obtain ⟨kvs, ed, _, hv⟩ := ro.dk
        refine ⟨_, rfl, t, _, 0, _, rfl, rfl, ht, atI_nat (j := 0) rfl, rfl, _, rfl, ifN (by decide +kernel) ?_⟩
        refine ⟨_, rfl, t, _, 0, _, rfl, rfl, ht, atI_nat (j := 0) rfl, rfl, _, rfl, ifD rfl ?_⟩
        refine ⟨_, rfl, B.p, _, rfl, DGet.k (k := .inr "known") ep, B.d, rfl, .inl ⟨_, .inl ed⟩, _, rfl, t, _, 1, _, rfl, rfl, ht, atI_nat (j := 1) rfl, _, DGet.k (k := .inr x) ed, ?_⟩
        rw [hv x]
        have e9 : ((kn x).map V.int).getD (.int 0) = .int ((kn x).getD 0) := by cases kn x <;> rfl
        rw [e9]
        exact q0 _ rfl _ (Same.refl _)
      | no a =>
        obtain ⟨t, xs, rfl, ht, da⟩ := dp_tup dp
        obtain ⟨x0, r0, rfl, d0, e0⟩ := dpAll_cons da
        obtain ⟨x1, r1, rfl, d1, e1⟩ := dpAll_cons e0
        cases dp_str d0
        have hd : a.dep < n := by
          have : a.dep + 1 < n + 1 := hn
          omega
        refine ⟨_, rfl, t, _, 0, _, rfl, rfl, ht, atI_nat (j := 0) rfl, rfl, _, rfl, ifN (by decide +kernel) ?_⟩
        refine ⟨_, rfl, t, _, 0, _, rfl, rfl, ht, atI_nat (j := 0) rfl, rfl, _, rfl, ifN (by decide +kernel) ?_⟩
        refine ⟨_, rfl, _, rfl, t, _, 0, _, rfl, rfl, ht, atI_nat (j := 0) rfl, rfl, .inr ⟨false, rfl, _, _, rfl, rfl, ?_⟩⟩
        refine ⟨t, _, 1, _, rfl, rfl, ht, atI_nat (j := 1) rfl, _, rfl, B, rs, x1, a, kn, rw', lm, rfl, hd, wf, ro, kn32, rw32, d1, fun u hu H1 s1 => ?_, fun f hf H1 s1 => ?_⟩
        · have ht1 := sqT_sm s1 ht
          refine ⟨_, rfl, _, _, _, _, false, rfl, .ty _, ty_int u, kit_str (.int u), _, rfl, ifF rfl ?_⟩
          refine ⟨_, rfl, t, _, 0, _, rfl, rfl, ht1, atI_nat (j := 0) rfl, rfl, _, rfl, ifD rfl ?_⟩
          exact ⟨_, rfl, rfl, .inr ⟨_, rfl, q0 _ (by unfold wx; rw [hu]; rfl) _ s1⟩⟩
        · refine ⟨_, rfl, _, _, _, _, true, rfl, .ty _, dp_ty (.str f), kit_str (.str f), _, rfl, ifT rfl ?_⟩
          exact ⟨_, rfl, qf f (by unfold wx; rw [hf]) _ s1⟩
      | at_ r a =>
        obtain ⟨t, xs, rfl, ht, da⟩ := dp_tup dp
        obtain ⟨x0, r0, rfl, d0, e0⟩ := dpAll_cons da
        obtain ⟨x1, r1, rfl, d1, e1⟩ := dpAll_cons e0
        obtain ⟨x2, r2, rfl, d2, e2⟩ := dpAll_cons e1
        cases dp_str d0
        cases dp_str d1
        have hd : a.dep < n := by
          have : a.dep + 1 < n + 1 := hn
          omega
        refine ⟨_, rfl, t, _, 0, _, rfl, rfl, ht, atI_nat (j := 0) rfl, rfl, _, rfl, ifN (by decide +kernel) ?_⟩
        refine ⟨_, rfl, t, _, 0, _, rfl, rfl, ht, atI_nat (j := 0) rfl, rfl, _, rfl, ifN (by decide +kernel) ?_⟩
        refine ⟨_, rfl, _, rfl, t, _, 0, _, rfl, rfl, ht, atI_nat (j := 0) rfl, rfl, .inr ⟨true, rfl, _, _, rfl, rfl, ?_⟩⟩
        refine ⟨t, _, 2, _, rfl, rfl, ht, atI_nat (j := 2) rfl, _, rfl, B, rs, x2, a, kn, rw', lm, rfl, hd, wf.2, ro, kn32, rw32, d2, fun u hu H1 s1 => ?_, fun f hf H1 s1 => ?_⟩
        · have ht1 := sqT_sm s1 ht
          have ro1 := ro.sm s1
          have rl1 := ro1.rl r wf.1
          have hl : ((rw' r).map V.int).length = (rw' r).length := List.length_map ..
          refine ⟨_, rfl, _, _, _, _, false, rfl, .ty _, ty_int u, kit_str (.int u), _, rfl, ifF rfl ?_⟩
          refine ⟨_, rfl, t, _, 0, _, rfl, rfl, ht1, atI_nat (j := 0) rfl, rfl, _, rfl, ifN (by decide +kernel) ?_⟩
          refine ⟨_, rfl, t, _, 0, _, rfl, rfl, ht1, atI_nat (j := 0) rfl, rfl, _, rfl, ifD rfl ?_⟩
          refine ⟨_, rfl, _, _, rfl, rfl, _, rfl, ?_⟩
          by_cases h0 : u < 0
          · refine ifD h0 (ifT rfl ?_)
            exact qf "place" (by unfold wx; rw [hu]; dsimp only; rw [if_neg (fun z => by have := z.1; omega)]) _ s1
          · refine ifN h0 ?_
            refine ⟨_, rfl, _, rfl, B.p, _, rfl, DGet.k (k := .inr "rows") ro1.ob, _, rfl, t, _, 1, _, rfl, rfl, ht1, atI_nat (j := 1) rfl, B.r, _, rfl, ro1.row wf.1, B.ra r, _, rfl, .inl (.of rl1), _, _, rfl, rfl, _, rfl, ?_⟩
            rw [hl]
            by_cases h1 : ((rw' r).length : Int) ≤ u
            · refine ifD h1 ?_
              exact qf "place" (by unfold wx; rw [hu]; dsimp only; rw [if_neg (fun z => by have := z.2; omega)]) _ s1
            · refine ifN h1 ?_
              refine ⟨_, rfl, B.p, _, rfl, DGet.k (k := .inr "rows") ro1.ob, _, rfl, t, _, 1, _, rfl, rfl, ht1, atI_nat (j := 1) rfl, B.r, _, rfl, ro1.row wf.1, _, rfl, B.ra r, _, _, _, rfl, rfl, .of rl1, at_ints (by omega) (by omega), ?_⟩
              exact q0 _ (by unfold wx; rw [hu]; dsimp only; rw [if_pos ⟨by omega, by omega⟩]) _ s1
        · refine ⟨_, rfl, _, _, _, _, true, rfl, .ty _, dp_ty (.str f), kit_str (.str f), _, rfl, ifT rfl ?_⟩
          exact ⟨_, rfl, qf f (by unfold wx; rw [hf]) _ s1⟩
      | op wd a b =>
        obtain ⟨w1, w2, w3, w4⟩ := wds_not wf.1
        obtain ⟨t, xs, rfl, ht, da⟩ := dp_tup dp
        obtain ⟨x0, r0, rfl, d0, e0⟩ := dpAll_cons da
        obtain ⟨x1, r1, rfl, d1, e1⟩ := dpAll_cons e0
        obtain ⟨x2, r2, rfl, d2, e2⟩ := dpAll_cons e1
        cases dp_str d0
        have nv : ∀ {x y : Str} {A B : Prop}, x ≠ y → B → if decide (V.str x = V.str y) = true then A else B := fun h hB => ifN (fun z => h (V.str.inj z)) hB
        have nf : ∀ {x y : Str}, x ≠ y → decide (V.str x = V.str y) = false := fun h => decide_eq_false (fun z => h (V.str.inj z))
        have hd : max a.dep b.dep + 1 < n + 1 := hn
        have hda : a.dep < n := by
          have := Nat.le_max_left a.dep b.dep
          omega
        have hdb : b.dep < n := by
          have := Nat.le_max_right a.dep b.dep
          omega
        refine ⟨_, rfl, t, _, 0, _, rfl, rfl, ht, atI_nat (j := 0) rfl, rfl, _, rfl, nv w1 ?_⟩
        refine ⟨_, rfl, t, _, 0, _, rfl, rfl, ht, atI_nat (j := 0) rfl, rfl, _, rfl, nv w2 ?_⟩
        refine ⟨_, rfl, _, rfl, t, _, 0, _, rfl, rfl, ht, atI_nat (j := 0) rfl, rfl, .inr ⟨_, rfl, _, _, rfl, rfl, ?_⟩⟩
        rw [nf w3]
        refine ⟨t, _, 1, _, rfl, rfl, ht, atI_nat (j := 1) rfl, _, rfl, B, rs, x1, a, kn, rw', lm, rfl, hda, wf.2.1, ro, kn32, rw32, d1, fun u hu H1 s1 => ?_, fun f hf H1 s1 => ?_⟩
        · have ht1 := sqT_sm s1 ht
          have u32 := wx_32 kn32 rw32 wf.2.1 hu
          refine ⟨_, rfl, _, _, _, _, false, rfl, .ty _, ty_int u, kit_str (.int u), _, rfl, ifF rfl ?_⟩
          refine ⟨_, rfl, t, _, 0, _, rfl, rfl, ht1, atI_nat (j := 0) rfl, rfl, _, rfl, nv w4 ?_⟩
          refine ⟨_, rfl, t, _, 0, _, rfl, rfl, ht1, atI_nat (j := 0) rfl, rfl, _, rfl, nv w3 ?_⟩
          refine ⟨_, rfl, t, _, 2, _, rfl, rfl, ht1, atI_nat (j := 2) rfl, _, rfl, B, rs, x2, b, kn, rw', lm, rfl, hdb, wf.2.2, ro.sm s1, kn32, rw32, dp_sm s1 d2, fun v hv H2 s2 => ?_, fun f hf H2 s2 => ?_⟩
          · have s12 := s1.trans s2
            have ht2 := sqT_sm s12 ht
            have v32 := wx_32 kn32 rw32 wf.2.2 hv
            refine ⟨_, rfl, _, _, _, _, false, rfl, .ty _, ty_int v, kit_str (.int v), _, rfl, ifF rfl ?_⟩
            refine ⟨_, rfl, t, _, 0, _, rfl, rfl, ht2, atI_nat (j := 0) rfl, by decide, fun L1 hL1 => ?_⟩
            have s3 := same_upd (o := .lst [.str "div", .str "rem"]) s12 (none_sm s12 hL1)
            have ht3 := sqT_sm s3 ht
            refine ⟨L1, _, rfl, .inl (.of upd_same), rfl, by decide +kernel, _, rfl, ?_⟩
            have hd := due_rck (a := u) (b := v) wf.1
            have mulc : CMul u v := .inl ⟨by have := u32.1; omega, by have := u32.2; omega⟩
            cases hc : rck wd u v with
            | none =>
              have qd := qf "division" (by unfold wx; rw [hu]; dsimp only; rw [hv]; dsimp only; rw [hc]) _ s3
              rw [hc] at hd
              have hd : Due u v wd .non := hd
              cases hd with
              | div0 h => exact ifT rfl ⟨_, rfl, rfl, _, rfl, ifD (by rw [h]) qd⟩
              | rem0 h => exact ifT rfl ⟨_, rfl, rfl, _, rfl, ifD (by rw [h]) qd⟩
            | some z =>
              have q : ∀ H', Same H H' → Q (.int z) H' := q0 z (by unfold wx; rw [hu]; dsimp only; rw [hv]; dsimp only; rw [hc])
              rw [hc] at hd
              have hd : Due u v wd (.int z) := hd
              cases hd with
              | div h =>
                refine ifT rfl ⟨_, rfl, rfl, _, rfl, ifN (fun z => h (V.int.inj z)) ?_⟩
                intro D1 hD1
                have s4 := same_upd (o := .dK (tbl (.int (u + v)) (.int (u - v)) (.int (u * v)) (.int (if decide (u < v) = true then 1 else 0)))) (same_upd (o := .dK []) s3 (none_sm s3 hD1)) (none_sm s3 hD1)
                have ht4 := sqT_sm s4 ht
                refine ⟨_, rfl, _, rfl, _, _, rfl, rfl, _, rfl, _, rfl, _, _, rfl, rfl, _, rfl, _, rfl, _, _, rfl, rfl, mulc, _, rfl, _, rfl, _, _, rfl, rfl, .inr ⟨_, rfl, ?_⟩⟩
                refine ⟨upd_same, [(.inr "add", _), (.inr "sub", _), (.inr "mul", _), (.inr "less", _)], rfl, (by show 4 ≤ 15; decide), D1, rfl, .inl ⟨_, .inl upd_same⟩, _, rfl, t, _, 0, _, rfl, rfl, ht4, atI_nat (j := 0) rfl, _, DGet.k (k := .inr "div") upd_same, ?_⟩
                have tv := tbl_div (.int (u + v)) (.int (u - v)) (.int (u * v)) (.int (if decide (u < v) = true then 1 else 0))
                show gName 4 ((valV (tbl (.int (u + v)) (.int (u - v)) (.int (u * v)) (.int (if decide (u < v) = true then 1 else 0))) (.inr "div")).getD (.int 0)) _ _ _
                rw [tv]
                refine ⟨_, rfl, t, _, 0, _, rfl, rfl, ht4, atI_nat (j := 0) rfl, rfl, _, rfl, ifN (by decide +kernel) ?_⟩
                refine ⟨_, rfl, t, _, 0, _, rfl, rfl, ht4, atI_nat (j := 0) rfl, by decide, fun L2 hL2 => ?_⟩
                have s5 := same_upd (o := .lst [.str "div", .str "rem"]) s4 (none_sm s4 hL2)
                have ht5 := sqT_sm s5 ht
                refine ⟨L2, _, rfl, .inl (.of upd_same), rfl, by decide +kernel, _, rfl, ?_⟩
                refine ifT rfl ?_
                refine ⟨_, rfl, _, rfl, u, v, rfl, rfl, ⟨h, log_small ⟨v32.1, by have := v32.2; omega⟩⟩, ?_⟩
                refine ⟨_, rfl, _, rfl, _, rfl, _, rfl, _, _, rfl, rfl, .inr ⟨by have := v32.1; omega, by have := v32.2; omega⟩, _, _, rfl, rfl, (by show 2 ≤ sizeLine; decide), fun L3 hL3 => ?_⟩
                have s6 := same_upd (o := .lst [.int (u.fdiv v), .int (u - u.fdiv v * v)]) s5 (none_sm s5 hL3)
                have ht6 := sqT_sm s6 ht
                refine ⟨_, rfl, t, _, 0, _, rfl, rfl, ht6, atI_nat (j := 0) rfl, rfl, .inr ⟨false, rfl, L3, _, _, _, rfl, rfl, .of upd_same, atI_nat (j := 0) rfl, ?_⟩⟩
                refine ⟨_, rfl, _, _, rfl, rfl, _, _, rfl, rfl, (by show (0 : Int) < 4294967296; decide), _, _, rfl, rfl, ?_⟩
                exact q _ s6
              | rem h =>
                refine ifT rfl ⟨_, rfl, rfl, _, rfl, ifN (fun z => h (V.int.inj z)) ?_⟩
                intro D1 hD1
                have s4 := same_upd (o := .dK (tbl (.int (u + v)) (.int (u - v)) (.int (u * v)) (.int (if decide (u < v) = true then 1 else 0)))) (same_upd (o := .dK []) s3 (none_sm s3 hD1)) (none_sm s3 hD1)
                have ht4 := sqT_sm s4 ht
                refine ⟨_, rfl, _, rfl, _, _, rfl, rfl, _, rfl, _, rfl, _, _, rfl, rfl, _, rfl, _, rfl, _, _, rfl, rfl, mulc, _, rfl, _, rfl, _, _, rfl, rfl, .inr ⟨_, rfl, ?_⟩⟩
                refine ⟨upd_same, [(.inr "add", _), (.inr "sub", _), (.inr "mul", _), (.inr "less", _)], rfl, (by show 4 ≤ 15; decide), D1, rfl, .inl ⟨_, .inl upd_same⟩, _, rfl, t, _, 0, _, rfl, rfl, ht4, atI_nat (j := 0) rfl, _, DGet.k (k := .inr "rem") upd_same, ?_⟩
                have tv := tbl_rem (.int (u + v)) (.int (u - v)) (.int (u * v)) (.int (if decide (u < v) = true then 1 else 0))
                show gName 4 ((valV (tbl (.int (u + v)) (.int (u - v)) (.int (u * v)) (.int (if decide (u < v) = true then 1 else 0))) (.inr "rem")).getD (.int 0)) _ _ _
                rw [tv]
                refine ⟨_, rfl, t, _, 0, _, rfl, rfl, ht4, atI_nat (j := 0) rfl, rfl, _, rfl, ifN (by decide +kernel) ?_⟩
                refine ⟨_, rfl, t, _, 0, _, rfl, rfl, ht4, atI_nat (j := 0) rfl, by decide, fun L2 hL2 => ?_⟩
                have s5 := same_upd (o := .lst [.str "div", .str "rem"]) s4 (none_sm s4 hL2)
                have ht5 := sqT_sm s5 ht
                refine ⟨L2, _, rfl, .inl (.of upd_same), rfl, by decide +kernel, _, rfl, ?_⟩
                refine ifT rfl ?_
                refine ⟨_, rfl, _, rfl, u, v, rfl, rfl, ⟨h, log_small ⟨v32.1, by have := v32.2; omega⟩⟩, ?_⟩
                refine ⟨_, rfl, _, rfl, _, rfl, _, rfl, _, _, rfl, rfl, .inr ⟨by have := v32.1; omega, by have := v32.2; omega⟩, _, _, rfl, rfl, (by show 2 ≤ sizeLine; decide), fun L3 hL3 => ?_⟩
                have s6 := same_upd (o := .lst [.int (u.fdiv v), .int (u - u.fdiv v * v)]) s5 (none_sm s5 hL3)
                have ht6 := sqT_sm s6 ht
                refine ⟨_, rfl, t, _, 0, _, rfl, rfl, ht6, atI_nat (j := 0) rfl, rfl, .inr ⟨true, rfl, L3, _, _, _, rfl, rfl, .of upd_same, atI_nat (j := 1) rfl, ?_⟩⟩
                refine ⟨_, rfl, _, _, rfl, rfl, _, _, rfl, rfl, (by show (0 : Int) < 4294967296; decide), _, _, rfl, rfl, ?_⟩
                have q2 := q _ s6
                rw [← fmod_is] at q2
                exact q2
              | add =>
                refine ifF rfl ?_
                intro D1 hD1
                have s4 := same_upd (o := .dK (tbl (.int (u + v)) (.int (u - v)) (.int (u * v)) (.int (if decide (u < v) = true then 1 else 0)))) (same_upd (o := .dK []) s3 (none_sm s3 hD1)) (none_sm s3 hD1)
                have ht4 := sqT_sm s4 ht
                refine ⟨_, rfl, _, rfl, _, _, rfl, rfl, _, rfl, _, rfl, _, _, rfl, rfl, _, rfl, _, rfl, _, _, rfl, rfl, mulc, _, rfl, _, rfl, _, _, rfl, rfl, .inr ⟨_, rfl, ?_⟩⟩
                refine ⟨upd_same, [(.inr "add", _), (.inr "sub", _), (.inr "mul", _), (.inr "less", _)], rfl, (by show 4 ≤ 15; decide), D1, rfl, .inl ⟨_, .inl upd_same⟩, _, rfl, t, _, 0, _, rfl, rfl, ht4, atI_nat (j := 0) rfl, _, DGet.k (k := .inr "add") upd_same, ?_⟩
                have tv := tbl_add (.int (u + v)) (.int (u - v)) (.int (u * v)) (.int (if decide (u < v) = true then 1 else 0))
                show gName 4 ((valV (tbl (.int (u + v)) (.int (u - v)) (.int (u * v)) (.int (if decide (u < v) = true then 1 else 0))) (.inr "add")).getD (.int 0)) _ _ _
                rw [tv]
                refine ⟨_, rfl, t, _, 0, _, rfl, rfl, ht4, atI_nat (j := 0) rfl, rfl, _, rfl, ifN (by decide +kernel) ?_⟩
                refine ⟨_, rfl, t, _, 0, _, rfl, rfl, ht4, atI_nat (j := 0) rfl, by decide, fun L2 hL2 => ?_⟩
                have s5 := same_upd (o := .lst [.str "div", .str "rem"]) s4 (none_sm s4 hL2)
                have ht5 := sqT_sm s5 ht
                refine ⟨L2, _, rfl, .inl (.of upd_same), rfl, by decide +kernel, _, rfl, ?_⟩
                refine ifF rfl ?_
                refine ⟨_, rfl, _, _, rfl, rfl, _, _, rfl, rfl, (by show (0 : Int) < 4294967296; decide), _, _, rfl, rfl, ?_⟩
                exact q _ s5
              | sub =>
                refine ifF rfl ?_
                intro D1 hD1
                have s4 := same_upd (o := .dK (tbl (.int (u + v)) (.int (u - v)) (.int (u * v)) (.int (if decide (u < v) = true then 1 else 0)))) (same_upd (o := .dK []) s3 (none_sm s3 hD1)) (none_sm s3 hD1)
                have ht4 := sqT_sm s4 ht
                refine ⟨_, rfl, _, rfl, _, _, rfl, rfl, _, rfl, _, rfl, _, _, rfl, rfl, _, rfl, _, rfl, _, _, rfl, rfl, mulc, _, rfl, _, rfl, _, _, rfl, rfl, .inr ⟨_, rfl, ?_⟩⟩
                refine ⟨upd_same, [(.inr "add", _), (.inr "sub", _), (.inr "mul", _), (.inr "less", _)], rfl, (by show 4 ≤ 15; decide), D1, rfl, .inl ⟨_, .inl upd_same⟩, _, rfl, t, _, 0, _, rfl, rfl, ht4, atI_nat (j := 0) rfl, _, DGet.k (k := .inr "sub") upd_same, ?_⟩
                have tv := tbl_sub (.int (u + v)) (.int (u - v)) (.int (u * v)) (.int (if decide (u < v) = true then 1 else 0))
                show gName 4 ((valV (tbl (.int (u + v)) (.int (u - v)) (.int (u * v)) (.int (if decide (u < v) = true then 1 else 0))) (.inr "sub")).getD (.int 0)) _ _ _
                rw [tv]
                refine ⟨_, rfl, t, _, 0, _, rfl, rfl, ht4, atI_nat (j := 0) rfl, rfl, _, rfl, ifN (by decide +kernel) ?_⟩
                refine ⟨_, rfl, t, _, 0, _, rfl, rfl, ht4, atI_nat (j := 0) rfl, by decide, fun L2 hL2 => ?_⟩
                have s5 := same_upd (o := .lst [.str "div", .str "rem"]) s4 (none_sm s4 hL2)
                have ht5 := sqT_sm s5 ht
                refine ⟨L2, _, rfl, .inl (.of upd_same), rfl, by decide +kernel, _, rfl, ?_⟩
                refine ifF rfl ?_
                refine ⟨_, rfl, _, _, rfl, rfl, _, _, rfl, rfl, (by show (0 : Int) < 4294967296; decide), _, _, rfl, rfl, ?_⟩
                exact q _ s5
              | mul =>
                refine ifF rfl ?_
                intro D1 hD1
                have s4 := same_upd (o := .dK (tbl (.int (u + v)) (.int (u - v)) (.int (u * v)) (.int (if decide (u < v) = true then 1 else 0)))) (same_upd (o := .dK []) s3 (none_sm s3 hD1)) (none_sm s3 hD1)
                have ht4 := sqT_sm s4 ht
                refine ⟨_, rfl, _, rfl, _, _, rfl, rfl, _, rfl, _, rfl, _, _, rfl, rfl, _, rfl, _, rfl, _, _, rfl, rfl, mulc, _, rfl, _, rfl, _, _, rfl, rfl, .inr ⟨_, rfl, ?_⟩⟩
                refine ⟨upd_same, [(.inr "add", _), (.inr "sub", _), (.inr "mul", _), (.inr "less", _)], rfl, (by show 4 ≤ 15; decide), D1, rfl, .inl ⟨_, .inl upd_same⟩, _, rfl, t, _, 0, _, rfl, rfl, ht4, atI_nat (j := 0) rfl, _, DGet.k (k := .inr "mul") upd_same, ?_⟩
                have tv := tbl_mul (.int (u + v)) (.int (u - v)) (.int (u * v)) (.int (if decide (u < v) = true then 1 else 0))
                show gName 4 ((valV (tbl (.int (u + v)) (.int (u - v)) (.int (u * v)) (.int (if decide (u < v) = true then 1 else 0))) (.inr "mul")).getD (.int 0)) _ _ _
                rw [tv]
                refine ⟨_, rfl, t, _, 0, _, rfl, rfl, ht4, atI_nat (j := 0) rfl, rfl, _, rfl, ifN (by decide +kernel) ?_⟩
                refine ⟨_, rfl, t, _, 0, _, rfl, rfl, ht4, atI_nat (j := 0) rfl, by decide, fun L2 hL2 => ?_⟩
                have s5 := same_upd (o := .lst [.str "div", .str "rem"]) s4 (none_sm s4 hL2)
                have ht5 := sqT_sm s5 ht
                refine ⟨L2, _, rfl, .inl (.of upd_same), rfl, by decide +kernel, _, rfl, ?_⟩
                refine ifF rfl ?_
                refine ⟨_, rfl, _, _, rfl, rfl, _, _, rfl, rfl, (by show (0 : Int) < 4294967296; decide), _, _, rfl, rfl, ?_⟩
                exact q _ s5
              | less =>
                refine ifF rfl ?_
                intro D1 hD1
                have s4 := same_upd (o := .dK (tbl (.int (u + v)) (.int (u - v)) (.int (u * v)) (.int (if decide (u < v) = true then 1 else 0)))) (same_upd (o := .dK []) s3 (none_sm s3 hD1)) (none_sm s3 hD1)
                have ht4 := sqT_sm s4 ht
                refine ⟨_, rfl, _, rfl, _, _, rfl, rfl, _, rfl, _, rfl, _, _, rfl, rfl, _, rfl, _, rfl, _, _, rfl, rfl, mulc, _, rfl, _, rfl, _, _, rfl, rfl, .inr ⟨_, rfl, ?_⟩⟩
                refine ⟨upd_same, [(.inr "add", _), (.inr "sub", _), (.inr "mul", _), (.inr "less", _)], rfl, (by show 4 ≤ 15; decide), D1, rfl, .inl ⟨_, .inl upd_same⟩, _, rfl, t, _, 0, _, rfl, rfl, ht4, atI_nat (j := 0) rfl, _, DGet.k (k := .inr "less") upd_same, ?_⟩
                have tv := tbl_less (.int (u + v)) (.int (u - v)) (.int (u * v)) (.int (if decide (u < v) = true then 1 else 0))
                show gName 4 ((valV (tbl (.int (u + v)) (.int (u - v)) (.int (u * v)) (.int (if decide (u < v) = true then 1 else 0))) (.inr "less")).getD (.int 0)) _ _ _
                rw [tv]
                refine ⟨_, rfl, t, _, 0, _, rfl, rfl, ht4, atI_nat (j := 0) rfl, rfl, _, rfl, ifN (by decide +kernel) ?_⟩
                refine ⟨_, rfl, t, _, 0, _, rfl, rfl, ht4, atI_nat (j := 0) rfl, by decide, fun L2 hL2 => ?_⟩
                have s5 := same_upd (o := .lst [.str "div", .str "rem"]) s4 (none_sm s4 hL2)
                have ht5 := sqT_sm s5 ht
                refine ⟨L2, _, rfl, .inl (.of upd_same), rfl, by decide +kernel, _, rfl, ?_⟩
                refine ifF rfl ?_
                refine ⟨_, rfl, _, _, rfl, rfl, _, _, rfl, rfl, (by show (0 : Int) < 4294967296; decide), _, _, rfl, rfl, ?_⟩
                have q2 := q _ s5
                rw [← wr_in (b2n_32 _)] at q2
                exact q2
              | same =>
                refine ifF rfl ?_
                intro D1 hD1
                have s4 := same_upd (o := .dK (tbl (.int (u + v)) (.int (u - v)) (.int (u * v)) (.int (if decide (u < v) = true then 1 else 0)))) (same_upd (o := .dK []) s3 (none_sm s3 hD1)) (none_sm s3 hD1)
                have ht4 := sqT_sm s4 ht
                refine ⟨_, rfl, _, rfl, _, _, rfl, rfl, _, rfl, _, rfl, _, _, rfl, rfl, _, rfl, _, rfl, _, _, rfl, rfl, mulc, _, rfl, _, rfl, _, _, rfl, rfl, .inr ⟨_, rfl, ?_⟩⟩
                refine ⟨upd_same, [(.inr "add", _), (.inr "sub", _), (.inr "mul", _), (.inr "less", _)], rfl, (by show 4 ≤ 15; decide), D1, rfl, .inl ⟨_, .inl upd_same⟩, _, rfl, t, _, 0, _, rfl, rfl, ht4, atI_nat (j := 0) rfl, _, DGet.k (k := .inr "same") upd_same, ?_⟩
                have tv := tbl_same (.int (u + v)) (.int (u - v)) (.int (u * v)) (.int (if decide (u < v) = true then 1 else 0))
                show gName 4 ((valV (tbl (.int (u + v)) (.int (u - v)) (.int (u * v)) (.int (if decide (u < v) = true then 1 else 0))) (.inr "same")).getD (.int 0)) _ _ _
                rw [tv]
                refine ⟨_, rfl, t, _, 0, _, rfl, rfl, ht4, atI_nat (j := 0) rfl, rfl, _, rfl, ifD rfl ?_⟩
                refine ⟨_, rfl, _, rfl, rfl, .inr ⟨_, rfl, ?_⟩⟩
                refine ⟨_, rfl, t, _, 0, _, rfl, rfl, ht4, atI_nat (j := 0) rfl, by decide, fun L2 hL2 => ?_⟩
                have s5 := same_upd (o := .lst [.str "div", .str "rem"]) s4 (none_sm s4 hL2)
                have ht5 := sqT_sm s5 ht
                refine ⟨L2, _, rfl, .inl (.of upd_same), rfl, by decide +kernel, _, rfl, ?_⟩
                refine ifF rfl ?_
                refine ⟨_, rfl, _, _, rfl, rfl, _, _, rfl, rfl, (by show (0 : Int) < 4294967296; decide), _, _, rfl, rfl, ?_⟩
                have q2 := q _ s5
                rw [← wr_in (b2n_32 _), show decide (u = v) = decide (V.int u = V.int v) by by_cases z : u = v <;> simp [z]] at q2
                exact q2
          · refine ⟨_, rfl, _, _, _, _, true, rfl, .ty _, dp_ty (.str f), kit_str (.str f), _, rfl, ifT rfl ?_⟩
            exact ⟨_, rfl, qf f (by unfold wx; rw [hu]; dsimp only; rw [hf]) _ (s1.trans s2)⟩
        · refine ⟨_, rfl, _, _, _, _, true, rfl, .ty _, dp_ty (.str f), kit_str (.str f), _, rfl, ifT rfl ?_⟩
          exact ⟨_, rfl, qf f (by unfold wx; rw [hf]) _ s1⟩
end

section
variable {P : Program} {w : World} {K : PySem.W.Frag} {mg : Str → Option Value} {base : Heap}
def playK (lf : Int) (t h : Addr) : List (Key × V) := [(.inr "left", .int lf), (.inr "told", .ref t), (.inr "helpers", .ref h)]
theorem playK_put (lf l2 : Int) (t h : Addr) : putK (playK lf t h) (.inr "left") (.int l2) = playK l2 t h := by
  have e1 : decide ((Sum.inr "left" : Key) = .inr "left") = true := by decide +kernel
  have n2 : ¬ ((Sum.inr "told" : Key) = .inr "left") := by decide +kernel
  have n3 : ¬ ((Sum.inr "helpers" : Key) = .inr "left") := by decide +kernel
  unfold putK playK
  rw [if_pos (by rw [List.any_cons, e1]; rfl), List.map_cons, List.map_cons, List.map_cons, if_pos rfl, if_neg n2, if_neg n3]
  rfl
structure LStd (K : PySem.W.Frag) (hs : Hs) (rs : List Str) (A : Adr) (h : Addr) (M N : Nat) (H : Hp) (s : PSt) : Prop where
  ro : LRoom H A rs s.kn s.rw (N - s.lf)
  ob : H A.q = some (.dK (playK (s.lf : Int) A.t h))
  tl : H A.t = some (.lst (s.td.map V.int))
  hk : HelpAt K H h hs
  k32 : Kn32 s.kn
  r32 : Rw32 s.rw
  sz : s.td.length + s.lf ≤ M
  nz : s.lf ≤ N
  m6 : M ≤ 6000
  n6 : N ≤ 7000
  pq : A.p ≠ A.q
  pd : A.p ≠ A.d
  dq : A.d ≠ A.q
  rd : A.r ≠ A.d
  rq : A.r ≠ A.q
  hd : h ≠ A.d
  hq : h ≠ A.q
  rt : ∀ x ∈ rs, A.ra x ≠ A.t
  ri : ∀ x ∈ rs, ∀ y ∈ rs, A.ra x = A.ra y → x = y
theorem LStd.sm {hs : Hs} {rs : List Str} {A : Adr} {h : Addr} {M N : Nat} {H H' : Hp} {s : PSt} (k : LStd K hs rs A h M N H s) (e : Same H H') : LStd K hs rs A h M N H' s :=
  ⟨k.ro.sm e, e _ _ k.ob, e _ _ k.tl, k.hk.sm e, k.k32, k.r32, k.sz, k.nz, k.m6, k.n6, k.pq, k.pd, k.dq, k.rd, k.rq, k.hd, k.hq, k.rt, k.ri⟩
theorem LStd.mono {hs : Hs} {rs : List Str} {A : Adr} {h : Addr} {M N M' N' : Nat} {H : Hp} {s : PSt} (k : LStd K hs rs A h M N H s) (l : M ≤ M') (l6 : M' ≤ 6000) (ln : N ≤ N') (n6 : N' ≤ 7000) : LStd K hs rs A h M' N' H s := by
  obtain ⟨h1, ⟨kvs, h2, h3, h4⟩, h5, h6⟩ := k.ro
  exact ⟨⟨h1, ⟨kvs, h2, by omega, h4⟩, h5, h6⟩, k.ob, k.tl, k.hk, k.k32, k.r32, by have := k.sz; omega, by have := k.nz; omega, l6, n6, k.pq, k.pd, k.dq, k.rd, k.rq, k.hd, k.hq, k.rt, k.ri⟩
structure LApart (rs : List Str) (A : Adr) (h : Addr) : Prop where
  pt : A.p ≠ A.t
  dt : A.d ≠ A.t
  qt : A.q ≠ A.t
  rt : A.r ≠ A.t
  ht : h ≠ A.t
  ap : ∀ x ∈ rs, A.ra x ≠ A.p
  ad : ∀ x ∈ rs, A.ra x ≠ A.d
  aq : ∀ x ∈ rs, A.ra x ≠ A.q
  ar : ∀ x ∈ rs, A.ra x ≠ A.r
  ah : ∀ x ∈ rs, A.ra x ≠ h
theorem LStd.ap {hs : Hs} {rs : List Str} {A : Adr} {h : Addr} {M N : Nat} {H : Hp} {s : PSt} (k : LStd K hs rs A h M N H s) : LApart rs A h := by
  obtain ⟨e1, ⟨kvs, e2, _⟩, ⟨rvs, e5, _⟩, e6⟩ := k.ro
  have e3 := k.ob
  have e4 := k.tl
  obtain ⟨hvs, e7, _⟩ := k.hk
  refine ⟨fun z => ?_, fun z => ?_, fun z => ?_, fun z => ?_, fun z => ?_, fun x hx z => ?_, fun x hx z => ?_, fun x hx z => ?_, fun x hx z => ?_, fun x hx z => ?_⟩
  · rw [z, e4] at e1; cases e1
  · rw [z, e4] at e2; cases e2
  · rw [z, e4] at e3; cases e3
  · rw [z, e4] at e5; cases e5
  · rw [z, e4] at e7; cases e7
  · have := e6 x hx; rw [z, e1] at this; cases this
  · have := e6 x hx; rw [z, e2] at this; cases this
  · have := e6 x hx; rw [z, e3] at this; cases this
  · have := e6 x hx; rw [z, e5] at this; cases this
  · have := e6 x hx; rw [z, e7] at this; cases this
theorem LStd.turn {hs : Hs} {rs : List Str} {A : Adr} {h : Addr} {M N : Nat} {H : Hp} {s : PSt} (k : LStd K hs rs A h M N H s) (l0 : s.lf ≠ 0) : LStd K hs rs A h (M - 1) (N - 1) (upd H A.q (.dK (playK ((s.lf : Int) - 1) A.t h))) { s with lf := s.lf - 1 } := by
  have a := k.ap
  obtain ⟨e1, ⟨kvs, e2, l2, hv⟩, ⟨rvs, e5, v5⟩, e6⟩ := k.ro
  have hl : ((s.lf : Nat) : Int) - 1 = ((s.lf - 1 : Nat) : Int) := by omega
  have sz := k.sz
  have nz := k.nz
  have m6 := k.m6
  have n6 := k.n6
  refine ⟨⟨by rw [upd_ne k.pq]; exact e1, ⟨kvs, by rw [upd_ne k.dq]; exact e2, ?_, hv⟩, ⟨rvs, by rw [upd_ne k.rq]; exact e5, v5⟩, fun x hx => by rw [upd_ne (a.aq x hx)]; exact e6 x hx⟩, by rw [upd_same, hl], by rw [upd_ne a.qt.symm]; exact k.tl, k.hk.kp (Kp.upd (S := fun z => z = A.q) k.ob trivial rfl) k.hq, k.k32, k.r32, ?_, ?_, by omega, by omega, k.pq, k.pd, k.dq, k.rd, k.rq, k.hd, k.hq, k.rt, k.ri⟩
  · show kvs.length ≤ N - 1 - (s.lf - 1)
    omega
  · show s.td.length + (s.lf - 1) ≤ M - 1
    omega
  · show s.lf - 1 ≤ N - 1
    omega
def gvD (v : Int) : PyData := .tuple [.str "gave", .int v]
def onD : PyData := .tuple [.str "on"]
def fltD (w : Str) : PyData := .tuple [.str "fault", .str w]
def LPost (K : PySem.W.Frag) (hs : Hs) (rs : List Str) (A : Adr) (h : Addr) (M N : Nat) (H : Hp) (s : PSt) (Q : VK) : Rs → Prop
  | .fin => ∀ H', Kp (SA rs A) H H' → LStd K hs rs A h M N H' s → Q .non H'
  | .gave v => ∀ H' u, Kp (SA rs A) H H' → LStd K hs rs A h M N H' s → In32 v → Dp K H' (.ref u) (gvD v) → Q (.ref u) H'
  | .on => ∀ H' u, Kp (SA rs A) H H' → LStd K hs rs A h M N H' s → Dp K H' (.ref u) onD → Q (.ref u) H'
  | .flt w => ∀ H' u, Kp (SA rs A) H H' → LStd K hs rs A h M N H' s → Dp K H' (.ref u) (fltD w) → Q (.ref u) H'
theorem LPost.kp {hs : Hs} {rs : List Str} {A : Adr} {h : Addr} {M N : Nat} {H H1 : Hp} {s : PSt} {Q : VK} {r : Rs} (k : Kp (SA rs A) H H1) (p : LPost K hs rs A h M N H s Q r) : LPost K hs rs A h M N H1 s Q r := by
  cases r with
  | fin => exact fun H' k' st => p H' (k.trans k') st
  | gave v => exact fun H' u k' st i d => p H' u (k.trans k') st i d
  | on => exact fun H' u k' st d => p H' u (k.trans k') st d
  | flt w => exact fun H' u k' st d => p H' u (k.trans k') st d
theorem LPost.mono {hs : Hs} {rs : List Str} {A : Adr} {h : Addr} {M M' N N' : Nat} {H : Hp} {s : PSt} {Q : VK} {r : Rs} (l : M ≤ M') (l6 : M' ≤ 6000) (ln : N ≤ N') (n6 : N' ≤ 7000) (p : LPost K hs rs A h M' N' H s Q r) : LPost K hs rs A h M N H s Q r := by
  cases r with
  | fin => exact fun H' k' st => p H' k' (st.mono l l6 ln n6)
  | gave v => exact fun H' u k' st i d => p H' u k' (st.mono l l6 ln n6) i d
  | on => exact fun H' u k' st d => p H' u k' (st.mono l l6 ln n6) d
  | flt w => exact fun H' u k' st d => p H' u k' (st.mono l l6 ln n6) d
/-- a fault of an expression, told in a new tuple -/
theorem LPost.flt {hs : Hs} {rs : List Str} {A : Adr} {h : Addr} {M N : Nat} {H : Hp} {s : PSt} {Q : VK} {f : Str} (p : LPost K hs rs A h M N H s Q (.flt f)) (st : LStd K hs rs A h M N H s) {H' : Hp} (e : Same H H') : 2 ≤ sizeLine ∧ ∀ u, H' u = none → Q (.ref u) (upd H' u (.tup [.str "fault", .str f])) :=
  ⟨by decide, fun u nu => p _ u (Kp.of_same (e.trans (same_new nu))) (st.sm (e.trans (same_new nu))) (.tup (.of upd_same) (.cons (.str _) (.cons (.str _) .nil)))⟩
def sp_ldone (K : PySem.W.Frag) (n : Nat) : Sp := fun vs H Q _ => ∃ (hs : Hs) (rs : List Str) (A : Adr) (h : Addr) (M N : Nat) (s s' : PSt) (v : V) (bd : List Sm) (r : Rs) (F : Nat), vs = [v, .ref A.p, .ref A.q] ∧ LStd K hs rs A h M N H s ∧ Dp K H v (.tuple (Sm.ds bd)) ∧ (∀ m ∈ bd, m.ok hs n rs) ∧ doAll hs F bd s = some (r, s') ∧ LPost K hs rs A h M N H s' Q r
def sp_lone (K : PySem.W.Frag) (n : Nat) : Sp := fun vs H Q _ => ∃ (hs : Hs) (rs : List Str) (A : Adr) (h : Addr) (M N : Nat) (s s' : PSt) (v : V) (m : Sm) (r : Rs) (F : Nat), vs = [v, .ref A.p, .ref A.q] ∧ LStd K hs rs A h M N H s ∧ Dp K H v m.d ∧ m.ok hs n rs ∧ doOne hs F m s = some (r, s') ∧ M < 6000 ∧ N < 7000 ∧ LPost K hs rs A h (M + 1) (N + 1) H s' Q r
def sp_lagain (K : PySem.W.Frag) (n : Nat) : Sp := fun vs H Q _ => ∃ (hs : Hs) (rs : List Str) (A : Adr) (h : Addr) (M N : Nat) (s s' : PSt) (v : V) (e : Ex) (b : List Sm) (r : Rs) (F : Nat), vs = [v, .ref A.p, .ref A.q] ∧ LStd K hs rs A h M N H s ∧ Dp K H v (Sm.loop e b).d ∧ e.ok rs ∧ (∀ m ∈ b, m.ok hs n rs) ∧ again hs F e b s = some (r, s') ∧ LPost K hs rs A h M N H s' Q r
theorem on_dp {H : Hp} {p : Addr} : Dp K (upd H p (.tup [.str "on"])) (.ref p) onD := .tup (.inl (.inl upd_same)) (.cons (.str _) .nil)
theorem ok_ldone_of (T : Top K mg) (n k : Nat) (G__law_one : FnOk P w K mg base CX0 k (He.ga K "_law_one") T.fd__law_one ["_law_s", "_law_room", "_law_play"] (sp_lone K n)) :
    FnOk P w K mg base CX0 (k + 1) (He.ga K "_law_done") T.fd__law_done ["_law_body_here", "_law_room", "_law_play"] (sp_ldone K n) := by
  refine T.F__law_done.ok sc__law_done (fun vs H Q E h => ?_) (fun cdv A outer s H vs Q E hr h => ?_)
  · obtain ⟨hs, rs, A, h, M, N, s, s', v, bd, r, F, rfl, _⟩ := h
    rfl
  · obtain ⟨hs, rs, B, hh, M, N, s, s', v, bd, r, F, rfl, st, dp, ok, hd, po⟩ := h
    refine ⟨_, PSs.nox (pss_cons (ps_for PassesOwn.never (by rfl) (pi_tup (pv 0)) (pg_name (i := 3) sc__law_done.nd rfl (Or.inl rfl)) (pss_cons (ps_if (pt_cmpR op_eq (pe_dget (hu_of hr) (pv 2) pe_str (fun _ _ => rfl)) pe_int (nomark _)) (pss_one (ps_ret (pe_tup (pa_cons pe_str pa_nil)))) pss_nil)
        (pss_cons (ps_dput (hu_of hr) (pv 2) pe_str (pe_op op_sub (pe_dget (hu_of hr) (pv 2) pe_str (fun _ _ => rfl)) pe_int) (by rfl))
        (pss_cons (ps_set (i := 4) sc__law_done.nd rfl (Or.inl rfl) (pe_call G__law_one (hr.mono (by omega)) (by rfl) T.g__law_one T.F__law_one.kp T.b__law_one .nil pass0 (pa_cons (pv 3) (pa_cons (pv 1) (pa_cons (pv 2) pa_nil)))))
        (pss_one (ps_if (pt_cmpR op_notN (pv 4) pe_non (nomark _)) (pss_one (ps_ret (pv 4))) pss_nil))))))
        (pss_one (ps_ret pe_non))), ?_⟩
    obtain ⟨p0, xs, rfl, hp, da⟩ := dp_tup dp
    have lx := dpAll_len da
    rw [Sm.ds_eq, List.length_map] at lx
    refine ⟨_, rfl, p0, rfl, ⟨_, hp⟩, ?_⟩
    refine for_tup (K := K) (xs := xs) (fun j σ' H' => Kp (SA rs B) H H' ∧ ∃ (F' : Nat) (s1 : PSt) (x3 x4 : Option V), LStd K hs rs B hh M N H' s1 ∧ doAll hs F' (bd.drop j) s1 = some (r, s') ∧ σ' = [some (.ref p0), some (.ref B.p), some (.ref B.q), x3, x4]) ?_ ?_ ?_ ?_
    · exact ⟨Kp.refl, F, s, none, none, st, hd, rfl⟩
    · rintro j σ' H' _ ⟨k', _⟩
      exact sqT_kp k' hp
    · rintro j y σ' H1 hy ⟨k1, F', s1, x3, x4, st1, hd1, rfl⟩
      have jl : j < bd.length := by
        have := (List.getElem?_eq_some_iff.mp hy).1
        omega
      obtain ⟨m, hm⟩ : ∃ m, bd[j]? = some m := ⟨bd[j], List.getElem?_eq_getElem jl⟩
      have hdrop : bd.drop j = m :: bd.drop (j + 1) := by
        rw [List.drop_eq_getElem_cons jl]
        rw [List.getElem?_eq_getElem jl] at hm
        cases hm
        rfl
      rw [hdrop] at hd1
      cases F' with
      | zero => simp [doAll] at hd1
      | succ F' =>
        rw [doAll] at hd1
        have eq := st1.ob
        refine ⟨_, rfl, B.q, _, rfl, DGet.k (k := .inr "left") eq, rfl, _, rfl, ?_⟩
        by_cases l0 : s1.lf = 0
        · refine ifD (by rw [l0]; rfl) ?_
          rw [if_pos l0] at hd1
          cases hd1
          refine ⟨by decide, fun u hu => ?_⟩
          exact po _ u (k1.trans (Kp.of_same (same_new hu))) (st1.sm (same_new hu)) on_dp
        · refine ifN (fun z => l0 (by have := V.int.inj z; omega)) ?_
          rw [if_neg l0] at hd1
          refine ⟨_, rfl, B.q, _, rfl, DGet.k (k := .inr "left") eq, _, _, rfl, rfl, _, rfl, B.q, _, rfl, .inl ⟨_, .inr "left", eq, rfl, (by show 3 < sizeLine; decide), rfl⟩, ?_⟩
          rw [playK_put]
          have st2 := st1.turn l0
          have k2 := k1.trans (Kp.upd (S := SA rs B) (u := .dK (playK ((s1.lf : Int) - 1) B.t hh)) eq trivial (.inr (.inl rfl)))
          obtain ⟨d, hdd, ddd⟩ := dpAll_getV da hy
          rw [Sm.ds_eq, List.getElem?_map, hm] at hdd
          cases hdd
          have dm := dp_kp k2 _ _ (Sm.noL m) ddd
          cases ho : doOne hs F' m { s1 with lf := s1.lf - 1 } with
          | none => rw [ho] at hd1; cases hd1
          | some rs =>
            obtain ⟨r1, s2⟩ := rs
            rw [ho] at hd1
            have sz := st1.sz
            have nz := st1.nz
            have m1 : M - 1 + 1 = M := by omega
            have n1 : N - 1 + 1 = N := by omega
            have m6 := st1.m6
            have n6 := st1.n6
            refine ⟨_, rfl, _, rfl, _, rfl, hs, rs, B, hh, M - 1, N - 1, _, s2, y, m, r1, F', rfl, st2, dm, ok m (List.mem_of_getElem? hm), ho, by omega, by omega, ?_⟩
            rw [m1, n1]
            cases r1 with
            | fin =>
              intro H3 k3 st3
              refine ⟨_, rfl, rfl, _, rfl, ?_⟩
              exact ⟨k2.trans k3, F', s2, _, _, st3, hd1, rfl⟩
            | gave v =>
              intro H3 u k3 st3 i3 du
              cases hd1
              refine ⟨_, rfl, rfl, _, rfl, ?_⟩
              exact ⟨_, rfl, po _ u (k2.trans k3) st3 i3 du⟩
            | on =>
              intro H3 u k3 st3 du
              cases hd1
              refine ⟨_, rfl, rfl, _, rfl, ?_⟩
              exact ⟨_, rfl, po _ u (k2.trans k3) st3 du⟩
            | flt w =>
              intro H3 u k3 st3 du
              cases hd1
              refine ⟨_, rfl, rfl, _, rfl, ?_⟩
              exact ⟨_, rfl, po _ u (k2.trans k3) st3 du⟩
    · rintro σ' H1 ⟨k1, F', s1, x3, x4, st1, hd1, rfl⟩
      rw [lx, List.drop_length] at hd1
      cases F' with
      | zero => simp [doAll] at hd1
      | succ F' =>
        rw [doAll] at hd1
        cases hd1
        exact po _ k1 st1
theorem ok_lagain_of (T : Top K mg) (n k : Nat) (hk : 11 ≤ k) (G__law_done : FnOk P w K mg base CX0 k (He.ga K "_law_done") T.fd__law_done ["_law_body_here", "_law_room", "_law_play"] (sp_ldone K n)) :
    FnOk P w K mg base CX0 (k + 1) (He.ga K "_law_again") T.fd__law_again ["_law_s", "_law_room", "_law_play"] (sp_lagain K n) := by
  have G__law_worth := ok__law_worth (P := P) (w := w) (base := base) T 10
  refine T.F__law_again.ok sc__law_again (fun vs H Q E h => ?_) (fun cdv A outer s H vs Q E hr h => ?_)
  · obtain ⟨hs, rs, A, h, M, N, s, s', v, e, b, r, F, rfl, _⟩ := h
    rfl
  · obtain ⟨hs, rs, B, hh, M, N, s, s', v, e, b, r, F, rfl, st, dp, eo, ok, hd, po⟩ := h
    refine ⟨_, PSs.nox (pss_one (ps_while PassesOwn.never (pt_val pe_bl) (pss_cons (ps_set (i := 3) sc__law_again.nd rfl (Or.inl rfl) (pe_call G__law_worth (hr.mono (by omega)) (by rfl) T.g__law_worth T.F__law_worth.kp T.b__law_worth .nil pass0 (pa_cons (pe_ix ix_tup (pv 0) pe_int (fun _ _ => rfl)) (pa_cons (pv 1) pa_nil))))
        (pss_cons (ps_if (pt_val (pe_callB call_isi (by rfl) T.m_isinstance (by decide +kernel) (pa_cons (pv 3) (pa_cons (pe_bltn (v := .ty "str") (by rfl) T.m_str (by decide +kernel) rfl) pa_nil)))) (pss_one (ps_ret (pe_tup (pa_cons pe_str (pa_cons (pv 3) pa_nil))))) pss_nil)
        (pss_cons (ps_if (pt_cmpR op_eq (pv 3) pe_int (nomark _)) (pss_one (ps_ret pe_non)) pss_nil)
        (pss_cons (ps_set (i := 4) sc__law_again.nd rfl (Or.inl rfl) (pe_call G__law_done (hr.mono (by omega)) (by rfl) T.g__law_done T.F__law_done.kp T.b__law_done .nil pass0 (pa_cons (pe_ix ix_tup (pv 0) pe_int (fun _ _ => rfl)) (pa_cons (pv 1) (pa_cons (pv 2) pa_nil)))))
        (pss_cons (ps_if (pt_cmpR op_notN (pv 4) pe_non (nomark _)) (pss_one (ps_ret (pv 4))) pss_nil)
        (pss_cons (ps_if (pt_cmpR op_eq (pe_dget (hu_of hr) (pv 2) pe_str (fun _ _ => rfl)) pe_int (nomark _)) (pss_one (ps_ret (pe_tup (pa_cons pe_str pa_nil)))) pss_nil)
        (pss_one (ps_dput (hu_of hr) (pv 2) pe_str (pe_op op_sub (pe_dget (hu_of hr) (pv 2) pe_str (fun _ _ => rfl)) pe_int) (by rfl))))))))))), ?_⟩
    obtain ⟨p0, xs, rfl, hp, da⟩ := dp_tup dp
    obtain ⟨x0, r0, rfl, d0, e0⟩ := dpAll_cons da
    obtain ⟨x1, r1, rfl, d1, e1⟩ := dpAll_cons e0
    obtain ⟨x2, r2, rfl, d2, e2⟩ := dpAll_cons e1
    refine while_m (fun m σ' H' => Kp (SA rs B) H H' ∧ ∃ (s1 : PSt) (x3 x4 : Option V), LStd K hs rs B hh M N H' s1 ∧ again hs m e b s1 = some (r, s') ∧ σ' = [some (.ref p0), some (.ref B.p), some (.ref B.q), x3, x4]) ?_ ?_ ?_
    · exact ⟨F, Kp.refl, s, none, none, st, hd, rfl⟩
    · rintro m σ' H1 ⟨k1, s1, x3, x4, st1, hd1, rfl⟩
      refine ⟨_, rfl, ifT rfl ?_⟩
      cases m with
      | zero => simp [again] at hd1
      | succ m =>
        rw [again] at hd1
        have hp1 := sqT_kp k1 hp
        refine ⟨_, rfl, p0, _, 1, _, rfl, rfl, hp1, atI_nat (j := 1) rfl, _, rfl, B, rs, x1, e, s1.kn, s1.rw, _, rfl, eo.1, eo.2, st1.ro, st1.k32, st1.r32, dp_kp k1 _ _ (Ex.noL e) d1, fun z hw H2 s2 => ?_, fun f hf H2 s2 => ?_⟩
        · rw [hw] at hd1
          dsimp only at hd1
          have k2 := k1.trans (Kp.of_same s2)
          have st2 := st1.sm s2
          refine ⟨_, rfl, _, _, _, _, false, rfl, .ty _, ty_int z, kit_str (.int z), _, rfl, ifF rfl ?_⟩
          refine ⟨_, rfl, rfl, _, rfl, ?_⟩
          by_cases hz : z = 0
          · rw [if_pos hz] at hd1
            cases hd1
            refine ifD (by rw [hz]) ?_
            exact po _ k2 st2
          · rw [if_neg hz] at hd1
            refine ifN (fun y => hz (V.int.inj y)) ?_
            cases ha : doAll hs m b s1 with
            | none => rw [ha] at hd1; cases hd1
            | some rs =>
              obtain ⟨r1, s2'⟩ := rs
              rw [ha] at hd1
              refine ⟨_, rfl, p0, _, 2, _, rfl, rfl, sqT_kp k2 hp, atI_nat (j := 2) rfl, _, rfl, _, rfl, hs, rs, B, hh, M, N, s1, s2', x2, b, r1, m, rfl, st2, dp_kp k2 _ _ (by rw [nLd]; exact Sm.noLs b) d2, ok, ha, ?_⟩
              cases r1 with
              | fin =>
                intro H3 k3 st3
                have k13 := k2.trans k3
                refine ⟨_, rfl, rfl, _, rfl, ?_⟩
                have eq3 := st3.ob
                dsimp only at hd1
                refine ⟨_, rfl, B.q, _, rfl, DGet.k (k := .inr "left") eq3, rfl, _, rfl, ?_⟩
                by_cases l0 : s2'.lf = 0
                · rw [if_pos l0] at hd1
                  cases hd1
                  refine ifD (by rw [l0]; rfl) ?_
                  refine ⟨by decide, fun u hu => ?_⟩
                  exact po _ u (k13.trans (Kp.of_same (same_new hu))) (st3.sm (same_new hu)) on_dp
                · rw [if_neg l0] at hd1
                  refine ifN (fun z => l0 (by have := V.int.inj z; omega)) ?_
                  refine ⟨_, rfl, B.q, _, rfl, DGet.k (k := .inr "left") eq3, _, _, rfl, rfl, _, rfl, B.q, _, rfl, .inl ⟨_, .inr "left", eq3, rfl, (by show 3 < sizeLine; decide), rfl⟩, ?_⟩
                  rw [playK_put]
                  have k4 := k13.trans (Kp.upd (S := SA rs B) (u := .dK (playK ((s2'.lf : Int) - 1) B.t hh)) eq3 trivial (.inr (.inl rfl)))
                  exact ⟨m, Nat.lt_succ_self _, k4, _, _, _, (st3.turn l0).mono (by omega) st3.m6 (by omega) st3.n6, hd1, rfl⟩
              | gave v =>
                intro H3 u k3 st3 i3 du
                cases hd1
                refine ⟨_, rfl, rfl, _, rfl, ?_⟩
                exact ⟨_, rfl, po _ u (k2.trans k3) st3 i3 du⟩
              | on =>
                intro H3 u k3 st3 du
                cases hd1
                refine ⟨_, rfl, rfl, _, rfl, ?_⟩
                exact ⟨_, rfl, po _ u (k2.trans k3) st3 du⟩
              | flt w =>
                intro H3 u k3 st3 du
                cases hd1
                refine ⟨_, rfl, rfl, _, rfl, ?_⟩
                exact ⟨_, rfl, po _ u (k2.trans k3) st3 du⟩
        · rw [hf] at hd1
          cases hd1
          refine ⟨_, rfl, _, _, _, _, true, rfl, .ty _, dp_ty (.str f), kit_str (.str f), _, rfl, ifT rfl ?_⟩
          exact ⟨_, rfl, (po.kp k1).flt st1 s2⟩
    · intro σ' H' Q1 Q2 h hc
      obtain ⟨c, e, q⟩ := hc
      exact ⟨c, e, h _ _ q⟩
theorem putK_new {kvs : List (Key × V)} {k : Key} {v : V} (h : ∀ kv ∈ kvs, kv.1 ≠ k) : putK kvs k v = kvs ++ [(k, v)] := by
  unfold putK
  rw [if_neg]
  intro z
  obtain ⟨kv, hk, e⟩ := List.any_eq_true.mp z
  exact h kv hk (of_decide_eq_true e)
theorem merge_room (d r : Addr) : mergeK [] [(.inr "known", .ref d), (.inr "rows", .ref r)] = [(.inr "known", .ref d), (.inr "rows", .ref r)] := by
  show putK (putK ([] : List (Key × V)) (.inr "known") (.ref d)) (.inr "rows") (.ref r) = _
  rw [putK_new (kvs := []) (fun kv z => by cases z), putK_new]
  · rfl
  · intro kv z
    have z' : kv = (.inr "known", .ref d) := by simpa using z
    rw [z']
    show (Sum.inr _ : Key) ≠ _
    decide +kernel
theorem val_merge (ps : List (Str × Int)) (x : Str) : valV (mergeK [] (ps.map fun y => ((Sum.inr y.1 : Key), V.int y.2))) (.inr x) = (knZ ps x).map V.int := by
  have gen : ∀ (l : List (Str × Int)) (acc : List (Key × V)) (kn : Kn), (∀ x, valV acc (.inr x) = (kn x).map V.int) → ∀ x, valV (mergeK acc (l.map fun y => ((Sum.inr y.1 : Key), V.int y.2))) (.inr x) = (l.foldl (fun k p => kput k p.1 p.2) kn x).map V.int := by
    intro l
    induction l with
    | nil => exact fun acc kn h => h
    | cons y r ih => exact fun acc kn h => ih _ _ (val_put h)
  exact gen ps [] _ (fun x => rfl) x
end

/-! dict(zip(t, l)), t a tuple of texts, l a list: own rule -/
namespace ZipM
open PySem PySem.Spec PyProof.Rows L2
section
variable {prog : Program} {w : World} {A : Around} {E : Value → Shared → Prop} {s : Shared} {z TI TO T i1 i2 : Addr} {fp1 fp2 : List Addr} {n1 n2 i : Nat} {P1 P2 : Nat → Value → Prop} {St1 St2 : Nat → Heap → Prop} {f : Bool} {oT : Obj}
theorem item_held {Q : Value → Shared → Prop} (S : ZipSep2 z TI TO i1 i2 fp1 fp2) (D1 : Draws prog w A i1 fp1 n1 P1 St1) (D2 : Draws prog w A i2 fp2 n2 P2 St2)
    (hz : IsZipHeld s.heap z TI TO T f) (hT : s.heap.get? T = some oT) (hTI : IsPair s.heap TI (.ref i1) (.ref i2)) (st1 : St1 i s.heap) (st2 : St2 i s.heap) (hlt1 : i < n1) (hlt2 : i < n2)
    (hQ : ∀ x1 x2 h' tk, P1 i x1 → P2 i x2 → IsZipHeld h' z TI TO T true → St1 (i + 1) h' → St2 (i + 1) h' → IsPair h' s.heap.objs.size x1 x2 → h'.objs.size = s.heap.objs.size + 1 →
      (∀ c o, c ≠ z → c ≠ i1 → c ≠ i2 → s.heap.get? c = some o → h'.get? c = some o) → Q (.ref s.heap.objs.size) { s with heap := h', toks := tk }) :
    wpAny (model prog w) A (Builtin.«zip.__next__» ⟨[.ref z], []⟩) (fun fin s' => ∃ v, fin = .done (.ret v) ∧ Q v s') E s := by
  obtain ⟨hp, g, d, tk0, os⟩ := s
  show wpAny _ _ (field (.ref z) 2 >>= _) _ _ _
  refine wpAny_bind (wpAny_field hz rfl (x := .bool false) rfl ?_)
  show wpAny _ _ (field (.ref z) 3 >>= _) _ _ _
  refine wpAny_bind (wpAny_field hz rfl (x := .ref TI) rfl ?_)
  refine wpAny_bind (wpAny_seqItems hTI rfl ?_)
  show wpAny _ _ (Builtin.SmallTypes.ownedTupleIsFree (.ref z) >>= _) _ _ _
  refine wpAny_bind (wpAny_tupleHeld_zip hz hT fun g0 hz0 hs0 => ?_)
  replace hs0 : Heap.SameBut z hp g0 := hs0
  simp only [Bool.false_eq_true, if_false]
  refine wpAny_bind ?_
  rw [← Array.forIn_toList]
  simp only [List.forIn_cons, List.forIn_nil]
  refine wpAny_bind (wpAny_bind (wpAny_holding ?_))
  show wpAny _ _ (Builtin.SmallTypes.nextOf (.ref i1) >>= _) _ _ ⟨g0, g, d, tk0, os⟩
  refine wpAny_bind (D1.item i _ _ _ hlt1 (D1.over st1 hs0 S.zf1) fun x1 p1 tk1 hx1 sn1 hp1 => wpAny_pure ?_)
  replace hp1 : Heap.SameBut i1 g0 p1 := hp1
  refine wpAny_pure ?_
  refine wpAny_bind (wpAny_bind (wpAny_holding ?_))
  show wpAny _ _ (Builtin.SmallTypes.nextOf (.ref i2) >>= _) _ _ ⟨p1, g, d, tk1, os⟩
  refine wpAny_bind (D2.item i _ _ _ hlt2 (D2.over (D2.over st2 hs0 S.zf2) hp1 S.sep1_2) fun x2 p2 tk2 hx2 sn2 hp2 => wpAny_pure ?_)
  replace hp2 : Heap.SameBut i2 p1 p2 := hp2
  refine wpAny_pure (wpAny_pure ?_)
  show wpAny _ _ (newTuple [x1, x2] >>= _) _ _ ⟨p2, g, d, tk2, os⟩
  refine wpAny_bind (wpAny_newTuple ?_)
  have hsz : p2.objs.size = hp.objs.size := by rw [hp2.1, hp1.1, hs0.1]
  have hzz : IsZipHeld p2 z TI TO T true := hp2.extBut _ _ S.zi2 (hp1.extBut _ _ S.zi1 hz0)
  have hkk : ∀ c o, c ≠ z → c ≠ i1 → c ≠ i2 → hp.get? c = some o → p2.get? c = some o := fun c o cz c1 c2 e => hp2.extBut _ _ c2 (hp1.extBut _ _ c1 (hs0.extBut _ _ cz e))
  have hj1 : St1 (i + 1) p2 := D1.over sn1 hp2 S.sep2_1
  refine wpAny_pure ⟨_, rfl, ?_⟩
  show Q (.ref p2.objs.size) _
  have hP : IsPair (p2.push { cls := .type "tuple", data := .seq #[x1, x2] }) p2.objs.size x1 x2 := Heap.get?_push_size _ rfl
  have hz4 : (p2.push { cls := .type "tuple", data := .seq #[x1, x2] }).objs.size = p2.objs.size + 1 := Heap.size_push ..
  rw [hsz] at hP hz4 ⊢
  exact hQ x1 x2 _ tk2 hx1 hx2 (Heap.get?_push_of_some _ hzz) (D1.frame _ _ _ hj1 fun b hb o e => Heap.get?_push_of_some _ e) (D2.frame _ _ _ sn2 fun b hb o e => Heap.get?_push_of_some _ e) hP hz4 fun c o cz c1 c2 e => Heap.get?_push_of_some _ (hkk c o cz c1 c2 e)
theorem end_held {Q : Fin → Shared → Prop} (S : ZipSep2 z TI TO i1 i2 fp1 fp2) (D1 : Draws prog w A i1 fp1 n1 P1 St1) (D2 : Draws prog w A i2 fp2 n2 P2 St2)
    (hz : IsZipHeld s.heap z TI TO T f) (hT : s.heap.get? T = some oT) (hTI : IsPair s.heap TI (.ref i1) (.ref i2)) (st1 : St1 i s.heap) (st2 : St2 i s.heap) (hle1 : i ≤ n1) (hle2 : i ≤ n2) (hend : i = n1 ∨ i = n2)
    (hE : ∀ h' tk e, (∀ c o, c ≠ z → c ≠ i1 → c ≠ i2 → s.heap.get? c = some o → h'.get? c = some o) → (∃ o, h'.get? e = some o ∧ o.cls = .type "StopIteration") → E (.ref e) { s with heap := h', toks := tk }) :
    wpAny (model prog w) A (Builtin.«zip.__next__» ⟨[.ref z], []⟩) Q E s := by
  obtain ⟨hp, g, d, tk0, os⟩ := s
  show wpAny _ _ (field (.ref z) 2 >>= _) _ _ _
  refine wpAny_bind (wpAny_field hz rfl (x := .bool false) rfl ?_)
  show wpAny _ _ (field (.ref z) 3 >>= _) _ _ _
  refine wpAny_bind (wpAny_field hz rfl (x := .ref TI) rfl ?_)
  refine wpAny_bind (wpAny_seqItems hTI rfl ?_)
  show wpAny _ _ (Builtin.SmallTypes.ownedTupleIsFree (.ref z) >>= _) _ _ _
  refine wpAny_bind (wpAny_tupleHeld_zip hz hT fun g0 hz0 hs0 => ?_)
  replace hs0 : Heap.SameBut z hp g0 := hs0
  simp only [Bool.false_eq_true, if_false]
  refine wpAny_bind ?_
  rw [← Array.forIn_toList]
  simp only [List.forIn_cons, List.forIn_nil]
  refine wpAny_bind (wpAny_bind (wpAny_holding ?_))
  show wpAny _ _ (Builtin.SmallTypes.nextOf (.ref i1) >>= _) _ _ ⟨g0, g, d, tk0, os⟩
  by_cases hlt1 : i < n1
  · refine wpAny_bind (D1.item i _ _ _ hlt1 (D1.over st1 hs0 S.zf1) fun x1 p1 tk1 hx1 sn1 hp1 => wpAny_pure ?_)
    replace hp1 : Heap.SameBut i1 g0 p1 := hp1
    have hi2 : i = n2 := by omega
    refine wpAny_pure ?_
    refine wpAny_bind (wpAny_bind (wpAny_holding ?_))
    show wpAny _ _ (Builtin.SmallTypes.nextOf (.ref i2) >>= _) _ _ ⟨p1, g, d, tk1, os⟩
    refine wpAny_bind (D2.done ⟨p1, g, d, tk1, os⟩ _ _ (by rw [← hi2]; exact (D2.over (D2.over st2 hs0 S.zf2) hp1 S.sep1_2)) fun q e hq he => ?_)
    replace hq : Heap.ExtBut i2 p1 q := hq
    exact hE q tk1 e (fun c o cz c1 c2 x => hq _ _ c2 (hp1.extBut _ _ c1 (hs0.extBut _ _ cz x))) he
  · have hi1 : i = n1 := by omega
    refine wpAny_bind (D1.done ⟨g0, g, d, tk0, os⟩ _ _ (by rw [← hi1]; exact (D1.over st1 hs0 S.zf1)) fun q e hq he => ?_)
    replace hq : Heap.ExtBut i1 g0 q := hq
    exact hE q tk0 e (fun c o cz c1 c2 x => hq _ _ c1 (hs0.extBut _ _ cz x)) he
theorem next_item_held {Q : Option Value → Shared → Prop} (S : ZipSep2 z TI TO i1 i2 fp1 fp2) (D1 : Draws prog w A.in1 i1 fp1 n1 P1 St1) (D2 : Draws prog w A.in1 i2 fp2 n2 P2 St2)
    (hz : IsZipHeld s.heap z TI TO T f) (hT : s.heap.get? T = some oT) (hTI : IsPair s.heap TI (.ref i1) (.ref i2)) (st1 : St1 i s.heap) (st2 : St2 i s.heap) (hlt1 : i < n1) (hlt2 : i < n2)
    (hQ : ∀ x1 x2 h' tk, P1 i x1 → P2 i x2 → IsZipHeld h' z TI TO T true → St1 (i + 1) h' → St2 (i + 1) h' → IsPair h' s.heap.objs.size x1 x2 → h'.objs.size = s.heap.objs.size + 1 →
      (∀ c o, c ≠ z → c ≠ i1 → c ≠ i2 → s.heap.get? c = some o → h'.get? c = some o) → Q (some (.ref s.heap.objs.size)) { s with heap := h', toks := tk }) :
    wpAny (model prog w) A (pyNext (.ref z)) Q E s := by
  have hTy : s.TypeIs (.ref z) "zip" := ⟨_, hz, rfl⟩
  unfold pyNext
  exact wpAny_bind (wpAny_attempt (wpAny_callSpecial?_slot (name := Str.ofString "__next__") hTy F.slot_zip_next
    (wpAny_call_entry F.slot_zip_next hTy F.entry_zip_next
      (item_held S D1 D2 hz hT hTI st1 st2 hlt1 hlt2 fun x1 x2 h' tk y1 y2 b1 d1 d2 b5 b6 b7 => wpAny_pure (hQ x1 x2 h' tk y1 y2 b1 d1 d2 b5 b6 b7)) (F.args_zip_next_1 _))))
theorem next_end_held {Q : Option Value → Shared → Prop} (S : ZipSep2 z TI TO i1 i2 fp1 fp2) (D1 : Draws prog w A.in1 i1 fp1 n1 P1 St1) (D2 : Draws prog w A.in1 i2 fp2 n2 P2 St2)
    (hz : IsZipHeld s.heap z TI TO T f) (hT : s.heap.get? T = some oT) (hTI : IsPair s.heap TI (.ref i1) (.ref i2)) (st1 : St1 i s.heap) (st2 : St2 i s.heap) (hle1 : i ≤ n1) (hle2 : i ≤ n2) (hend : i = n1 ∨ i = n2)
    (hQ : ∀ h' tk, (∀ c o, c ≠ z → c ≠ i1 → c ≠ i2 → s.heap.get? c = some o → h'.get? c = some o) → Q none { s with heap := h', toks := tk }) : wpAny (model prog w) A (pyNext (.ref z)) Q E s := by
  have hTy : s.TypeIs (.ref z) "zip" := ⟨_, hz, rfl⟩
  unfold pyNext
  refine wpAny_bind (wpAny_attempt (wpAny_callSpecial?_slot (name := Str.ofString "__next__") hTy F.slot_zip_next
    (wpAny_call_entry F.slot_zip_next hTy F.entry_zip_next (end_held S D1 D2 hz hT hTI st1 st2 hle1 hle2 hend fun h' tk e hk he => ?_) (F.args_zip_next_1 _))))
  obtain ⟨o, ho, hc⟩ := he
  refine wpAny_bind (wpAny_isInstance (T := "StopIteration") (b := true) ⟨o, ho, hc⟩ isSubtype_stop ?_)
  exact wpAny_pure (hQ _ _ hk)
end
theorem pairArgT {prog : Program} {w : World} (z TI TO i1 i2 a b : Addr) (D : ZipApart z TI TO i1 i2 a b) (n1 : a ≠ i1) (n2 : b ≠ i2) (xs ys : Array Value) :
    PairArg prog w "zip" z [z, TI, TO, i1, i2, a, b] [z, TO, i1, i2] (min xs.size ys.size) (fun i k v => xs[i]? = some k ∧ ys[i]? = some v)
      (fun h => IsZip h z TI TO .none ∧ IsPair h TI (.ref i1) (.ref i2) ∧ (∃ x y, IsPair h TO x y) ∧ h.IsTupleIter i1 a 0 ∧ h.IsListIter i2 b 0 ∧ h.IsTuple a xs ∧ h.IsList b ys) where
  type := fun s ok => ⟨_, ok.1, rfl⟩
  notDict := by decide
  keep := fun h h' ok hk => by
    obtain ⟨hz, hTI, ⟨x, y, hTO⟩, h1, h2, hl1, hl2⟩ := ok
    exact ⟨hk _ _ hz, hk _ _ hTI, ⟨x, y, hk _ _ hTO⟩, h1.at fun o e => hk _ o e, h2.at fun o e => hk _ o e, hl1.at fun o e => hk _ o e, hl2.at fun o e => hk _ o e⟩
  there := fun h ok c hb => by
    obtain ⟨hz, hTI, ⟨x, y, hTO⟩, ⟨o1, h1, _⟩, ⟨o2, h2, _⟩, ⟨o3, hl1, _⟩, ⟨o4, hl2, _⟩⟩ := ok
    simp only [List.mem_cons, List.not_mem_nil, or_false] at hb
    rcases hb with rfl | rfl | rfl | rfl | rfl | rfl | rfl
    all_goals first | exact ⟨_, hz⟩ | exact ⟨_, hTI⟩ | exact ⟨_, hTO⟩ | exact ⟨_, h1⟩ | exact ⟨_, h2⟩ | exact ⟨_, hl1⟩ | exact ⟨_, hl2⟩
  sub := fun b hb => by simp at hb ⊢; rcases hb with rfl | rfl | rfl | rfl <;> simp
  noKeys := fun A s Q E hA ok h => getAttrOr_miss_zip ok.1 rfl rfl rfl zip_no_keys (by decide +kernel) hA h
  iter := fun A s d Q E hA ok hd hdf h => by
    obtain ⟨hz, hTI, ⟨x, y, hTO⟩, h1, h2, hl1, hl2⟩ := ok
    simp only [List.mem_cons, List.not_mem_nil, or_false, not_or] at hdf
    obtain ⟨dz, dTI, dTO, di1, di2, dl1, dl2⟩ := hdf
    have S := sep_of D
    have D1 : Draws prog w A.in1 i1 _ _ _ _ := Draws.tuple (A := A.in1) hA i1 a n1 xs
    have D2 : Draws prog w A.in1 i2 _ _ _ _ := Draws.list (A := A.in1) hA i2 b n2 ys
    refine wpAny_pyIter_zip hz (h z [z, TO, i1, i2] (fun i h => IsPair h TI (.ref i1) (.ref i2) ∧ (h.IsTupleIter i1 a i ∧ h.IsTuple a xs) ∧ (h.IsListIter i2 b i ∧ h.IsList b ys) ∧
      ((IsZip h z TI TO .none ∧ ∃ a b, IsPair h TO a b) ∨ ∃ T f oT, IsZipHeld h z TI TO T f ∧ h.get? T = some oT ∧ T ≠ z ∧ T ≠ i1 ∧ T ≠ i2 ∧ T ≠ d)) s.heap s.toks ?_
      ⟨hTI, ⟨h1, hl1⟩, ⟨h2, hl2⟩, .inl ⟨hz, x, y, hTO⟩⟩ (fun _ _ e => e) fun b hb => .inl hb)
    exact {
      off := fun hm => by
        simp only [List.mem_cons, List.not_mem_nil, or_false] at hm
        rcases hm with e | e | e | e
        · exact dz e
        · exact dTO e
        · exact di1 e
        · exact di2 e
      frame := fun i h₁ h₂ st hk => by
        obtain ⟨hTI, ⟨h1, hl1⟩, ⟨h2, hl2⟩, hz⟩ := st
        refine ⟨hk _ _ (Ne.symm dTI) hTI, ⟨h1.at fun o e => hk _ o (Ne.symm di1) e, hl1.at fun o e => hk _ o (Ne.symm dl1) e⟩, ⟨h2.at fun o e => hk _ o (Ne.symm di2) e, hl2.at fun o e => hk _ o (Ne.symm dl2) e⟩, ?_⟩
        rcases hz with ⟨hz, a, b, hTO⟩ | ⟨T, f, oT, hz, hT, r1, r2, r3, r4⟩
        · exact .inl ⟨hk _ _ (Ne.symm dz) hz, a, b, hk _ _ (Ne.symm dTO) hTO⟩
        · exact .inr ⟨T, f, oT, hk _ _ (Ne.symm dz) hz, hk _ _ r4 hT, r1, r2, r3, r4⟩
      item := fun i s₁ Q₁ E₁ hi st hds hQ => by
        obtain ⟨hTI, st1, st2, hz⟩ := st
        have hix : i < xs.size := Nat.lt_of_lt_of_le hi (Nat.min_le_left ..)
        have hiy : i < ys.size := Nat.lt_of_lt_of_le hi (Nat.min_le_right ..)
        have lt : ∀ {c o}, s₁.heap.get? c = some o → s₁.heap.objs.size ≠ c := fun e => Nat.ne_of_gt (Heap.lt_size e)
        have m1 : s₁.heap.objs.size ≠ i1 := let ⟨_, e, _⟩ := st1.1; lt e
        have m2 : s₁.heap.objs.size ≠ i2 := let ⟨_, e, _⟩ := st2.1; lt e
        rcases hz with ⟨hz, a, b, hTO⟩ | ⟨T, f, oT, hz, hT, r1, r2, r3, r4⟩
        · refine wpAny_pyNext_zipD2_item S D1 D2 hz hTI hTO st1 st2 hix hiy fun x1 x2 h' tk y1 y2 a1 a2 a3 a4 a5 a6 hk => ?_
          exact hQ s₁.heap.objs.size _ _ h' tk ⟨y1, y2⟩ (.inl ⟨_, a5, rfl, _, rfl⟩)
            ⟨hk _ _ S.TIz S.TITO S.TIi1 S.TIi2 hTI, a3, a4, .inr ⟨s₁.heap.objs.size, false, _, a1, a5, lt hz, m1, m2, Nat.ne_of_gt hds⟩⟩
            fun c o hc e => hk c o (fun x => hc (by simp [x])) (fun x => hc (by simp [x])) (fun x => hc (by simp [x])) (fun x => hc (by simp [x])) e
        · refine next_item_held S D1 D2 hz hT hTI st1 st2 hix hiy fun x1 x2 h' tk y1 y2 a1 a3 a4 a5 a6 hk => ?_
          exact hQ s₁.heap.objs.size _ _ h' tk ⟨y1, y2⟩ (.inl ⟨_, a5, rfl, _, rfl⟩)
            ⟨hk _ _ S.TIz S.TIi1 S.TIi2 hTI, a3, a4, .inr ⟨T, true, oT, a1, hk _ _ r1 r2 r3 hT, r1, r2, r3, r4⟩⟩
            fun c o hc e => hk c o (fun x => hc (by simp [x])) (fun x => hc (by simp [x])) (fun x => hc (by simp [x])) e
      done := fun s₁ Q₁ E₁ st hQ => by
        obtain ⟨hTI, st1, st2, hz⟩ := st
        have hend : min xs.size ys.size = xs.size ∨ min xs.size ys.size = ys.size := by omega
        rcases hz with ⟨hz, a, b, hTO⟩ | ⟨T, f, oT, hz, hT, r1, r2, r3, r4⟩
        · exact wpAny_pyNext_zipD2_end S D1 D2 hz hTI hTO st1 st2 (Nat.min_le_left ..) (Nat.min_le_right ..) hend fun h' tk hk => hQ h' tk fun c o hc e => hk c o (fun x => hc (by simp [x])) (fun x => hc (by simp [x])) (fun x => hc (by simp [x])) (fun x => hc (by simp [x])) e
        · exact next_end_held S D1 D2 hz hT hTI st1 st2 (Nat.min_le_left ..) (Nat.min_le_right ..) hend fun h' tk hk => hQ h' tk fun c o hc e => hk c o (fun x => hc (by simp [x])) (fun x => hc (by simp [x])) (fun x => hc (by simp [x])) e }
def tDictZip (K : PySem.W.Frag) (ta : TA) : TE := fun σ H Q => ta σ H fun vs H1 => ∃ (a b : Addr) (kvs : List (Str × V)), vs = [.ref a, .ref b] ∧ SqT K H1 a (kvs.map fun x => V.str x.1) ∧ SqL K H1 b (kvs.map (·.2)) ∧ kvs.length ≤ 1000 ∧ ∀ p, H1 p = none → Q (.ref p) (upd H1 p (.dK (mergeK [] (kvs.map fun x => (Sum.inr x.1, x.2)))))
theorem kv_strs : ∀ {kvs : List (Str × V)} {us ws : List Value}, Vals (kvs.map fun x => V.str x.1) us → Vals (kvs.map (·.2)) ws → ∃ prs : List (Key × Value), prs.length = kvs.length ∧ KV (kvs.map fun x => ((Sum.inr x.1 : Key), x.2)) prs ∧ us.length = kvs.length ∧ ws.length = kvs.length ∧ ∀ (i : Nat) (k v : Value), us[i]? = some k → ws[i]? = some v → ∃ k', prs[i]? = some (k', v) ∧ keyIs k' k = true
  | [], us, ws, h1, h2 => by
    cases h1
    cases h2
    exact ⟨[], rfl, .nil, rfl, rfl, fun i k v h => by cases h⟩
  | x :: r, _, _, .cons (b := u) h1 t1, .cons (b := v) h2 t2 => by
    obtain ⟨prs, l, kv, a1, a2, f⟩ := kv_strs t1 t2
    obtain ⟨t, rfl⟩ := h1
    refine ⟨(.inr x.1, v) :: prs, by rw [List.length_cons, l, List.length_cons], .cons ⟨rfl, h2⟩ kv, by rw [List.length_cons, a1, List.length_cons], by rw [List.length_cons, a2, List.length_cons], fun i k v' hk hv => ?_⟩
    cases i with
    | zero => cases hk; cases hv; exact ⟨_, rfl, keyIs_str _ _⟩
    | succ i => exact f i k v' hk hv
theorem pe_dictzip {X : Cx} {e e2 : Expr} {ta : TA} {p p2 pos pos2 : Pos} (hc : X.calm = true) (hg : Gl X "dict") (hm : X.mg "dict" = none) (hg2 : Gl X "zip") (hm2 : X.mg "zip" = none) (ha : PA X [e, e2] ta)
    (hs : starEach [e, e2] X.env = (false, eval e X.env) :: starEach [e2] X.env := by rfl) (hpl : (backTo pos2 (starEach [e2] X.env)).any (·.1) = false := by rfl)
    (hs2 : starEach [.Call (.Name "zip" p2) [e, e2] [] pos2] X.env = (false, eval (.Call (.Name "zip" p2) [e, e2] [] pos2) X.env) :: starEach [] X.env := by rfl) :
    PE X (.Call (.Name "dict" p) [.Call (.Name "zip" p2) [e, e2] [] pos2] [] pos) (tDictZip X.K ta) := by
  refine ⟨fun pins s σ H Q I h => ?_⟩
  refine Call_ (ld_blt I hg hm (PyProof.Rows.boot_dict) (PyProof.Rows.callWith_type1 (args_cons (Call_ (ld_blt I hg2 hm2 PyProof.Rows.boot_zip (PyProof.Rows.callWith_type1 (thn (ha.run pos2 pins s σ H _ I h) fun us s1 ⟨vs, H1, I1, r1, q1⟩ => ?_) hs hpl))) hs2) hs2 rfl))
  obtain ⟨a, b, kvs, ex, hqx, hqy, lz, q⟩ := q1
  subst ex
  cases r1 with
  | cons r rr =>
    cases rr with
    | cons r' rr =>
      cases rr
      cases r
      cases r'
      obtain ⟨its, rv, p1, _⟩ := I1.tuple hqx
      obtain ⟨its2, rv2, p2', _⟩ := I1.list hqy
      obtain ⟨prs, lp, kv, la, lb, hf⟩ := kv_strs rv rv2
      obtain ⟨o1, ho1, _⟩ := id p1
      have lt1 := Heap.lt_size ho1
      have lt2 := p2'.lt
      refine zip_begins2 (begins_tuple a its.toArray) (begins_list b its2.toArray) p1 p2'.isList fun h' hz hTI hTO h1 h2 hsz hk => args_nil ?_
      have I2 : Inv X pins σ H1 { s1 with heap := h' } := I1.kept (t' := s1.toks) hk
      have hm : (h'.objs.size == sysModules) = false := beq_eq_false_iff_ne.mpr (Nat.ne_of_gt I2.big)
      have hn : min its.toArray.size its2.toArray.size = kvs.length := by rw [List.size_toArray, List.size_toArray, la, lb, Nat.min_self]
      refine PySem.call_dict_pairs (knd := mixKind X.prog X.w) (kvs := prs) (pairArgT _ _ _ _ _ a b (PySem.W.ktu_apart s1.heap.objs.size a b lt1 lt2) (Nat.ne_of_lt lt1) (Nat.ne_of_lt (Nat.lt_succ_of_lt lt2)) its.toArray its2.toArray) (I.ok.hd hc)
        ⟨hz, hTI, ⟨_, _, hTO⟩, ⟨_, h1, rfl, rfl⟩, ⟨_, h2, rfl, rfl⟩, (show s1.heap.IsTuple a its.toArray from p1).at fun o e => hk _ o e, p2'.isList.at fun o e => hk _ o e⟩ ⟨by rw [hn, lp], fun i k v z => hf i k v (by simpa using z.1) (by simpa using z.2)⟩ (by rw [hn, sizeLine_eq]; omega) fun h2' tk hd' hk' => ?_
      have fr : ∀ c, c ∈ [s1.heap.objs.size + 4, s1.heap.objs.size + 3, s1.heap.objs.size, s1.heap.objs.size + 1] → s1.heap.objs.size ≤ c := fun c hcm => by
        have e' : c = s1.heap.objs.size + 4 ∨ c = s1.heap.objs.size + 3 ∨ c = s1.heap.objs.size ∨ c = s1.heap.objs.size + 1 := by simpa using hcm
        rcases e' with z | z | z | z
        · rw [z]; exact Nat.le_add_right _ _
        · rw [z]; exact Nat.le_add_right _ _
        · rw [z]; exact Nat.le_refl _
        · rw [z]; exact Nat.le_add_right _ _
      have hk1 : ∀ c o, s1.heap.get? c = some o → h2'.get? c = some o := fun c o e => hk' c o (fun hcm => absurd (Heap.lt_size e) (Nat.not_lt_of_le (fr c hcm))) (hk c o e)
      have sz : s1.heap.objs.size ≤ h'.objs.size := by omega
      have hlen : (mergeK [] (kvs.map fun x => ((Sum.inr x.1 : Key), x.2))).length ≤ sizeLine := by
        have h1 := length_mergeK (kvs.map fun x => ((Sum.inr x.1 : Key), x.2)) []
        rw [List.length_map, List.length_nil] at h1
        rw [sizeLine_eq]
        omega
      exact ⟨.ref h'.objs.size, upd H1 h'.objs.size (.dK (mergeK [] (kvs.map fun x => ((Sum.inr x.1 : Key), x.2)))), I1.laid (t' := tk) hk1 sz (show ObjOk X.prog X.w _ _ _ (.dK _) from ⟨hlen, hm, merged [] prs, KV.merge kv .nil, hd'⟩), rfl, q _ (I1.hok.fresh sz)⟩
end ZipM

section
variable {P : Program} {w : World} {K : PySem.W.Frag} {mg : Str → Option Value} {base : Heap}
def selT : List V → List PyData → List V
  | x :: xs, d :: ds => if isT d then x :: selT xs ds else selT xs ds
  | _, _ => []
theorem selT_snoc : ∀ {xs : List V} {ds : List PyData} {x : V} {d : PyData}, xs.length = ds.length → selT (xs ++ [x]) (ds ++ [d]) = selT xs ds ++ (if isT d then [x] else [])
  | [], [], x, d, _ => by cases h : isT d <;> simp [selT, h]
  | a :: xs, b :: ds, x, d, h => by
    have ih := selT_snoc (x := x) (d := d) (show xs.length = ds.length from Nat.succ.inj h)
    rw [List.cons_append, List.cons_append, selT, selT, ih]
    cases isT b <;> rfl
theorem selT_len : ∀ (xs : List V) (ds : List PyData), (selT xs ds).length ≤ xs.length
  | [], _ => by simp [selT]
  | _ :: _, [] => by simp [selT]
  | _ :: xs, d :: ds => by
    have := selT_len xs ds
    rw [selT]
    cases isT d
    · exact Nat.le_succ_of_le this
    · exact Nat.succ_le_succ this
theorem isT_ex (e : Ex) : isT e.d = true := by cases e <;> rfl
theorem none_kp {S : Addr → Prop} {H H1 : Hp} {a : Addr} (k : Kp S H H1) (na : ¬ S a) (h : H1 a = none) : H a = none := by
  cases e : H a with
  | none => rfl
  | some o => rw [k a o e (fun z => absurd z na)] at h; cases h
theorem LStd.put {hs : Hs} {rs : List Str} {A : Adr} {h : Addr} {M N : Nat} {H : Hp} {s : PSt} {kvs : List (Key × V)} {x : Str} {v : Int} (k : LStd K hs rs A h M N H s) (e : H A.d = some (.dK kvs)) (l : kvs.length ≤ N - s.lf) (hv : ∀ x, valV kvs (.inr x) = (s.kn x).map V.int) (v32 : In32 v) (m6 : M < 6000) (n6 : N < 7000) :
    LStd K hs rs A h (M + 1) (N + 1) (upd H A.d (.dK (putK kvs (.inr x) (.int v)))) { s with kn := kput s.kn x v } := by
  have a := k.ap
  obtain ⟨rvs, er, hr⟩ := k.ro.rk
  have sz := k.sz
  have nz := k.nz
  refine ⟨⟨by rw [upd_ne k.pd]; exact k.ro.ob, ⟨_, upd_same, ?_, val_put hv⟩, ⟨rvs, by rw [upd_ne k.rd]; exact er, hr⟩, fun x hx => by rw [upd_ne (a.ad x hx)]; exact k.ro.rl x hx⟩, by rw [upd_ne k.dq.symm]; exact k.ob, by rw [upd_ne a.dt.symm]; exact k.tl, k.hk.kp (Kp.upd (S := fun z => z = A.d) e trivial rfl) k.hd, kn32_put k.k32 v32, k.r32, by show s.td.length + s.lf ≤ M + 1; omega, by show s.lf ≤ N + 1; omega, by omega, by omega, k.pq, k.pd, k.dq, k.rd, k.rq, k.hd, k.hq, k.rt, k.ri⟩
  have := length_putK kvs (.inr x) (.int v)
  show (putK kvs (.inr x) (.int v)).length ≤ N + 1 - s.lf
  omega
theorem LStd.say {hs : Hs} {rs : List Str} {A : Adr} {h : Addr} {M N : Nat} {H : Hp} {s : PSt} {v : Int} (k : LStd K hs rs A h M N H s) (m6 : M < 6000) (n6 : N < 7000) : LStd K hs rs A h (M + 1) (N + 1) (upd H A.t (.lst (s.td.map V.int ++ [.int v]))) { s with td := s.td ++ [v] } := by
  have a := k.ap
  obtain ⟨ep, ⟨kvs, ed, l, hv⟩, ⟨rvs, er, hr⟩, rl⟩ := k.ro
  have sz := k.sz
  have nz := k.nz
  refine ⟨⟨by rw [upd_ne a.pt]; exact ep, ⟨kvs, by rw [upd_ne a.dt]; exact ed, ?_, hv⟩, ⟨rvs, by rw [upd_ne a.rt]; exact er, hr⟩, fun x hx => by rw [upd_ne (k.rt x hx)]; exact rl x hx⟩, by rw [upd_ne a.qt]; exact k.ob, ?_, k.hk.kp (Kp.upd (S := fun z => z = A.t) k.tl trivial rfl) a.ht, k.k32, k.r32, ?_, by show s.lf ≤ N + 1; omega, by omega, by omega, k.pq, k.pd, k.dq, k.rd, k.rq, k.hd, k.hq, k.rt, k.ri⟩
  · show kvs.length ≤ N + 1 - s.lf
    omega
  · rw [upd_same]
    show _ = some (HO.lst ((s.td ++ [v]).map V.int))
    rw [List.map_append]
    rfl
  · show (s.td ++ [v]).length + s.lf ≤ M + 1
    rw [List.length_append, List.length_singleton]
    omega
theorem LStd.rput {hs : Hs} {rs : List Str} {A : Adr} {h : Addr} {M N : Nat} {H : Hp} {s : PSt} {x : Str} {i : Nat} {v : Int} (k : LStd K hs rs A h M N H s) (hx : x ∈ rs) (v32 : In32 v) : LStd K hs rs A h M N (upd H (A.ra x) (.lst (((s.rw x).map V.int).set i (.int v)))) { s with rw := rput s.rw x i v } := by
  have a := k.ap
  obtain ⟨ep, ⟨kvs, ed, l, hv⟩, ⟨rvs, er, hr⟩, rl⟩ := k.ro
  refine ⟨⟨by rw [upd_ne (a.ap x hx).symm]; exact ep, ⟨kvs, by rw [upd_ne (a.ad x hx).symm]; exact ed, l, hv⟩, ⟨rvs, by rw [upd_ne (a.ar x hx).symm]; exact er, hr⟩, fun y hy => ?_⟩, by rw [upd_ne (a.aq x hx).symm]; exact k.ob, by rw [upd_ne (k.rt x hx).symm]; exact k.tl, k.hk.kp (Kp.upd (S := fun z => z = A.ra x) (rl x hx) trivial rfl) (fun z => a.ah x hx z.symm), k.k32, rw32_put k.r32 v32, k.sz, k.nz, k.m6, k.n6, k.pq, k.pd, k.dq, k.rd, k.rq, k.hd, k.hq, k.rt, k.ri⟩
  show upd H (A.ra x) _ (A.ra y) = some (.lst ((if y = x then (s.rw x).set i v else s.rw y).map V.int))
  by_cases e : y = x
  · rw [e, if_pos rfl, upd_same, List.map_set]
  · rw [if_neg e, upd_ne (fun z => e (k.ri y hy x hx z))]
    exact rl y hy
theorem gv_dp {H : Hp} {p : Addr} {v : Int} : Dp K (upd H p (.tup [.str "gave", .int v])) (.ref p) (gvD v) := .tup (.inl (.inl upd_same)) (.cons (.str _) (.cons (.int _) .nil))
/-! the pieces of a statement -/
def pcs : Sm → List Ex
  | .give e => [e]
  | .tell e => [e]
  | .set _ e => [e]
  | .put _ e f => [e, f]
  | .ite e _ _ => [e]
  | .call _ _ es => es
  | _ => []
def plainS : Sm → Bool
  | .fail _ => false
  | .loop _ _ => false
  | _ => true
theorem plain_d {m : Sm} (h : plainS m = true) : ∃ (w0 : Str) (ds : List PyData), m.d = .tuple (.str w0 :: ds) ∧ w0 ≠ "fail" ∧ w0 ≠ "while" ∧ ds.length ≤ 3 ∧ (w0 = "if" ↔ ∃ e ys ns, m = .ite e ys ns) ∧ (w0 = "call" ↔ ∃ x h es, m = .call x h es) := by
  cases m with
  | fail n => cases h
  | loop e b => cases h
  | give e => exact ⟨_, _, by rw [Sm.d], by decide +kernel, by decide +kernel, by simp, ⟨fun z => absurd z (by decide +kernel), (fun ⟨_, _, _, z⟩ => by cases z)⟩, ⟨fun z => absurd z (by decide +kernel), (fun ⟨_, _, _, z⟩ => by cases z)⟩⟩
  | tell e => exact ⟨_, _, by rw [Sm.d], by decide +kernel, by decide +kernel, by simp, ⟨fun z => absurd z (by decide +kernel), (fun ⟨_, _, _, z⟩ => by cases z)⟩, ⟨fun z => absurd z (by decide +kernel), (fun ⟨_, _, _, z⟩ => by cases z)⟩⟩
  | set x e => exact ⟨_, _, by rw [Sm.d], by decide +kernel, by decide +kernel, by simp, ⟨fun z => absurd z (by decide +kernel), (fun ⟨_, _, _, z⟩ => by cases z)⟩, ⟨fun z => absurd z (by decide +kernel), (fun ⟨_, _, _, z⟩ => by cases z)⟩⟩
  | put r e f => exact ⟨_, _, by rw [Sm.d], by decide +kernel, by decide +kernel, by simp, ⟨fun z => absurd z (by decide +kernel), (fun ⟨_, _, _, z⟩ => by cases z)⟩, ⟨fun z => absurd z (by decide +kernel), (fun ⟨_, _, _, z⟩ => by cases z)⟩⟩
  | ite e ys ns => exact ⟨_, _, by rw [Sm.d], by decide +kernel, by decide +kernel, by simp, ⟨fun _ => ⟨_, _, _, rfl⟩, fun _ => rfl⟩, ⟨fun z => absurd z (by decide +kernel), (fun ⟨_, _, _, z⟩ => by cases z)⟩⟩
  | call x h es => exact ⟨_, _, by rw [Sm.d], by decide +kernel, by decide +kernel, by simp, ⟨fun z => absurd z (by decide +kernel), (fun ⟨_, _, _, z⟩ => by cases z)⟩, ⟨fun _ => ⟨_, _, _, rfl⟩, fun _ => rfl⟩⟩
theorem ex_isT (e : Ex) : isT e.d = true := isT_ex e
/-- what the first look picks -/
theorem sel_pcs {H : Hp} {m : Sm} {w0 : Str} {ds : List PyData} {zs : List V} (hp : plainS m = true) (hm : m.d = .tuple (.str w0 :: ds)) (h : DpAll K H zs ds) (n1 : w0 ≠ "if") (n2 : w0 ≠ "call") : DpAll K H (selT zs ds) ((pcs m).map Ex.d) := by
  cases m with
  | fail n => cases hp
  | loop e b => cases hp
  | give e =>
    rw [Sm.d] at hm
    cases hm
    obtain ⟨z1, r1, rfl, g1, h1⟩ := dpAll_cons h
    cases dpAll_nil h1
    rw [selT, ex_isT]
    exact .cons g1 .nil
  | tell e =>
    rw [Sm.d] at hm
    cases hm
    obtain ⟨z1, r1, rfl, g1, h1⟩ := dpAll_cons h
    cases dpAll_nil h1
    rw [selT, ex_isT]
    exact .cons g1 .nil
  | set x e =>
    rw [Sm.d] at hm
    cases hm
    obtain ⟨z1, r1, rfl, g1, h1⟩ := dpAll_cons h
    obtain ⟨z2, r2, rfl, g2, h2⟩ := dpAll_cons h1
    cases dpAll_nil h2
    rw [selT, selT, ex_isT]
    exact .cons g2 .nil
  | put r e f =>
    rw [Sm.d] at hm
    cases hm
    obtain ⟨z1, r1, rfl, g1, h1⟩ := dpAll_cons h
    obtain ⟨z2, r2, rfl, g2, h2⟩ := dpAll_cons h1
    obtain ⟨z3, r3, rfl, g3, h3⟩ := dpAll_cons h2
    cases dpAll_nil h3
    rw [selT, selT, selT, ex_isT, ex_isT]
    exact .cons g2 (.cons g3 .nil)
  | ite e ys ns => rw [Sm.d] at hm; cases hm; exact absurd rfl n1
  | call x g es => rw [Sm.d] at hm; cases hm; exact absurd rfl n2
theorem pcs_ok {hs : Hs} {n : Nat} {rs : List Str} {m : Sm} (h : Sm.ok hs (n + 1) rs m) (hp : plainS m = true) : (∀ e ∈ pcs m, e.ok rs) ∧ (pcs m).length ≤ 100 := by
  cases m with
  | fail n => cases hp
  | loop e b => cases hp
  | give e => exact ⟨fun x hx => by rw [List.mem_singleton.mp hx]; exact h, by simp [pcs]⟩
  | tell e => exact ⟨fun x hx => by rw [List.mem_singleton.mp hx]; exact h, by simp [pcs]⟩
  | set y e => exact ⟨fun x hx => by rw [List.mem_singleton.mp hx]; exact h, by simp [pcs]⟩
  | put r e f =>
    refine ⟨fun x hx => ?_, by simp [pcs]⟩
    rcases List.mem_cons.mp hx with rfl | hx
    · exact h.2.1
    · rw [List.mem_singleton.mp hx]; exact h.2.2
  | ite e ys ns => exact ⟨fun x hx => by rw [List.mem_singleton.mp hx]; exact h.1, by simp [pcs]⟩
  | call x g es => exact ⟨h.2.1, h.2.2.1⟩
theorem wxs_flt {hs : Hs} {F : Nat} {m : Sm} {s s' : PSt} {r : Rs} {f : Str} (hp : plainS m = true) (h : wxs (pcs m) s.kn s.rw = .error f) (hd : doOne hs (F + 1) m s = some (r, s')) : r = .flt f ∧ s' = s := by
  have one : ∀ {e : Ex}, wxs [e] s.kn s.rw = .error f → wx e s.kn s.rw = .error f := fun {e} h => by
    unfold wxs at h
    cases hw : wx e s.kn s.rw with
    | error g => rw [hw] at h; cases h; rfl
    | ok v => rw [hw] at h; cases h
  cases m with
  | fail n => cases hp
  | loop e b => cases hp
  | give e => rw [doOne, one h] at hd; cases hd; exact ⟨rfl, rfl⟩
  | tell e => rw [doOne, one h] at hd; cases hd; exact ⟨rfl, rfl⟩
  | set x e => rw [doOne, one h] at hd; cases hd; exact ⟨rfl, rfl⟩
  | ite e ys ns => rw [doOne, one h] at hd; cases hd; exact ⟨rfl, rfl⟩
  | put x e g =>
    have h : wxs [e, g] s.kn s.rw = .error f := h
    rw [wxs] at h
    rw [doOne] at hd
    cases hw : wx e s.kn s.rw with
    | error k => rw [hw] at h hd; cases h; cases hd; exact ⟨rfl, rfl⟩
    | ok p =>
      rw [hw] at h hd
      dsimp only at h hd
      cases hv : wxs [g] s.kn s.rw with
      | ok vs => rw [hv] at h; cases h
      | error k =>
        rw [hv] at h
        cases h
        rw [one hv] at hd
        cases hd
        exact ⟨rfl, rfl⟩
  | call x g es =>
    have h : wxs es s.kn s.rw = .error f := h
    rw [doOne] at hd
    cases hg : hs g with
    | none => rw [hg] at hd; cases hd
    | some pb =>
      rw [hg] at hd
      dsimp only at hd
      rw [h] at hd
      cases hd
      exact ⟨rfl, rfl⟩
theorem wxs_snoc {kn : Kn} {rw' : Rw} : ∀ {es : List Ex} {vs : List Int} {e : Ex} {v : Int}, wxs es kn rw' = .ok vs → wx e kn rw' = .ok v → wxs (es ++ [e]) kn rw' = .ok (vs ++ [v])
  | [], vs, e, v, h, he => by cases h; simp [wxs, he]
  | a :: r, vs, e, v, h, he => by
    rw [wxs] at h
    cases ha : wx a kn rw' with
    | error g => rw [ha] at h; cases h
    | ok u =>
      rw [ha] at h
      dsimp only at h
      cases hr : wxs r kn rw' with
      | error g => rw [hr] at h; cases h
      | ok us =>
        rw [hr] at h
        cases h
        rw [List.cons_append, wxs, ha]
        dsimp only
        rw [wxs_snoc hr he]
        rfl
theorem wxs_bad {kn : Kn} {rw' : Rw} : ∀ {es : List Ex} {vs : List Int} {e : Ex} {f : Str} {t : List Ex}, wxs es kn rw' = .ok vs → wx e kn rw' = .error f → wxs (es ++ e :: t) kn rw' = .error f
  | [], vs, e, f, t, h, he => by simp [wxs, he]
  | a :: r, vs, e, f, t, h, he => by
    rw [wxs] at h
    cases ha : wx a kn rw' with
    | error g => rw [ha] at h; cases h
    | ok u =>
      rw [ha] at h
      dsimp only at h
      cases hr : wxs r kn rw' with
      | error g => rw [hr] at h; cases h
      | ok us =>
        rw [List.cons_append, wxs, ha]
        dsimp only
        rw [wxs_bad hr he]
theorem wxs_len {kn : Kn} {rw' : Rw} : ∀ {es : List Ex} {vs : List Int}, wxs es kn rw' = .ok vs → vs.length = es.length
  | [], vs, h => by cases h; rfl
  | a :: r, vs, h => by
    rw [wxs] at h
    cases ha : wx a kn rw' with
    | error g => rw [ha] at h; cases h
    | ok u =>
      rw [ha] at h
      dsimp only at h
      cases hr : wxs r kn rw' with
      | error g => rw [hr] at h; cases h
      | ok us => rw [hr] at h; cases h; rw [List.length_cons, wxs_len hr, List.length_cons]
theorem wxs_one {kn : Kn} {rw' : Rw} {e : Ex} {vs : List Int} (h : wxs [e] kn rw' = .ok vs) : ∃ v, vs = [v] ∧ wx e kn rw' = .ok v := by
  rw [wxs] at h
  cases ha : wx e kn rw' with
  | error g => rw [ha] at h; cases h
  | ok u => rw [ha] at h; cases h; exact ⟨u, rfl, rfl⟩
theorem wxs_32 {kn : Kn} {rw' : Rw} {rs : List Str} (hk : Kn32 kn) (hr : Rw32 rw') : ∀ {es : List Ex} {vs : List Int}, (∀ e ∈ es, e.ok rs) → wxs es kn rw' = .ok vs → ∀ v ∈ vs, In32 v
  | [], vs, _, h, v, hv => by cases h; cases hv
  | a :: r, vs, ok, h, v, hv => by
    rw [wxs] at h
    cases ha : wx a kn rw' with
    | error g => rw [ha] at h; cases h
    | ok u =>
      rw [ha] at h
      dsimp only at h
      cases hb : wxs r kn rw' with
      | error g => rw [hb] at h; cases h
      | ok us =>
        rw [hb] at h
        cases h
        rcases List.mem_cons.mp hv with rfl | hv
        · exact wx_32 hk hr (ok a (List.mem_cons_self ..)).2 ha
        · exact wxs_32 hk hr (fun e he => ok e (List.mem_cons_of_mem _ he)) hb v hv
theorem at_last {xs : List V} {x : V} : atI (xs ++ [x]) (-1) = some x := by
  have hl : (xs ++ [x]).length = xs.length + 1 := by rw [List.length_append, List.length_singleton]
  have hi : ixN (xs.length + 1) (-1) = some xs.length := by
    unfold ixN
    rw [if_neg (by decide), if_pos (by omega)]
    exact congrArg some (by omega)
  unfold atI
  rw [hl, hi]
  simp
theorem LStd.back {hs : Hs} {rs : List Str} {A B : Adr} {h : Addr} {M N N' : Nat} {H H3 H4 : Hp} {s s1 : PSt} (k : LStd K hs rs B h M N H s) (s3 : Same H H3) (k4 : Kp (SA [] { A with q := B.q, t := B.t }) H3 H4) (nd : H A.d = none) (st4 : LStd K hs [] { A with q := B.q, t := B.t } h M N' H4 s1) (l1 : s1.lf ≤ s.lf) :
    Kp (SA rs B) H H4 ∧ LStd K hs rs B h M N H4 { s with lf := s1.lf, td := s1.td } := by
  have a := k.ap
  have kk : ∀ {c : Addr} {o : HO}, H c = some o → c ≠ B.q → c ≠ B.t → H4 c = some o := fun {c o} e h1 h2 => k4 c o (s3 c o e) (fun z => by
    rcases z with z | z | z | ⟨x, hx, _⟩
    · have : H c = none := by rw [z]; exact nd
      rw [this] at e; cases e
    · exact absurd z h1
    · exact absurd z h2
    · cases hx)
  refine ⟨fun c o e hk => k4 c o (s3 c o e) (fun z => hk (by
    rcases z with z | z | z | ⟨x, hx, _⟩
    · have : H c = none := by rw [z]; exact nd
      rw [this] at e; cases e
    · exact .inr (.inl z)
    · exact .inr (.inr (.inl z))
    · cases hx)), ?_⟩
  obtain ⟨e1, ⟨kvs, e2, l2, hv⟩, ⟨rvs, e5, v5⟩, e6⟩ := k.ro
  have nz := k.nz
  refine ⟨⟨kk e1 k.pq a.pt, ⟨kvs, kk e2 k.dq a.dt, ?_, hv⟩, ⟨rvs, kk e5 k.rq a.rt, v5⟩, fun x hx => kk (e6 x hx) (a.aq x hx) (k.rt x hx)⟩, st4.ob, st4.tl, st4.hk, k.k32, k.r32, st4.sz, ?_, k.m6, k.n6, k.pq, k.pd, k.dq, k.rd, k.rq, k.hd, k.hq, k.rt, k.ri⟩
  · show kvs.length ≤ N - s1.lf
    omega
  · show s1.lf ≤ N
    omega
def sp_lcalled (K : PySem.W.Frag) (n : Nat) : Sp := fun vs H Q _ => ∃ (hs : Hs) (rs : List Str) (A : Adr) (h W : Addr) (M N : Nat) (s s' : PSt) (v : V) (x g : Str) (es : List Ex) (ws : List Int) (r : Rs) (F : Nat), vs = [v, .ref W, .ref A.p, .ref A.q] ∧ LStd K hs rs A h M N H s ∧ Dp K H v (Sm.call x g es).d ∧ SqL K H W (ws.map V.int) ∧ wxs es s.kn s.rw = .ok ws ∧ (Sm.call x g es).ok hs (n + 1) rs ∧ doOne hs (F + 1) (Sm.call x g es) s = some (r, s') ∧ M < 6000 ∧ N < 7000 ∧ LPost K hs rs A h (M + 1) (N + 1) H s' Q r
theorem ok_lcalled (T : Top K mg) (n k : Nat) (hk : 11 ≤ k) (G__law_done : FnOk P w K mg base CX0 k (He.ga K "_law_done") T.fd__law_done ["_law_body_here", "_law_room", "_law_play"] (sp_ldone K n)) : FnOk P w K mg base CX0 (k + 1) (He.ga K "_law_called") T.fd__law_called ["_law_s", "_law_worths", "_law_room", "_law_play"] (sp_lcalled K n) := by
  refine T.F__law_called.ok sc__law_called (fun vs H Q E h => ?_) (fun cdv A outer s H vs Q E hr h => ?_)
  · obtain ⟨hs, rs, A, h, W, M, N, s, s', v, x, g, es, ws, r, F, rfl, _⟩ := h
    rfl
  · obtain ⟨hs, rs, B, hh, W, M, N, s, s', v, x, g, es, vs, r, F, rfl, st, dp, hW, hw, ok, hd, m6, n6, po⟩ := h
    refine ⟨_, PSs.nox (pss_cons (ps_asg (pe_dget (hu_of hr) (pe_dget (hu_of hr) (pv 3) pe_str (fun _ _ => rfl)) (pe_ix ix_tup (pv 0) pe_int (fun _ _ => rfl)) (fun _ _ => rfl)) (pg_tup (n := 2) (by rfl) (pgs_cons (pg_name (i := 4) sc__law_called.nd rfl (Or.inl rfl)) (pgs_cons (pg_name (i := 5) sc__law_called.nd rfl (Or.inl rfl)) pgs_nil))))
        (pss_cons (ps_set (i := 6) sc__law_called.nd rfl (Or.inl rfl) (pe_orT (pe_call G__law_done (hr.mono (by omega)) (by rfl) T.g__law_done T.F__law_done.kp T.b__law_done .nil pass0 (pa_cons (pv 5) (pa_cons (pe_disp (pps_cons pe_str (ZipM.pe_dictzip rfl (by rfl) T.m_dict (by rfl) T.m_zip (pa_cons (pv 4) (pa_cons (pv 1) pa_nil))) (pps_cons pe_str pe_dnewK pps_nil)) (by rfl) (by rfl) (fun z => by cases z) (by decide)) (pa_cons (pv 3) pa_nil)))) (pe_one (pe_tup (pa_cons pe_str (pa_cons pe_int pa_nil))))))
        (pss_cons (ps_if (pt_cmpR op_ne (pe_ix ix_tup (pv 6) pe_int (fun _ _ => rfl)) pe_str (nomark _)) (pss_one (ps_ret (pv 6))) pss_nil)
        (pss_cons (ps_dput (hu_of hr) (pe_dget (hu_of hr) (pv 2) pe_str (fun _ _ => rfl)) (pe_ix ix_tup (pv 0) pe_int (fun _ _ => rfl)) (pe_ix ix_tup (pv 6) pe_int (fun _ _ => rfl)) (by rfl))
        (pss_one (ps_ret pe_non)))))), ?_⟩
    obtain ⟨_, okE, l100, pr, bdy, hh1, lpe, okB⟩ := ok
    obtain ⟨p0, xs, rfl, hp, da⟩ := dp_tup dp
    obtain ⟨x0, r0, rfl, d0, e0⟩ := dpAll_cons da
    obtain ⟨x1, r1, rfl, d1, e1⟩ := dpAll_cons e0
    obtain ⟨x2, r2, rfl, d2, e2⟩ := dpAll_cons e1
    cases dp_str d0
    cases dp_str d1
    cases dp_str d2
    have v32 := wxs_32 st.k32 st.r32 okE hw
    have lv := wxs_len hw
    rw [doOne] at hd
    rw [hh1] at hd
    dsimp only at hd
    rw [hw] at hd
    dsimp only at hd
    obtain ⟨hvs, ehv, fhv⟩ := st.hk
    obtain ⟨u, hu, du⟩ := fhv g (pr, bdy) hh1
    obtain ⟨pu, us, rfl, hpu, dus⟩ := dp_tup du
    obtain ⟨y0, w0, rfl, g0, f0⟩ := dpAll_cons dus
    obtain ⟨y1, w1, rfl, g1, f1⟩ := dpAll_cons f0
    cases dpAll_nil f1
    obtain ⟨pp, us0, rfl, hpp, dpp⟩ := dp_tup g0
    have hd0 : DGet H hh (.str g) (some (.ref pu)) := by
      have := DGet.k (k := .inr g) ehv
      rw [hu] at this
      exact this
    have hus0 : us0 = pr.map V.str := by
      have : ∀ {l : List Str} {vs : List V}, DpAll K H vs (l.map PyData.str) → vs = l.map V.str := fun {l} => by
        induction l with
        | nil => intro vs hh; exact dpAll_nil hh
        | cons a r ih =>
          intro vs hh
          obtain ⟨v, q, rfl, g, k⟩ := dpAll_cons hh
          cases dp_str g
          rw [ih k]
          rfl
      exact this dpp
    subst hus0
    have hpz1 : ((pr.zip vs).map fun y => (y.1, V.int y.2)).map (fun x => V.str x.1) = pr.map V.str := by
      rw [List.map_map]
      have : ((pr.zip vs).map ((fun x : Str × V => V.str x.1) ∘ fun y => (y.1, V.int y.2))) = ((pr.zip vs).map Prod.fst).map V.str := by rw [List.map_map]; rfl
      rw [this, List.map_fst_zip (by omega)]
    have hpz2 : ((pr.zip vs).map fun y => (y.1, V.int y.2)).map (·.2) = vs.map V.int := by
      rw [List.map_map]
      have : ((pr.zip vs).map ((fun x : Str × V => x.2) ∘ fun y => (y.1, V.int y.2))) = ((pr.zip vs).map Prod.snd).map V.int := by rw [List.map_map]; rfl
      rw [this, List.map_snd_zip (by omega)]
    have hpz3 : (pr.zip vs).map (·.2) = vs := List.map_snd_zip (by omega)
    refine ⟨_, rfl, B.q, _, rfl, DGet.k (k := .inr "helpers") st.ob, _, rfl, p0, _, 2, _, rfl, rfl, hp, atI_nat (j := 2) rfl, hh, _, rfl, hd0, ?_⟩
    refine ⟨pu, _, rfl, hpu, rfl, _, _, rfl, _, _, rfl, rfl, ?_⟩
    refine ⟨_, rfl, ?_⟩
    intro pa hpa
    have k6 := same_new (o := .dK []) hpa
    refine ⟨_, rfl, _, rfl, pp, W, (pr.zip vs).map (fun y => (y.1, V.int y.2)), rfl, by rw [hpz1]; exact sqT_sm k6 hpp, by rw [hpz2]; exact k6.seq hW, by rw [List.length_map, List.length_zip]; omega, fun d hd6 => ?_⟩
    rw [List.map_map]
    have nd : H d = none := none_sm k6 hd6
    have npd : pa ≠ d := fun z => by rw [← z, upd_same] at hd6; cases hd6
    generalize hKn : (mergeK [] ((pr.zip vs).map ((fun x : Str × V => ((Sum.inr x.1 : Key), x.2)) ∘ fun y : Str × Int => (y.1, V.int y.2)))) = kvs
    have hkv : ∀ x, valV kvs (.inr x) = (knZ (pr.zip vs) x).map V.int := fun x => by
      rw [← hKn]
      exact val_merge (pr.zip vs) x
    have lkv : kvs.length ≤ 100 := by
      have := length_mergeK ((pr.zip vs).map ((fun x : Str × V => ((Sum.inr x.1 : Key), x.2)) ∘ fun y : Str × Int => (y.1, V.int y.2))) []
      rw [List.length_map, List.length_nil, List.length_zip] at this
      rw [← hKn]
      omega
    have s7 := same_upd (o := .dK kvs) k6 nd
    intro rr hrr
    have nr : H rr = none := none_sm s7 hrr
    have npr : pa ≠ rr := fun z => by rw [← z, upd_ne npd, upd_same] at hrr; cases hrr
    have ndr : d ≠ rr := fun z => by rw [← z, upd_same] at hrr; cases hrr
    refine ⟨by rw [upd_ne npr, upd_ne npd]; exact upd_same, [(.inr "known", _), (.inr "rows", _)], rfl, (by show 2 ≤ 15; decide), ?_⟩
    rw [merge_room]
    have s8 : Same H (upd (upd (upd (upd H pa (.dK [])) d (.dK kvs)) rr (.dK [])) pa (.dK [(.inr "known", .ref d), (.inr "rows", .ref rr)])) := same_upd (same_upd s7 nr) hpa
    have ep8 : (upd (upd (upd (upd H pa (.dK [])) d (.dK kvs)) rr (.dK [])) pa (.dK [(.inr "known", .ref d), (.inr "rows", .ref rr)])) pa = some (.dK [(.inr "known", .ref d), (.inr "rows", .ref rr)]) := upd_same
    have ed8 : (upd (upd (upd (upd H pa (.dK [])) d (.dK kvs)) rr (.dK [])) pa (.dK [(.inr "known", .ref d), (.inr "rows", .ref rr)])) d = some (.dK kvs) := by rw [upd_ne npd.symm, upd_ne ndr]; exact upd_same
    have er8 : (upd (upd (upd (upd H pa (.dK [])) d (.dK kvs)) rr (.dK [])) pa (.dK [(.inr "known", .ref d), (.inr "rows", .ref rr)])) rr = some (.dK []) := by rw [upd_ne npr.symm]; exact upd_same
    generalize (upd (upd (upd (upd H pa (.dK [])) d (.dK kvs)) rr (.dK [])) pa (.dK [(.inr "known", .ref d), (.inr "rows", .ref rr)])) = H8 at s8 ep8 ed8 er8 ⊢
    have stI : LStd K hs [] { (⟨pa, d, 0, 0, rr, fun _ => 0⟩ : Adr) with q := B.q, t := B.t } hh M (s.lf + 100) H8 { kn := knZ (pr.zip vs), rw := fun _ => [], lf := s.lf, td := s.td } := by
      refine ⟨⟨ep8, ⟨kvs, ed8, by show kvs.length ≤ s.lf + 100 - s.lf; omega, hkv⟩, ⟨[], er8, (fun x hx => by cases hx)⟩, (fun x hx => by cases hx)⟩, s8 _ _ st.ob, s8 _ _ st.tl, st.hk.sm s8, kn32_of (fun q hq => v32 _ (by rw [← hpz3]; exact List.mem_map_of_mem (f := (·.2)) hq)), (fun x v hv => by cases hv), st.sz, by show s.lf ≤ s.lf + 100; omega, st.m6, ?_, (ne_of_none st.ob hpa).symm, npd, (ne_of_none st.ob nd).symm, ndr.symm, (ne_of_none st.ob nr).symm, ne_of_none ehv nd, st.hq, (fun x hx => by cases hx), (fun x hx => by cases hx)⟩
      have := st.sz
      have := st.m6
      omega
    have fin : ∀ {ed : PyData} {xs : List PyData} {H' : Hp} {u : Addr}, ed = .tuple (.str "gave" :: xs) ∨ ed = .tuple (.str "on" :: xs) ∨ ed = .tuple (.str "fault" :: xs) → Dp K H' (.ref u) ed → TruV K (.ref u) H' true := fun {ed xs H' u} he du => by
      have : ∃ y ys, ed = .tuple (y :: ys) := by rcases he with rfl | rfl | rfl <;> exact ⟨_, _, rfl⟩
      obtain ⟨y, ys, rfl⟩ := this
      obtain ⟨u1, xs9, e9, hu9, da9⟩ := dp_tup du
      cases e9
      obtain ⟨z1, r1, rfl, _, _⟩ := dpAll_cons da9
      exact .inr (.inl ⟨_, hu9, rfl⟩)
    cases hq : doAll hs F bdy { kn := knZ (pr.zip vs), rw := fun _ => [], lf := s.lf, td := s.td } with
    | none => rw [hq] at hd; cases hd
    | some rr' =>
      obtain ⟨r1, s1'⟩ := rr'
      rw [hq] at hd
      have sz2 : s1'.lf ≤ s.lf := ((size1 hs F).1 _ _ _ _ hq).1
      have back := fun (H4 : Hp) (k4 : Kp (SA [] { (⟨pa, d, 0, 0, rr, fun _ => 0⟩ : Adr) with q := B.q, t := B.t }) H8 H4) (st4 : LStd K hs [] { (⟨pa, d, 0, 0, rr, fun _ => 0⟩ : Adr) with q := B.q, t := B.t } hh M (s.lf + 100) H4 s1') => st.back s8 k4 nd st4 sz2
      refine ⟨_, rfl, hs, [], { (⟨pa, d, 0, 0, rr, fun _ => 0⟩ : Adr) with q := B.q, t := B.t }, hh, M, s.lf + 100, _, s1', _, bdy, r1, F, rfl, stI, dp_sm s8 g1, okB, hq, ?_⟩
      cases r1 with
      | fin =>
        cases hd
        intro H10 k10 st10
        obtain ⟨kO, stO⟩ := back H10 k10 st10
        refine ⟨false, rfl, ifF rfl ⟨(by show 2 ≤ sizeLine; decide), fun tp htp => ?_⟩⟩
        have kt := same_new (o := .tup [.str "gave", .int 0]) htp
        have stT := stO.sm kt
        have kT := kO.trans (Kp.of_same kt)
        obtain ⟨kvs2, ed, lk, hv⟩ := stT.ro.dk
        refine ⟨_, rfl, tp, _, 0, _, rfl, rfl, .of upd_same, atI_nat (j := 0) rfl, rfl, _, rfl, ifNF rfl ?_⟩
        refine ⟨_, rfl, tp, _, 1, _, rfl, rfl, .of upd_same, atI_nat (j := 1) rfl, _, rfl, B.p, _, rfl, DGet.k (k := .inr "known") stT.ro.ob, _, rfl, p0, _, 1, _, rfl, rfl, sqT_kp kT hp, atI_nat (j := 1) rfl, B.d, _, rfl, .inl ⟨kvs2, .inr x, ed, rfl, ?_, rfl⟩, ?_⟩
        · rw [sizeLine_eq]
          omega
        · exact po _ (kT.trans (Kp.upd ed trivial (.inl rfl))) (stT.put ed lk hv in32_0 m6 n6)
      | gave z =>
        cases hd
        intro H10 u9 k10 st10 i10 du9
        obtain ⟨kO, stO⟩ := back H10 k10 st10
        refine ⟨true, fin (.inl rfl) du9, ifT rfl ?_⟩
        obtain ⟨ua, ux, eu, hua, dua⟩ := dp_tup du9
        cases eu
        obtain ⟨t0, q0, rfl, a0, b0⟩ := dpAll_cons dua
        obtain ⟨t1, q1, rfl, a1, b1⟩ := dpAll_cons b0
        cases dp_str a0
        cases dp_int a1
        obtain ⟨kvs2, ed, lk, hv⟩ := stO.ro.dk
        refine ⟨_, rfl, u9, _, 0, _, rfl, rfl, hua, atI_nat (j := 0) rfl, rfl, _, rfl, ifNF rfl ?_⟩
        refine ⟨_, rfl, u9, _, 1, _, rfl, rfl, hua, atI_nat (j := 1) rfl, _, rfl, B.p, _, rfl, DGet.k (k := .inr "known") stO.ro.ob, _, rfl, p0, _, 1, _, rfl, rfl, sqT_kp kO hp, atI_nat (j := 1) rfl, B.d, _, rfl, .inl ⟨kvs2, .inr x, ed, rfl, ?_, rfl⟩, ?_⟩
        · rw [sizeLine_eq]
          omega
        · exact po _ (kO.trans (Kp.upd ed trivial (.inl rfl))) (stO.put ed lk hv i10 m6 n6)
      | on =>
        cases hd
        intro H10 u9 k10 st10 du9
        obtain ⟨kO, stO⟩ := back H10 k10 st10
        refine ⟨true, fin (.inr (.inl rfl)) du9, ifT rfl ?_⟩
        obtain ⟨ua, ux, eu, hua, dua⟩ := dp_tup du9
        cases eu
        obtain ⟨t0, q0, rfl, a0, b0⟩ := dpAll_cons dua
        cases dp_str a0
        refine ⟨_, rfl, u9, _, 0, _, rfl, rfl, hua, atI_nat (j := 0) rfl, rfl, _, rfl, ifNT (by decide +kernel) ?_⟩
        exact ⟨_, rfl, po H10 u9 kO (stO.mono (by omega) (by omega) (by omega) (by omega)) du9⟩
      | flt f =>
        cases hd
        intro H10 u9 k10 st10 du9
        obtain ⟨kO, stO⟩ := back H10 k10 st10
        refine ⟨true, fin (.inr (.inr rfl)) du9, ifT rfl ?_⟩
        obtain ⟨ua, ux, eu, hua, dua⟩ := dp_tup du9
        cases eu
        obtain ⟨t0, q0, rfl, a0, b0⟩ := dpAll_cons dua
        cases dp_str a0
        refine ⟨_, rfl, u9, _, 0, _, rfl, rfl, hua, atI_nat (j := 0) rfl, rfl, _, rfl, ifNT (by decide +kernel) ?_⟩
        exact ⟨_, rfl, po H10 u9 kO (stO.mono (by omega) (by omega) (by omega) (by omega)) du9⟩

theorem ok_lone_of (T : Top K mg) (n k : Nat) (hk : 11 ≤ k) (G__law_done : FnOk P w K mg base CX0 k (He.ga K "_law_done") T.fd__law_done ["_law_body_here", "_law_room", "_law_play"] (sp_ldone K n)) :
    FnOk P w K mg base CX0 (k + 2) (He.ga K "_law_one") T.fd__law_one ["_law_s", "_law_room", "_law_play"] (sp_lone K (n + 1)) := by
  have G__law_again := ok_lagain_of T n k hk G__law_done
  have G__law_worth := ok__law_worth (P := P) (w := w) (base := base) T 10
  have G__law_called := ok_lcalled T n k hk G__law_done
  refine T.F__law_one.ok sc__law_one (fun vs H Q E h => ?_) (fun cdv A outer s H vs Q E hr h => ?_)
  · obtain ⟨hs, rs, A, h, M, N, s, s', v, m, r, F, rfl, _⟩ := h
    rfl
  · obtain ⟨hs, rs, B, hh, M, N, s, s', v, m, r, F, rfl, st, dp, ok, hd, m6, n6, po⟩ := h
    refine ⟨_, PSs.nox (pss_cons (ps_if (pt_cmpR op_eq (pe_ix ix_tup (pv 0) pe_int (fun _ _ => rfl)) pe_str (nomark _)) (pss_one (ps_ret (pe_tup (pa_cons pe_str (pa_cons (pe_op op_add_str pe_str (pe_callTy call_str_int (by rfl) T.m_str (by decide +kernel) (pa_cons (pe_ix ix_tup (pv 0) pe_int (fun _ _ => rfl)) pa_nil))) pa_nil))))) pss_nil)
        (pss_cons (ps_if (pt_cmpR op_eq (pe_ix ix_tup (pv 0) pe_int (fun _ _ => rfl)) pe_str (nomark _)) (pss_one (ps_ret (pe_call G__law_again (hr.mono (by omega)) (by rfl) T.g__law_again T.F__law_again.kp T.b__law_again .nil pass0 (pa_cons (pv 0) (pa_cons (pv 1) (pa_cons (pv 2) pa_nil)))))) pss_nil)
        (pss_cons (ps_setLc (i := 3) (own := [("_law_e", 5)]) (by rfl) sc__law_one.nd rfl rfl (sw_true rfl rfl rfl (by decide +kernel)) (pi_tup (pe_slice sl_tupA (pv 0) (po_some pe_int) po_none)) (blkOk_by (own := [("_law_e", 5)]) (N := N__law_one) (sc := defScope s__law_one) (by decide +kernel)) (fun _ _ _ _ _ => (pg_name (i := 5) sc__law_one.nd rfl (Or.inl rfl))) (fun _ _ _ _ _ => (pts_one (pt_val (pe_callB (call_isiK (K := K) rfl) (by rfl) T.m_isinstance (by decide +kernel) (pa_cons (pv 5) (pa_cons (pe_bltn (v := .ty "tuple") (by rfl) T.m_tuple (by decide +kernel) rfl) pa_nil)))))) (fun _ _ _ _ _ => (pv 5)))
        (pss_cons (ps_if (pt_cmpR op_eq (pe_ix ix_tup (pv 0) pe_int (fun _ _ => rfl)) pe_str (nomark _)) (pss_one (ps_set (i := 3) sc__law_one.nd rfl (Or.inl rfl) (pe_lst (pa_cons (pe_ix ix_tup (pv 0) pe_int (fun _ _ => rfl)) pa_nil)))) pss_nil)
        (pss_cons (ps_if (pt_cmpR op_eq (pe_ix ix_tup (pv 0) pe_int (fun _ _ => rfl)) pe_str (nomark _)) (pss_one (ps_set (i := 3) sc__law_one.nd rfl (Or.inl rfl) (pe_callTy call_list_of (by rfl) T.m_list (by decide +kernel) (pa_cons (pe_ix ix_tup (pv 0) pe_int (fun _ _ => rfl)) pa_nil)))) pss_nil)
        (pss_cons (ps_set (i := 4) sc__law_one.nd rfl (Or.inl rfl) (pe_lst pa_nil))
        (pss_cons (ps_for PassesOwn.never (by rfl) (pi_list (pv 3)) (pg_name (i := 5) sc__law_one.nd rfl (Or.inl rfl)) (pss_cons (ps_expr (pe_bm PySem.F.plainAttrs_list PySem.F.slot_list_append PySem.F.type_list_append mt_append (pv 4) (pa_cons (pe_call G__law_worth (hr.mono (by omega)) (by rfl) T.g__law_worth T.F__law_worth.kp T.b__law_worth .nil pass0 (pa_cons (pv 5) (pa_cons (pv 1) pa_nil))) pa_nil)))
        (pss_one (ps_if (pt_val (pe_callB call_isi (by rfl) T.m_isinstance (by decide +kernel) (pa_cons (pe_ix ix_list (pv 4) (pe_un un_neg pe_int) (fun _ _ => rfl)) (pa_cons (pe_bltn (v := .ty "str") (by rfl) T.m_str (by decide +kernel) rfl) pa_nil)))) (pss_one (ps_ret (pe_tup (pa_cons pe_str (pa_cons (pe_ix ix_list (pv 4) (pe_un un_neg pe_int) (fun _ _ => rfl)) pa_nil))))) pss_nil))))
        (pss_cons (ps_if (pt_cmpR op_eq (pe_ix ix_tup (pv 0) pe_int (fun _ _ => rfl)) pe_str (nomark _)) (pss_one (ps_ret (pe_tup (pa_cons pe_str (pa_cons (pe_ix ix_list (pv 4) pe_int (fun _ _ => rfl)) pa_nil))))) pss_nil)
        (pss_cons (ps_if (pt_cmpR op_eq (pe_ix ix_tup (pv 0) pe_int (fun _ _ => rfl)) pe_str (nomark _)) (pss_one (ps_ret (pe_call G__law_done (hr.mono (by omega)) (by rfl) T.g__law_done T.F__law_done.kp T.b__law_done .nil pass0 (pa_cons (pe_ix ix_list (pe_lst (pa_cons (pe_ix ix_tup (pv 0) pe_int (fun _ _ => rfl)) (pa_cons (pe_ix ix_tup (pv 0) pe_int (fun _ _ => rfl)) pa_nil))) (pe_callTy call_int1 (by rfl) T.m_int (by decide +kernel) (pa_cons (pe_cmpR op_ne (pe_ix ix_list (pv 4) pe_int (fun _ _ => rfl)) pe_int (nomark _)) pa_nil)) (fun _ _ => rfl)) (pa_cons (pv 1) (pa_cons (pv 2) pa_nil)))))) pss_nil)
        (pss_cons (ps_if (pt_cmpR op_eq (pe_ix ix_tup (pv 0) pe_int (fun _ _ => rfl)) pe_str (nomark _)) (pss_one (ps_dput (hu_of hr) (pe_dget (hu_of hr) (pv 1) pe_str (fun _ _ => rfl)) (pe_ix ix_tup (pv 0) pe_int (fun _ _ => rfl)) (pe_ix ix_list (pv 4) pe_int (fun _ _ => rfl)) (by rfl))) pss_nil)
        (pss_cons (ps_if (pt_cmpR op_eq (pe_ix ix_tup (pv 0) pe_int (fun _ _ => rfl)) pe_str (nomark _)) (pss_one (ps_expr (pe_bm PySem.F.plainAttrs_list PySem.F.slot_list_append PySem.F.type_list_append mt_append (pe_dget (hu_of hr) (pv 2) pe_str (fun _ _ => rfl)) (pa_cons (pe_ix ix_list (pv 4) pe_int (fun _ _ => rfl)) pa_nil)))) pss_nil)
        (pss_cons (ps_if (pt_cmpR op_eq (pe_ix ix_tup (pv 0) pe_int (fun _ _ => rfl)) pe_str (nomark _)) (pss_cons (ps_if (PW.pt (pw_or (pt_cmpR op_lt (pe_ix ix_list (pv 4) pe_int (fun _ _ => rfl)) pe_int (nomark _)) (pw_or1 (pt_cmpR op_ge (pe_ix ix_list (pv 4) pe_int (fun _ _ => rfl)) (pe_callB call_len_seq (by rfl) T.m_len (by decide +kernel) (pa_cons (pe_dget (hu_of hr) (pe_dget (hu_of hr) (pv 1) pe_str (fun _ _ => rfl)) (pe_ix ix_tup (pv 0) pe_int (fun _ _ => rfl)) (fun _ _ => rfl)) pa_nil)) (nomark _))))) (pss_one (ps_ret (pe_tup (pa_cons pe_str (pa_cons pe_str pa_nil))))) pss_nil)
        (pss_one (ps_asg (pe_ix ix_list (pv 4) pe_int (fun _ _ => rfl)) (pg_sub (pe_dget (hu_of hr) (pe_dget (hu_of hr) (pv 1) pe_str (fun _ _ => rfl)) (pe_ix ix_tup (pv 0) pe_int (fun _ _ => rfl)) (fun _ _ => rfl)) (pe_ix ix_list (pv 4) pe_int (fun _ _ => rfl)) set_list)))) pss_nil)
        (pss_cons (ps_if (pt_cmpR op_eq (pe_ix ix_tup (pv 0) pe_int (fun _ _ => rfl)) pe_str (nomark _)) (pss_one (ps_ret (pe_call G__law_called (hr.mono (by omega)) (by rfl) T.g__law_called T.F__law_called.kp T.b__law_called .nil pass0 (pa_cons (pv 0) (pa_cons (pv 4) (pa_cons (pv 1) (pa_cons (pv 2) pa_nil))))))) pss_nil)
        (pss_one (ps_ret pe_non))))))))))))))), ?_⟩
    have up : LStd K hs rs B hh (M + 1) (N + 1) H s := st.mono (by omega) (by omega) (by omega) (by omega)
    have nv : ∀ {x y : Str} {A B : Prop}, x ≠ y → B → if decide (V.str x = V.str y) = true then A else B := fun h hB => ifN (fun z => h (V.str.inj z)) hB
    have pv' : ∀ {x y : Str} {A B : Prop}, x = y → A → if decide (V.str x = V.str y) = true then A else B := fun h hB => ifD (congrArg V.str h) hB
    cases F with
    | zero => simp [doOne] at hd
    | succ F =>
    by_cases hpl : plainS m = true
    · obtain ⟨w0, ds, hmd, nfail, nwhile, ld, hif, hcall⟩ := plain_d hpl
      obtain ⟨pok, p100⟩ := pcs_ok ok hpl
      rw [hmd] at dp
      obtain ⟨p0, xs, rfl, hp, da⟩ := dp_tup dp
      obtain ⟨x0, zs, rfl, d0, dz⟩ := dpAll_cons da
      cases dp_str d0
      have lz : zs.length = ds.length := dpAll_len dz
      refine ⟨_, rfl, p0, _, 0, _, rfl, rfl, hp, atI_nat (j := 0) rfl, rfl, _, rfl, nv nfail ?_⟩
      refine ⟨_, rfl, p0, _, 0, _, rfl, rfl, hp, atI_nat (j := 0) rfl, rfl, _, rfl, nv nwhile ?_⟩
      refine ⟨_, rfl, 1, rfl, p0, _, rfl, hp, fun z => absurd z tail_no, fun _ S nS => ?_⟩
      rw [cut_tail]
      have kS := same_new (o := .tup zs) nS
      refine ⟨S, rfl, ⟨_, .of upd_same⟩, fun D nD => ?_⟩
      refine lc_tup (K := K) (xs := zs) (fun i H' => Same (upd H S (.tup zs)) H' ∧ H' D = some (.lst (selT (zs.take i) (ds.take i)))) ?_ ?_ ?_ ?_
      · exact ⟨same_new nD, upd_same⟩
      · rintro i H' _ ⟨s', _⟩
        exact sqT_sm s' (.of upd_same)
      · rintro i y H1 hy ⟨s1, ee⟩
        obtain ⟨d, hdd, dd⟩ := dpAll_getV dz hy
        have d1' := dp_sm (kS.trans s1) dd
        have il := (List.getElem?_eq_some_iff.mp hy).1
        have tk1 : zs.take (i + 1) = zs.take i ++ [y] := by rw [List.take_succ, hy]; rfl
        have tk2 : ds.take (i + 1) = ds.take i ++ [d] := by rw [List.take_succ, hdd]; rfl
        have ll : (zs.take i).length = (ds.take i).length := by rw [List.length_take, List.length_take, lz]
        rw [tk1, tk2, selT_snoc ll]
        refine ⟨rfl, _, rfl, _, _, _, _, isT d, rfl, .ty _, dp_ty d1', kit_tup d, _, rfl, ?_⟩
        cases hT : isT d with
        | false =>
          refine ifF rfl ⟨s1, ?_⟩
          rw [ee]
          simp
        | true =>
          refine ifT rfl ⟨_, rfl, _, ee, ?_, ?_, ?_⟩
          · have h1 := selT_len (zs.take i) (ds.take i)
            rw [List.length_take, lz] at h1
            rw [sizeLine_eq]
            omega
          · exact fun b o hb => by rw [upd_ne (ne_of_none hb nD)]; exact s1 _ _ hb
          · exact upd_same
      rintro H3 ⟨k3, e3⟩
      rw [List.take_length, lz, List.take_length] at e3
      have s3 : Same H H3 := kS.trans k3
      have hp3 := sqT_sm s3 hp
      dsimp only [gName]
      refine ifs_by (fun σ' H' => Same H H' ∧ ∃ (L : Addr) (ys : List V), H' L = some (.lst ys) ∧ (w0 ≠ "call" → DpAll K H' ys ((pcs m).map Ex.d)) ∧ σ' = [some (.ref p0), some (.ref B.p), some (.ref B.q), some (.ref L), none, none]) ?_ ?_
      rotate_left
      · intro N' hN
        refine ⟨_, rfl, p0, _, 0, _, rfl, rfl, hp3, atI_nat (j := 0) rfl, rfl, _, rfl, ?_⟩
        by_cases wi : w0 = "if"
        · refine pv' wi ?_
          obtain ⟨e, ys, ns, rfl⟩ := hif.mp wi
          rw [Sm.d] at hmd
          cases hmd
          obtain ⟨z1, r1, rfl, g1, f1⟩ := dpAll_cons dz
          refine ⟨_, rfl, p0, _, 1, _, rfl, rfl, hp3, atI_nat (j := 1) rfl, (by show 1 ≤ sizeLine; decide), fun L hL => ?_⟩
          exact hN _ _ ⟨s3.trans (same_new hL), L, _, upd_same, fun _ => .cons (dp_sm (s3.trans (same_new hL)) g1) .nil, rfl⟩
        · refine nv wi ?_
          exact hN _ _ ⟨s3, D, _, e3, fun wc => sel_pcs hpl hmd (dpAll_sm s3 dz) wi wc, rfl⟩
      rintro σ' H4 ⟨s4, L4, ys4, e4, d4, rfl⟩
      refine ifs_by (fun σ' H' => Same H H' ∧ ∃ (L : Addr) (ys : List V), H' L = some (.lst ys) ∧ DpAll K H' ys ((pcs m).map Ex.d) ∧ σ' = [some (.ref p0), some (.ref B.p), some (.ref B.q), some (.ref L), none, none]) ?_ ?_
      rotate_left
      · intro N' hN
        refine ⟨_, rfl, p0, _, 0, _, rfl, rfl, sqT_sm s4 hp, atI_nat (j := 0) rfl, rfl, _, rfl, ?_⟩
        by_cases wc : w0 = "call"
        · refine pv' wc ?_
          obtain ⟨x, h, es, rfl⟩ := hcall.mp wc
          rw [Sm.d] at hmd
          cases hmd
          obtain ⟨z1, r1, rfl, g1, f1⟩ := dpAll_cons dz
          obtain ⟨z2, r2, rfl, g2, f2⟩ := dpAll_cons f1
          obtain ⟨z3, r3, rfl, g3, f3⟩ := dpAll_cons f2
          obtain ⟨pe, es', rfl, hpe, dpe⟩ := dp_tup g3
          refine ⟨_, rfl, p0, _, 3, _, rfl, rfl, sqT_sm s4 hp, atI_nat (j := 3) rfl, pe, _, rfl, .inr (sqT_sm s4 hpe), fun L hL => ?_⟩
          exact hN _ _ ⟨s4.trans (same_new hL), L, _, upd_same, dpAll_sm (s4.trans (same_new hL)) dpe, rfl⟩
        · refine nv wc ?_
          exact hN _ _ ⟨s4, L4, _, e4, d4 wc, rfl⟩
      rintro σ' H5 ⟨s5, L, ys, eL, dL, rfl⟩
      refine ⟨Nat.zero_le _, fun W hW => ?_⟩
      have sW : Same H (upd H5 W (.lst [])) := same_upd s5 (none_sm s5 hW)
      have nW : H W = none := none_sm s5 hW
      have nLW : L ≠ W := ne_of_none eL hW
      have eLW : upd H5 W (.lst []) L = some (.lst ys) := by rw [upd_ne nLW]; exact eL
      have ly : ys.length = (pcs m).length := by rw [dpAll_len dL, List.length_map]
      refine ⟨_, rfl, L, rfl, ⟨_, .of eLW⟩, ?_⟩
      refine for_list (K := K) (xs := ys) (fun j σ' H' => Kp (fun a => a = W) (upd H5 W (.lst [])) H' ∧ Same H H' ∧ (∃ vs, wxs ((pcs m).take j) s.kn s.rw = .ok vs ∧ H' W = some (.lst (vs.map V.int))) ∧ ∃ x5, σ' = [some (.ref p0), some (.ref B.p), some (.ref B.q), some (.ref L), some (.ref W), x5]) ?_ ?_ ?_ ?_
      · exact ⟨Kp.refl, sW, ⟨[], rfl, upd_same⟩, _, rfl⟩
      · rintro j σ' H' _ ⟨k6, _⟩
        exact .of (k6 _ _ eLW (fun y => absurd y nLW))
      · rintro j y σ' H6 hy ⟨k6, s6, ⟨vs, hvs, e6⟩, x5, rfl⟩
        have jl : j < (pcs m).length := by
          have := (List.getElem?_eq_some_iff.mp hy).1
          omega
        have hst := List.take_succ (l := pcs m) (i := j)
        rw [List.getElem?_eq_getElem jl] at hst
        have hsd : pcs m = (pcs m).take j ++ (pcs m)[j] :: (pcs m).drop (j + 1) := by
          rw [← List.drop_eq_getElem_cons jl, List.take_append_drop]
        have me : (pcs m)[j] ∈ pcs m := List.getElem_mem jl
        obtain ⟨d, hdd, dd⟩ := dpAll_getV dL hy
        rw [List.getElem?_map, List.getElem?_eq_getElem jl] at hdd
        cases hdd
        have hNW : ∀ {b : Addr} {o : HO}, H b = some o → b ≠ W := fun {b o} hb => ne_of_none hb nW
        have sLW : Same H5 (upd H5 W (.lst [])) := same_new hW
        have dd6 := dp_kp k6 _ _ (Ex.noL _) (dp_sm sLW dd)
        generalize (pcs m)[j] = ej at hst hsd me dd6
        refine ⟨_, rfl, .inl ⟨rfl, _, .of e6⟩, ?_⟩
        have lv := wxs_len hvs
        rw [List.length_take] at lv
        refine ⟨_, rfl, _, rfl, B, rs, y, ej, s.kn, s.rw, _, rfl, (pok _ me).1, (pok _ me).2, st.ro.sm s6, st.k32, st.r32, dd6, fun z hz H7 s7 => ?_, fun f hf H7 s7 => ?_⟩
        · refine ⟨W, _, _, rfl, rfl, s7 _ _ e6, by rw [List.length_map, sizeLine_eq]; omega, ?_⟩
          have s8 : Same H (upd H7 W (.lst (vs.map V.int ++ [.int z]))) := same_upd (s6.trans s7) nW
          refine ⟨_, rfl, 1, rfl, W, _, _, _, rfl, rfl, .of upd_same, at_last, ?_⟩
          refine ⟨_, _, _, _, false, rfl, .ty _, ty_int z, kit_str (.int z), _, rfl, ifF rfl ?_⟩
          refine ⟨?_, s8, ⟨vs ++ [z], ?_, ?_⟩, _, rfl⟩
          · exact (k6.trans (Kp.of_same s7)).trans (Kp.upd (s7 _ _ e6) trivial rfl)
          · rw [hst]
            exact wxs_snoc hvs hz
          · rw [upd_same, List.map_append]
            rfl
        · refine ⟨W, _, _, rfl, rfl, s7 _ _ e6, by rw [List.length_map, sizeLine_eq]; omega, ?_⟩
          have s8 : Same H (upd H7 W (.lst (vs.map V.int ++ [.str f]))) := same_upd (s6.trans s7) nW
          refine ⟨_, rfl, 1, rfl, W, _, _, _, rfl, rfl, .of upd_same, at_last, ?_⟩
          refine ⟨_, _, _, _, true, rfl, .ty _, dp_ty (.str f), kit_str (.str f), _, rfl, ifT rfl ?_⟩
          have hwf : wxs (pcs m) s.kn s.rw = .error f := by
            rw [hsd]
            exact wxs_bad hvs hf
          obtain ⟨rfl, rfl⟩ := wxs_flt hpl hwf hd
          refine ⟨_, rfl, 1, rfl, W, _, _, _, rfl, rfl, .of upd_same, at_last, ?_⟩
          exact po.flt up s8
      rintro σ' H6 ⟨k6, s6, ⟨vs, hvs, e6⟩, x5, rfl⟩
      rw [ly, List.take_length] at hvs
      have hp6 := sqT_sm s6 hp
      have st6 := st.sm s6
      have vs32 := wxs_32 st.k32 st.r32 pok hvs
      cases m with
      | fail n => cases hpl
      | loop e b => cases hpl
      | give e =>
        obtain ⟨z, rfl, hw⟩ := wxs_one hvs
        rw [Sm.d] at hmd
        cases hmd
        rw [doOne, hw] at hd
        cases hd
        refine ⟨_, rfl, p0, _, 0, _, rfl, rfl, hp6, atI_nat (j := 0) rfl, rfl, _, rfl, ifD rfl ?_⟩
        refine ⟨_, rfl, W, _, 0, _, rfl, rfl, .of e6, atI_nat (j := 0) rfl, (by show 2 ≤ sizeLine; decide), fun u hu => ?_⟩
        exact po _ u (Kp.of_same (s6.trans (same_new hu))) (up.sm (s6.trans (same_new hu))) (vs32 z (List.mem_cons_self ..)) gv_dp
      | tell e =>
        obtain ⟨z, rfl, hw⟩ := wxs_one hvs
        rw [Sm.d] at hmd
        cases hmd
        rw [doOne, hw] at hd
        cases hd
        refine ⟨_, rfl, p0, _, 0, _, rfl, rfl, hp6, atI_nat (j := 0) rfl, rfl, _, rfl, ifN (by decide +kernel) ?_⟩
        refine ⟨_, rfl, p0, _, 0, _, rfl, rfl, hp6, atI_nat (j := 0) rfl, rfl, _, rfl, ifN (by decide +kernel) ?_⟩
        refine ⟨_, rfl, p0, _, 0, _, rfl, rfl, hp6, atI_nat (j := 0) rfl, rfl, _, rfl, ifN (by decide +kernel) ?_⟩
        refine ⟨_, rfl, p0, _, 0, _, rfl, rfl, hp6, atI_nat (j := 0) rfl, rfl, _, rfl, ifD rfl ?_⟩
        refine ⟨_, rfl, B.q, _, rfl, DGet.k (k := .inr "told") st6.ob, .inl ⟨rfl, _, .of st6.tl⟩, ?_⟩
        refine ⟨_, rfl, W, _, 0, _, rfl, rfl, .of e6, atI_nat (j := 0) rfl, B.t, _, _, rfl, rfl, st6.tl, ?_, ?_⟩
        · rw [List.length_map, sizeLine_eq]
          have := st.sz
          omega
        have kf : Kp (SA rs B) H (upd H6 B.t (.lst (s.td.map V.int ++ [.int z]))) := (Kp.of_same s6).trans (Kp.upd st6.tl trivial (.inr (.inr (.inl rfl))))
        refine ⟨_, rfl, p0, _, 0, _, rfl, rfl, (sqT_kp kf hp), atI_nat (j := 0) rfl, rfl, _, rfl, ifN (by decide +kernel) ?_⟩
        refine ⟨_, rfl, p0, _, 0, _, rfl, rfl, (sqT_kp kf hp), atI_nat (j := 0) rfl, rfl, _, rfl, ifN (by decide +kernel) ?_⟩
        exact po _ kf (st6.say m6 n6)
      | set x e =>
        obtain ⟨z, rfl, hw⟩ := wxs_one hvs
        rw [Sm.d] at hmd
        cases hmd
        obtain ⟨z1, r1, rfl, g1, f1⟩ := dpAll_cons dz
        cases dp_str g1
        rw [doOne, hw] at hd
        cases hd
        refine ⟨_, rfl, p0, _, 0, _, rfl, rfl, hp6, atI_nat (j := 0) rfl, rfl, _, rfl, ifN (by decide +kernel) ?_⟩
        refine ⟨_, rfl, p0, _, 0, _, rfl, rfl, hp6, atI_nat (j := 0) rfl, rfl, _, rfl, ifN (by decide +kernel) ?_⟩
        refine ⟨_, rfl, p0, _, 0, _, rfl, rfl, hp6, atI_nat (j := 0) rfl, rfl, _, rfl, ifD rfl ?_⟩
        obtain ⟨kvs, ed, lk, hv⟩ := st6.ro.dk
        refine ⟨_, rfl, W, _, 0, _, rfl, rfl, .of e6, atI_nat (j := 0) rfl, _, rfl, B.p, _, rfl, DGet.k (k := .inr "known") st6.ro.ob, _, rfl, p0, _, 1, _, rfl, rfl, hp6, atI_nat (j := 1) rfl, B.d, _, rfl, .inl ⟨kvs, .inr x, ed, rfl, ?_, rfl⟩, ?_⟩
        · rw [sizeLine_eq]
          omega
        have kf : Kp (SA rs B) H (upd H6 B.d (.dK (putK kvs (.inr x) (.int z)))) := (Kp.of_same s6).trans (Kp.upd ed trivial (.inl rfl))
        refine ⟨_, rfl, p0, _, 0, _, rfl, rfl, (sqT_kp kf hp), atI_nat (j := 0) rfl, rfl, _, rfl, ifN (by decide +kernel) ?_⟩
        refine ⟨_, rfl, p0, _, 0, _, rfl, rfl, (sqT_kp kf hp), atI_nat (j := 0) rfl, rfl, _, rfl, ifN (by decide +kernel) ?_⟩
        refine ⟨_, rfl, p0, _, 0, _, rfl, rfl, (sqT_kp kf hp), atI_nat (j := 0) rfl, rfl, _, rfl, ifN (by decide +kernel) ?_⟩
        exact po _ kf (st6.put ed lk hv (vs32 z (List.mem_cons_self ..)) m6 n6)
      | put x e f =>
        have hvs : wxs [e, f] s.kn s.rw = .ok vs := hvs
        rw [wxs] at hvs
        cases hw : wx e s.kn s.rw with
        | error g => rw [hw] at hvs; cases hvs
        | ok z =>
        rw [hw] at hvs
        dsimp only at hvs
        cases hv1 : wxs [f] s.kn s.rw with
        | error g => rw [hv1] at hvs; cases hvs
        | ok us =>
        rw [hv1] at hvs
        cases hvs
        obtain ⟨v, rfl, hv⟩ := wxs_one hv1
        rw [Sm.d] at hmd
        cases hmd
        obtain ⟨z1, r1, rfl, g1, f1⟩ := dpAll_cons dz
        cases dp_str g1
        rw [doOne, hw] at hd
        dsimp only at hd
        rw [hv] at hd
        dsimp only at hd
        have ro6 := st6.ro
        have el := ro6.rl x ok.1
        have hl : ((s.rw x).map V.int).length = (s.rw x).length := List.length_map ..
        refine ⟨_, rfl, p0, _, 0, _, rfl, rfl, hp6, atI_nat (j := 0) rfl, rfl, _, rfl, ifN (by decide +kernel) ?_⟩
        refine ⟨_, rfl, p0, _, 0, _, rfl, rfl, hp6, atI_nat (j := 0) rfl, rfl, _, rfl, ifN (by decide +kernel) ?_⟩
        refine ⟨_, rfl, p0, _, 0, _, rfl, rfl, hp6, atI_nat (j := 0) rfl, rfl, _, rfl, ifN (by decide +kernel) ?_⟩
        refine ⟨_, rfl, p0, _, 0, _, rfl, rfl, hp6, atI_nat (j := 0) rfl, rfl, _, rfl, ifN (by decide +kernel) ?_⟩
        refine ⟨_, rfl, p0, _, 0, _, rfl, rfl, hp6, atI_nat (j := 0) rfl, rfl, _, rfl, ifD rfl ?_⟩
        refine ⟨_, rfl, W, _, 0, _, rfl, rfl, .of e6, atI_nat (j := 0) rfl, _, _, rfl, rfl, _, rfl, ?_⟩
        by_cases h0 : z < 0
        · refine ifD h0 (ifT rfl ?_)
          rw [if_neg (fun y => by have := y.1; omega)] at hd
          cases hd
          exact po.flt up s6
        · refine ifN h0 ?_
          refine ⟨_, rfl, W, _, 0, _, rfl, rfl, .of e6, atI_nat (j := 0) rfl, _, rfl, B.p, _, rfl, DGet.k (k := .inr "rows") ro6.ob, _, rfl, p0, _, 1, _, rfl, rfl, hp6, atI_nat (j := 1) rfl, B.r, _, rfl, ro6.row ok.1, B.ra x, _, rfl, .inl (.of el), _, _, rfl, rfl, _, rfl, ?_⟩
          rw [hl]
          by_cases h1 : ((s.rw x).length : Int) ≤ z
          · refine ifD h1 ?_
            rw [if_neg (fun y => by have := y.2; omega)] at hd
            cases hd
            exact po.flt up s6
          · refine ifN h1 ?_
            rw [if_pos ⟨by omega, by omega⟩] at hd
            cases hd
            obtain ⟨j, rfl⟩ := Int.eq_ofNat_of_zero_le (show 0 ≤ z by omega)
            refine ⟨_, rfl, W, _, 1, _, rfl, rfl, .of e6, atI_nat (j := 1) rfl, _, rfl, B.p, _, rfl, DGet.k (k := .inr "rows") ro6.ob, _, rfl, p0, _, 1, _, rfl, rfl, hp6, atI_nat (j := 1) rfl, B.r, _, rfl, ro6.row ok.1, _, rfl, W, _, 0, _, rfl, rfl, .of e6, atI_nat (j := 0) rfl, B.ra x, _, _, j, rfl, rfl, el, ?_, ?_⟩
            · rw [hl]
              exact ixN_of (by omega)
            have kf : Kp (SA rs B) H (upd H6 (B.ra x) (.lst (((s.rw x).map V.int).set j (.int v)))) := (Kp.of_same s6).trans (Kp.upd el trivial (.inr (.inr (.inr ⟨x, ok.1, rfl⟩))))
            refine ⟨_, rfl, p0, _, 0, _, rfl, rfl, (sqT_kp kf hp), atI_nat (j := 0) rfl, rfl, _, rfl, ifN (by decide +kernel) ?_⟩
            exact po _ kf ((up.sm s6).rput ok.1 (vs32 v (List.mem_cons_of_mem _ (List.mem_cons_self ..))))
      | ite e ys' ns' =>
        obtain ⟨z, rfl, hw⟩ := wxs_one hvs
        rw [Sm.d] at hmd
        cases hmd
        obtain ⟨z1, r1, rfl, g1, f1⟩ := dpAll_cons dz
        obtain ⟨z2, r2, rfl, g2, f2⟩ := dpAll_cons f1
        obtain ⟨z3, r3, rfl, g3, f3⟩ := dpAll_cons f2
        rw [doOne, hw] at hd
        dsimp only at hd
        refine ⟨_, rfl, p0, _, 0, _, rfl, rfl, hp6, atI_nat (j := 0) rfl, rfl, _, rfl, ifN (by decide +kernel) ?_⟩
        refine ⟨_, rfl, p0, _, 0, _, rfl, rfl, hp6, atI_nat (j := 0) rfl, rfl, _, rfl, ifD rfl ?_⟩
        refine ⟨_, rfl, p0, _, 3, _, rfl, rfl, hp6, atI_nat (j := 3) rfl, _, rfl, p0, _, 2, _, rfl, rfl, hp6, atI_nat (j := 2) rfl, (by show 2 ≤ sizeLine; decide), fun L2 hL2 => ?_⟩
        have s7 : Same H6 (upd H6 L2 (.lst [z3, z2])) := same_new hL2
        have sH7 := s6.trans s7
        have po2 := LPost.mono (Nat.le_succ M) (by omega) (Nat.le_succ N) (by omega) (LPost.kp (Kp.of_same sH7) po)
        refine ⟨_, rfl, W, _, 0, _, rfl, rfl, .of (s7 _ _ e6), atI_nat (j := 0) rfl, rfl, .inr ⟨_, rfl, ?_⟩⟩
        by_cases hz : z = 0
        · rw [if_neg (fun y => y hz)] at hd
          rw [show (!decide (V.int z = V.int 0)) = false by rw [hz]; rfl]
          exact ⟨L2, _, _, _, rfl, rfl, .of upd_same, atI_nat (j := 0) rfl, _, rfl, _, rfl, hs, rs, B, hh, M, N, s, s', z3, ns', r, F, rfl, st.sm sH7, dp_sm sH7 g3, ok.2.2, hd, po2⟩
        · rw [if_pos hz] at hd
          rw [show (!decide (V.int z = V.int 0)) = true by rw [decide_eq_false (fun y => hz (V.int.inj y))]; rfl]
          exact ⟨L2, _, _, _, rfl, rfl, .of upd_same, atI_nat (j := 1) rfl, _, rfl, _, rfl, hs, rs, B, hh, M, N, s, s', z2, ys', r, F, rfl, st.sm sH7, dp_sm sH7 g2, ok.2.1, hd, po2⟩
      | call x g es =>
        rw [Sm.d] at hmd
        cases hmd
        refine ⟨_, rfl, p0, _, 0, _, rfl, rfl, hp6, atI_nat (j := 0) rfl, rfl, _, rfl, ifN (by decide +kernel) ?_⟩
        refine ⟨_, rfl, p0, _, 0, _, rfl, rfl, hp6, atI_nat (j := 0) rfl, rfl, _, rfl, ifN (by decide +kernel) ?_⟩
        refine ⟨_, rfl, p0, _, 0, _, rfl, rfl, hp6, atI_nat (j := 0) rfl, rfl, _, rfl, ifN (by decide +kernel) ?_⟩
        refine ⟨_, rfl, p0, _, 0, _, rfl, rfl, hp6, atI_nat (j := 0) rfl, rfl, _, rfl, ifN (by decide +kernel) ?_⟩
        refine ⟨_, rfl, p0, _, 0, _, rfl, rfl, hp6, atI_nat (j := 0) rfl, rfl, _, rfl, ifN (by decide +kernel) ?_⟩
        refine ⟨_, rfl, p0, _, 0, _, rfl, rfl, hp6, atI_nat (j := 0) rfl, rfl, _, rfl, ifD rfl ?_⟩
        exact ⟨_, rfl, _, rfl, _, rfl, _, rfl, hs, rs, B, hh, W, M, N, s, s', _, x, g, es, vs, r, F, rfl, st6, dp_sm s6 dp, .of e6, hvs, ok, hd, m6, n6, LPost.kp (Kp.of_same s6) po⟩

    · cases m with
      | fail k =>
        obtain ⟨p0, xs, rfl, hp, da⟩ := dp_tup dp
        obtain ⟨x0, zs, rfl, d0, dz⟩ := dpAll_cons da
        obtain ⟨x1, r1, rfl, d1, e1⟩ := dpAll_cons dz
        cases dp_str d0
        cases dp_int d1
        rw [doOne] at hd
        cases hd
        refine ⟨_, rfl, p0, _, 0, _, rfl, rfl, hp, atI_nat (j := 0) rfl, rfl, _, rfl, ifD rfl ?_⟩
        have hl : k.natAbs.log2 < 1920 := by
          have i32 : In32 k := ok.1
          have h1 : k.natAbs < 2 ^ 40 := by
            have := i32.1
            have := i32.2
            omega
          have := PySem.Flt.log2_lt_of (show 0 < 40 by decide) h1
          omega
        refine ⟨_, rfl, p0, _, 1, _, rfl, rfl, hp, atI_nat (j := 1) rfl, k, rfl, hl, _, _, rfl, rfl, ?_, ?_⟩
        · have := int_len (n := k) ok.1
          have h5 : ("fail " : Str).length = 5 := by decide +kernel
          rw [h5, sizeLine_eq]
          omega
        · exact po.flt up (Same.refl _)
      | loop e b =>
        have dp0 := dp
        obtain ⟨p0, xs, rfl, hp, da⟩ := dp_tup dp
        obtain ⟨x0, zs, rfl, d0, dz⟩ := dpAll_cons da
        cases dp_str d0
        rw [doOne] at hd
        refine ⟨_, rfl, p0, _, 0, _, rfl, rfl, hp, atI_nat (j := 0) rfl, rfl, _, rfl, ifN (by decide +kernel) ?_⟩
        refine ⟨_, rfl, p0, _, 0, _, rfl, rfl, hp, atI_nat (j := 0) rfl, rfl, _, rfl, ifD rfl ?_⟩
        exact ⟨_, rfl, _, rfl, _, rfl, hs, rs, B, hh, M, N, s, s', _, e, b, r, F, rfl, st, dp0, ok.1, ok.2, hd, LPost.mono (Nat.le_succ M) (by omega) (Nat.le_succ N) (by omega) po⟩
      | give e => exact absurd rfl hpl
      | tell e => exact absurd rfl hpl
      | set x e => exact absurd rfl hpl
      | put x e f => exact absurd rfl hpl
      | ite e y n => exact absurd rfl hpl
      | call x h es => exact absurd rfl hpl
theorem ok_llevels (T : Top K mg) : ∀ n : Nat, FnOk P w K mg base CX0 (3 * n + 12) (He.ga K "_law_done") T.fd__law_done ["_law_body_here", "_law_room", "_law_play"] (sp_ldone K n)
  | 0 => ok_ldone_of T 0 11 <| by
    refine T.F__law_one.ok sc__law_one (fun vs H Q E h => ?_) (fun cdv A outer s H vs Q E hr h => ?_)
    · obtain ⟨hs, rs, A, h, M, N, s, s', v, m, r, F, rfl, _⟩ := h
      rfl
    · obtain ⟨hs, rs, B, hh, M, N, s, s', v, m, r, F, rfl, st, dp, ok, hd, m6, n6, po⟩ := h
      cases ok
  | n + 1 => ok_ldone_of T (n + 1) (3 * n + 14) (ok_lone_of T n (3 * n + 12) (by omega) (ok_llevels T n))
end

section
variable {P : Program} {w : World} {K : PySem.W.Frag} {mg : Str → Option Value} {base : Heap}
def lpD (s : PSt) (r : Rs) (n : Int) : PyData := .tuple [.tuple (s.td.map PyData.int), r.d, .int n]
def sp_lplayed (K : PySem.W.Frag) (n : Nat) : Sp := fun vs H Q _ => ∃ (v : V) (b : Addr) (most : Nat) (hl : Hl) (ps : List (Str × Int)) (ws : List (Str × Nat)) (bd : List Sm) (s' : PSt) (r : Rs) (F : Nat), vs = [v, .ref b, .int most] ∧ Dp K H v (plD hl ps ws bd) ∧ SqL K H b ((ps.map (·.2)).map V.int) ∧ PlOk n hl ps ws bd ∧ most ≤ 5000 ∧
  doAll (hsZ hl) F bd (st0 ps ws most) = some (r, s') ∧ ∀ H' u, Same H H' → Dp K H' u (lpD s' r ((most : Int) - s'.lf)) → Q u H'
theorem end3_dp {H : Hp} {td : List Int} {e : V} {ed : PyData} {n : Int} {tt tr : Addr} (htt : H tt = none) (htr : upd H tt (.tup (td.map V.int)) tr = none) (de : Dp K H e ed) :
    Dp K (upd (upd H tt (.tup (td.map V.int))) tr (.tup [.ref tt, e, .int n])) (.ref tr) (.tuple [.tuple (td.map PyData.int), ed, .int n]) := by
  have ne : tt ≠ tr := fun z => by rw [← z, upd_same] at htr; cases htr
  refine .tup (.inl (.inl upd_same)) (.cons (.tup (.inl (.inl ?_)) (ints_dp td)) (.cons (dp_sm (same_upd (same_new htt) ?_) de) (.cons (.int _) .nil)))
  · rw [upd_ne ne]
    exact upd_same
  · rw [upd_ne ne.symm] at htr
    exact htr
theorem lret_ok {σ : L2.St} {H : Hp} {q t h0 : Addr} {lf most : Int} {td : List Int} {e : V} {ed : PyData} {Q : VK} (h2 : σ[2]? = some (some (.int most))) (h3 : σ[3]? = some (some (.ref q))) (h4 : σ[9]? = some (some e)) (eq : H q = some (.dK (playK lf t h0))) (et : H t = some (.lst (td.map V.int))) (de : Dp K H e ed)
    (po : ∀ H' u, Same H H' → Dp K H' u (.tuple [.tuple (td.map PyData.int), ed, .int (most - lf)]) → Q u H') :
    tTup (tCons (tCB (fun xs H Q => ∃ p ys, xs = [.ref p] ∧ ((SqL K H p ys ∧ ∀ l, H l = none → Q (.ref l) (upd H l (.tup ys))) ∨ (SqT K H p ys ∧ Q (.ref p) H))) (tCons (tDGet (tVar 3) (tC (.str "told"))) tNil)) (tCons (tVar 9) (tCons (tOp (rI0 fun i j => V.int (i - j)) (tVar 2) (tDGet (tVar 3) (tC (.str "left")))) tNil))) σ H Q := by
  refine ⟨_, h3, q, _, rfl, DGet.k (k := .inr "told") eq, t, _, rfl, .inl ⟨.inl (.inl et), fun tt htt => ?_⟩⟩
  have ntq : q ≠ tt := fun z => by rw [← z, eq] at htt; cases htt
  have eqt : upd H tt (.tup (td.map V.int)) q = some (.dK (playK lf t h0)) := by rw [upd_ne ntq]; exact eq
  refine ⟨_, h4, _, h2, _, h3, q, _, rfl, DGet.k (k := .inr "left") eqt, _, _, rfl, rfl, (by show 3 ≤ sizeLine; decide), fun tr htr => ?_⟩
  have ne : tt ≠ tr := fun z => by rw [← z, upd_same] at htr; cases htr
  refine po _ _ (same_upd (same_new htt) ?_) (end3_dp htt htr de)
  rw [upd_ne ne.symm] at htr
  exact htr
theorem merge_play (lf : Int) (t h : Addr) : mergeK [] [(.inr "left", .int lf), (.inr "told", .ref t), (.inr "helpers", .ref h)] = playK lf t h := by
  show putK (putK (putK ([] : List (Key × V)) (.inr "left") (.int lf)) (.inr "told") (.ref t)) (.inr "helpers") (.ref h) = _
  have a1 : putK ([] : List (Key × V)) (.inr "left") (.int lf) = [(.inr "left", .int lf)] := putK_new (fun kv z => by cases z)
  have a2 : putK ([(.inr "left", .int lf)] : List (Key × V)) (.inr "told") (.ref t) = [(.inr "left", .int lf), (.inr "told", .ref t)] := putK_new fun kv z => by
    have z' : kv = (.inr "left", .int lf) := by simpa using z
    rw [z']
    show (Sum.inr _ : Key) ≠ _
    decide +kernel
  have a3 : putK ([(.inr "left", .int lf), (.inr "told", .ref t)] : List (Key × V)) (.inr "helpers") (.ref h) = [(.inr "left", .int lf), (.inr "told", .ref t), (.inr "helpers", .ref h)] := putK_new fun kv z => by
    have z' : kv = (.inr "left", .int lf) ∨ kv = (.inr "told", .ref t) := by simpa using z
    rcases z' with e | e <;> rw [e] <;> (show (Sum.inr _ : Key) ≠ _; decide +kernel)
  rw [a1, a2, a3]
  rfl
/-- the rows laid so far -/
structure LRows (Hb H' : Hp) (r2 : Addr) (ws : List (Str × Nat)) (ra : Str → Addr) : Prop where
  kp : Kp (fun x => x = r2) Hb H'
  er : ∃ rvs : List (Key × V), H' r2 = some (.dK rvs) ∧ rvs.length ≤ ws.length ∧ ∀ x ∈ ws.map (·.1), valV rvs (.inr x) = some (.ref (ra x))
  el : ∀ q ∈ ws, H' (ra q.1) = some (.lst ((List.replicate q.2 (0 : Int)).map V.int)) ∧ Hb (ra q.1) = none
  ri : ∀ x ∈ ws.map (·.1), ∀ y ∈ ws.map (·.1), ra x = ra y → x = y
theorem LRows.step {Hb H1 : Hp} {r2 : Addr} {rvs : List (Key × V)} {ws : List (Str × Nat)} {ra : Str → Addr} {q : Str × Nat} {z l : Addr} (R : LRows Hb H1 r2 ws ra) (hr0 : Hb r2 = some (.dK [])) (hq : q.1 ∉ ws.map (·.1)) (nz : H1 z = none)
    (nl : upd H1 z (.lst [.int 0]) l = none) (e2 : H1 r2 = some (.dK rvs)) (l2 : rvs.length ≤ ws.length) (v2 : ∀ x ∈ ws.map (·.1), valV rvs (.inr x) = some (.ref (ra x))) :
    LRows Hb (upd (upd (upd H1 z (.lst [.int 0])) l (.lst ((List.replicate q.2 (0 : Int)).map V.int))) r2 (.dK (putK rvs (.inr q.1) (.ref l)))) r2 (ws ++ [q]) (fun y => if y = q.1 then l else ra y) := by
  have lz : l ≠ z := fun e => by rw [e, upd_same] at nl; cases nl
  have nl1 : H1 l = none := by rw [upd_ne lz] at nl; exact nl
  have at_ : ∀ {b : Addr} {o : HO}, H1 b = some o → b ≠ r2 → (upd (upd (upd H1 z (.lst [.int 0])) l (.lst ((List.replicate q.2 (0 : Int)).map V.int))) r2 (.dK (putK rvs (.inr q.1) (.ref l)))) b = some o := fun {b o} e h => by
    rw [upd_ne h, upd_ne (ne_of_none e nl1), upd_ne (ne_of_none e nz)]
    exact e
  have rl : l ≠ r2 := fun e => by rw [e, e2] at nl1; cases nl1
  have fresh : ∀ {b : Addr}, H1 b = none → Hb b = none := fun {b} h => by
    cases e : Hb b with
    | none => rfl
    | some o =>
      by_cases hb : b = r2
      · rw [hb, e2] at h; cases h
      · rw [R.kp b o e (fun y => absurd y hb)] at h; cases h
  have mem : ∀ {x : Str}, x ∈ (ws ++ [q]).map (·.1) → x = q.1 ∨ (x ≠ q.1 ∧ x ∈ ws.map (·.1)) := fun {x} hx => by
    by_cases e : x = q.1
    · exact .inl e
    · rw [List.map_append] at hx
      rcases List.mem_append.mp hx with h | h
      · exact .inr ⟨e, h⟩
      · exact absurd (List.mem_singleton.mp h) e
  refine ⟨fun b o e hk => ?_, ⟨_, upd_same, ?_, fun x hx => ?_⟩, fun y hy => ?_, fun x hx y hy e => ?_⟩
  · have hb : b ≠ r2 := fun y => by
      rw [y, hr0] at e
      cases e
      exact hk y trivial
    exact at_ (R.kp b o e hk) hb
  · have := length_putK rvs (.inr q.1) (.ref l)
    rw [List.length_append, List.length_singleton]
    omega
  · rw [valV_put]
    rcases mem hx with e | ⟨e, h⟩
    · rw [if_pos (by rw [e]), if_pos e]
    · rw [if_neg (fun z => e (by injection z)), if_neg e]
      exact v2 x h
  · rcases List.mem_append.mp hy with h | h
    · have hne : y.1 ≠ q.1 := fun e => hq (by rw [← e]; exact List.mem_map_of_mem (f := (·.1)) h)
      rw [if_neg hne]
      obtain ⟨a1, a2⟩ := R.el y h
      exact ⟨at_ a1 (fun z => by rw [z, e2] at a1; cases a1), a2⟩
    · rw [List.mem_singleton.mp h, if_pos rfl]
      exact ⟨by rw [upd_ne rl]; exact upd_same, fresh nl1⟩
  · have inH : ∀ {x : Str}, x ∈ ws.map (·.1) → ra x ≠ l := fun {x} hx e => by
      obtain ⟨y, hy, rfl⟩ := List.mem_map.mp hx
      have := (R.el y hy).1
      rw [e, nl1] at this
      cases this
    rcases mem hx with e1 | ⟨e1, h1⟩ <;> rcases mem hy with e2 | ⟨e2, h2⟩
    · rw [e1, e2]
    · rw [if_pos e1, if_neg e2] at e; exact absurd e.symm (inH h2)
    · rw [if_neg e1, if_pos e2] at e; exact absurd e (inH h1)
    · rw [if_neg e1, if_neg e2] at e; exact R.ri x h1 y h2 e
theorem ok__law_played (T : Top K mg) (n : Nat) : FnOk P w K mg base CX0 (3 * n + 14) (He.ga K "_law_played") T.fd__law_played ["_law_program_here", "_law_inputs_here", "_law_most"] (sp_lplayed K n) := by
  have G__law_done := ok_llevels (P := P) (w := w) (base := base) T n
  refine T.F__law_played.ok sc__law_played (fun vs H Q E h => ?_) (fun cdv A outer s H vs Q E hr h => ?_)
  · obtain ⟨v, b, most, hl, ps, ws, bd, s', r, F, rfl, _⟩ := h
    rfl
  · obtain ⟨v, b, most, hl, ps, ws, bd, s', r, F, rfl, dp, hb, pk, m5, hd, q⟩ := h
    refine ⟨_, PSs.nox (pss_cons (ps_set (i := 3) sc__law_played.nd rfl (Or.inl rfl) (pe_disp (pps_cons pe_str (pv 2) (pps_cons pe_str (pe_lst pa_nil) (pps_cons pe_str pe_dnewK pps_nil))) (by rfl) (by rfl) (fun z => by cases z) (by decide)))
        (pss_cons (ps_for PassesOwn.never (by rfl) (pi_tup (pe_ix ix_tup (pv 0) pe_int (fun _ _ => rfl))) (pg_tup (n := 3) (by rfl) (pgs_cons (pg_name (i := 4) sc__law_played.nd rfl (Or.inl rfl)) (pgs_cons (pg_name (i := 5) sc__law_played.nd rfl (Or.inl rfl)) (pgs_cons (pg_name (i := 6) sc__law_played.nd rfl (Or.inl rfl)) pgs_nil)))) (pss_one (ps_dput (hu_of hr) (pe_dget (hu_of hr) (pv 3) pe_str (fun _ _ => rfl)) (pv 4) (pe_tup (pa_cons (pv 5) (pa_cons (pv 6) pa_nil))) (by rfl))))
        (pss_cons (ps_set (i := 7) sc__law_played.nd rfl (Or.inl rfl) (pe_disp (pps_cons pe_str (ZipM.pe_dictzip rfl (by rfl) T.m_dict (by rfl) T.m_zip (pa_cons (pe_ix ix_tup (pv 0) pe_int (fun _ _ => rfl)) (pa_cons (pv 1) pa_nil))) (pps_cons pe_str pe_dnewK pps_nil)) (by rfl) (by rfl) (fun z => by cases z) (by decide)))
        (pss_cons (ps_for PassesOwn.never (by rfl) (pi_tup (pe_ix ix_tup (pv 0) pe_int (fun _ _ => rfl))) (pg_tup (n := 2) (by rfl) (pgs_cons (pg_name (i := 4) sc__law_played.nd rfl (Or.inl rfl)) (pgs_cons (pg_name (i := 8) sc__law_played.nd rfl (Or.inl rfl)) pgs_nil))) (pss_one (ps_dput (hu_of hr) (pe_dget (hu_of hr) (pv 7) pe_str (fun _ _ => rfl)) (pv 4) (pe_op op_rep (pe_lst (pa_cons pe_int pa_nil)) (pv 8)) (by rfl))))
        (pss_cons (ps_set (i := 9) sc__law_played.nd rfl (Or.inl rfl) (pe_orT (pe_call G__law_done (hr.mono (by omega)) (by rfl) T.g__law_done T.F__law_done.kp T.b__law_done .nil pass0 (pa_cons (pe_ix ix_tup (pv 0) pe_int (fun _ _ => rfl)) (pa_cons (pv 7) (pa_cons (pv 3) pa_nil)))) (pe_one (pe_tup (pa_cons pe_str (pa_cons pe_int pa_nil))))))
        (pss_one (ps_ret (pe_tup (pa_cons (pe_callTy call_tuple_of (by rfl) T.m_tuple (by decide +kernel) (pa_cons (pe_dget (hu_of hr) (pv 3) pe_str (fun _ _ => rfl)) pa_nil)) (pa_cons (pv 9) (pa_cons (pe_op op_sub (pv 2) (pe_dget (hu_of hr) (pv 3) pe_str (fun _ _ => rfl))) pa_nil))))))))))), ?_⟩
    obtain ⟨p0, xs, rfl, hp, da⟩ := dp_tup dp
    obtain ⟨x0, r0, rfl, d0, e0⟩ := dpAll_cons da
    obtain ⟨x1, r1, rfl, d1, e1⟩ := dpAll_cons e0
    obtain ⟨x2, r2, rfl, d2, e2⟩ := dpAll_cons e1
    obtain ⟨x3, r3, rfl, d3, e3⟩ := dpAll_cons e2
    obtain ⟨h0, hxs, rfl, hh0, dh⟩ := dp_tup d0
    have lh := dpAll_len dh
    rw [List.length_map] at lh
    obtain ⟨a1, ys, rfl, ha1, z1⟩ := dp_tup d1
    have ey := strs_of z1
    subst ey
    obtain ⟨rw2, wxs', rfl, hrw2, dw⟩ := dp_tup d2
    have lw := dpAll_len dw
    rw [List.length_map] at lw
    intro qa hqa
    have s1 := same_new (o := .dK []) hqa
    refine ⟨_, rfl, Nat.zero_le _, fun t ht => ?_⟩
    have nt : H t = none := none_sm s1 ht
    have s2 := same_upd (o := .lst []) s1 nt
    have netq : t ≠ qa := fun z => by rw [z, upd_same] at ht; cases ht
    intro hh hhh
    have nh : H hh = none := none_sm s2 hhh
    have s3 := same_upd (o := .dK []) s2 nh
    have nehq : qa ≠ hh := fun z => by rw [← z, upd_ne netq.symm, upd_same] at hhh; cases hhh
    have neht : t ≠ hh := fun z => by rw [← z, upd_same] at hhh; cases hhh
    refine ⟨by rw [upd_ne nehq, upd_ne netq.symm]; exact upd_same, [(.inr "left", _), (.inr "told", _), (.inr "helpers", _)], rfl, (by show 3 ≤ 15; decide), ?_⟩
    rw [merge_play]
    have s4 : Same H (upd (upd (upd (upd H qa (.dK [])) t (.lst [])) hh (.dK [])) qa (.dK (playK most t hh))) := same_upd s3 hqa
    have eq4 : (upd (upd (upd (upd H qa (.dK [])) t (.lst [])) hh (.dK [])) qa (.dK (playK most t hh))) qa = some (.dK (playK most t hh)) := upd_same
    have et4 : (upd (upd (upd (upd H qa (.dK [])) t (.lst [])) hh (.dK [])) qa (.dK (playK most t hh))) t = some (.lst []) := by rw [upd_ne netq, upd_ne neht]; exact upd_same
    have eh4 : (upd (upd (upd (upd H qa (.dK [])) t (.lst [])) hh (.dK [])) qa (.dK (playK most t hh))) hh = some (.dK []) := by rw [upd_ne nehq.symm]; exact upd_same
    generalize hH4 : (upd (upd (upd (upd H qa (.dK [])) t (.lst [])) hh (.dK [])) qa (.dK (playK most t hh))) = H4 at s4 eq4 et4 eh4 ⊢
    refine ⟨_, rfl, p0, _, 0, _, rfl, rfl, sqT_sm s4 hp, atI_nat (j := 0) rfl, h0, rfl, ⟨_, sqT_sm s4 hh0⟩, ?_⟩
    have hh4 := sqT_sm s4 hh0
    refine for_tup (K := K) (xs := hxs) (fun j σ' H' => Kp (fun x => x = hh) H4 H' ∧ HlAt K H' hh (hl.take j) ∧ ∃ x4 x5 x6 x7 x8 x9, σ' = [some (.ref p0), some (.ref b), some (.int most), some (.ref qa), x4, x5, x6, x7, x8, x9]) ?_ ?_ ?_ ?_
    · exact ⟨Kp.refl, ⟨[], eh4, Nat.le_refl _, (fun y hy => by cases hy)⟩, _, _, _, _, _, _, rfl⟩
    · rintro j σ' H' _ ⟨k', _⟩
      exact sqT_kp k' hh4
    · rintro j y σ' H1 hy ⟨k5, ⟨hvs, e5, l5, f5⟩, x4, x5, x6, x7, x8, x9, rfl⟩
      have jl : j < hl.length := by
        have := (List.getElem?_eq_some_iff.mp hy).1
        omega
      obtain ⟨dy, hdy, ddy⟩ := dpAll_getV dh hy
      rw [List.getElem?_map, List.getElem?_eq_getElem jl] at hdy
      cases hdy
      have ddy2 := dp_kp k5 _ _ (hlD_nl _) (dp_sm s4 ddy)
      obtain ⟨tp, ts, rfl, htp, dts⟩ := dp_tup ddy2
      obtain ⟨t0, u0, rfl, g0, f0⟩ := dpAll_cons dts
      obtain ⟨t1, u1, rfl, g1, f1⟩ := dpAll_cons f0
      obtain ⟨t2, u2, rfl, g2, f3⟩ := dpAll_cons f1
      cases dpAll_nil f3
      cases dp_str g0
      have eq5 := k5 _ _ eq4 (fun z => absurd z nehq)
      refine ⟨tp, _, rfl, htp, rfl, _, _, rfl, _, _, rfl, _, _, rfl, rfl, _, rfl, _, rfl, (by show 2 ≤ sizeLine; decide), fun z nz => ?_⟩
      have h2z : hh ≠ z := ne_of_none e5 nz
      have qz : qa ≠ z := ne_of_none eq5 nz
      have nq : (hl[j]).1 ∉ (hl.take j).map (·.1) := fun hm => by
        have hs : hl.take (j + 1) = hl.take j ++ [hl[j]] := by rw [List.take_succ, List.getElem?_eq_getElem jl]; rfl
        have nd' : ((hl.take (j + 1)).map (·.1)).Nodup := pk.hn.sublist ((List.take_sublist _ _).map _)
        rw [hs, List.map_append, List.nodup_append] at nd'
        exact nd'.2.2 _ hm _ (List.mem_singleton.mpr rfl) rfl
      have ltk : (hl.take j).length ≤ j := List.length_take_le ..
      have h100 := pk.h100
      have eq5z : upd H1 z (.tup [t1, t2]) qa = some (.dK (playK most t hh)) := by rw [upd_ne qz]; exact eq5
      refine ⟨_, rfl, qa, _, rfl, DGet.k (k := .inr "helpers") eq5z, _, rfl, hh, _, rfl, .inl ⟨hvs, .inr (hl[j]).1, by rw [upd_ne h2z]; exact e5, rfl, ?_, rfl⟩, ?_⟩
      · rw [sizeLine_eq]
        omega
      have e5z : upd H1 z (.tup [t1, t2]) hh = some (.dK hvs) := by rw [upd_ne h2z]; exact e5
      have kz : Kp (fun x => x = hh) (upd H1 z (.tup [t1, t2])) (upd (upd H1 z (.tup [t1, t2])) hh (.dK (putK hvs (.inr (hl[j]).1) (.ref z)))) := Kp.upd e5z trivial rfl
      have sz := same_new (o := .tup [t1, t2]) nz
      have hs : hl.take (j + 1) = hl.take j ++ [hl[j]] := by rw [List.take_succ, List.getElem?_eq_getElem jl]; rfl
      refine ⟨(k5.trans (Kp.of_same sz)).trans kz, ⟨_, upd_same, ?_, fun y hy => ?_⟩, _, _, _, _, _, _, rfl⟩
      · have := length_putK hvs (.inr (hl[j]).1) (.ref z)
        rw [hs, List.length_append, List.length_singleton]
        omega
      · rw [hs] at hy
        rcases List.mem_append.mp hy with hy | hy
        · have hne : y.1 ≠ (hl[j]).1 := fun e => nq (by rw [← e]; exact List.mem_map_of_mem (f := (·.1)) hy)
          obtain ⟨u, a, b⟩ := f5 y hy
          refine ⟨u, ?_, dp_kp kz _ _ (helpD_nl _) (dp_sm sz b)⟩
          rw [valV_put, if_neg (fun z => hne (by injection z))]
          exact a
        · rw [List.mem_singleton.mp hy]
          refine ⟨.ref z, by rw [valV_put, if_pos rfl], ?_⟩
          refine dp_kp kz _ _ (helpD_nl _) (.tup (.of upd_same) (.cons (dp_sm sz g1) (.cons (dp_sm sz g2) .nil)))
    rintro σ' H5 ⟨k5, hA, x4, x5, x6, x7, x8, x9, rfl⟩
    rw [lh, List.take_length] at hA
    have hlp := hA.help
    obtain ⟨hvs5, eh5, _, _⟩ := hA.e
    have eq5 := k5 _ _ eq4 (fun z => absurd z nehq)
    have et5 := k5 _ _ et4 (fun z => absurd z neht)
    have s5 : Same H H5 := Kp.same s4 k5 (fun b hb => by cases hb; exact nh)
    intro pa hpa
    have npa : H pa = none := none_sm s5 hpa
    have k6 := same_new (o := .dK []) hpa
    have s6 := s5.trans k6
    have hb6 := s6.seq hb
    refine ⟨_, rfl, p0, _, 1, _, rfl, rfl, sqT_sm s6 hp, atI_nat (j := 1) rfl, _, rfl, a1, b, ps.map (fun y => (y.1, V.int y.2)), rfl, ?_, ?_, by rw [List.length_map]; have := pk.lp; omega, fun d hd6 => ?_⟩
    · rw [List.map_map]
      exact sqT_sm s6 ha1
    · rw [List.map_map]
      rw [List.map_map] at hb6
      exact hb6
    rw [List.map_map]
    have nd : H d = none := none_sm s6 hd6
    have npd : pa ≠ d := fun z => by rw [← z, upd_same] at hd6; cases hd6
    generalize hKn : (mergeK [] (ps.map ((fun x : Str × V => ((Sum.inr x.1 : Key), x.2)) ∘ fun y : Str × Int => (y.1, V.int y.2)))) = kvs
    have hkv : ∀ x, valV kvs (.inr x) = (knZ ps x).map V.int := fun x => by
      rw [← hKn]
      exact val_merge ps x
    have lkv : kvs.length ≤ ps.length := by
      have := length_mergeK (ps.map ((fun x : Str × V => ((Sum.inr x.1 : Key), x.2)) ∘ fun y : Str × Int => (y.1, V.int y.2))) []
      rw [List.length_map, List.length_nil] at this
      rw [← hKn]
      omega
    have s7 := same_upd (o := .dK kvs) s6 nd
    intro rr hrr
    have nr : H rr = none := none_sm s7 hrr
    have s8' := same_upd (o := .dK []) s7 nr
    have npr : pa ≠ rr := fun z => by rw [← z, upd_ne npd, upd_same] at hrr; cases hrr
    have ndr : d ≠ rr := fun z => by rw [← z, upd_same] at hrr; cases hrr
    refine ⟨by rw [upd_ne npr, upd_ne npd]; exact upd_same, [(.inr "known", _), (.inr "rows", _)], rfl, (by show 2 ≤ 15; decide), ?_⟩
    rw [merge_room]
    have nqp : qa ≠ pa := ne_of_none eq5 hpa
    have ntp : t ≠ pa := ne_of_none et5 hpa
    have nhp : hh ≠ pa := ne_of_none eh5 hpa
    have nqd : qa ≠ d := fun z => by rw [← z, upd_ne nqp, eq5] at hd6; cases hd6
    have ntd : t ≠ d := fun z => by rw [← z, upd_ne ntp, et5] at hd6; cases hd6
    have nhd : hh ≠ d := fun z => by rw [← z, upd_ne nhp, eh5] at hd6; cases hd6
    have nqr : qa ≠ rr := fun z => by rw [← z, upd_ne nqd, upd_ne nqp, eq5] at hrr; cases hrr
    have ntr : t ≠ rr := fun z => by rw [← z, upd_ne ntd, upd_ne ntp, et5] at hrr; cases hrr
    have nhr : hh ≠ rr := fun z => by rw [← z, upd_ne nhd, upd_ne nhp, eh5] at hrr; cases hrr
    have sH5 : Same H5 (upd (upd (upd (upd H5 pa (.dK [])) d (.dK kvs)) rr (.dK [])) pa (.dK [(.inr "known", .ref d), (.inr "rows", .ref rr)])) := by
      refine same_upd (same_upd (same_upd k6 ?_) ?_) hpa
      · rw [upd_ne npd.symm] at hd6
        exact hd6
      · rw [upd_ne ndr.symm, upd_ne npr.symm] at hrr
        exact hrr
    have s8 : Same H (upd (upd (upd (upd H5 pa (.dK [])) d (.dK kvs)) rr (.dK [])) pa (.dK [(.inr "known", .ref d), (.inr "rows", .ref rr)])) := s5.trans sH5
    have ep8 : (upd (upd (upd (upd H5 pa (.dK [])) d (.dK kvs)) rr (.dK [])) pa (.dK [(.inr "known", .ref d), (.inr "rows", .ref rr)])) pa = some (.dK [(.inr "known", .ref d), (.inr "rows", .ref rr)]) := upd_same
    have ed8 : (upd (upd (upd (upd H5 pa (.dK [])) d (.dK kvs)) rr (.dK [])) pa (.dK [(.inr "known", .ref d), (.inr "rows", .ref rr)])) d = some (.dK kvs) := by rw [upd_ne npd.symm, upd_ne ndr]; exact upd_same
    have er8 : (upd (upd (upd (upd H5 pa (.dK [])) d (.dK kvs)) rr (.dK [])) pa (.dK [(.inr "known", .ref d), (.inr "rows", .ref rr)])) rr = some (.dK []) := by rw [upd_ne npr.symm]; exact upd_same
    generalize hH8 : (upd (upd (upd (upd H5 pa (.dK [])) d (.dK kvs)) rr (.dK [])) pa (.dK [(.inr "known", .ref d), (.inr "rows", .ref rr)])) = H8 at s8 sH5 ep8 ed8 er8 ⊢
    have eq8 := sH5 _ _ eq5
    have et8 := sH5 _ _ et5
    have hk8 := hlp.sm sH5
    have eh8 := sH5 _ _ eh5
    refine ⟨_, rfl, p0, _, 2, _, rfl, rfl, sqT_sm s8 hp, atI_nat (j := 2) rfl, rw2, rfl, ⟨_, sqT_sm s8 hrw2⟩, ?_⟩
    have hrw8 := sqT_sm s8 hrw2
    refine for_tup (K := K) (xs := wxs') (fun j σ' H' => (∃ ra, LRows H8 H' rr (ws.take j) ra) ∧ ∃ x4 x5 x6 x8 x9, σ' = [some (.ref p0), some (.ref b), some (.int most), some (.ref qa), x4, x5, x6, some (.ref pa), x8, x9]) ?_ ?_ ?_ ?_
    · exact ⟨⟨fun _ => 0, Kp.refl, ⟨[], er8, Nat.le_refl _, (fun x hx => by cases hx)⟩, (fun q hq => by cases hq), (fun x hx => by cases hx)⟩, _, _, _, _, _, rfl⟩
    · rintro j σ' H' _ ⟨⟨ra, R⟩, _⟩
      exact sqT_kp R.kp hrw8
    · rintro j y σ' H9 hy ⟨⟨ra, R⟩, y4, y5, y6, y8, y9, rfl⟩
      have jl : j < ws.length := by
        have := (List.getElem?_eq_some_iff.mp hy).1
        omega
      obtain ⟨dy, hdy, ddy⟩ := dpAll_getV dw hy
      rw [List.getElem?_map, List.getElem?_eq_getElem jl] at hdy
      cases hdy
      have ddy2 := dp_kp R.kp _ _ (by simp [rowD, nLd, nLs]) (dp_sm s8 ddy)
      obtain ⟨tp, ts, rfl, htp, dts⟩ := dp_tup ddy2
      obtain ⟨t0, u0, rfl, g0, f0⟩ := dpAll_cons dts
      obtain ⟨t1, u1, rfl, g1, f1⟩ := dpAll_cons f0
      cases dpAll_nil f1
      cases dp_str g0
      cases dp_int g1
      obtain ⟨rvs, er2, lr2, vr2⟩ := R.er
      have w1 := pk.wz ws[j] (List.getElem_mem jl)
      have ep9 := R.kp _ _ ep8 (fun z => absurd z npr)
      refine ⟨tp, _, rfl, htp, rfl, _, _, rfl, _, _, rfl, rfl, (by show 1 ≤ sizeLine; decide), fun z nz => ?_⟩
      refine ⟨_, rfl, z, _, _, rfl, rfl, upd_same, by omega, by omega, ?_, fun l nl => ?_⟩
      · rw [sizeLine_eq, Int.toNat_natCast]
        show 1 * _ ≤ _
        omega
      rw [Int.toNat_natCast, flat_rep]
      have hpz : pa ≠ z := ne_of_none ep9 nz
      have lz : l ≠ z := fun e => by rw [e, upd_same] at nl; cases nl
      have nl1 : H9 l = none := by rw [upd_ne lz] at nl; exact nl
      have hpl : pa ≠ l := ne_of_none ep9 nl1
      have r2z : rr ≠ z := ne_of_none er2 nz
      have r2l : rr ≠ l := ne_of_none er2 nl1
      have nq : (ws[j]).1 ∉ (ws.take j).map (·.1) := fun hm => by
        have hs : ws.take (j + 1) = ws.take j ++ [ws[j]] := by rw [List.take_succ, List.getElem?_eq_getElem jl]; rfl
        have nd' : ((ws.take (j + 1)).map (·.1)).Nodup := pk.wn.sublist ((List.take_sublist _ _).map _)
        rw [hs, List.map_append, List.nodup_append] at nd'
        exact nd'.2.2 _ hm _ (List.mem_singleton.mpr rfl) rfl
      have w100 := pk.w100
      have ep9z : upd (upd H9 z (.lst [.int 0])) l (.lst ((List.replicate (ws[j]).2 (0 : Int)).map V.int)) pa = some (.dK [(.inr "known", .ref d), (.inr "rows", .ref rr)]) := by rw [upd_ne hpl, upd_ne hpz]; exact ep9
      refine ⟨_, rfl, pa, _, rfl, DGet.k (k := .inr "rows") ep9z, _, rfl, rr, _, rfl, .inl ⟨rvs, .inr (ws[j]).1, by rw [upd_ne r2l, upd_ne r2z]; exact er2, rfl, ?_, rfl⟩, ?_⟩
      · rw [sizeLine_eq]
        have : (ws.take j).length ≤ j := List.length_take_le ..
        omega
      · refine ⟨⟨fun y => if y = (ws[j]).1 then l else ra y, ?_⟩, _, _, _, _, _, rfl⟩
        have hs : ws.take (j + 1) = ws.take j ++ [ws[j]] := by rw [List.take_succ, List.getElem?_eq_getElem jl]; rfl
        rw [hs]
        exact R.step er8 nq nz nl er2 lr2 vr2
    rintro σ' H9 ⟨⟨ra, R⟩, y4, y5, y6, y8, y9, rfl⟩
    rw [lw, List.take_length] at R
    obtain ⟨rvs, er2, lr2, vr2⟩ := R.er
    have s9 : Same H H9 := Kp.same s8 R.kp (fun b hb => by cases hb; exact nr)
    have ep9 := R.kp _ _ ep8 (fun z => absurd z npr)
    have ed9 := R.kp _ _ ed8 (fun z => absurd z ndr)
    have eq9 := R.kp _ _ eq8 (fun z => absurd z nqr)
    have et9 := R.kp _ _ et8 (fun z => absurd z ntr)
    have stw : LStd K (hsZ hl) (ws.map (·.1)) ⟨pa, d, qa, t, rr, ra⟩ hh most (most + ps.length) H9 (st0 ps ws most) := by
      refine ⟨⟨ep9, ⟨kvs, ed9, ?_, hkv⟩, ⟨rvs, er2, vr2⟩, fun x hx => ?_⟩, eq9, et9, hk8.kp R.kp nhr, kn32_of pk.i32, rwZ_32 ws, ?_, ?_, by omega, by have := pk.lp; omega, nqp.symm, npd, nqd.symm, ndr.symm, nqr.symm, nhd, nehq.symm, fun x hx e => ?_, R.ri⟩
      · show kvs.length ≤ most + ps.length - most
        omega
      · obtain ⟨y, hy, rfl⟩ := List.mem_map.mp hx
        show H9 (ra y.1) = some (.lst ((rwZ ws y.1).map V.int))
        rw [rwZ_of pk.wn hy]
        exact (R.el y hy).1
      · show 0 + most ≤ most
        omega
      · show most ≤ most + ps.length
        omega
      · obtain ⟨y, hy, rfl⟩ := List.mem_map.mp hx
        have := (R.el y hy).2
        have e : ra y.1 = t := e
        rw [e, et8] at this
        cases this
    have noneSA : ∀ c, SA (ws.map (·.1)) ⟨pa, d, qa, t, rr, ra⟩ c → H c = none := fun c hc => by
      rcases hc with h | h | h | ⟨x, hx, h⟩
      · rw [h]; exact nd
      · rw [h]; exact hqa
      · rw [h]; exact nt
      · rw [h]
        obtain ⟨y, hy, rfl⟩ := List.mem_map.mp hx
        exact none_sm s8 (R.el y hy).2
    refine ⟨_, rfl, p0, _, 3, _, rfl, rfl, sqT_sm s9 hp, atI_nat (j := 3) rfl, _, rfl, _, rfl, hsZ hl, ws.map (·.1), ⟨pa, d, qa, t, rr, ra⟩, hh, most, most + ps.length, _, s', x3, bd, r, F, rfl, stw, dp_sm s9 d3, pk.ok, hd, ?_⟩
    have fin : ∀ {ed : PyData} {xs : List PyData} {H' : Hp} {u : Addr}, ed = .tuple (.str "gave" :: xs) ∨ ed = .tuple (.str "on" :: xs) ∨ ed = .tuple (.str "fault" :: xs) → Dp K H' (.ref u) ed → TruV K (.ref u) H' true := fun {ed xs H' u} he du => by
      have : ∃ y ys, ed = .tuple (y :: ys) := by rcases he with rfl | rfl | rfl <;> exact ⟨_, _, rfl⟩
      obtain ⟨y, ys, rfl⟩ := this
      obtain ⟨u1, xs9, e9, hu9, da9⟩ := dp_tup du
      cases e9
      obtain ⟨z1, r1, rfl, _, _⟩ := dpAll_cons da9
      exact .inr (.inl ⟨_, hu9, rfl⟩)
    cases r with
    | fin =>
      intro H10 k10 st10
      have s10 : Same H H10 := Kp.same s9 k10 noneSA
      refine ⟨false, rfl, ifF rfl ⟨(by show 2 ≤ sizeLine; decide), fun tp htp => ?_⟩⟩
      have eq10 := st10.ob
      have et10 := st10.tl
      have nq : qa ≠ tp := ne_of_none eq10 htp
      have nt' : t ≠ tp := ne_of_none et10 htp
      refine lret_ok (σ := [_, _, _, _, _, _, _, _, _, _]) rfl rfl rfl (by rw [upd_ne nq]; exact eq10) (by rw [upd_ne nt']; exact et10) (pair_dp) (fun H7 u s7 dq => ?_)
      exact q _ u ((same_upd s10 (none_sm s10 htp)).trans s7) dq
    | gave v =>
      intro H10 u9 k10 st10 _ du
      have s10 : Same H H10 := Kp.same s9 k10 noneSA
      refine ⟨true, fin (.inl rfl) du, ifT rfl ?_⟩
      refine lret_ok (σ := [_, _, _, _, _, _, _, _, _, _]) rfl rfl rfl st10.ob st10.tl du (fun H7 u s7 dq => ?_)
      exact q _ u (s10.trans s7) dq
    | on =>
      intro H10 u9 k10 st10 du
      have s10 : Same H H10 := Kp.same s9 k10 noneSA
      refine ⟨true, fin (.inr (.inl rfl)) du, ifT rfl ?_⟩
      refine lret_ok (σ := [_, _, _, _, _, _, _, _, _, _]) rfl rfl rfl st10.ob st10.tl du (fun H7 u s7 dq => ?_)
      exact q _ u (s10.trans s7) dq
    | flt w =>
      intro H10 u9 k10 st10 du
      have s10 : Same H H10 := Kp.same s9 k10 noneSA
      refine ⟨true, fin (.inr (.inr rfl)) du, ifT rfl ?_⟩
      refine lret_ok (σ := [_, _, _, _, _, _, _, _, _, _]) rfl rfl rfl st10.ob st10.tl du (fun H7 u s7 dq => ?_)
      exact q _ u (s10.trans s7) dq
end

section
variable {P : Program} {w : World} {K : PySem.W.Frag} {mg : Str → Option Value} {base : Heap}
/-- data of tuples, texts and ints -/
def alk : Nat → PyData → Prop
  | n + 1, .tuple xs => xs.length ≤ 6000 ∧ ∀ x ∈ xs, alk n x
  | _ + 1, .int _ => True
  | _ + 1, .str x => SeqAt.shaped (.str x) = true
  | _, _ => False
def sp_whole (K : PySem.W.Frag) : Sp := fun vs H Q _ => ∃ n : Int, vs = [.int n] ∧ Q (.bl true) H
theorem ok__law_whole (T : Top K mg) : FnOk P w K mg base CX0 1 (He.ga K "_law_whole") T.fd__law_whole ["_law_found"] (sp_whole K) := by
  refine T.F__law_whole.ok sc__law_whole (fun vs H Q E h => ?_) (fun cdv A outer s H vs Q E hr h => ?_)
  · obtain ⟨n, rfl, _⟩ := h
    rfl
  · obtain ⟨n, rfl, q⟩ := h
    refine ⟨_, PSs.nox (pss_one (ps_ret (pe_and (pe_callB call_isi (by rfl) T.m_isinstance (by decide +kernel) (pa_cons (pv 0) (pa_cons (pe_bltn (v := .ty "int") (by rfl) T.m_int (by decide +kernel) rfl) pa_nil))) (pe_one (pe_not (pe_callB call_isi (by rfl) T.m_isinstance (by decide +kernel) (pa_cons (pv 0) (pa_cons (pe_bltn (v := .ty "bool") (by rfl) T.m_bool (by decide +kernel) rfl) pa_nil)))))))), ?_⟩
    refine ⟨_, rfl, _, _, _, _, true, rfl, .ty _, ty_int n, kit_int (.int n), _, rfl, ifT rfl ?_⟩
    exact ⟨_, rfl, _, _, _, _, false, rfl, .ty _, ty_int n, kit_bool (.int n), _, rfl, q⟩
theorem kit2_tup : PySem.W.kitAny K (.type "tuple") [.type "tuple", .type "list"] = some true := kitAny_cons (kit_ty (r := true) (by decide +kernel)) (fun z => nomatch z) fun _ => rfl
theorem kit2_int : PySem.W.kitAny K (.type "int") [.type "tuple", .type "list"] = some false := kitAny_cons (kit_ty (r := false) (by decide +kernel)) (fun _ => kitAny_cons (kit_ty (r := false) (by decide +kernel)) (fun _ => rfl) (fun z => nomatch z)) (fun z => nomatch z)
theorem kit2_str : PySem.W.kitAny K (.type "str") [.type "tuple", .type "list"] = some false := kitAny_cons (kit_ty (r := false) (by decide +kernel)) (fun _ => kitAny_cons (kit_ty (r := false) (by decide +kernel)) (fun _ => rfl) (fun z => nomatch z)) (fun z => nomatch z)
def sp_alike (K : PySem.W.Frag) (n : Nat) : Sp := fun vs H Q _ => ∃ (u v : V) (d : PyData), vs = [u, v] ∧ Dp K H u d ∧ Dp K H v d ∧ alk n d ∧ ∀ H', Same H H' → Q (.bl true) H'
theorem ok__law_alike (T : Top K mg) : ∀ n : Nat, FnOk P w K mg base CX0 (n + 2) (He.ga K "_law_alike") T.fd__law_alike ["_law_found", "_law_due"] (sp_alike K n)
  | 0 => by
    refine T.F__law_alike.ok sc__law_alike (fun vs H Q E h => ?_) (fun cdv A outer s H vs Q E hr h => ?_)
    · obtain ⟨u, v, d, rfl, _⟩ := h
      rfl
    · obtain ⟨u, v, d, rfl, _, _, h, _⟩ := h
      cases d <;> cases h
  | n + 1 => by
    have G__law_alike := ok__law_alike T n
    have G__law_whole := ok__law_whole (P := P) (w := w) (base := base) T
    refine T.F__law_alike.ok sc__law_alike (fun vs H Q E h => ?_) (fun cdv A outer s H vs Q E hr h => ?_)
    · obtain ⟨u, v, d, rfl, _⟩ := h
      rfl
    · obtain ⟨u, v, d, rfl, du, dv, hk, q⟩ := h
      refine ⟨_, PSs.nox (pss_cons (ps_if (pt_val (pe_callB call_isiT (by rfl) T.m_isinstance (by decide +kernel) (pa_cons (pv 1) (pa_cons (pe_tup (pa_cons (pe_bltn (v := .ty "tuple") (by rfl) T.m_tuple (by decide +kernel) rfl) (pa_cons (pe_bltn (v := .ty "list") (by rfl) T.m_list (by decide +kernel) rfl) pa_nil))) pa_nil)))) (pss_cons (ps_if (PW.pt (pw_or (pt_not (pt_val (pe_callB call_isiT (by rfl) T.m_isinstance (by decide +kernel) (pa_cons (pv 0) (pa_cons (pe_tup (pa_cons (pe_bltn (v := .ty "tuple") (by rfl) T.m_tuple (by decide +kernel) rfl) (pa_cons (pe_bltn (v := .ty "list") (by rfl) T.m_list (by decide +kernel) rfl) pa_nil))) pa_nil))))) (pw_or1 (pt_cmpR op_ne (pe_callB call_isi (by rfl) T.m_isinstance (by decide +kernel) (pa_cons (pv 0) (pa_cons (pe_bltn (v := .ty "tuple") (by rfl) T.m_tuple (by decide +kernel) rfl) pa_nil))) (pe_callB call_isi (by rfl) T.m_isinstance (by decide +kernel) (pa_cons (pv 1) (pa_cons (pe_bltn (v := .ty "tuple") (by rfl) T.m_tuple (by decide +kernel) rfl) pa_nil))) (nomark _))))) (pss_one (ps_ret pe_bl)) pss_nil)
        (pss_one (ps_ret (pe_and (pe_cmpR op_eq (pe_callB call_len_seq (by rfl) T.m_len (by decide +kernel) (pa_cons (pv 0) pa_nil)) (pe_callB call_len_seq (by rfl) T.m_len (by decide +kernel) (pa_cons (pv 1) pa_nil)) (nomark _)) (pe_one (pe_callB (cr_all (by rfl)) (by rfl) T.m_all (by decide +kernel) (pa_cons (pe_lc (own := [("_law_k", 2)]) (by rfl) sc__law_alike.nd (pi_range1 (by rfl) T.m_range (pa_cons (pe_callB call_len_seq (by rfl) T.m_len (by decide +kernel) (pa_cons (pv 1) pa_nil)) pa_nil)) (blkOk_by (own := [("_law_k", 2)]) (N := N__law_alike) (sc := defScope s__law_alike) (by decide +kernel)) (fun _ _ _ _ _ => (pg_name (i := 2) sc__law_alike.nd rfl (Or.inl rfl))) (fun _ _ _ _ _ => pts_nil) (fun _ _ _ _ _ => (pe_call G__law_alike (hr.mono (by omega)) (by rfl) T.g__law_alike T.F__law_alike.kp T.b__law_alike .nil pass0 (pa_cons (pe_ix (ix_tupK (K := K) rfl) (pv 0) (pv 2) (fun _ _ => rfl)) (pa_cons (pe_ix (ix_tupK (K := K) rfl) (pv 1) (pv 2) (fun _ _ => rfl)) pa_nil))))) pa_nil))))))) pss_nil)
        (pss_cons (ps_if (pt_val (pe_callB call_isi (by rfl) T.m_isinstance (by decide +kernel) (pa_cons (pv 1) (pa_cons (pe_bltn (v := .ty "str") (by rfl) T.m_str (by decide +kernel) rfl) pa_nil)))) (pss_one (ps_ret (pe_and (pe_callB call_isi (by rfl) T.m_isinstance (by decide +kernel) (pa_cons (pv 0) (pa_cons (pe_bltn (v := .ty "str") (by rfl) T.m_str (by decide +kernel) rfl) pa_nil))) (pe_one (pe_cmpR (op_eqD hr.units) (pv 0) (pv 1) (nomark _)))))) pss_nil)
        (pss_one (ps_ret (pe_and (pe_call G__law_whole (hr.mono (by omega)) (by rfl) T.g__law_whole T.F__law_whole.kp T.b__law_whole .nil pass0 (pa_cons (pv 0) pa_nil)) (pe_one (pe_cmpR (op_eqD hr.units) (pv 0) (pv 1) (nomark _)))))))), ?_⟩
      refine ⟨_, rfl, (by show 2 ≤ sizeLine; decide), fun tp htp => ?_⟩
      have s1 : Same H (upd H tp (.tup [.ty "tuple", .ty "list"])) := same_new htp
      cases d with
      | int i =>
        cases dp_int du
        cases dp_int dv
        refine ⟨_, tp, _, _, _, false, rfl, upd_same, .cons (.ty _) (.cons (.ty _) .nil), ty_int i, kit2_int, _, rfl, ifF rfl ?_⟩
        refine ⟨_, rfl, _, _, _, _, false, rfl, .ty _, ty_int i, kit_str (.int i), _, rfl, ifF rfl ?_⟩
        refine ⟨_, rfl, i, rfl, _, rfl, ifT rfl ?_⟩
        refine ⟨_, rfl, _, rfl, .int i, .int i, .int _, .int _, rfl, rfl, ?_⟩
        have e : PyData.eqv (.int i) (.int i) = true := by simp [PyData.eqv]
        rw [e]
        exact q _ s1
      | str x =>
        cases dp_str du
        cases dp_str dv
        refine ⟨_, tp, _, _, _, false, rfl, upd_same, .cons (.ty _) (.cons (.ty _) .nil), dp_ty (.str x), kit2_str, _, rfl, ifF rfl ?_⟩
        refine ⟨_, rfl, _, _, _, _, true, rfl, .ty _, dp_ty (.str x), kit_str (.str x), _, rfl, ifT rfl ?_⟩
        refine ⟨_, rfl, _, _, _, _, true, rfl, .ty _, dp_ty (.str x), kit_str (.str x), _, rfl, ifT rfl ?_⟩
        refine ⟨_, rfl, _, rfl, .str x, .str x, .str _, .str _, hk, hk, ?_⟩
        have e : PyData.eqv (.str x) (.str x) = true := by simp [PyData.eqv]
        rw [e]
        exact q _ s1
      | tuple ds =>
        have du0 := du
        have dv0 := dv
        obtain ⟨ua, us, rfl, hu, dau⟩ := dp_tup du
        obtain ⟨va, vs, rfl, hv, dav⟩ := dp_tup dv
        refine ⟨_, tp, _, _, _, true, rfl, upd_same, .cons (.ty _) (.cons (.ty _) .nil), ty_tup (sqT_sm s1 hv), kit2_tup, _, rfl, ifT rfl ?_⟩
        refine ⟨_, rfl, (by show 2 ≤ sizeLine; decide), fun tq htq => ?_⟩
        have s2 : Same H (upd (upd H tp (.tup [.ty "tuple", .ty "list"])) tq (.tup [.ty "tuple", .ty "list"])) := s1.trans (same_new htq)
        have hu2 := sqT_sm s2 hu
        have hv2 := sqT_sm s2 hv
        refine ⟨_, tq, _, _, _, true, rfl, upd_same, .cons (.ty _) (.cons (.ty _) .nil), ty_tup hu2, kit2_tup, _, rfl, ifF rfl ?_⟩
        refine ⟨_, rfl, _, _, _, _, true, rfl, .ty _, ty_tup hu2, kit_tup (.tuple ds), _, rfl, _, _, _, _, true, rfl, .ty _, ty_tup hv2, kit_tup (.tuple ds), rfl, _, rfl, ifNF rfl ?_⟩
        have lu : us.length = ds.length := dpAll_len dau
        have lv : vs.length = ds.length := dpAll_len dav
        refine ⟨_, rfl, ua, _, rfl, .inr hu2, _, rfl, va, _, rfl, .inr hv2, rfl, _, rfl, ?_⟩
        rw [lu, lv]
        refine ifD rfl ?_
        refine ⟨_, rfl, va, _, rfl, .inr hv2, _, rfl, by omega, ?_, ?_⟩
        · have := hk.1
          rw [lv]
          omega
        rw [lv]
        intro D hD
        have nD : H D = none := none_sm s2 hD
        refine lc_range (lo := 0) (n := ((ds.length : Nat) : Int).toNat) (fun j H' => Same H H' ∧ H' D = some (.lst ((List.replicate j true).map V.bl))) ?_ ?_ ?_
        · exact ⟨same_upd s2 nD, upd_same⟩
        · rintro i H1 hi ⟨k1, e1⟩
          have il : i < ds.length := by omega
          have iu : i < us.length := by omega
          have iv : i < vs.length := by omega
          obtain ⟨d, hdd, ddd⟩ := dpAll_getV dau (List.getElem?_eq_getElem iu)
          obtain ⟨d2, hdd2, ddd2⟩ := dpAll_getV dav (List.getElem?_eq_getElem iv)
          rw [hdd] at hdd2
          cases hdd2
          have i0 : (0 : Int) + (i : Int) = (i : Nat) := by omega
          refine ⟨rfl, _, rfl, _, rfl, ua, _, _, _, rfl, rfl, sqT_sm k1 hu, ?_, _, rfl, _, rfl, va, _, _, _, rfl, rfl, sqT_sm k1 hv, ?_, _, _, d, rfl, dp_sm k1 ddd, dp_sm k1 ddd2, hk.2 d (List.mem_of_getElem? hdd), fun H2 s2' => ?_⟩
          · rw [i0]
            exact atI_nat (List.getElem?_eq_getElem iu)
          · rw [i0]
            exact atI_nat (List.getElem?_eq_getElem iv)
          refine ⟨_, s2' _ _ e1, ?_, same_upd (k1.trans s2') nD, ?_⟩
          · rw [List.length_map, List.length_replicate, sizeLine_eq]
            have := hk.1
            omega
          · rw [upd_same, List.replicate_succ', List.map_append]
            rfl
        · rintro H1 ⟨k1, e1⟩
          refine ⟨D, _, rfl, .inl (.inl e1), ?_⟩
          have ea : (List.replicate ((ds.length : Nat) : Int).toNat true).all id = true := by
            rw [List.all_eq_true]
            intro x hx
            rw [List.eq_of_mem_replicate hx]
            rfl
          rw [ea]
          exact q _ k1
      | none => cases hk
      | bool b => cases hk
      | list l => cases hk
      | dict l => cases hk
def sp_isend (K : PySem.W.Frag) (n : Nat) : Sp := fun vs H Q _ => ∃ (u v : V) (d1 d2 : PyData), vs = [u, v] ∧ Dp K H u (.tuple [d1, d2]) ∧ Dp K H v (.tuple [d1, d2]) ∧ alk n d1 ∧ alk n d2 ∧ ∀ H', Same H H' → Q (.bl true) H'
theorem ok__law_is_end (T : Top K mg) (n : Nat) : FnOk P w K mg base CX0 (n + 3) (He.ga K "_law_is_end") T.fd__law_is_end ["_law_found", "_law_due"] (sp_isend K n) := by
  have G__law_alike := ok__law_alike (P := P) (w := w) (base := base) T n
  refine T.F__law_is_end.ok sc__law_is_end (fun vs H Q E h => ?_) (fun cdv A outer s H vs Q E hr h => ?_)
  · obtain ⟨u, v, d1, d2, rfl, _⟩ := h
    rfl
  · obtain ⟨u, v, d1, d2, rfl, du, dv, a1, a2, q⟩ := h
    refine ⟨_, PSs.nox (pss_cons (ps_if (PW.pt (pw_or (pt_not (pt_val (pe_callB call_isi (by rfl) T.m_isinstance (by decide +kernel) (pa_cons (pv 0) (pa_cons (pe_bltn (v := .ty "tuple") (by rfl) T.m_tuple (by decide +kernel) rfl) pa_nil))))) (pw_or (pt_cmpR op_ne (pe_callB call_len_seq (by rfl) T.m_len (by decide +kernel) (pa_cons (pv 0) pa_nil)) pe_int (nomark _)) (pw_or1 (pt_not (pt_val (pe_call G__law_alike (hr.mono (by omega)) (by rfl) T.g__law_alike T.F__law_alike.kp T.b__law_alike .nil pass0 (pa_cons (pe_ix ix_tup (pv 0) pe_int (fun _ _ => rfl)) (pa_cons (pe_ix ix_tup (pv 1) pe_int (fun _ _ => rfl)) pa_nil))))))))) (pss_one (ps_ret pe_bl)) pss_nil)
        (pss_one (ps_ret (pe_call G__law_alike (hr.mono (by omega)) (by rfl) T.g__law_alike T.F__law_alike.kp T.b__law_alike .nil pass0 (pa_cons (pe_ix ix_tup (pv 0) pe_int (fun _ _ => rfl)) (pa_cons (pe_ix ix_tup (pv 1) pe_int (fun _ _ => rfl)) pa_nil)))))), ?_⟩
    obtain ⟨ua, us, rfl, hu, dau⟩ := dp_tup du
    obtain ⟨va, vs, rfl, hv, dav⟩ := dp_tup dv
    obtain ⟨u1, ur, rfl, b1, dau⟩ := dpAll_cons dau
    obtain ⟨u2, ur, rfl, b2, dau⟩ := dpAll_cons dau
    cases dau
    obtain ⟨v1, vr, rfl, c1, dav⟩ := dpAll_cons dav
    obtain ⟨v2, vr, rfl, c2, dav⟩ := dpAll_cons dav
    cases dav
    refine ⟨_, rfl, _, _, _, _, true, rfl, .ty _, ty_tup hu, kit_tup (.tuple []), _, rfl, ifF rfl ?_⟩
    refine ⟨_, rfl, ua, _, rfl, .inr hu, rfl, _, rfl, ifNF rfl ?_⟩
    refine ⟨_, rfl, ua, _, 0, _, rfl, rfl, hu, atI_nat (j := 0) rfl, _, rfl, va, _, 0, _, rfl, rfl, hv, atI_nat (j := 0) rfl, u1, v1, d1, rfl, b1, c1, a1, fun H1 s1 => ?_⟩
    refine ⟨_, rfl, ifF rfl ?_⟩
    exact ⟨_, rfl, ua, _, 1, _, rfl, rfl, sqT_sm s1 hu, atI_nat (j := 1) rfl, _, rfl, va, _, 1, _, rfl, rfl, sqT_sm s1 hv, atI_nat (j := 1) rfl, u2, v2, d2, rfl, dp_sm s1 b2, dp_sm s1 c2, a2, fun H2 s2 => q _ (s1.trans s2)⟩
end
/-! the words of faults -/
def WordOk (w : Str) : Prop := SeqAt.shaped (.str w) = true
theorem word_div : WordOk "division" := by unfold WordOk; decide +kernel
theorem word_place : WordOk "place" := by unfold WordOk; decide +kernel
theorem wx_word {kn : Kn} {rw' : Rw} : ∀ {e : Ex} {f : Str}, wx e kn rw' = .error f → WordOk f
  | .num n, f, h => by cases h
  | .nam x, f, h => by unfold wx at h; cases h
  | .no e, f, h => by
    unfold wx at h
    cases he : wx e kn rw' with
    | error g => rw [he] at h; cases h; exact wx_word he
    | ok u => rw [he] at h; cases h
  | .op w a b, f, h => by
    unfold wx at h
    cases ha : wx a kn rw' with
    | error g => rw [ha] at h; cases h; exact wx_word ha
    | ok u =>
      rw [ha] at h
      dsimp only at h
      cases hb : wx b kn rw' with
      | error g => rw [hb] at h; cases h; exact wx_word hb
      | ok v =>
        rw [hb] at h
        dsimp only at h
        cases hc : rck w u v with
        | none => rw [hc] at h; cases h; exact word_div
        | some z => rw [hc] at h; cases h
  | .at_ r e, f, h => by
    unfold wx at h
    cases he : wx e kn rw' with
    | error g => rw [he] at h; cases h; exact wx_word he
    | ok u =>
      rw [he] at h
      dsimp only at h
      split at h
      · cases h
      · cases h; exact word_place
theorem wxs_word {kn : Kn} {rw' : Rw} : ∀ {es : List Ex} {f : Str}, wxs es kn rw' = .error f → WordOk f
  | [], f, h => by cases h
  | e :: r, f, h => by
    unfold wxs at h
    cases he : wx e kn rw' with
    | error g => rw [he] at h; cases h; exact wx_word he
    | ok u =>
      rw [he] at h
      dsimp only at h
      cases hr : wxs r kn rw' with
      | error g => rw [hr] at h; cases h; exact wxs_word hr
      | ok us => rw [hr] at h; cases h
theorem flt_word (hs : Hs) (F : Nat) : (∀ n rs bd s f s', (∀ m ∈ bd, Sm.ok hs n rs m) → doAll hs F bd s = some (.flt f, s') → WordOk f) ∧ (∀ n rs m s f s', Sm.ok hs n rs m → doOne hs F m s = some (.flt f, s') → WordOk f) ∧ (∀ n rs e b s f s', (∀ m ∈ b, Sm.ok hs n rs m) → again hs F e b s = some (.flt f, s') → WordOk f) := by
  induction F with
  | zero =>
    refine ⟨fun n rs bd s f s' _ h => ?_, fun n rs m s f s' _ h => ?_, fun n rs e b s f s' _ h => ?_⟩
    · simp [doAll] at h
    · simp [doOne] at h
    · simp [again] at h
  | succ F ih =>
    obtain ⟨iA, iO, iW⟩ := ih
    refine ⟨fun n rs bd s f s' ok h => ?_, fun n rs m s f s' ok h => ?_, fun n rs e b s f s' ok h => ?_⟩
    · cases bd with
      | nil => rw [doAll] at h; cases h
      | cons m r =>
        rw [doAll] at h
        by_cases l0 : s.lf = 0
        · rw [if_pos l0] at h; cases h
        · rw [if_neg l0] at h
          cases ho : doOne hs F m { s with lf := s.lf - 1 } with
          | none => rw [ho] at h; cases h
          | some q =>
            obtain ⟨r1, s1⟩ := q
            rw [ho] at h
            cases r1 with
            | fin => exact iA n rs _ _ _ _ (fun m hm => ok m (List.mem_cons_of_mem _ hm)) h
            | gave v => cases h
            | on => cases h
            | flt w => cases h; exact iO n rs _ _ _ _ (ok m (List.mem_cons_self ..)) ho
    · cases n with
      | zero => cases ok
      | succ n =>
      cases m with
      | set x e =>
        rw [doOne] at h
        cases hw : wx e s.kn s.rw with
        | error g => rw [hw] at h; cases h; exact wx_word hw
        | ok v => rw [hw] at h; cases h
      | tell e =>
        rw [doOne] at h
        cases hw : wx e s.kn s.rw with
        | error g => rw [hw] at h; cases h; exact wx_word hw
        | ok v => rw [hw] at h; cases h
      | give e =>
        rw [doOne] at h
        cases hw : wx e s.kn s.rw with
        | error g => rw [hw] at h; cases h; exact wx_word hw
        | ok v => rw [hw] at h; cases h
      | put r e g =>
        rw [doOne] at h
        cases hw : wx e s.kn s.rw with
        | error k => rw [hw] at h; cases h; exact wx_word hw
        | ok p =>
          rw [hw] at h
          dsimp only at h
          cases hv : wx g s.kn s.rw with
          | error k => rw [hv] at h; cases h; exact wx_word hv
          | ok v =>
            rw [hv] at h
            dsimp only at h
            split at h
            · cases h
            · cases h; exact word_place
      | fail k => rw [doOne] at h; cases h; exact ok.2
      | ite e ys ns =>
        rw [doOne] at h
        cases hw : wx e s.kn s.rw with
        | error g => rw [hw] at h; cases h; exact wx_word hw
        | ok v =>
          rw [hw] at h
          refine iA n rs _ _ _ _ (fun m hm => ?_) h
          split at hm
          · exact ok.2.1 m hm
          · exact ok.2.2 m hm
      | loop e b =>
        rw [doOne] at h
        exact iW n rs _ _ _ _ _ ok.2 h
      | call x g es =>
        obtain ⟨_, _, _, ps, body, hg, _, hb⟩ := ok
        rw [doOne, hg] at h
        dsimp only at h
        cases hw : wxs es s.kn s.rw with
        | error k => rw [hw] at h; cases h; exact wxs_word hw
        | ok vs =>
          rw [hw] at h
          dsimp only at h
          cases ho : doAll hs F body { kn := knZ (ps.zip vs), rw := fun _ => [], lf := s.lf, td := s.td } with
          | none => rw [ho] at h; cases h
          | some q =>
            obtain ⟨r1, s1⟩ := q
            rw [ho] at h
            cases r1 with
            | fin => cases h
            | gave v => cases h
            | on => cases h
            | flt w => cases h; exact iA n [] _ _ _ _ hb ho
    · rw [again] at h
      cases hw : wx e s.kn s.rw with
      | error g => rw [hw] at h; cases h; exact wx_word hw
      | ok v =>
        rw [hw] at h
        dsimp only at h
        by_cases hv : v = 0
        · rw [if_pos hv] at h; cases h
        · rw [if_neg hv] at h
          cases ho : doAll hs F b s with
          | none => rw [ho] at h; cases h
          | some q =>
            obtain ⟨r1, s1⟩ := q
            rw [ho] at h
            cases r1 with
            | fin =>
              dsimp only at h
              by_cases l0 : s1.lf = 0
              · rw [if_pos l0] at h; cases h
              · rw [if_neg l0] at h; exact iW n rs _ _ _ _ _ ok h
            | gave v => cases h
            | on => cases h
            | flt w => cases h; exact iA n rs _ _ _ _ ok ho
theorem alk_td {n : Nat} {td : List Int} (h : td.length ≤ 6000) : alk (n + 2) (.tuple (td.map PyData.int)) := by
  refine ⟨by rw [List.length_map]; exact h, fun x hx => ?_⟩
  obtain ⟨i, _, rfl⟩ := List.mem_map.mp hx
  trivial
def Rs.wok : Rs → Prop
  | .flt w => WordOk w
  | _ => True
theorem alk_rs {n : Nat} (r : Rs) (hr : r.wok) : alk (n + 2) r.d := by
  have g : SeqAt.shaped (.str "gave") = true := by decide +kernel
  have o : SeqAt.shaped (.str "on") = true := by decide +kernel
  have f : SeqAt.shaped (.str "fault") = true := by decide +kernel
  cases r with
  | fin =>
    refine ⟨by decide, fun x hx => ?_⟩
    rcases List.mem_cons.mp hx with rfl | hx
    · exact g
    · rw [List.mem_singleton.mp hx]; trivial
  | gave v =>
    refine ⟨by simp, fun x hx => ?_⟩
    rcases List.mem_cons.mp hx with rfl | hx
    · exact g
    · rw [List.mem_singleton.mp hx]; trivial
  | on =>
    refine ⟨by decide, fun x hx => ?_⟩
    rw [List.mem_singleton.mp hx]; exact o
  | flt w =>
    refine ⟨by simp, fun x hx => ?_⟩
    rcases List.mem_cons.mp hx with rfl | hx
    · exact f
    · rw [List.mem_singleton.mp hx]; exact hr
/-- each program that may be played comes to some end -/
theorem ends {n : Nat} {hl : Hl} {ps : List (Str × Int)} {ws : List (Str × Nat)} {bd : List Sm} (pk : PlOk n hl ps ws bd) (most : Nat) (hm : most ≤ 5000) : ∃ F r s', doAll (hsZ hl) F bd (st0 ps ws most) = some (r, s') ∧ s'.td.length ≤ 6000 ∧ r.wok ∧ s'.lf ≤ most := by
  obtain ⟨F, ⟨r, s'⟩, e⟩ := (total (hsZ hl) most).1 n _ bd (st0 ps ws most) pk.ok (Nat.le_refl _)
  have sz := (size1 (hsZ hl) F).1 _ _ _ _ e
  have h1 : (st0 ps ws most).td.length = 0 := rfl
  have h2 : (st0 ps ws most).lf = most := rfl
  refine ⟨F, r, s', e, by omega, ?_, by omega⟩
  cases r with
  | flt w => exact (flt_word (hsZ hl) F).1 n _ bd _ w s' pk.ok e
  | fin => trivial
  | gave v => trivial
  | on => trivial

/-! cells: a number, or a list of digits that are left and of what goes on behind them -/
def CellOk (H : Hp) (v : V) : Prop := (∃ c : Int, v = .int c) ∨ ∃ (a : Addr) (l t : Int), v = .ref a ∧ H a = some (.lst [.int l, .int t]) ∧ 0 ≤ l ∧ 0 ≤ t
def cellS (v : V) : Addr → Prop := fun b => v = .ref b
section
variable {P : Program} {w : World} {K : PySem.W.Frag} {mg : Str → Option Value} {base : Heap}
def cellA (ns : List Int) (k : Int) : Int := ns.getD k.toNat 0
def sp__law_cell_at (K : PySem.W.Frag) : Sp := fun vs H Q _ => ∃ (a : Addr) (ns : List Int) (k : Int), vs = [.ref a, .int k] ∧ 0 ≤ k ∧ SqL K H a (ns.map V.int) ∧ Q (.int (cellA ns k)) H
theorem ok__law_cell_at (T : Top K mg) : FnOk P w K mg base CX0 1 (He.ga K "_law_cell_at") T.fd__law_cell_at ["_law_script", "_law_k"] (sp__law_cell_at K) := by
  refine T.F__law_cell_at.ok sc__law_cell_at (fun vs H Q E h => ?_) (fun cdv A outer s H vs Q E hr h => ?_)
  · obtain ⟨a, ns, k, rfl, _⟩ := h
    rfl
  · obtain ⟨a, ns, k, rfl, h0, hS, q⟩ := h
    refine ⟨_, PSs.nox (pss_cons (ps_if (pt_cmpR op_lt (pv 1) (pe_callB call_len_seq (by rfl) T.m_len (by decide +kernel) (pa_cons (pv 0) pa_nil)) (nomark _)) (pss_one (ps_ret (pe_ix ix_list (pv 0) (pv 1) (fun _ _ => rfl)))) pss_nil)
        (pss_one (ps_ret pe_int))), ?_⟩
    refine ⟨_, rfl, _, rfl, a, _, rfl, .inl hS, _, _, rfl, rfl, _, rfl, ite2 (fun e => ?_) (fun e => ?_)⟩
    · have e1 : k < (ns.map V.int).length := of_decide_eq_true e
      rw [List.length_map] at e1
      exact ⟨_, rfl, _, rfl, a, _, _, _, rfl, rfl, hS, at_ints h0 e1, q⟩
    · have e1 : ¬ k < (ns.map V.int).length := fun z => e (decide_eq_true z)
      rw [List.length_map] at e1
      have e2 : cellA ns k = 0 := by
        unfold cellA
        have : ns.length ≤ k.toNat := by omega
        simp [List.getD, this]
      rw [e2] at q
      exact q
/-- a number or a new list of two -/
def sp__law_held : Sp := fun vs H Q _ => ∃ c : Int, vs = [.int c] ∧ ∀ H' v, Same H H' → CellOk H' v → (∀ p, v = .ref p → H p = none) → Q v H'
theorem ok__law_held (T : Top K mg) : FnOk P w K mg base CX0 1 (He.ga K "_law_held") T.fd__law_held ["_law_cell"] sp__law_held := by
  refine T.F__law_held.ok sc__law_held (fun vs H Q E h => ?_) (fun cdv A outer s H vs Q E hr h => ?_)
  · obtain ⟨c, rfl, _⟩ := h
    rfl
  · obtain ⟨c, rfl, q⟩ := h
    refine ⟨_, PSs.nox (pss_cons (ps_if (pt_cmpR op_ge (pv 0) (pe_op op_pow pe_int pe_int) (nomark _)) (pss_one (ps_ret (pe_lst (pa_cons (pe_op op_fdivW (pv 0) (pe_op op_pow pe_int pe_int)) (pa_cons (pe_op op_mod (pv 0) pe_int) pa_nil))))) pss_nil)
        (pss_one (ps_ret (pv 0)))), ?_⟩
    have p10 : CDivW c (10 ^ (18 : Int).toNat) := wide_div (b := 64) (by decide) (by decide) (by decide) (by decide)
    refine ⟨_, rfl, _, _, rfl, rfl, ⟨by decide, by decide, by decide⟩, _, _, rfl, rfl, _, rfl, ite2 (fun e => ?_) (fun e => ?_)⟩
    · have e1 : (10 : Int) ^ (18 : Int).toNat ≤ c := of_decide_eq_true e
      have e2 : (0 : Int) < 10 ^ (18 : Int).toNat := by decide
      refine ⟨_, rfl, _, _, rfl, rfl, ⟨by decide, by decide, by decide⟩, _, _, rfl, rfl, p10, ?_⟩
      refine ⟨_, rfl, _, _, rfl, rfl, (by show (0 : Int) < 2147483647; decide), (by show 2 ≤ sizeLine; rw [sizeLine_eq]; decide), fun p np => ?_⟩
      refine q _ _ (same_new np) (.inr ⟨p, _, _, rfl, upd_same, Int.ediv_nonneg (by omega) (Int.le_of_lt e2), Int.emod_nonneg _ (by decide)⟩) fun p' e => ?_
      cases e
      exact np
    · exact ⟨_, rfl, q _ _ (Same.refl _) (.inl ⟨_, rfl⟩) fun p e => nomatch e⟩
def mx : List Int := [99991, 99989, 99971, 99961, 99929, 99923, 99907, 99901, 99881, 99877, 99871]
/-- a draw below many; a list of digits is changed -/
def sp__law_mixed : Sp := fun vs H Q _ => ∃ (v : V) (k m : Int), vs = [v, .int k, .int m] ∧ CellOk H v ∧ 0 ≤ k ∧ k < 2 ^ 20 ∧ 0 < m ∧ m < 2 ^ 64 ∧ ∀ H' r, Kp (cellS v) H H' → CellOk H' v → 0 ≤ r → r < m → Q (.int r) H'
theorem ok__law_mixed (T : Top K mg) : FnOk P w K mg base CX0 1 (He.ga K "_law_mixed") T.fd__law_mixed ["_law_cell", "_law_k", "_law_many"] sp__law_mixed := by
  refine T.F__law_mixed.ok sc__law_mixed (fun vs H Q E h => ?_) (fun cdv A outer s H vs Q E hr h => ?_)
  · obtain ⟨v, k, m, rfl, _⟩ := h
    rfl
  · obtain ⟨v, k, m, rfl, hv, h0, h1, hm, hm2, q⟩ := h
    refine ⟨_, PSs.nox (pss_cons (ps_if (pt_val (pe_callB call_isi (by rfl) T.m_isinstance (by decide +kernel) (pa_cons (pv 0) (pa_cons (pe_bltn (v := .ty "list") (by rfl) T.m_list (by decide +kernel) rfl) pa_nil)))) (pss_cons (ps_set (i := 3) sc__law_mixed.nd rfl (Or.inl rfl) (pe_ix ix_list (pv 0) pe_int (fun _ _ => rfl)))
        (pss_cons (ps_asg (pe_op op_fdivW (pv 3) (pv 2)) (pg_sub (pv 0) pe_int set_list))
        (pss_cons (ps_asg (pe_op op_mod (pe_op op_add (pe_op op_mul (pe_ix ix_list (pv 0) pe_int (fun _ _ => rfl)) pe_int) pe_int) pe_int) (pg_sub (pv 0) pe_int set_list))
        (pss_one (ps_ret (pe_op op_mod (pe_ifExp (pt_cmpR op_gt (pv 3) pe_int (nomark _)) (pv 3) (pe_op op_fdivW (pe_ix ix_list (pv 0) pe_int (fun _ _ => rfl)) pe_int)) (pv 2))))))) pss_nil)
        (pss_cons (ps_set (i := 4) sc__law_mixed.nd rfl (Or.inl rfl) (pe_lst (pa_cons pe_int (pa_cons pe_int (pa_cons pe_int (pa_cons pe_int (pa_cons pe_int (pa_cons pe_int (pa_cons pe_int (pa_cons pe_int (pa_cons pe_int (pa_cons pe_int (pa_cons pe_int pa_nil)))))))))))))
        (pss_cons (ps_set (i := 5) sc__law_mixed.nd rfl (Or.inl rfl) (pe_op op_mod (pe_op op_pow (pe_op op_mod (pe_op op_mul (pe_op op_add (pv 0) (pe_op op_mul pe_int (pv 1))) pe_int) pe_int) pe_int) (pe_ix ix_list (pv 4) (pe_op op_mod (pv 1) pe_int) (fun _ _ => rfl))))
        (pss_one (ps_ret (pe_op op_mod (pe_op op_mod (pe_op op_add (pe_op op_add (pe_op op_mul (pe_op op_mul (pv 5) (pv 5)) pe_int) (pv 5)) (pv 1)) pe_int) (pv 2))))))), ?_⟩
    rcases hv with ⟨c, rfl⟩ | ⟨a, l, t, rfl, ha, hl, ht⟩
    · refine ⟨_, rfl, _, _, _, _, false, rfl, .ty _, .base (.int c), kit_ty (by decide +kernel), false, rfl, ?_⟩
      refine ⟨(by show 11 ≤ sizeLine; rw [sizeLine_eq]; decide), fun p np => ?_⟩
      have hL : SqL K (upd H p (.lst (mx.map V.int))) p (mx.map V.int) := .of upd_same
      have r0 : 0 ≤ k % 11 := Int.emod_nonneg _ (by decide)
      have r1 : k % 11 < 11 := Int.emod_lt_of_pos _ (by decide)
      have hy : ∀ i : Nat, i < 11 → 0 < mx.getD i 0 ∧ mx.getD i 0 < 100000 := by decide
      obtain ⟨y0, y1⟩ := hy (k % 11).toNat (by omega)
      generalize hyy : mx.getD (k % 11).toNat 0 = y at y0 y1
      have a0 : 0 ≤ (c + 104729 * k) * 48271 % 2147483647 := Int.emod_nonneg _ (by decide)
      have a1 : (c + 104729 * k) * 48271 % 2147483647 < 2147483647 := Int.emod_lt_of_pos _ (by decide)
      generalize hx : (c + 104729 * k) * 48271 % 2147483647 = x at a0 a1
      have b0 : 0 ≤ x ^ (5 : Int).toNat % y := Int.emod_nonneg _ (by omega)
      have b1 : x ^ (5 : Int).toNat % y < y := Int.emod_lt_of_pos _ y0
      generalize hd : x ^ (5 : Int).toNat % y = d at b0 b1
      have d0 : 0 ≤ d * d := Int.mul_nonneg b0 b0
      have d1 : d * d ≤ 100000 * 100000 := Int.mul_le_mul (by omega) (by omega) b0 (by decide)
      refine ⟨_, rfl, _, rfl, _, _, rfl, rfl, .inl ⟨by decide, by decide⟩, _, _, rfl, rfl, _, _, rfl, rfl, .inr ⟨by decide, by decide⟩, _, _, rfl, rfl, (by show (0 : Int) < 2147483647; decide), _, _, rfl, rfl, ⟨by decide, by decide, ?_⟩, ?_⟩
      · show ((c + 104729 * k) * 48271 % 2147483647).natAbs < 2 ^ 64
        rw [hx]
        omega
      refine ⟨_, rfl, _, rfl, _, _, rfl, rfl, (by show (0 : Int) < 11; decide), p, _, _, _, rfl, rfl, hL, at_ints r0 (by rw [show (mx.length : Int) = 11 from rfl]; exact r1), _, _, rfl, rfl, ?_, ?_⟩
      · show 0 < mx.getD (k % 11).toNat 0
        rw [hyy]
        exact y0
      simp only [hx, hyy, hd]
      refine ⟨_, rfl, _, rfl, _, _, rfl, rfl, .inl ⟨by omega, by omega⟩, _, _, rfl, rfl, .inr ⟨by decide, by decide⟩, _, rfl, _, _, rfl, rfl, _, rfl, _, _, rfl, rfl, _, _, rfl, rfl, (by show (0 : Int) < 1000003; decide), _, rfl, _, _, rfl, rfl, hm, ?_⟩
      exact q _ _ (.of_same (same_new np)) (.inl ⟨_, rfl⟩) (Int.emod_nonneg _ (by omega)) (Int.emod_lt_of_pos _ hm)
    · refine ⟨_, rfl, _, _, _, _, true, rfl, .ty _, .base (.lst ha), kit_ty (by decide +kernel), true, rfl, ?_⟩
      have mw : CDivW l m := wide_div (b := 64) hm (by omega) (by decide) (by decide)
      have l1 : 0 ≤ l / m := Int.ediv_nonneg hl (Int.le_of_lt hm)
      have t1 : 0 ≤ (t * 48271 + 11) % 2147483647 := Int.emod_nonneg _ (by decide)
      refine ⟨_, rfl, a, _, 0, _, rfl, rfl, .of ha, atI_nat (j := 0) rfl, ?_⟩
      refine ⟨_, rfl, _, rfl, _, _, rfl, rfl, mw, _, rfl, a, _, 0, 0, rfl, rfl, ha, rfl, ?_⟩
      refine ⟨_, rfl, a, _, 1, _, rfl, rfl, .of upd_same, atI_nat (j := 1) rfl, _, _, rfl, rfl, .inr ⟨by decide, by decide⟩, _, _, rfl, rfl, _, _, rfl, rfl, (by show (0 : Int) < 2147483647; decide), _, rfl, a, _, 1, 1, rfl, rfl, upd_same, rfl, ?_⟩
      rw [upd_upd]
      have k1 : Kp (cellS (.ref a)) H (upd H a (.lst [.int (l / m), .int ((t * 48271 + 11) % 2147483647)])) := Kp.upd ha trivial rfl
      have c1 : CellOk (upd H a (.lst [.int (l / m), .int ((t * 48271 + 11) % 2147483647)])) (.ref a) := .inr ⟨a, _, _, rfl, upd_same, l1, t1⟩
      have fin : ∀ x : Int, 0 ≤ x % m ∧ x % m < m := fun x => ⟨Int.emod_nonneg _ (by omega), Int.emod_lt_of_pos _ hm⟩
      refine ⟨_, rfl, _, _, rfl, rfl, _, rfl, ite2 (fun e => ?_) (fun e => ?_)⟩
      · exact ⟨_, rfl, _, rfl, _, _, rfl, rfl, hm, q _ _ k1 c1 (fin _).1 (fin _).2⟩
      · exact ⟨_, rfl, a, _, 1, _, rfl, rfl, .of upd_same, atI_nat (j := 1) rfl, _, _, rfl, rfl, ⟨by decide, by decide⟩, _, rfl, _, _, rfl, rfl, hm, q _ _ k1 c1 (fin _).1 (fin _).2⟩
def keptW : List Str := ["number", "not", "at", "add", "sub", "mul", "div", "rem", "less", "same", "set", "put", "tell", "if", "else", "end", "while", "call", "fail", "give", "row", "helper", "main"]
def sp__law_kept : Sp := fun vs H Q _ => vs = [] ∧ ∀ H' p, Same H H' → H p = none → H' p = some (.lst (keptW.map V.str)) → Q (.ref p) H'
theorem ok__law_kept (T : Top K mg) : FnOk P w K mg base CX0 1 (He.ga K "_law_kept") T.fd__law_kept [] sp__law_kept := by
  refine T.F__law_kept.ok sc__law_kept (fun vs H Q E h => ?_) (fun cdv A outer s H vs Q E hr h => ?_)
  · obtain ⟨rfl, _⟩ := h
    rfl
  · obtain ⟨rfl, q⟩ := h
    refine ⟨_, PSs.nox (pss_cons (ps_set (i := 0) sc__law_kept.nd rfl (Or.inl rfl) (pe_lst (pa_cons pe_str (pa_cons pe_str (pa_cons pe_str (pa_cons pe_str (pa_cons pe_str (pa_cons pe_str (pa_cons pe_str (pa_cons pe_str (pa_cons pe_str (pa_cons pe_str (pa_cons pe_str (pa_cons pe_str (pa_cons pe_str (pa_cons pe_str pa_nil))))))))))))))))
        (pss_one (ps_ret (pe_op op_cat (pv 0) (pe_lst (pa_cons pe_str (pa_cons pe_str (pa_cons pe_str (pa_cons pe_str (pa_cons pe_str (pa_cons pe_str (pa_cons pe_str (pa_cons pe_str (pa_cons pe_str pa_nil)))))))))))))), ?_⟩
    refine ⟨(by show 14 ≤ sizeLine; rw [sizeLine_eq]; decide), fun p1 n1 => ?_⟩
    refine ⟨_, rfl, (by show 9 ≤ sizeLine; rw [sizeLine_eq]; decide), fun p2 n2 => ?_⟩
    have e2 : p1 ≠ p2 := fun z => by
      rw [← z, upd_same] at n2
      cases n2
    refine ⟨p1, p2, _, _, rfl, rfl, by rw [upd_ne e2]; exact upd_same, upd_same, (by show 23 ≤ sizeLine; rw [sizeLine_eq]; decide), fun p3 n3 => ?_⟩
    have s1 := same_new (o := .lst ((keptW.take 14).map V.str)) n1
    have s2 := same_new (o := .lst ((keptW.drop 14).map V.str)) n2
    have s3 := same_new (o := .lst (keptW.map V.str)) n3
    exact q _ p3 (s1.trans (s2.trans s3)) ((s1.trans s2).free n3) upd_same
def abc : Str := "abcdefghijklmnopqrstuvwxyz"
def letr (k : Int) : Nat := 97 + (k % 26).toNat
theorem abc_at : ∀ i : Nat, i < 26 → abc.cps.toList[i]? = some (97 + i) := by decide +kernel
def sp__law_letter : Sp := fun vs H Q _ => ∃ k : Int, vs = [.int k] ∧ Q (.str ⟨#[letr k]⟩) H
theorem ok__law_letter (T : Top K mg) : FnOk P w K mg base CX0 1 (He.ga K "_law_letter") T.fd__law_letter ["_law_k"] sp__law_letter := by
  refine T.F__law_letter.ok sc__law_letter (fun vs H Q E h => ?_) (fun cdv A outer s H vs Q E hr h => ?_)
  · obtain ⟨k, rfl, _⟩ := h
    rfl
  · obtain ⟨k, rfl, q⟩ := h
    refine ⟨_, PSs.nox (pss_one (ps_ret (pe_ix ix_str pe_str (pe_op op_mod (pv 0) pe_int) (fun _ _ => rfl)))), ?_⟩
    have r0 : 0 ≤ k % 26 := Int.emod_nonneg _ (by decide)
    have r1 : k % 26 < 26 := Int.emod_lt_of_pos _ (by decide)
    refine ⟨_, rfl, _, _, rfl, rfl, (by show (0 : Int) < 26; decide), abc, k % 26, letr k, rfl, rfl, (by rw [sizeLine_eq]; decide +kernel), ?_, q⟩
    obtain ⟨i, hi⟩ := Int.eq_ofNat_of_zero_le r0
    unfold letr
    rw [hi]
    exact atI_nat (abc_at i (by omega))
end

/-! names, in plain words -/
def toS (l : List Nat) : Str := ⟨l.toArray⟩
theorem toS_list (l : List Nat) : (toS l).cps.toList = l := by simp [toS]
theorem toS_len (l : List Nat) : (toS l).length = l.length := by simp [toS, Str.length]
theorem of_toS (z : Str) : toS z.cps.toList = z := by
  cases z
  simp [toS]
theorem toS_inj {l m : List Nat} (h : toS l = toS m) : l = m := by rw [← toS_list l, h, toS_list]
theorem len_list (z : Str) : z.length = z.cps.toList.length := by simp [Str.length]
def isLet (c : Nat) : Prop := 97 ≤ c ∧ c ≤ 122
instance (c : Nat) : Decidable (isLet c) := inferInstanceAs (Decidable (97 ≤ c ∧ c ≤ 122))
structure IsNm (z : Str) : Prop where
  lo : 1 ≤ z.length
  hi : z.length ≤ 8
  let_ : ∀ c ∈ z.cps.toList, isLet c
  out : z ∉ keptW
theorem letr_let (k : Int) : isLet (letr k) := by
  unfold isLet letr
  have r0 : 0 ≤ k % 26 := Int.emod_nonneg _ (by decide)
  have r1 : k % 26 < 26 := Int.emod_lt_of_pos _ (by decide)
  omega
def nm1 (root : List Nat) (j c : Nat) : Str := toS (root.take j ++ [c] ++ root.drop j)
def nm2 (root : List Nat) (c : Nat) : Str := toS (c :: c :: root)
def nmF (root : List Nat) (j c : Nat) : Str := if nm1 root j c ∈ keptW then nm2 root c else nm1 root j c
theorem kept_two : ∀ x ∈ keptW, ∀ (c : Nat) (r : List Nat), x.cps.toList ≠ c :: c :: r := by
  have h : (keptW.all fun x => match x.cps.toList with | a :: b :: _ => a != b | _ => true) = true := by decide +kernel
  intro x hx c r e
  have := List.all_eq_true.mp h x hx
  rw [e] at this
  simp at this
theorem nm1_len {root : List Nat} {j c : Nat} : (nm1 root j c).length = root.length + 1 := by
  unfold nm1
  rw [toS_len]
  simp only [List.length_append, List.length_take, List.length_drop, List.length_cons, List.length_nil]
  omega
theorem nmF_ok {root : List Nat} {j c : Nat} (hr : ∀ x ∈ root, isLet x) (hl : root.length ≤ 6) (hc : isLet c) : IsNm (nmF root j c) := by
  unfold nmF
  split
  · refine ⟨?_, ?_, ?_, ?_⟩
    · unfold nm2
      rw [toS_len, List.length_cons]
      omega
    · unfold nm2
      rw [toS_len, List.length_cons, List.length_cons]
      omega
    · unfold nm2
      rw [toS_list]
      intro x hx
      rcases List.mem_cons.mp hx with rfl | hx
      · exact hc
      rcases List.mem_cons.mp hx with rfl | hx
      · exact hc
      exact hr x hx
    · intro h
      exact kept_two _ h c root (by unfold nm2; rw [toS_list])
  · rename_i h
    refine ⟨?_, ?_, ?_, h⟩
    · rw [nm1_len]
      omega
    · rw [nm1_len]
      omega
    · unfold nm1
      rw [toS_list]
      intro x hx
      rcases List.mem_append.mp hx with hx | hx
      · rcases List.mem_append.mp hx with hx | hx
        · exact hr x (List.mem_of_mem_take hx)
        · rw [List.mem_singleton.mp hx]
          exact hc
      · exact hr x (List.mem_of_mem_drop hx)
theorem nmF_inj {root : List Nat} {j c d : Nat} (hj : j ≤ root.length) (h : nmF root j c = nmF root j d) : c = d := by
  have l2 : ∀ x, (nm2 root x).length = root.length + 2 := fun x => by
    unfold nm2
    rw [toS_len]
    rfl
  unfold nmF at h
  split at h <;> split at h
  · have := toS_inj h
    injection this
  · have := congrArg Str.length h
    rw [l2, nm1_len] at this
    omega
  · have := congrArg Str.length h
    rw [l2, nm1_len] at this
    omega
  · have e := toS_inj h
    rw [List.append_assoc, List.append_assoc] at e
    have := List.append_cancel_left e
    injection this
def nameL (root : List Nat) (j : Nat) (st : Int) (n : Nat) : List Str := (List.range n).map fun k : Nat => nmF root j (letr (st + 5 * (k : Int)))
theorem letr_inj {st : Int} {k l : Nat} (hk : k < 16) (hl : l < 16) (h : letr (st + 5 * (k : Int)) = letr (st + 5 * (l : Int))) : k = l := by
  unfold letr at h
  omega
/-- sixteen unlike names -/
structure Nms (ns : List Str) : Prop where
  len : ns.length = 16
  nm : ∀ z ∈ ns, IsNm z
  nd : ns.Nodup
theorem nameL_ok {root : List Nat} {j : Nat} {st : Int} (hr : ∀ x ∈ root, isLet x) (hl : root.length ≤ 6) (hj : j ≤ root.length) : Nms (nameL root j st 16) := by
  refine ⟨by simp [nameL], fun z hz => ?_, ?_⟩
  · obtain ⟨k, _, rfl⟩ := List.mem_map.mp hz
    exact nmF_ok hr hl (letr_let _)
  · unfold nameL
    refine List.pairwise_map.mpr ?_
    refine List.Pairwise.imp_of_mem ?_ List.nodup_range
    intro a b ha hb hne e
    exact hne (letr_inj (List.mem_range.mp ha) (List.mem_range.mp hb) (nmF_inj hj e))
def nearW : List Str := ["adds", "en", "nota", "sett", "rows", "mai", "iff", "elses", "calls", "failed", "gives", "tel"]
def nearX : List Str := ["x", "xx", "xxx", "xxxx"]
def nmB (z : Str) : Bool := decide (1 ≤ z.length) && decide (z.length ≤ 8) && z.cps.toList.all (fun c => decide (isLet c)) && !(keptW.any fun x => decide (x = z))
theorem nmB_ok {z : Str} : nmB z = true ↔ IsNm z := by
  unfold nmB
  simp only [Bool.and_eq_true, decide_eq_true_eq, List.all_eq_true, Bool.not_eq_true', List.any_eq_false]
  constructor
  · rintro ⟨⟨⟨a, b⟩, c⟩, d⟩
    exact ⟨a, b, c, fun h => d z h rfl⟩
  · rintro ⟨a, b, c, d⟩
    exact ⟨⟨⟨a, b⟩, c⟩, fun x hx e => d (e ▸ hx)⟩
theorem near_ok : ∀ j : Nat, j < 12 → Nms (nearW.drop j ++ nearW.take j ++ nearX) := by
  have h1 : (List.range 12).all (fun j => decide ((nearW.drop j ++ nearW.take j ++ nearX).length = 16)) = true := by decide +kernel
  have h2 : (List.range 12).all (fun j => (nearW.drop j ++ nearW.take j ++ nearX).all nmB) = true := by decide +kernel
  have h3 : (List.range 12).all (fun j => decide ((nearW.drop j ++ nearW.take j ++ nearX).Nodup)) = true := by decide +kernel
  intro j hj
  refine ⟨of_decide_eq_true (List.all_eq_true.mp h1 j (List.mem_range.mpr hj)), fun z hz => nmB_ok.mp (List.all_eq_true.mp (List.all_eq_true.mp h2 j (List.mem_range.mpr hj)) z hz), of_decide_eq_true (List.all_eq_true.mp h3 j (List.mem_range.mpr hj))⟩
/-! texts cut and put together -/
theorem cutS_to (z : Str) (j : Nat) : cutS z none (some (j : Int)) = toS (z.cps.toList.take j) := by
  unfold cutS toS
  rw [HT.sIx_none, HT.sIx_nat, List.drop_zero, len_list, Nat.sub_zero]
  congr 2
  rw [← List.take_take, List.take_length]
theorem cutS_from (z : Str) (j : Nat) : cutS z (some (j : Int)) none = toS (z.cps.toList.drop j) := by
  unfold cutS toS
  rw [HT.sIx_none, HT.sIx_nat, len_list]
  congr 2
  rcases Nat.le_total j z.cps.toList.length with h | h
  · rw [Nat.min_eq_left h, List.take_of_length_le (by rw [List.length_drop]; omega)]
  · rw [Nat.min_eq_right h, List.drop_length, List.drop_of_length_le h, List.take_nil]
theorem add_toS (l m : List Nat) : toS l ++ toS m = toS (l ++ m) := by
  show (⟨l.toArray ++ m.toArray⟩ : Str) = _
  simp [toS]
theorem flat_strs (ws : List Str) : (ws.map V.str).all flatV = true := by
  rw [List.all_map]
  exact List.all_eq_true.mpr fun _ _ => rfl

theorem CellOk.same {H H' : Hp} {v : V} (h : CellOk H v) (k : Same H H') : CellOk H' v := by
  rcases h with h | ⟨a, l, t, e, ha, h1, h2⟩
  · exact .inl h
  · exact .inr ⟨a, l, t, e, k _ _ ha, h1, h2⟩
theorem CellOk.fresh {H : Hp} {v : V} {p : Addr} (h : CellOk H v) (k : H p = none) : ¬ cellS v p := by
  rcases h with ⟨c, rfl⟩ | ⟨a, l, t, rfl, ha, h1, h2⟩
  · intro z
    cases z
  · intro z
    cases z
    rw [k] at ha
    cases ha
theorem CellOk.upd {H : Hp} {v : V} {p : Addr} {o : HO} (h : CellOk H v) (k : ¬ cellS v p) : CellOk (upd H p o) v := by
  rcases h with h | ⟨a, l, t, rfl, ha, h1, h2⟩
  · exact .inl h
  · refine .inr ⟨a, l, t, rfl, ?_, h1, h2⟩
    rw [upd_ne (fun z => k (by rw [z]; rfl))]
    exact ha
theorem cutV_to (xs : List V) (j : Nat) : cutV xs none (some (j : Int)) = xs.take j := by
  unfold cutV
  rw [HT.sIx_none, HT.sIx_nat, List.drop_zero, Nat.sub_zero, ← List.take_take, List.take_length]
theorem cutV_from (xs : List V) (j : Nat) : cutV xs (some (j : Int)) none = xs.drop j := by
  unfold cutV
  rw [HT.sIx_none, HT.sIx_nat]
  rcases Nat.le_total j xs.length with h | h
  · rw [Nat.min_eq_left h, List.take_of_length_le (by rw [List.length_drop]; omega)]
  · rw [Nat.min_eq_right h, List.drop_length, List.drop_of_length_le h, List.take_nil]
theorem Str_len_append (a b : Str) : (a ++ b).length = a.length + b.length := by
  show (a.cps ++ b.cps).size = _
  rw [Array.size_append]
  rfl
theorem join_ones (ls : List Nat) : Txt.join Str.empty (ls.map fun c => toS [c]) = toS ls := by
  rw [TL.join_eq]
  have h : ∀ l : List Nat, (Str.join Str.empty (l.map fun c => toS [c])).cps.toList = l := by
    intro l
    induction l with
    | nil => rfl
    | cons x r ih =>
      cases r with
      | nil => rfl
      | cons y r =>
        show ((toS [x] ++ Str.empty) ++ Str.join Str.empty ((y :: r).map fun c => toS [c])).cps.toList = _
        show (((toS [x]).cps ++ Str.empty.cps) ++ (Str.join Str.empty ((y :: r).map fun c => toS [c])).cps).toList = _
        rw [Array.toList_append, Array.toList_append, ih]
        rfl
  rw [← of_toS (Str.join _ _), h]
section
variable {P : Program} {w : World} {K : PySem.W.Frag} {mg : Str → Option Value} {base : Heap}
def sp__law_names : Sp := fun vs H Q _ => ∃ c : Int, vs = [.int c] ∧ ∀ H' p ns, Same H H' → H p = none → H' p = some (.lst (ns.map V.str)) → Nms ns → Q (.ref p) H'
theorem ok__law_names (T : Top K mg) : FnOk P w K mg base CX0 2 (He.ga K "_law_names") T.fd__law_names ["_law_cell"] sp__law_names := by
  have G__law_held := ok__law_held (P := P) (w := w) (base := base) T
  have G__law_mixed := ok__law_mixed (P := P) (w := w) (base := base) T
  have G__law_kept := ok__law_kept (P := P) (w := w) (base := base) T
  have G__law_letter := ok__law_letter (P := P) (w := w) (base := base) T
  refine T.F__law_names.ok sc__law_names (fun vs H Q E h => ?_) (fun cdv A outer s H vs Q E hr h => ?_)
  · obtain ⟨c, rfl, _⟩ := h
    rfl
  · obtain ⟨c, rfl, q⟩ := h
    refine ⟨_, PSs.nox (pss_cons (ps_set (i := 0) sc__law_names.nd rfl (Or.inr rfl) (pe_call G__law_held (hr.mono (by omega)) (by rfl) T.g__law_held T.F__law_held.kp T.b__law_held .nil pass0 (pa_cons (pv 0) pa_nil)))
        (pss_cons (ps_if (pt_cmpR op_eq (pe_call G__law_mixed (hr.mono (by omega)) (by rfl) T.g__law_mixed T.F__law_mixed.kp T.b__law_mixed .nil pass0 (pa_cons (pv 0) (pa_cons pe_int (pa_cons pe_int pa_nil)))) pe_int (nomark _)) (pss_cons (ps_set (i := 1) sc__law_names.nd rfl (Or.inl rfl) (pe_lst (pa_cons pe_str (pa_cons pe_str (pa_cons pe_str (pa_cons pe_str (pa_cons pe_str (pa_cons pe_str (pa_cons pe_str (pa_cons pe_str (pa_cons pe_str (pa_cons pe_str (pa_cons pe_str (pa_cons pe_str pa_nil))))))))))))))
        (pss_cons (ps_set (i := 2) sc__law_names.nd rfl (Or.inl rfl) (pe_call G__law_mixed (hr.mono (by omega)) (by rfl) T.g__law_mixed T.F__law_mixed.kp T.b__law_mixed .nil pass0 (pa_cons (pv 0) (pa_cons pe_int (pa_cons pe_int pa_nil)))))
        (pss_one (ps_ret (pe_op op_cat (pe_op op_cat (pe_slice sl_list (pv 1) (po_some (pv 2)) po_none) (pe_slice sl_list (pv 1) po_none (po_some (pv 2)))) (pe_lst (pa_cons pe_str (pa_cons pe_str (pa_cons pe_str (pa_cons pe_str pa_nil)))))))))) pss_nil)
        (pss_cons (ps_set (i := 3) sc__law_names.nd rfl (Or.inl rfl) (pe_join pe_str (pe_lc (own := [("_law_j", 9)]) (by rfl) sc__law_names.nd (pi_range1 (by rfl) T.m_range (pa_cons (pe_call G__law_mixed (hr.mono (by omega)) (by rfl) T.g__law_mixed T.F__law_mixed.kp T.b__law_mixed .nil pass0 (pa_cons (pv 0) (pa_cons pe_int (pa_cons pe_int pa_nil)))) pa_nil)) (blkOk_by (own := [("_law_j", 9)]) (N := N__law_names) (sc := defScope s__law_names) (by decide +kernel)) (fun _ _ _ _ _ => (pg_name (i := 9) sc__law_names.nd rfl (Or.inl rfl))) (fun _ _ _ _ _ => pts_nil) (fun _ _ _ _ _ => (pe_call G__law_letter (hr.mono (by omega)) (by rfl) T.g__law_letter T.F__law_letter.kp T.b__law_letter .nil pass0 (pa_cons (pe_call G__law_mixed (hr.mono (by omega)) (by rfl) T.g__law_mixed T.F__law_mixed.kp T.b__law_mixed .nil pass0 (pa_cons (pv 0) (pa_cons (pe_op op_add pe_int (pv 9)) (pa_cons pe_int pa_nil)))) pa_nil))))))
        (pss_cons (ps_set (i := 2) sc__law_names.nd rfl (Or.inl rfl) (pe_call G__law_mixed (hr.mono (by omega)) (by rfl) T.g__law_mixed T.F__law_mixed.kp T.b__law_mixed .nil pass0 (pa_cons (pv 0) (pa_cons pe_int (pa_cons (pe_op op_add (pe_callB call_len_str (by rfl) T.m_len (by decide +kernel) (pa_cons (pv 3) pa_nil)) pe_int) pa_nil)))))
        (pss_cons (ps_set (i := 4) sc__law_names.nd rfl (Or.inl rfl) (pe_lst pa_nil))
        (pss_cons (ps_set (i := 5) sc__law_names.nd rfl (Or.inl rfl) (pe_call G__law_mixed (hr.mono (by omega)) (by rfl) T.g__law_mixed T.F__law_mixed.kp T.b__law_mixed .nil pass0 (pa_cons (pv 0) (pa_cons pe_int (pa_cons pe_int pa_nil)))))
        (pss_cons (ps_for PassesOwn.never (by rfl) (pi_range1 (by rfl) T.m_range (pa_cons pe_int pa_nil)) (pg_name (i := 6) sc__law_names.nd rfl (Or.inl rfl)) (pss_cons (ps_set (i := 7) sc__law_names.nd rfl (Or.inl rfl) (pe_call G__law_letter (hr.mono (by omega)) (by rfl) T.g__law_letter T.F__law_letter.kp T.b__law_letter .nil pass0 (pa_cons (pe_op op_add (pv 5) (pe_op op_mul pe_int (pv 6))) pa_nil)))
        (pss_cons (ps_set (i := 8) sc__law_names.nd rfl (Or.inl rfl) (pe_op op_add_str (pe_op op_add_str (pe_slice sl_str (pv 3) po_none (po_some (pv 2))) (pv 7)) (pe_slice sl_str (pv 3) (po_some (pv 2)) po_none)))
        (pss_cons (ps_if (pt_cmpR op_in_seq (pv 8) (pe_call0 G__law_kept (hr.mono (by omega)) (by rfl) T.g__law_kept T.F__law_kept.kp T.b__law_kept .nil pass0) (by rfl)) (pss_one (ps_set (i := 8) sc__law_names.nd rfl (Or.inl rfl) (pe_op op_add_str (pe_op op_add_str (pv 7) (pv 7)) (pv 3)))) pss_nil)
        (pss_one (ps_expr (pe_bm PySem.F.plainAttrs_list PySem.F.slot_list_append PySem.F.type_list_append mt_append (pv 4) (pa_cons (pv 8) pa_nil))))))))
        (pss_one (ps_ret (pv 4)))))))))), ?_⟩
    refine ⟨_, rfl, c, rfl, fun H1 v s1 c1 f1 => ?_⟩
    have nS : ∀ b, cellS v b → H b = none := fun b e => f1 b e
    refine ⟨_, rfl, v, 1, 5, rfl, c1, by decide, by decide, by decide, by decide, fun H2 r k2 c2 _ _ => ?_⟩
    have s2 := Kp.same s1 k2 nS
    refine ⟨rfl, _, rfl, ite2 (fun _ => ?_) (fun _ => ?_)⟩
    · refine ⟨(by show 12 ≤ sizeLine; rw [sizeLine_eq]; decide), fun p1 n1 => ?_⟩
      have s3 := s2.trans (same_new (o := .lst (nearW.map V.str)) n1)
      have c3 : CellOk (upd H2 p1 (.lst (nearW.map V.str))) v := c2.same (same_new n1)
      have nc : ¬ cellS v p1 := c2.fresh n1
      refine ⟨_, rfl, v, 2, 12, rfl, c3, by decide, by decide, by decide, by decide, fun H4 j k4 c4 j0 j1 => ?_⟩
      have s4 := Kp.same s3 k4 nS
      have e4 : H4 p1 = some (.lst (nearW.map V.str)) := k4 _ _ upd_same fun z => absurd z nc
      obtain ⟨j, rfl⟩ := Int.eq_ofNat_of_zero_le j0
      refine ⟨_, rfl, _, rfl, _, rfl, p1, _, rfl, .of e4, fun p2 n2 => ?_⟩
      have s5 := same_new (o := .lst (cutV (nearW.map V.str) (some (j : Int)) none)) n2
      refine ⟨_, rfl, _, rfl, _, rfl, p1, _, rfl, .of (s5 _ _ e4), fun p3 n3 => ?_⟩
      have s6 := same_new (o := .lst (cutV (nearW.map V.str) none (some (j : Int)))) n3
      have l1 : ∀ a b, (cutV (nearW.map V.str) a b).length ≤ 12 := fun a b => cutV_length _ _ _
      have b1 := l1 (some (j : Int)) none
      have b2 := l1 none (some (j : Int))
      refine ⟨p2, p3, _, _, rfl, rfl, s6 _ _ upd_same, upd_same, (by rw [sizeLine_eq]; omega), fun p4 n4 => ?_⟩
      have s7 := same_new (o := .lst (cutV (nearW.map V.str) (some (j : Int)) none ++ cutV (nearW.map V.str) none (some (j : Int)))) n4
      refine ⟨(by show 4 ≤ sizeLine; rw [sizeLine_eq]; decide), fun p5 n5 => ?_⟩
      have s8 := same_new (o := .lst (nearX.map V.str)) n5
      refine ⟨p4, p5, _, _, rfl, rfl, s8 _ _ upd_same, upd_same, (by rw [sizeLine_eq, List.length_append]; simp only [List.length_cons, List.length_nil]; omega), fun p6 n6 => ?_⟩
      have s9 := (s4.trans (s5.trans (s6.trans (s7.trans s8))))
      refine q _ p6 (nearW.drop j ++ nearW.take j ++ nearX) (s9.trans (same_new n6)) (s9.free n6) ?_ (near_ok j (by omega))
      rw [upd_same, cutV_from, cutV_to, List.map_append, List.map_append, List.map_drop, List.map_take]
      rfl
    · have s3 : ∀ H3, Kp (cellS v) H2 H3 → Same H H3 := fun H3 k3 => Kp.same s2 k3 nS
      refine ⟨⟨_, rfl⟩, _, rfl, v, 2, 7, rfl, c2, by decide, by decide, by decide, by decide, fun H3 n k3 c3 n0 n1 => ?_⟩
      refine ⟨n, rfl, by omega, by omega, fun D nD => ?_⟩
      have nc : ¬ cellS v D := c3.fresh nD
      have nH : H D = none := (s3 _ k3).free nD
      refine lc_range (lo := 0) (n := n.toNat) (fun i H' => Kp (cellS v) H2 H' ∧ CellOk H' v ∧ ∃ ls : List Nat, ls.length = i ∧ (∀ x ∈ ls, isLet x) ∧ H' D = some (.lst ((ls.map fun c => toS [c]).map V.str))) ?_ ?_ ?_
      · exact ⟨k3.trans (.of_same (same_new nD)), c3.same (same_new nD), [], rfl, by simp, upd_same⟩
      · rintro i H' hi ⟨k4, c4, ls, l1, l2, l3⟩
        refine ⟨rfl, _, rfl, _, rfl, _, _, rfl, rfl, v, 3 + (0 + (i : Int)), 26, rfl, c4, by omega, by omega, by decide, by decide, fun H5 r5 k5 c5 r50 r51 => ?_⟩
        have e5 : H5 D = some (.lst ((ls.map fun c => toS [c]).map V.str)) := k5 _ _ l3 fun z => absurd z nc
        refine ⟨r5, rfl, _, e5, ?_, ?_, ?_, ls ++ [letr r5], ?_, ?_, ?_⟩
        · rw [List.length_map, List.length_map, l1, sizeLine_eq]
          omega
        · refine fun b o hb hk => ?_
          have nb : b ≠ D := fun z => by
            subst z
            have h2 : H3 b = some o := k3 b o hb hk
            rw [nD] at h2
            cases h2
          rw [upd_ne nb]
          exact (k4.trans k5) b o hb hk
        · exact c5.upd nc
        · rw [List.length_append, l1]
          rfl
        · intro x hx
          rcases List.mem_append.mp hx with hx | hx
          · exact l2 x hx
          · rw [List.mem_singleton.mp hx]
            exact letr_let _
        · rw [upd_same, List.map_append, List.map_append]
          rfl
      · rintro H' ⟨k4, c4, root, l1, l2, l3⟩
        have hl : root.length ≤ 6 := by omega
        refine ⟨Str.empty, D, _, rfl, rfl, .inl (.of l3), ?_, ?_⟩
        · rw [List.map_map]
          have e1 : (root.map ((·.length) ∘ fun c => toS [c])) = root.map fun _ => 1 := by
            apply List.map_congr_left
            intro x _
            rw [Function.comp_apply, toS_len]
            rfl
          rw [e1]
          have e2 : ∀ l : List Nat, (l.map fun _ => 1).sum = l.length := by
            intro l
            induction l with
            | nil => rfl
            | cons x r ih => rw [List.map_cons, List.sum_cons, ih, List.length_cons]; omega
          rw [e2]
          have e3 : Str.empty.length = 0 := rfl
          rw [e3]
          omega
        rw [join_ones]
        generalize hz : toS root = z
        have zl : z.length = root.length := by rw [← hz, toS_len]
        have zc : z.cps.toList = root := by rw [← hz, toS_list]
        refine ⟨_, rfl, _, rfl, z, rfl, by rw [zl, sizeLine_eq]; omega, _, _, rfl, rfl, v, 9, (z.length : Int) + 1, rfl, c4, by decide, by decide, by omega, by rw [zl]; omega, fun H5 j k5 c5 j0 j1 => ?_⟩
        obtain ⟨j, rfl⟩ := Int.eq_ofNat_of_zero_le j0
        have hj : j ≤ root.length := by omega
        refine ⟨Nat.zero_le _, fun L nL => ?_⟩
        have k6 : Kp (cellS v) H2 (upd H5 L (.lst [])) := (k4.trans k5).trans (.of_same (same_new nL))
        have c6 : CellOk (upd H5 L (.lst [])) v := c5.same (same_new nL)
        have ncL : ¬ cellS v L := c5.fresh nL
        have nHL : H L = none := (s3 _ (k4.trans k5)).free nL
        refine ⟨_, rfl, v, 10, 26, rfl, c6, by decide, by decide, by decide, by decide, fun H7 st k7 c7 st0 st1 => ?_⟩
        have e7 : H7 L = some (.lst []) := k7 _ _ upd_same fun z => absurd z ncL
        have sm7 := s3 _ (k6.trans k7)
        refine ⟨16, rfl, by decide, by decide, for_range (lo := 0) (n := 16) (fun i σ' H' => Same H H' ∧ H' L = some (.lst ((nameL root j st i).map V.str)) ∧ ∃ x6 x7 x8 x9, σ' = [some v, none, some (.int j), some (.str z), some (.ref L), some (.int st), x6, x7, x8, x9]) ?_ ?_ ?_⟩
        · exact ⟨sm7, e7, none, none, none, none, rfl⟩
        · rintro i σ' H8 hi ⟨s8, e8, x6, x7, x8, x9, rfl⟩
          refine ⟨_, rfl, _, rfl, _, _, rfl, rfl, .inl ⟨by decide, by decide⟩, _, _, rfl, rfl, _, rfl, ?_⟩
          generalize hc : letr (st + 5 * (0 + (i : Int))) = c
          have zb : z.length ≤ sizeLine := by rw [zl, sizeLine_eq]; omega
          have hcs : ∀ a b, (cutS z a b).length ≤ 6 := fun a b => by
            unfold cutS
            show (List.toArray _).size ≤ 6
            rw [List.size_toArray, List.length_take, List.length_drop, ← len_list]
            omega
          have h1 := hcs none (some (j : Int))
          have h2 := hcs (some (j : Int)) none
          have h3 : (⟨#[c]⟩ : Str).length = 1 := rfl
          refine ⟨_, rfl, _, rfl, _, rfl, z, rfl, zb, _, rfl, _, _, rfl, rfl, by rw [h3, sizeLine_eq]; omega, ?_⟩
          refine ⟨_, rfl, _, rfl, _, rfl, z, rfl, zb, _, _, rfl, rfl, ?_, ?_⟩
          · have := Str_len_append (cutS z none (some (j : Int))) ⟨#[c]⟩
            rw [this, h3, sizeLine_eq]
            omega
          rw [show (cutS z none (some (j : Int)) ++ (⟨#[c]⟩ : Str)) ++ cutS z (some (j : Int)) none = nm1 root j c by
            rw [cutS_to, cutS_from, show (⟨#[c]⟩ : Str) = toS [c] from rfl, add_toS, add_toS, zc]
            rfl]
          dsimp only [gName]
          refine ifs_by (fun σ' H' => Same H H' ∧ H' L = some (.lst ((nameL root j st i).map V.str)) ∧ ∃ x6 x7, σ' = [some v, none, some (.int j), some (.str z), some (.ref L), some (.int st), x6, x7, some (.str (nmF root j c)), x9]) ?_ ?_
          · rintro σ' H9 ⟨s9, e9, x6, x7, rfl⟩
            refine ⟨_, rfl, .inl ⟨rfl, _, .of e9⟩, _, rfl, L, _, _, rfl, rfl, e9, ?_, ?_, ?_, ?_⟩
            · unfold nameL
              rw [List.length_map, List.length_map, List.length_range, sizeLine_eq]
              omega
            · intro b o hb
              rw [upd_ne (ne_of_none hb nHL)]
              exact s9 b o hb
            · rw [upd_same]
              unfold nameL
              rw [List.range_succ, List.map_append, List.map_append, ← hc, Int.zero_add]
              rfl
            · exact ⟨_, _, _, _, rfl⟩
          · intro N hN
            refine ⟨_, rfl, rfl, fun H9 pk s9 npk epk => ?_⟩
            have e9 := s9 _ _ e8
            refine ⟨pk, _, rfl, .inl (.of epk), rfl, flat_strs _, _, rfl, ?_⟩
            dsimp only
            rw [if_neg Bool.false_ne_true, in_strs]
            refine ite2 (fun e => ?_) (fun e => ?_)
            · have ek := of_decide_eq_true e
              refine ⟨_, rfl, _, rfl, _, _, rfl, rfl, by rw [h3, sizeLine_eq]; decide, _, rfl, _, _, rfl, rfl, ?_, ?_⟩
              · have := Str_len_append (⟨#[c]⟩ : Str) ⟨#[c]⟩
                rw [this, h3, zl, sizeLine_eq]
                omega
              · refine hN _ _ ⟨s8.trans s9, e9, some (.int (0 + (i : Int))), some (.str ⟨#[c]⟩), ?_⟩
                rw [show nmF root j c = nm2 root c from if_pos ek]
                rw [show ((⟨#[c]⟩ : Str) ++ ⟨#[c]⟩) ++ z = nm2 root c by
                  rw [← hz, show (⟨#[c]⟩ : Str) = toS [c] from rfl, add_toS, add_toS]
                  rfl]
                rfl
            · have ek : ¬ nm1 root j c ∈ keptW := fun z => e (decide_eq_true z)
              refine hN _ _ ⟨s8.trans s9, e9, some (.int (0 + (i : Int))), some (.str ⟨#[c]⟩), ?_⟩
              rw [show nmF root j c = nm1 root j c from if_neg ek]
              rfl
        · rintro σ' H8 ⟨s8, e8, x6, x7, x8, x9, rfl⟩
          exact ⟨_, rfl, q _ L _ s8 nHL e8 (nameL_ok l2 hl hj)⟩
end

def wds7 : List Str := ["add", "sub", "mul", "div", "rem", "less", "same"]
def Ex.Wf (nms rws : List Str) : Nat → Ex → Prop
  | 0, _ => False
  | _ + 1, .num n => In32 n
  | _ + 1, .nam x => x ∈ nms
  | d + 1, .at_ r e => r ∈ rws ∧ e.Wf nms rws d
  | d + 1, .no e => e.Wf nms rws d
  | d + 1, .op w a b => w ∈ wds7 ∧ a.Wf nms rws d ∧ b.Wf nms rws d
theorem Ex.Wf.mono {nms rws : List Str} : ∀ {d k : Nat} {e : Ex}, d ≤ k → e.Wf nms rws d → e.Wf nms rws k
  | 0, _, _, _, h => h.elim
  | d + 1, 0, _, hk, _ => by omega
  | d + 1, k + 1, .num n, _, h => h
  | d + 1, k + 1, .nam x, _, h => h
  | d + 1, k + 1, .at_ r e, hk, h => ⟨h.1, Ex.Wf.mono (d := d) (by omega) h.2⟩
  | d + 1, k + 1, .no e, hk, h => Ex.Wf.mono (d := d) (e := e) (by omega) h
  | d + 1, k + 1, .op w a b, hk, h => ⟨h.1, Ex.Wf.mono (d := d) (by omega) h.2.1, Ex.Wf.mono (d := d) (by omega) h.2.2⟩
/-- names, rows and heads that a drawer is handed -/
structure Info (K : PySem.W.Frag) (H : Hp) (v : V) (nms rws : List Str) (hds : List (Str × Nat)) (a b c : Addr) : Prop where
  tup : ∃ p, v = .ref p ∧ SqT K H p [.ref a, .ref b, .ref c]
  a : H a = some (.lst (nms.map V.str))
  b : H b = some (.lst (rws.map V.str))
  c : ∃ hs, H c = some (.lst hs) ∧ DpAll K H hs (hds.map fun q => .tuple [.str q.1, .int q.2])
theorem heads_noL (hds : List (Str × Nat)) : nLs (hds.map fun q => .tuple [.str q.1, .int q.2]) = true := noLs_all fun x hx => by
  obtain ⟨q, _, rfl⟩ := List.mem_map.mp hx
  rfl
def Off (S : Addr → Prop) (a b c : Addr) : Prop := ¬ S a ∧ ¬ S b ∧ ¬ S c
theorem Info.kp {K : PySem.W.Frag} {H H' : Hp} {v : V} {nms rws : List Str} {hds : List (Str × Nat)} {a b c : Addr} {S : Addr → Prop} (h : Info K H v nms rws hds a b c) (k : Kp S H H') (o : Off S a b c) : Info K H' v nms rws hds a b c := by
  obtain ⟨⟨p, rfl, h1⟩, h2, h3, hs, h4, h5⟩ := h
  exact ⟨⟨p, rfl, sqT_kp k h1⟩, k _ _ h2 fun z => absurd z o.1, k _ _ h3 fun z => absurd z o.2.1, hs, k _ _ h4 fun z => absurd z o.2.2, dpAll_kp k _ _ (heads_noL hds) h5⟩
section
variable {P : Program} {w : World} {K : PySem.W.Frag} {mg : Str → Option Value} {base : Heap}
def sp__law_number_by : Sp := fun vs H Q _ => ∃ (v : V) (k : Int), vs = [v, .int k] ∧ CellOk H v ∧ 0 ≤ k ∧ k < 1000 ∧ ∀ H' n, Kp (cellS v) H H' → CellOk H' v → In32 n → Q (.int n) H'
theorem ok__law_number_by (T : Top K mg) : FnOk P w K mg base CX0 2 (He.ga K "_law_number_by") T.fd__law_number_by ["_law_cell", "_law_k"] sp__law_number_by := by
  have G__law_mixed := ok__law_mixed (P := P) (w := w) (base := base) T
  refine T.F__law_number_by.ok sc__law_number_by (fun vs H Q E h => ?_) (fun cdv A outer s H vs Q E hr h => ?_)
  · obtain ⟨v, k, rfl, _⟩ := h
    rfl
  · obtain ⟨v, k, rfl, hv, h0, h1, q⟩ := h
    refine ⟨_, PSs.nox (pss_cons (ps_set (i := 2) sc__law_number_by.nd rfl (Or.inl rfl) (pe_lst (pa_cons pe_int (pa_cons pe_int (pa_cons (pe_un un_neg pe_int) (pa_cons pe_int (pa_cons pe_int (pa_cons pe_int (pa_cons pe_int (pa_cons (pe_un un_neg pe_int) (pa_cons (pe_op op_sub (pe_call G__law_mixed (hr.mono (by omega)) (by rfl) T.g__law_mixed T.F__law_mixed.kp T.b__law_mixed .nil pass0 (pa_cons (pv 0) (pa_cons (pv 1) (pa_cons pe_int pa_nil)))) pe_int) (pa_cons pe_int (pa_cons (pe_call G__law_mixed (hr.mono (by omega)) (by rfl) T.g__law_mixed T.F__law_mixed.kp T.b__law_mixed .nil pass0 (pa_cons (pv 0) (pa_cons (pv 1) (pa_cons pe_int pa_nil)))) pa_nil)))))))))))))
        (pss_cons (ps_if (pt_val (pe_callB call_isi (by rfl) T.m_isinstance (by decide +kernel) (pa_cons (pv 0) (pa_cons (pe_bltn (v := .ty "list") (by rfl) T.m_list (by decide +kernel) rfl) pa_nil)))) (pss_one (ps_asg (pe_op op_sub (pe_call G__law_mixed (hr.mono (by omega)) (by rfl) T.g__law_mixed T.F__law_mixed.kp T.b__law_mixed .nil pass0 (pa_cons (pv 0) (pa_cons (pv 1) (pa_cons pe_int pa_nil)))) pe_int) (pg_sub (pv 2) pe_int set_list))) pss_nil)
        (pss_one (ps_ret (pe_ix ix_list (pv 2) (pe_call G__law_mixed (hr.mono (by omega)) (by rfl) T.g__law_mixed T.F__law_mixed.kp T.b__law_mixed .nil pass0 (pa_cons (pv 0) (pa_cons (pe_op op_add (pv 1) pe_int) (pa_cons pe_int pa_nil)))) (fun _ _ => rfl)))))), ?_⟩
    refine ⟨_, rfl, _, rfl, _, rfl, _, rfl, v, k, 200, rfl, hv, h0, by omega, by decide, by decide, fun H1 r1 k1 c1 r10 r11 => ?_⟩
    refine ⟨_, _, rfl, rfl, _, rfl, _, rfl, v, k, 10, rfl, c1, h0, by omega, by decide, by decide, fun H2 r2 k2 c2 r20 r21 => ?_⟩
    refine ⟨(by show 11 ≤ sizeLine; rw [sizeLine_eq]; decide), fun L nL => ?_⟩
    have k3 : Kp (cellS v) H (upd H2 L (.lst (([0, 1, -1, 2, 3, 5, 2147483647, -2147483648, r1 - 100, 65536, r2] : List Int).map V.int))) := (k1.trans k2).trans (.of_same (same_new nL))
    have c3 : CellOk (upd H2 L (.lst (([0, 1, -1, 2, 3, 5, 2147483647, -2147483648, r1 - 100, 65536, r2] : List Int).map V.int))) v := c2.same (same_new nL)
    have nc : ¬ cellS v L := c2.fresh nL
    have nH : ∀ H', Kp (cellS v) H H' → H' L = none → H L = none := fun H' k' e => by
      cases z : H L with
      | none => rfl
      | some o =>
        have := k' _ _ z fun y => absurd y nc
        rw [e] at this
        cases this
    have nHL := nH _ (k1.trans k2) nL
    dsimp only [gName]
    refine ifs_by (fun σ' H' => Kp (cellS v) H H' ∧ CellOk H' v ∧ ∃ x : Int, In32 x ∧ H' L = some (.lst (([0, 1, -1, 2, x, 5, 2147483647, -2147483648, r1 - 100, 65536, r2] : List Int).map V.int)) ∧ σ' = [some v, some (.int k), some (.ref L)]) ?_ ?_
    · rintro σ' H4 ⟨k4, c4, x, hx, e4, rfl⟩
      refine ⟨_, rfl, _, rfl, _, rfl, _, _, rfl, rfl, v, k + 1, 11, rfl, c4, by omega, by omega, by decide, by decide, fun H5 j k5 c5 j0 j1 => ?_⟩
      have e5 : H5 L = some (.lst (([0, 1, -1, 2, x, 5, 2147483647, -2147483648, r1 - 100, 65536, r2] : List Int).map V.int)) := k5 _ _ e4 fun z => absurd z nc
      refine ⟨L, _, j, _, rfl, rfl, .of e5, at_ints j0 j1, q _ _ (k4.trans k5) c5 ?_⟩
      refine getD_all (fun y hy => ?_) j0 j1
      simp only [List.mem_cons, List.not_mem_nil, or_false] at hy
      obtain ⟨x1, x2⟩ := hx
      unfold In32
      omega
    · intro N hN
      rcases c3 with ⟨c, rfl⟩ | ⟨a, l, t, rfl, ha, hl, ht⟩
      · refine ⟨_, rfl, _, _, _, _, false, rfl, .ty _, .base (.int c), kit_ty (by decide +kernel), false, rfl, ?_⟩
        exact hN _ _ ⟨k3, .inl ⟨_, rfl⟩, 3, by unfold In32; decide, upd_same, rfl⟩
      · refine ⟨_, rfl, _, _, _, _, true, rfl, .ty _, .base (.lst ha), kit_ty (by decide +kernel), true, rfl, ?_⟩
        refine ⟨_, rfl, _, rfl, .ref a, k, 4294967296, rfl, .inr ⟨a, l, t, rfl, ha, hl, ht⟩, h0, by omega, by decide, by decide, fun H5 r k5 c5 r0 r1 => ?_⟩
        have e5 := k5 _ _ (upd_same (H := H2) (a := L)) fun z => absurd z nc
        refine ⟨_, _, rfl, rfl, _, rfl, L, _, 4, 4, rfl, rfl, e5, rfl, ?_⟩
        refine hN _ _ ⟨?_, c5.upd nc, r - 2147483648, ⟨by omega, by omega⟩, upd_same, rfl⟩
        intro b o hb hk
        have nb : b ≠ L := ne_of_none hb nHL
        rw [upd_ne nb]
        exact (k3.trans k5) b o hb hk
def sp__law_within : Sp := fun vs H Q _ => ∃ (v : V) (k : Int), vs = [v, .int k] ∧ CellOk H v ∧ 0 ≤ k ∧ k < 1000 ∧ ∀ H' v', Kp (cellS v) H H' → CellOk H' v → CellOk H' v' → (v' = v ∨ ∃ c, v' = .int c) → Q v' H'
theorem ok__law_within (T : Top K mg) : FnOk P w K mg base CX0 2 (He.ga K "_law_within") T.fd__law_within ["_law_cell", "_law_k"] sp__law_within := by
  have G__law_mixed := ok__law_mixed (P := P) (w := w) (base := base) T
  refine T.F__law_within.ok sc__law_within (fun vs H Q E h => ?_) (fun cdv A outer s H vs Q E hr h => ?_)
  · obtain ⟨v, k, rfl, _⟩ := h
    rfl
  · obtain ⟨v, k, rfl, hv, h0, h1, q⟩ := h
    refine ⟨_, PSs.nox (pss_cons (ps_if (pt_val (pe_callB call_isi (by rfl) T.m_isinstance (by decide +kernel) (pa_cons (pv 0) (pa_cons (pe_bltn (v := .ty "list") (by rfl) T.m_list (by decide +kernel) rfl) pa_nil)))) (pss_one (ps_ret (pv 0))) pss_nil)
        (pss_one (ps_ret (pe_call G__law_mixed (hr.mono (by omega)) (by rfl) T.g__law_mixed T.F__law_mixed.kp T.b__law_mixed .nil pass0 (pa_cons (pv 0) (pa_cons (pv 1) (pa_cons pe_int pa_nil))))))), ?_⟩
    rcases hv with ⟨c, rfl⟩ | ⟨a, l, t, rfl, ha, hl, ht⟩
    · refine ⟨_, rfl, _, _, _, _, false, rfl, .ty _, .base (.int c), kit_ty (by decide +kernel), false, rfl, ?_⟩
      exact ⟨_, rfl, _, rfl, .int c, k, 1000003, rfl, .inl ⟨_, rfl⟩, h0, by omega, by decide, by decide, fun H1 r k1 c1 _ _ => q _ _ k1 c1 (.inl ⟨_, rfl⟩) (.inr ⟨_, rfl⟩)⟩
    · refine ⟨_, rfl, _, _, _, _, true, rfl, .ty _, .base (.lst ha), kit_ty (by decide +kernel), true, rfl, ?_⟩
      exact ⟨_, rfl, q _ _ Kp.refl (.inr ⟨a, l, t, rfl, ha, hl, ht⟩) (.inr ⟨a, l, t, rfl, ha, hl, ht⟩) (.inl rfl)⟩
theorem cellS_sub {v v' : V} (h : v' = v ∨ ∃ c, v' = .int c) : ∀ b, cellS v' b → cellS v b := by
  rcases h with rfl | ⟨c, rfl⟩
  · exact fun b z => z
  · intro b z
    cases z
end

section
variable {P : Program} {w : World} {K : PySem.W.Frag} {mg : Str → Option Value} {base : Heap}
theorem CellOk.or {H : Hp} {v v' : V} (h : v' = v ∨ ∃ c, v' = .int c) (c : CellOk H v) : CellOk H v' := by
  rcases h with rfl | ⟨c, rfl⟩
  · exact c
  · exact .inl ⟨_, rfl⟩
theorem Off.sub {S S' : Addr → Prop} {a b c : Addr} (o : Off S a b c) (h : ∀ x, S' x → S x) : Off S' a b c := ⟨fun z => o.1 (h _ z), fun z => o.2.1 (h _ z), fun z => o.2.2 (h _ z)⟩
theorem dp_same {H H' : Hp} {v : V} {d : PyData} (h : Dp K H v d) (k : Same H H') (n : nLd d = true) : Dp K H' v d := dp_kp (Kp.of_same (S := fun _ => False) k) d v n h
theorem dpAll_same {H H' : Hp} {v : List V} {d : List PyData} (h : DpAll K H v d) (k : Same H H') (n : nLs d = true) : DpAll K H' v d := dpAll_kp (Kp.of_same (S := fun _ => False) k) d v n h
theorem in_strs_at {zs : List Str} {i : Int} (h0 : 0 ≤ i) (h1 : i < zs.length) : ∃ z ∈ zs, atI (zs.map V.str) i = some (.str z) := by
  obtain ⟨x, hx, e⟩ := at_list (ns := zs.map V.str) h0 (by rw [List.length_map]; exact h1)
  obtain ⟨z, hz, rfl⟩ := List.mem_map.mp hx
  exact ⟨z, hz, e⟩
theorem cell_after {H H' : Hp} {v v1 : V} (h : v1 = v ∨ ∃ c, v1 = .int c) (c : CellOk H v) (k : Kp (cellS v1) H H') (c1 : CellOk H' v1) : CellOk H' v := by
  rcases h with rfl | ⟨n, rfl⟩
  · exact c1
  · exact c.same fun b o e => k b o e fun z => nomatch z
def sp_ex (K : PySem.W.Frag) (D : Nat) : Sp := fun vs H Q _ => ∃ (v vi : V) (d : Int) (nms rws : List Str) (hds : List (Str × Nat)) (a b c : Addr), vs = [v, .int d, vi] ∧ CellOk H v ∧ 1 ≤ d ∧ d ≤ D ∧ Info K H vi nms rws hds a b c ∧
  nms.length ≤ 16 ∧ rws.length ≤ 16 ∧ Off (cellS v) a b c ∧ ∀ H' r (e : Ex), Kp (cellS v) H H' → CellOk H' v → Dp K H' r e.d → e.Wf nms rws d.toNat → Q r H'
theorem ok__law_expression (T : Top K mg) : ∀ D : Nat, FnOk P w K mg base CX0 (D + 3) (He.ga K "_law_expression") T.fd__law_expression ["_law_cell", "_law_deep", "_law_info"] (sp_ex K D)
  | 0 => by
    refine T.F__law_expression.ok sc__law_expression (fun vs H Q E h => ?_) (fun cdv A outer s H vs Q E hr h => ?_)
    · obtain ⟨v, vi, d, nms, rws, hds, a, b, c, rfl, hv, h1, h2, _⟩ := h
      rfl
    · obtain ⟨v, vi, d, nms, rws, hds, a, b, c, rfl, hv, h1, h2, _⟩ := h
      exfalso
      have : d ≤ 0 := h2
      omega
  | D + 1 => by
    have G__law_mixed := ok__law_mixed (P := P) (w := w) (base := base) T
    have G__law_within := ok__law_within (P := P) (w := w) (base := base) T
    have G__law_number_by := ok__law_number_by (P := P) (w := w) (base := base) T
    have G__law_expression := ok__law_expression T D
    refine T.F__law_expression.ok sc__law_expression (fun vs H Q E h => ?_) (fun cdv A outer s H vs Q E hr h => ?_)
    · obtain ⟨v, vi, d, nms, rws, hds, a, b, c, rfl, _⟩ := h
      rfl
    · obtain ⟨v, vi, d, nms, rws, hds, a, b, c, rfl, hv, hd1, hd2, hI, hn, hw, ho, q⟩ := h
      refine ⟨_, PSs.nox (pss_cons (ps_par (i := 3) (j := 4) (by rfl) sc__law_expression.nd rfl rfl (by decide) rfl rfl (pa_cons (pe_ix ix_tup (pv 2) pe_int (fun _ _ => rfl)) (pa_cons (pe_ix ix_tup (pv 2) pe_int (fun _ _ => rfl)) pa_nil)) (by rfl))
        (pss_cons (ps_set (i := 5) sc__law_expression.nd rfl (Or.inl rfl) (pe_call G__law_mixed (hr.mono (by omega)) (by rfl) T.g__law_mixed T.F__law_mixed.kp T.b__law_mixed .nil pass0 (pa_cons (pv 0) (pa_cons pe_int (pa_cons pe_int pa_nil)))))
        (pss_cons (ps_set (i := 6) sc__law_expression.nd rfl (Or.inl rfl) (pe_call G__law_within (hr.mono (by omega)) (by rfl) T.g__law_within T.F__law_within.kp T.b__law_within .nil pass0 (pa_cons (pv 0) (pa_cons pe_int pa_nil))))
        (pss_cons (ps_if (PW.pt (pw_or (pt_cmpR op_lt (pv 1) pe_int (nomark _)) (pw_or1 (pt_cmpR op_lt (pv 5) pe_int (nomark _))))) (pss_cons (ps_if (PW.pt (pw_or (pt_cmpR op_eq (pe_callB call_len_seq (by rfl) T.m_len (by decide +kernel) (pa_cons (pv 3) pa_nil)) pe_int (nomark _)) (pw_or1 (pt_cmpR op_eq (pe_op op_mod (pv 5) pe_int) pe_int (nomark _))))) (pss_one (ps_ret (pe_tup (pa_cons pe_str (pa_cons (pe_call G__law_number_by (hr.mono (by omega)) (by rfl) T.g__law_number_by T.F__law_number_by.kp T.b__law_number_by .nil pass0 (pa_cons (pv 0) (pa_cons pe_int pa_nil))) pa_nil))))) pss_nil)
        (pss_one (ps_ret (pe_tup (pa_cons pe_str (pa_cons (pe_ix ix_list (pv 3) (pe_call G__law_mixed (hr.mono (by omega)) (by rfl) T.g__law_mixed T.F__law_mixed.kp T.b__law_mixed .nil pass0 (pa_cons (pv 0) (pa_cons pe_int (pa_cons (pe_callB call_len_seq (by rfl) T.m_len (by decide +kernel) (pa_cons (pv 3) pa_nil)) pa_nil)))) (fun _ _ => rfl)) pa_nil)))))) pss_nil)
        (pss_cons (ps_if (PW.pt (pw_and (pt_cmpR op_eq (pv 5) pe_int (nomark _)) (pw_and1 (pt_cmpR op_gt (pe_callB call_len_seq (by rfl) T.m_len (by decide +kernel) (pa_cons (pv 4) pa_nil)) pe_int (nomark _))))) (pss_one (ps_ret (pe_tup (pa_cons pe_str (pa_cons (pe_ix ix_list (pv 4) (pe_call G__law_mixed (hr.mono (by omega)) (by rfl) T.g__law_mixed T.F__law_mixed.kp T.b__law_mixed .nil pass0 (pa_cons (pv 0) (pa_cons pe_int (pa_cons (pe_callB call_len_seq (by rfl) T.m_len (by decide +kernel) (pa_cons (pv 4) pa_nil)) pa_nil)))) (fun _ _ => rfl)) (pa_cons (pe_call G__law_expression (hr.mono (by omega)) (by rfl) T.g__law_expression T.F__law_expression.kp T.b__law_expression .nil pass0 (pa_cons (pv 6) (pa_cons (pe_op op_sub (pv 1) pe_int) (pa_cons (pv 2) pa_nil)))) pa_nil)))))) pss_nil)
        (pss_cons (ps_if (pt_cmpR op_eq (pv 5) pe_int (nomark _)) (pss_one (ps_ret (pe_tup (pa_cons pe_str (pa_cons (pe_call G__law_expression (hr.mono (by omega)) (by rfl) T.g__law_expression T.F__law_expression.kp T.b__law_expression .nil pass0 (pa_cons (pv 6) (pa_cons (pe_op op_sub (pv 1) pe_int) (pa_cons (pv 2) pa_nil)))) pa_nil))))) pss_nil)
        (pss_cons (ps_set (i := 7) sc__law_expression.nd rfl (Or.inl rfl) (pe_ix ix_list (pe_lst (pa_cons pe_str (pa_cons pe_str (pa_cons pe_str (pa_cons pe_str (pa_cons pe_str (pa_cons pe_str (pa_cons pe_str pa_nil)))))))) (pe_call G__law_mixed (hr.mono (by omega)) (by rfl) T.g__law_mixed T.F__law_mixed.kp T.b__law_mixed .nil pass0 (pa_cons (pv 0) (pa_cons pe_int (pa_cons pe_int pa_nil)))) (fun _ _ => rfl)))
        (pss_cons (ps_set (i := 8) sc__law_expression.nd rfl (Or.inl rfl) (pe_call G__law_expression (hr.mono (by omega)) (by rfl) T.g__law_expression T.F__law_expression.kp T.b__law_expression .nil pass0 (pa_cons (pe_call G__law_within (hr.mono (by omega)) (by rfl) T.g__law_within T.F__law_within.kp T.b__law_within .nil pass0 (pa_cons (pv 0) (pa_cons pe_int pa_nil))) (pa_cons (pe_op op_sub (pv 1) pe_int) (pa_cons (pv 2) pa_nil)))))
        (pss_one (ps_ret (pe_tup (pa_cons (pv 7) (pa_cons (pe_call G__law_expression (hr.mono (by omega)) (by rfl) T.g__law_expression T.F__law_expression.kp T.b__law_expression .nil pass0 (pa_cons (pv 6) (pa_cons (pe_op op_sub (pv 1) pe_int) (pa_cons (pv 2) pa_nil)))) (pa_cons (pv 8) pa_nil)))))))))))))), ?_⟩
      obtain ⟨pi, rfl, hT⟩ := hI.tup
      refine ⟨_, rfl, pi, _, 0, _, rfl, rfl, hT, atI_nat (j := 0) rfl, _, rfl, pi, _, 1, _, rfl, rfl, hT, atI_nat (j := 1) rfl, _, _, rfl, ?_⟩
      refine ⟨_, rfl, v, 0, 13, rfl, hv, by decide, by decide, by decide, by decide, fun H1 kd k1 c1 kd0 kd1 => ?_⟩
      refine ⟨_, rfl, v, 3, rfl, c1, by decide, by decide, fun H2 v1 k2 c2 c2' w1 => ?_⟩
      have k12 := k1.trans k2
      have I2 := hI.kp k12 ho
      have sub1 := cellS_sub w1
      have o1 := ho.sub sub1
      have d0 : ∃ n : Nat, d.toNat = n + 1 := ⟨d.toNat - 1, by omega⟩
      obtain ⟨n, hn1⟩ := d0
      have mk : ∀ (H' : Hp) (ds : List PyData) (xs : List V) (e : Ex), Kp (cellS v) H H' → CellOk H' v → DpAll K H' xs ds → e.d = .tuple ds → nLs ds = true → e.Wf nms rws d.toNat → xs.length ≤ sizeLine ∧ ∀ p, H' p = none → Q (.ref p) (upd H' p (.tup xs)) := by
        intro H' ds xs e k' c' h' he hno wf
        refine ⟨?_, fun p np => q _ _ e (k'.trans (.of_same (same_new np))) (c'.same (same_new np)) ?_ wf⟩
        · rw [dpAll_len h', sizeLine_eq]
          have : ds.length ≤ 3 := by
            cases e <;> (simp only [Ex.d] at he; injection he with he; subst he; simp)
          omega
        · rw [he]
          exact .tup (.of upd_same) (dpAll_same h' (same_new np) hno)
      dsimp only [gName]
      refine ifs_by (fun σ' H' => H' = H2 ∧ 2 ≤ d ∧ σ' = [some v, some (.int d), some (.ref pi), some (.ref a), some (.ref b), some (.int kd), some v1, none, none]) ?_ ?_
      · rintro σ' H3 ⟨rfl, hd3, rfl⟩
        have wf_n : (d - 1).toNat = n := by omega
        have wf2 : (d - 1).toNat + 1 = d.toNat := by omega
        -- at
        refine ifs_by (fun σ' H' => H' = H3 ∧ σ' = [some v, some (.int d), some (.ref pi), some (.ref a), some (.ref b), some (.int kd), some v1, none, none]) ?_ ?_
        rotate_left
        · intro N hN
          refine ⟨_, rfl, rfl, _, rfl, ite2 (fun e1 => ?_) (fun e1 => hN _ _ ⟨rfl, rfl⟩)⟩
          refine ⟨_, rfl, b, _, rfl, .inl (.of I2.b), _, _, rfl, rfl, _, rfl, ite2 (fun e2 => ?_) (fun e2 => hN _ _ ⟨rfl, rfl⟩)⟩
          have e3 : 0 < rws.length := by
            have := of_decide_eq_true e2
            rw [List.length_map] at this
            omega
          refine ⟨_, rfl, _, rfl, _, rfl, b, _, rfl, .inl (.of I2.b), v, 4, (rws.map V.str).length, rfl, c2, by decide, by decide, by rw [List.length_map]; omega, by rw [List.length_map]; omega, fun H4 j k4 c4 j0 j1 => ?_⟩
          rw [List.length_map] at j1
          have I4 := I2.kp k4 ho
          obtain ⟨z, hz, ez⟩ := in_strs_at j0 j1
          refine ⟨b, _, j, _, rfl, rfl, .of I4.b, ez, ?_⟩
          refine ⟨_, rfl, _, rfl, _, _, rfl, rfl, _, rfl, v1, .ref pi, d - 1, nms, rws, hds, a, b, c, rfl, CellOk.or w1 c4, by omega, by omega, I4, hn, hw, o1, fun H5 r e k5 c5 dp wf => ?_⟩
          have k5' : Kp (cellS v) H4 H5 := k5.mono sub1
          refine mk H5 [.str "at", .str z, e.d] _ (.at_ z e) ((k12.trans k4).trans k5') (cell_after w1 c4 k5 c5) (.cons (.str _) (.cons (.str _) (.cons dp .nil))) rfl (by simp [nLs, nLd, e.noL]) ?_
          rw [← wf2]
          exact ⟨hz, wf⟩
        rintro σ' H4 ⟨rfl, rfl⟩
        -- not
        refine ifs_by (fun σ' H' => H' = H4 ∧ σ' = [some v, some (.int d), some (.ref pi), some (.ref a), some (.ref b), some (.int kd), some v1, none, none]) ?_ ?_
        rotate_left
        · intro N hN
          refine ⟨_, rfl, rfl, _, rfl, ite2 (fun e1 => ?_) (fun e1 => hN _ _ ⟨rfl, rfl⟩)⟩
          refine ⟨_, rfl, _, rfl, _, _, rfl, rfl, _, rfl, v1, .ref pi, d - 1, nms, rws, hds, a, b, c, rfl, CellOk.or w1 c2, by omega, by omega, I2, hn, hw, o1, fun H5 r e k5 c5 dp wf => ?_⟩
          have k5' : Kp (cellS v) H4 H5 := k5.mono sub1
          refine mk H5 [.str "not", e.d] _ (.no e) (k12.trans k5') (cell_after w1 c2 k5 c5) (.cons (.str _) (.cons dp .nil)) rfl (by simp [nLs, nLd, e.noL]) ?_
          rw [← wf2]
          exact wf
        rintro σ' H5 ⟨rfl, rfl⟩
        -- a word of seven
        refine ⟨(by show 7 ≤ sizeLine; rw [sizeLine_eq]; decide), fun L nL => ?_⟩
        have s6 := same_new (o := .lst (wds7.map V.str)) nL
        have c6 : CellOk _ v := c2.same s6
        have nc : ¬ cellS v L := c2.fresh nL
        refine ⟨_, rfl, v, 5, 7, rfl, c6, by decide, by decide, by decide, by decide, fun H7 j k7 c7 j0 j1 => ?_⟩
        obtain ⟨wd, hwd, ew⟩ := in_strs_at (zs := wds7) j0 j1
        have k7' : Kp (cellS v) H5 H7 := (Kp.of_same s6).trans k7
        refine ⟨L, _, j, _, rfl, rfl, .of (k7 _ _ upd_same fun z => absurd z nc), ew, ?_⟩
        have I7 := I2.kp k7' ho
        refine ⟨_, rfl, v, 6, rfl, c7, by decide, by decide, fun H8 v2 k8 c8 c8' w2 => ?_⟩
        have sub2 := cellS_sub w2
        have I8 := I7.kp k8 ho
        refine ⟨_, rfl, _, _, rfl, rfl, _, rfl, v2, .ref pi, d - 1, nms, rws, hds, a, b, c, rfl, c8', by omega, by omega, I8, hn, hw, ho.sub sub2, fun H9 r2 e2 k9 c9 dp2 wf2' => ?_⟩
        have k9' : Kp (cellS v) H8 H9 := k9.mono sub2
        have c9' := cell_after w2 c8 k9 c9
        have I9 := I8.kp k9' ho
        refine ⟨_, rfl, _, rfl, _, rfl, _, _, rfl, rfl, _, rfl, v1, .ref pi, d - 1, nms, rws, hds, a, b, c, rfl, CellOk.or w1 c9', by omega, by omega, I9, hn, hw, o1, fun H10 r1 e1 k10 c10 dp1 wf1 => ?_⟩
        have k10' : Kp (cellS v) H9 H10 := k10.mono sub1
        refine ⟨_, rfl, ?_⟩
        refine mk H10 [.str wd, e1.d, e2.d] _ (.op wd e1 e2) ((((k12.trans k7').trans k8).trans k9').trans k10') (cell_after w1 c9' k10 c10) (.cons (.str _) (.cons dp1 (.cons (dp_kp k10' _ _ e2.noL dp2) .nil))) rfl (by simp [nLs, nLd, e1.noL, e2.noL]) ?_
        rw [← wf2]
        exact ⟨hwd, wf1, wf2'⟩
      · intro N hN
        refine ⟨_, rfl, _, _, rfl, rfl, _, rfl, ite_share ?_ fun e1 leaf => ?_⟩
        · refine ifs_by (fun σ' H' => H' = H2 ∧ 0 < nms.length ∧ σ' = [some v, some (.int d), some (.ref pi), some (.ref a), some (.ref b), some (.int kd), some v1, none, none]) ?_ ?_
          · rintro σ' H3 ⟨rfl, n0, rfl⟩
            refine ⟨_, rfl, _, rfl, _, rfl, a, _, rfl, .inl (.of I2.a), v, 2, (nms.map V.str).length, rfl, c2, by decide, by decide, by rw [List.length_map]; omega, by rw [List.length_map]; omega, fun H4 j k4 c4 j0 j1 => ?_⟩
            rw [List.length_map] at j1
            obtain ⟨z, hz, ez⟩ := in_strs_at j0 j1
            refine ⟨a, _, j, _, rfl, rfl, .of (I2.kp k4 ho).a, ez, ?_⟩
            refine mk H4 [.str "name", .str z] _ (.nam z) (k12.trans k4) c4 (.cons (.str _) (.cons (.str _) .nil)) rfl rfl ?_
            rw [hn1]
            exact hz
          · intro M hM
            refine ⟨_, rfl, a, _, rfl, .inl (.of I2.a), rfl, _, rfl, ite_share ?_ fun e2 leaf2 => ?_⟩
            · refine ⟨_, rfl, v, 1, rfl, c2, by decide, by decide, fun H4 x k4 c4 hx => ?_⟩
              refine mk H4 [.str "number", .int x] _ (.num x) (k12.trans k4) c4 (.cons (.str _) (.cons (.int _) .nil)) rfl rfl ?_
              rw [hn1]
              exact hx
            · refine ⟨_, rfl, _, _, rfl, rfl, (by show (0 : Int) < 3; decide), rfl, _, rfl, ite2 (fun _ => leaf2) fun e3 => ?_⟩
              refine hM _ _ ⟨rfl, ?_, rfl⟩
              rcases Nat.eq_zero_or_pos nms.length with z | z
              · exact absurd (decide_eq_true (congrArg V.int (by rw [List.length_map, z]; rfl))) e2
              · exact z
        · refine ⟨_, rfl, _, _, rfl, rfl, _, rfl, ite2 (fun _ => leaf) fun e2 => ?_⟩
          refine hN _ _ ⟨rfl, ?_, rfl⟩
          have e1' : ¬ d < 2 := fun z => e1 (decide_eq_true z)
          omega

end

section
variable {P : Program} {w : World} {K : PySem.W.Frag} {mg : Str → Option Value} {base : Heap}
/-- what is kept, but for an address that was free -/
theorem kp_upd_new {S : Addr → Prop} {H H' : Hp} {D : Addr} {o : HO} (k : Kp S H H') (h : H D = none) : Kp S H (upd H' D o) := fun b x e z => by
  rw [upd_ne (ne_of_none e h)]
  exact k b x e z
theorem kp_free {S : Addr → Prop} {H H' : Hp} {D : Addr} (k : Kp S H H') (h : H' D = none) (n : ¬ S D) : H D = none := by
  cases z : H D with
  | none => rfl
  | some o =>
    rw [k _ _ z fun y => absurd y n] at h
    cases h
def ExL (K : PySem.W.Frag) (H : Hp) (nms rws : List Str) (xs : List V) (es : List Ex) : Prop := DpAll K H xs (es.map Ex.d) ∧ ∀ e ∈ es, e.Wf nms rws 4
theorem exs_noL (es : List Ex) : nLs (es.map Ex.d) = true := noLs_all fun x hx => by
  obtain ⟨e, _, rfl⟩ := List.mem_map.mp hx
  exact e.noL
def sp__law_expressions (K : PySem.W.Frag) : Sp := fun vs H Q _ => ∃ (v vi : V) (m : Int) (nms rws : List Str) (hds : List (Str × Nat)) (a b c : Addr), vs = [v, .int m, vi] ∧ CellOk H v ∧ 0 ≤ m ∧ m ≤ 100 ∧ Info K H vi nms rws hds a b c ∧
  nms.length ≤ 16 ∧ rws.length ≤ 16 ∧ Off (cellS v) a b c ∧ ∀ H' p xs (es : List Ex), Kp (cellS v) H H' → CellOk H' v → H p = none → ¬ cellS v p → H' p = some (.lst xs) → ExL K H' nms rws xs es → es.length = m.toNat → Q (.ref p) H'
theorem ok__law_expressions (T : Top K mg) : FnOk P w K mg base CX0 8 (He.ga K "_law_expressions") T.fd__law_expressions ["_law_cell", "_law_many", "_law_info"] (sp__law_expressions K) := by
  have G__law_mixed := ok__law_mixed (P := P) (w := w) (base := base) T
  have G__law_within := ok__law_within (P := P) (w := w) (base := base) T
  have G__law_expression := ok__law_expression (P := P) (w := w) (base := base) T 4
  refine T.F__law_expressions.ok sc__law_expressions (fun vs H Q E h => ?_) (fun cdv A outer s H vs Q E hr h => ?_)
  · obtain ⟨v, vi, d, nms, rws, hds, a, b, c, rfl, _⟩ := h
    rfl
  · obtain ⟨v, vi, m, nms, rws, hds, a, b, c, rfl, hv, m0, m1, hI, hn, hw, ho, q⟩ := h
    refine ⟨_, PSs.nox (pss_one (ps_ret (pe_lc (own := [("_law_k", 3)]) (by rfl) sc__law_expressions.nd (pi_range1 (by rfl) T.m_range (pa_cons (pv 1) pa_nil)) (blkOk_by (own := [("_law_k", 3)]) (N := N__law_expressions) (sc := defScope s__law_expressions) (by decide +kernel)) (fun _ _ _ _ _ => (pg_name (i := 3) sc__law_expressions.nd rfl (Or.inl rfl))) (fun _ _ _ _ _ => pts_nil) (fun _ _ _ _ _ => (pe_call G__law_expression (hr.mono (by omega)) (by rfl) T.g__law_expression T.F__law_expression.kp T.b__law_expression .nil pass0 (pa_cons (pe_call G__law_within (hr.mono (by omega)) (by rfl) T.g__law_within T.F__law_within.kp T.b__law_within .nil pass0 (pa_cons (pv 0) (pa_cons (pv 3) pa_nil))) (pa_cons (pe_op op_add pe_int (pe_call G__law_mixed (hr.mono (by omega)) (by rfl) T.g__law_mixed T.F__law_mixed.kp T.b__law_mixed .nil pass0 (pa_cons (pv 0) (pa_cons (pe_op op_add (pv 3) pe_int) (pa_cons pe_int pa_nil))))) (pa_cons (pv 2) pa_nil)))))))), ?_⟩
    refine ⟨_, rfl, m, rfl, by omega, by omega, fun D nD => ?_⟩
    have nc : ¬ cellS v D := hv.fresh nD
    refine lc_range (lo := 0) (n := m.toNat) (fun i H' => Kp (cellS v) H H' ∧ CellOk H' v ∧ ∃ xs es, H' D = some (.lst xs) ∧ ExL K H' nms rws xs es ∧ es.length = i) ?_ ?_ ?_
    · exact ⟨kp_upd_new Kp.refl nD, hv.same (same_new nD), [], [], upd_same, ⟨.nil, fun e he => nomatch he⟩, rfl⟩
    · rintro i H1 hi ⟨k1, c1, xs, es, e1, ⟨x1, x2⟩, l1⟩
      refine ⟨rfl, _, rfl, _, rfl, v, 0 + (i : Int), rfl, c1, by omega, by omega, fun H2 v2 k2 c2 c2' w2 => ?_⟩
      refine ⟨_, rfl, _, rfl, _, _, rfl, rfl, v, 0 + (i : Int) + 4, 4, rfl, c2, by omega, by omega, by decide, by decide, fun H3 r k3 c3 r0 r1 => ?_⟩
      have sub2 := cellS_sub w2
      have I3 := hI.kp ((k1.trans k2).trans k3) ho
      refine ⟨_, _, rfl, rfl, _, rfl, v2, vi, 1 + r, nms, rws, hds, a, b, c, rfl, CellOk.or w2 c3, by omega, by omega, I3, hn, hw, ho.sub sub2, fun H4 x e k4 c4 dp wf => ?_⟩
      have k4' : Kp (cellS v) H3 H4 := k4.mono sub2
      have k14 := (k2.trans k3).trans k4'
      have e4 := k14 _ _ e1 fun z => absurd z nc
      have l2 := dpAll_len x1
      rw [List.length_map] at l2
      refine ⟨xs, e4, by rw [l2, l1, sizeLine_eq]; omega, kp_upd_new (k1.trans k14) nD, (cell_after w2 c3 k4 c4).upd nc, xs ++ [x], es ++ [e], upd_same, ⟨?_, ?_⟩, by rw [List.length_append, l1]; rfl⟩
      · rw [List.map_append]
        have ks : Kp (fun b => b = D) H4 (upd H4 D (.lst (xs ++ [x]))) := Kp.upd e4 trivial rfl
        exact dpAll_app (dpAll_kp ks _ _ (exs_noL es) (dpAll_kp k14 _ _ (exs_noL es) x1)) (.cons (dp_kp ks _ _ e.noL dp) .nil)
      · intro y hy
        rcases List.mem_append.mp hy with hy | hy
        · exact x2 y hy
        · rw [List.mem_singleton.mp hy]
          exact wf.mono (by omega)
    · rintro H1 ⟨k1, c1, xs, es, e1, h2, l1⟩
      exact q _ D xs es k1 c1 nD nc e1 h2 l1
end
/-! statements: what they may be -/
def Sm.ends : Sm → Bool
  | .give _ => true
  | .fail _ => true
  | _ => false
mutual
def Sm.Wf (nms rws : List Str) (hds : List (Str × Nat)) : Sm → Nat → Prop
  | .set x e, _ => x ∈ nms ∧ e.Wf nms rws 4
  | .put r e f, _ => r ∈ rws ∧ e.Wf nms rws 4 ∧ f.Wf nms rws 4
  | .tell e, _ => e.Wf nms rws 4
  | .ite e ys ns, k => 0 < k ∧ e.Wf nms rws 4 ∧ Sm.Wfs nms rws hds ys (k - 1) ∧ Sm.Wfs nms rws hds ns (k - 1)
  | .loop e b, k => 0 < k ∧ e.Wf nms rws 4 ∧ Sm.Wfs nms rws hds b (k - 1)
  | .call x h es, _ => x ∈ nms ∧ (h, es.length) ∈ hds ∧ ∀ e ∈ es, e.Wf nms rws 4
  | .fail n, _ => 0 ≤ n ∧ n < 100
  | .give e, _ => e.Wf nms rws 4
def Sm.Wfs (nms rws : List Str) (hds : List (Str × Nat)) : List Sm → Nat → Prop
  | [], _ => True
  | s :: r, k => s.Wf nms rws hds k ∧ (r ≠ [] → s.ends = false) ∧ Sm.Wfs nms rws hds r k
end
mutual
def Sm.size : Sm → Nat
  | .ite _ ys ns => 1 + Sm.sizes ys + Sm.sizes ns
  | .loop _ b => 1 + Sm.sizes b
  | _ => 1
def Sm.sizes : List Sm → Nat
  | [] => 0
  | s :: r => s.size + Sm.sizes r
end
section
variable {P : Program} {w : World} {K : PySem.W.Frag} {mg : Str → Option Value} {base : Heap}
/-- what the drawer of a statement has at hand -/
structure PSg (K : PySem.W.Frag) (H0 H : Hp) (v vi : V) (nms rws : List Str) (hds : List (Str × Nat)) (a b c p6 : Addr) (xs : List V) (es : List Ex) (p7 : Addr) (xl : List Str) : Prop where
  k : Kp (cellS v) H0 H
  cell : CellOk H v
  info : Info K H vi nms rws hds a b c
  l6 : H p6 = some (.lst xs)
  ex : ExL K H nms rws xs es
  l7 : H p7 = some (.lst (xl.map V.str))
theorem PSg.kp {H0 H H' : Hp} {v vi : V} {nms rws : List Str} {hds : List (Str × Nat)} {a b c p6 : Addr} {xs : List V} {es : List Ex} {p7 : Addr} {xl : List Str} (h : PSg K H0 H v vi nms rws hds a b c p6 xs es p7 xl)
    (k : Kp (cellS v) H H') (c' : CellOk H' v) (o : Off (cellS v) a b c) (n6 : ¬ cellS v p6) (n7 : ¬ cellS v p7) : PSg K H0 H' v vi nms rws hds a b c p6 xs es p7 xl :=
  ⟨h.k.trans k, c', h.info.kp k o, k _ _ h.l6 fun z => absurd z n6, ⟨dpAll_kp k _ _ (exs_noL es) h.ex.1, h.ex.2⟩, k _ _ h.l7 fun z => absurd z n7⟩
theorem PSg.same {H0 H : Hp} {v vi : V} {nms rws : List Str} {hds : List (Str × Nat)} {a b c p6 : Addr} {xs : List V} {es : List Ex} {p7 : Addr} {xl : List Str} (h : PSg K H0 H v vi nms rws hds a b c p6 xs es p7 xl)
    (o' : Off (cellS v) a b c) {p : Addr} {o : HO} (np : H p = none) : PSg K H0 (upd H p o) v vi nms rws hds a b c p6 xs es p7 xl := by
  have s := same_new (o := o) np
  exact ⟨h.k.trans (.of_same s), h.cell.same s, h.info.kp (Kp.of_same (S := cellS v) s) o', s _ _ h.l6, ⟨dpAll_same h.ex.1 s (exs_noL es), h.ex.2⟩, s _ _ h.l7⟩
def sp__law_plain (K : PySem.W.Frag) : Sp := fun vs H Q _ => ∃ (v vi : V) (nms rws : List Str) (hds : List (Str × Nat)) (a b c : Addr), vs = [v, vi] ∧ CellOk H v ∧ Info K H vi nms rws hds a b c ∧
  nms.length ≤ 16 ∧ rws.length ≤ 16 ∧ hds.length ≤ 16 ∧ (∀ q ∈ hds, q.2 ≤ 4) ∧ (∀ z ∈ nms, PyData.strOk z = true) ∧ Off (cellS v) a b c ∧ ∀ H' r (s : Sm), Kp (cellS v) H H' → CellOk H' v → Dp K H' r s.d → s.Wf nms rws hds 0 → s.size = 1 → Q r H'
def plainW : List Str := ["set", "tell", "put", "set", "call", "tell", "set", "put", "give", "fail"]
theorem eqv_strs_nil (xl : List Str) : PyData.eqv (.list (xl.map PyData.str)) (.list []) = xl.isEmpty := by
  cases xl with
  | nil => exact SeqAt.eqv_refl _ rfl
  | cons x r => rfl
theorem strs_shaped (xl : List Str) (hk : ∀ z ∈ xl, PyData.strOk z = true) : SeqAt.shaped (.list (xl.map PyData.str)) = true := by
  have h1 : ∀ l : List Str, (∀ z ∈ l, PyData.strOk z = true) → PyData.canLayAll0 (l.map PyData.str) = true := by
    intro l
    induction l with
    | nil => intro _; rfl
    | cons x r ih =>
      intro hl
      show PyData.canLayAll0 (PyData.str x :: r.map PyData.str) = true
      unfold PyData.canLayAll0
      rw [ih fun z hz => hl z (List.mem_cons_of_mem _ hz)]
      unfold PyData.canLay0
      rw [hl x (List.mem_cons_self ..)]
      rfl
  have h2 : ∀ l : List Str, PyData.depthAll (l.map PyData.str) ≤ 1 := by
    intro l
    induction l with
    | nil => decide
    | cons x r ih =>
      show PyData.depthAll (PyData.str x :: r.map PyData.str) ≤ 1
      unfold PyData.depthAll
      have : (PyData.str x).depth ≤ 1 := by unfold PyData.depth; decide
      omega
  unfold SeqAt.shaped
  rw [Bool.and_eq_true]
  refine ⟨?_, decide_eq_true ?_⟩
  · unfold PyData.canLay0
    exact h1 xl hk
  · have := h2 xl
    unfold PyData.depth
    omega
theorem ok__law_plain (T : Top K mg) : FnOk P w K mg base CX0 9 (He.ga K "_law_plain") T.fd__law_plain ["_law_cell", "_law_info"] (sp__law_plain K) := by
  have G__law_mixed := ok__law_mixed (P := P) (w := w) (base := base) T
  have G__law_within := ok__law_within (P := P) (w := w) (base := base) T
  have G__law_expressions := ok__law_expressions (P := P) (w := w) (base := base) T
  refine T.F__law_plain.ok sc__law_plain (fun vs H Q E h => ?_) (fun cdv A outer s H vs Q E hr h => ?_)
  · obtain ⟨v, vi, nms, rws, hds, a, b, c, rfl, _⟩ := h
    rfl
  · obtain ⟨v, vi, nms, rws, hds, a, b, c, rfl, hv, hI, hn, hw, hh, hq, hk, ho, q⟩ := h
    refine ⟨_, PSs.nox (pss_cons (ps_asg (pv 1) (pg_tup (n := 3) (by rfl) (pgs_cons (pg_name (i := 2) sc__law_plain.nd rfl (Or.inl rfl)) (pgs_cons (pg_name (i := 3) sc__law_plain.nd rfl (Or.inl rfl)) (pgs_cons (pg_name (i := 4) sc__law_plain.nd rfl (Or.inl rfl)) pgs_nil)))))
        (pss_cons (ps_set (i := 5) sc__law_plain.nd rfl (Or.inl rfl) (pe_ix ix_list (pe_lst (pa_cons pe_str (pa_cons pe_str (pa_cons pe_str (pa_cons pe_str (pa_cons pe_str (pa_cons pe_str (pa_cons pe_str (pa_cons pe_str (pa_cons pe_str (pa_cons pe_str pa_nil))))))))))) (pe_call G__law_mixed (hr.mono (by omega)) (by rfl) T.g__law_mixed T.F__law_mixed.kp T.b__law_mixed .nil pass0 (pa_cons (pv 0) (pa_cons pe_int (pa_cons pe_int pa_nil)))) (fun _ _ => rfl)))
        (pss_cons (ps_set (i := 6) sc__law_plain.nd rfl (Or.inl rfl) (pe_call G__law_expressions (hr.mono (by omega)) (by rfl) T.g__law_expressions T.F__law_expressions.kp T.b__law_expressions .nil pass0 (pa_cons (pe_call G__law_within (hr.mono (by omega)) (by rfl) T.g__law_within T.F__law_within.kp T.b__law_within .nil pass0 (pa_cons (pv 0) (pa_cons pe_int pa_nil))) (pa_cons pe_int (pa_cons (pv 1) pa_nil)))))
        (pss_cons (ps_set (i := 7) sc__law_plain.nd rfl (Or.inl rfl) (pe_slice sl_list (pe_slice sl_list (pv 2) (po_some (pe_call G__law_mixed (hr.mono (by omega)) (by rfl) T.g__law_mixed T.F__law_mixed.kp T.b__law_mixed .nil pass0 (pa_cons (pv 0) (pa_cons pe_int (pa_cons (pe_callB (call_max2 rfl) (by rfl) T.m_max (by decide +kernel) (pa_cons pe_int (pa_cons (pe_callB call_len_seq (by rfl) T.m_len (by decide +kernel) (pa_cons (pv 2) pa_nil)) pa_nil))) pa_nil))))) po_none) po_none (po_some pe_int)))
        (pss_cons (ps_if (PW.pt (pw_and (pt_cmpR op_eq (pv 5) pe_str (nomark _)) (pw_and1 (pt_cmpR op_gt (pe_callB call_len_seq (by rfl) T.m_len (by decide +kernel) (pa_cons (pv 3) pa_nil)) pe_int (nomark _))))) (pss_cons (ps_set (i := 8) sc__law_plain.nd rfl (Or.inl rfl) (pe_ix ix_list (pe_lst (pa_cons (pe_ix ix_list (pv 6) pe_int (fun _ _ => rfl)) (pa_cons (pe_tup (pa_cons pe_str (pa_cons (pe_call G__law_mixed (hr.mono (by omega)) (by rfl) T.g__law_mixed T.F__law_mixed.kp T.b__law_mixed .nil pass0 (pa_cons (pv 0) (pa_cons pe_int (pa_cons pe_int pa_nil)))) pa_nil))) pa_nil))) (pe_call G__law_mixed (hr.mono (by omega)) (by rfl) T.g__law_mixed T.F__law_mixed.kp T.b__law_mixed .nil pass0 (pa_cons (pv 0) (pa_cons pe_int (pa_cons pe_int pa_nil)))) (fun _ _ => rfl)))
        (pss_one (ps_ret (pe_tup (pa_cons pe_str (pa_cons (pe_ix ix_list (pv 3) (pe_call G__law_mixed (hr.mono (by omega)) (by rfl) T.g__law_mixed T.F__law_mixed.kp T.b__law_mixed .nil pass0 (pa_cons (pv 0) (pa_cons pe_int (pa_cons (pe_callB call_len_seq (by rfl) T.m_len (by decide +kernel) (pa_cons (pv 3) pa_nil)) pa_nil)))) (fun _ _ => rfl)) (pa_cons (pv 8) (pa_cons (pe_ix ix_list (pv 6) pe_int (fun _ _ => rfl)) pa_nil)))))))) pss_nil)
        (pss_cons (ps_if (PW.pt (pw_and (pt_cmpR op_eq (pv 5) pe_str (nomark _)) (pw_and (pt_cmpR op_gt (pe_callB call_len_seq (by rfl) T.m_len (by decide +kernel) (pa_cons (pv 4) pa_nil)) pe_int (nomark _)) (pw_and1 (pt_cmpR (op_neD hr.units) (pv 7) (pe_lst pa_nil) (nomark _)))))) (pss_cons (ps_set (i := 9) sc__law_plain.nd rfl (Or.inl rfl) (pe_ix ix_list (pv 4) (pe_call G__law_mixed (hr.mono (by omega)) (by rfl) T.g__law_mixed T.F__law_mixed.kp T.b__law_mixed .nil pass0 (pa_cons (pv 0) (pa_cons pe_int (pa_cons (pe_callB call_len_seq (by rfl) T.m_len (by decide +kernel) (pa_cons (pv 4) pa_nil)) pa_nil)))) (fun _ _ => rfl)))
        (pss_one (ps_ret (pe_tup (pa_cons pe_str (pa_cons (pe_ix ix_list (pv 7) pe_int (fun _ _ => rfl)) (pa_cons (pe_ix ix_tup (pv 9) pe_int (fun _ _ => rfl)) (pa_cons (pe_callTy call_tuple_of (by rfl) T.m_tuple (by decide +kernel) (pa_cons (pe_slice sl_list (pv 6) po_none (po_some (pe_ix ix_tup (pv 9) pe_int (fun _ _ => rfl)))) pa_nil)) pa_nil)))))))) pss_nil)
        (pss_cons (ps_if (PW.pt (pw_and (pt_cmpR op_eq (pv 5) pe_str (nomark _)) (pw_and1 (pt_cmpR op_eq (pe_call G__law_mixed (hr.mono (by omega)) (by rfl) T.g__law_mixed T.F__law_mixed.kp T.b__law_mixed .nil pass0 (pa_cons (pv 0) (pa_cons pe_int (pa_cons pe_int pa_nil)))) pe_int (nomark _))))) (pss_one (ps_ret (pe_tup (pa_cons pe_str (pa_cons (pe_call G__law_mixed (hr.mono (by omega)) (by rfl) T.g__law_mixed T.F__law_mixed.kp T.b__law_mixed .nil pass0 (pa_cons (pv 0) (pa_cons pe_int (pa_cons pe_int pa_nil)))) pa_nil))))) pss_nil)
        (pss_cons (ps_if (PW.pt (pw_and (pt_cmpR op_eq (pv 5) pe_str (nomark _)) (pw_and1 (pt_cmpR op_eq (pe_call G__law_mixed (hr.mono (by omega)) (by rfl) T.g__law_mixed T.F__law_mixed.kp T.b__law_mixed .nil pass0 (pa_cons (pv 0) (pa_cons pe_int (pa_cons pe_int pa_nil)))) pe_int (nomark _))))) (pss_one (ps_ret (pe_tup (pa_cons pe_str (pa_cons (pe_ix ix_list (pv 6) pe_int (fun _ _ => rfl)) pa_nil))))) pss_nil)
        (pss_cons (ps_if (PW.pt (pw_and (pt_cmpR op_eq (pv 5) pe_str (nomark _)) (pw_and1 (pt_cmpR (op_neD hr.units) (pv 7) (pe_lst pa_nil) (nomark _))))) (pss_one (ps_ret (pe_tup (pa_cons pe_str (pa_cons (pe_ix ix_list (pv 7) pe_int (fun _ _ => rfl)) (pa_cons (pe_ix ix_list (pv 6) pe_int (fun _ _ => rfl)) pa_nil)))))) pss_nil)
        (pss_one (ps_ret (pe_tup (pa_cons pe_str (pa_cons (pe_ix ix_list (pv 6) pe_int (fun _ _ => rfl)) pa_nil)))))))))))))), ?_⟩
    obtain ⟨pi, rfl, hT⟩ := hI.tup
    refine ⟨_, rfl, pi, _, rfl, hT, rfl, _, _, rfl, _, _, rfl, _, _, rfl, rfl, ?_⟩
    refine ⟨(by show 10 ≤ sizeLine; rw [sizeLine_eq]; decide), fun L nL => ?_⟩
    have s1 := same_new (o := .lst (plainW.map V.str)) nL
    have c1 : CellOk _ v := hv.same s1
    have nc : ¬ cellS v L := hv.fresh nL
    refine ⟨_, rfl, v, 1, 10, rfl, c1, by decide, by decide, by decide, by decide, fun H2 j k2 c2 j0 j1 => ?_⟩
    obtain ⟨wd, hwd, ew⟩ := in_strs_at (zs := plainW) j0 j1
    have k02 : Kp (cellS v) H H2 := (Kp.of_same s1).trans k2
    refine ⟨L, _, j, _, rfl, rfl, .of (k2 _ _ upd_same fun z => absurd z nc), ew, ?_⟩
    refine ⟨_, rfl, v, 2, rfl, c2, by decide, by decide, fun H3 v3 k3 c3 c3' w3 => ?_⟩
    have sub3 := cellS_sub w3
    have k03 := k02.trans k3
    refine ⟨_, rfl, v3, .ref pi, 4, nms, rws, hds, a, b, c, rfl, c3', by decide, by decide, hI.kp k03 ho, hn, hw, ho.sub sub3, fun H4 p6 xs es k4 c4 np6 nc6 l6 ex len => ?_⟩
    have k04 := k03.trans (k4.mono sub3)
    have c4' := cell_after w3 c3 k4 c4
    have nc6' : ¬ cellS v p6 := c3.fresh np6
    have I4 := hI.kp k04 ho
    have mx : ∀ n : Int, 0 ≤ n → n ≤ 16 → (if n > 1 then n else 1) > 0 ∧ (if n > 1 then n else 1) < 2 ^ 64 := by
      intro n h0 h1
      split <;> omega
    have mx2 := mx (nms.map V.str).length (by omega) (by rw [List.length_map]; omega)
    refine ⟨_, rfl, _, rfl, _, rfl, a, _, rfl, .inl (.of I4.a), _, _, rfl, v, 3, _, rfl, c4', by decide, by decide, mx2.1, mx2.2, fun H5 i k5 c5 i0 _ => ?_⟩
    obtain ⟨i, rfl⟩ := Int.eq_ofNat_of_zero_le i0
    have I5 := I4.kp k5 ho
    refine ⟨_, rfl, a, _, rfl, .of I5.a, fun p8 n8 => ?_⟩
    have s6 := same_new (o := .lst (cutV (nms.map V.str) (some (i : Int)) none)) n8
    refine ⟨_, rfl, p8, _, rfl, .of upd_same, fun p7 n7 => ?_⟩
    have s7 := same_new (o := .lst (cutV (cutV (nms.map V.str) (some (i : Int)) none) none (some 1))) n7
    have s57 := s6.trans s7
    have ecut : cutV (cutV (nms.map V.str) (some (i : Int)) none) none (some 1) = ((nms.drop i).take 1).map V.str := by
      rw [cutV_from, show (1 : Int) = ((1 : Nat) : Int) from rfl, cutV_to, List.map_take, List.map_drop]
    rw [ecut] at s7 s57 ⊢
    have hxl : ∀ z ∈ (nms.drop i).take 1, z ∈ nms := fun z hz => List.mem_of_mem_drop (List.mem_of_mem_take hz)
    generalize (nms.drop i).take 1 = xl at hxl s7 s57 ⊢
    have l6' : H5 p6 = some (.lst xs) := k5 _ _ l6 fun z => absurd z nc6'
    have nc7 : ¬ cellS v p7 := (c5.same s6).fresh n7
    have st0 : PSg K H _ v (.ref pi) nms rws hds a b c p6 xs es p7 xl := ⟨(k04.trans k5).trans (.of_same s57), c5.same s57, I5.kp (Kp.of_same (S := cellS v) s57) ho, s57 _ _ l6', ⟨dpAll_same (dpAll_kp k5 _ _ (exs_noL es) ex.1) s57 (exs_noL es), ex.2⟩, upd_same⟩
    have hk7 : ∀ z ∈ xl, PyData.strOk z = true := fun z hz => hk z (hxl z hz)
    have mk : ∀ (H' : Hp) (ds : List PyData) (ys : List V) (s : Sm), Kp (cellS v) H H' → CellOk H' v → DpAll K H' ys ds → s.d = .tuple ds → nLs ds = true → ds.length ≤ 4 → s.Wf nms rws hds 0 → s.size = 1 → ys.length ≤ sizeLine ∧ ∀ p, H' p = none → Q (.ref p) (upd H' p (.tup ys)) := by
      intro H' ds ys s k' c' h' he hno hl wf sz
      refine ⟨?_, fun p np => q _ _ s (k'.trans (.of_same (same_new np))) (c'.same (same_new np)) ?_ wf sz⟩
      · rw [dpAll_len h', sizeLine_eq]
        omega
      · rw [he]
        exact .tup (.of upd_same) (dpAll_same h' (same_new np) hno)
    obtain ⟨e0, e1, e2, e3, rfl⟩ : ∃ e0 e1 e2 e3, es = [e0, e1, e2, e3] := by
      match es, len with
      | [e0, e1, e2, e3], _ => exact ⟨_, _, _, _, rfl⟩
    obtain ⟨x0, x1, x2, x3, rfl⟩ : ∃ x0 x1 x2 x3, xs = [x0, x1, x2, x3] := by
      obtain ⟨x0, r0, rfl, _, h1⟩ := dpAll_cons ex.1
      obtain ⟨x1, r1, rfl, _, h2⟩ := dpAll_cons h1
      obtain ⟨x2, r2, rfl, _, h3⟩ := dpAll_cons h2
      obtain ⟨x3, r3, rfl, _, h4⟩ := dpAll_cons h3
      rw [dpAll_nil h4]
      exact ⟨_, _, _, _, rfl⟩
    have wf0 : e0.Wf nms rws 4 := ex.2 e0 (by simp)
    have wf1 : e1.Wf nms rws 4 := ex.2 e1 (by simp)
    have ex2 := ex.2
    clear ex l6 l6' I4 I5 hI hT
    generalize upd (upd H5 p8 _) p7 _ = H7 at st0
    -- what comes of an expression at its place
    have dpx : ∀ {H' : Hp}, PSg K H H' v (.ref pi) nms rws hds a b c p6 [x0, x1, x2, x3] [e0, e1, e2, e3] p7 xl → Dp K H' x0 e0.d ∧ Dp K H' x1 e1.d := by
      intro H' st
      obtain ⟨_, _, z, h0, h1⟩ := dpAll_cons st.ex.1
      obtain ⟨_, _, z1, h2, h3⟩ := dpAll_cons h1
      injection z with z z'
      subst z z'
      injection z1 with z1 z1'
      subst z1
      exact ⟨h0, h2⟩
    have slots : List (Option V) := [some v, some (.ref pi), some (.ref a), some (.ref b), some (.ref c), some (.str wd), some (.ref p6), some (.ref p7), none, none]
    dsimp only [gName]
    -- put
    refine ifs_by (fun σ' H' => H' = H7 ∧ σ' = [some v, some (.ref pi), some (.ref a), some (.ref b), some (.ref c), some (.str wd), some (.ref p6), some (.ref p7), none, none]) ?_ ?_
    rotate_left
    · intro N hN
      refine ⟨_, rfl, rfl, _, rfl, ite2 (fun _ => ?_) (fun _ => hN _ _ ⟨rfl, rfl⟩)⟩
      refine ⟨_, rfl, b, _, rfl, .inl (.of st0.info.b), _, _, rfl, rfl, _, rfl, ite2 (fun e2 => ?_) (fun _ => hN _ _ ⟨rfl, rfl⟩)⟩
      have r0 : 0 < rws.length := by
        have := of_decide_eq_true e2
        rw [List.length_map] at this
        omega
      refine ⟨_, rfl, p6, _, 0, _, rfl, rfl, .of st0.l6, atI_nat (j := 0) rfl, ?_⟩
      refine ⟨_, rfl, v, 4, 4, rfl, st0.cell, by decide, by decide, by decide, by decide, fun H8 r k8 c8 r0' r1' => ?_⟩
      have st8 := st0.kp k8 c8 ho nc6' nc7
      refine ⟨(by show 2 ≤ sizeLine; rw [sizeLine_eq]; decide), fun pt npt => ?_⟩
      have st9 := st8.same ho (o := .tup [.str "number", .int r]) npt
      refine ⟨(by show 2 ≤ sizeLine; rw [sizeLine_eq]; decide), fun pl npl => ?_⟩
      have st10 := st9.same ho (o := .lst [x0, .ref pt]) npl
      have ncl : ¬ cellS v pl := st9.cell.fresh npl
      refine ⟨_, rfl, v, 5, 2, rfl, st10.cell, by decide, by decide, by decide, by decide, fun H11 j k11 c11 j0 j1 => ?_⟩
      have st11 := st10.kp k11 c11 ho nc6' nc7
      have dnum : Dp K H11 (.ref pt) (Ex.num r).d := .tup (sqT_kp k11 (sqT_kp (Kp.of_same (S := cellS v) (same_new npl)) (.of upd_same))) (.cons (.str _) (.cons (.int _) .nil))
      obtain ⟨y, hy, ey⟩ := at_list (ns := [x0, V.ref pt]) j0 j1
      obtain ⟨ye, dy, wy⟩ : ∃ ye : Ex, Dp K H11 y ye.d ∧ ye.Wf nms rws 4 := by
        simp only [List.mem_cons, List.not_mem_nil, or_false] at hy
        rcases hy with rfl | rfl
        · exact ⟨e0, (dpx st11).1, wf0⟩
        · exact ⟨.num r, dnum, ⟨by omega, by omega⟩⟩
      refine ⟨pl, _, j, _, rfl, rfl, .of (k11 _ _ upd_same fun z => absurd z ncl), ey, ?_⟩
      refine ⟨_, rfl, _, rfl, _, rfl, b, _, rfl, .inl (.of st11.info.b), v, 6, (rws.map V.str).length, rfl, c11, by decide, by decide, by rw [List.length_map]; omega, by rw [List.length_map]; omega, fun H12 i k12 c12 i0 i1 => ?_⟩
      rw [List.length_map] at i1
      have st12 := st11.kp k12 c12 ho nc6' nc7
      obtain ⟨z, hz, ez⟩ := in_strs_at i0 i1
      refine ⟨b, _, i, _, rfl, rfl, .of st12.info.b, ez, _, rfl, _, rfl, p6, _, 1, _, rfl, rfl, .of st12.l6, atI_nat (j := 1) rfl, ?_⟩
      exact mk H12 [.str "put", .str z, ye.d, e1.d] _ (.put z ye e1) st12.k st12.cell (.cons (.str _) (.cons (.str _) (.cons (dp_kp k12 _ _ ye.noL dy) (.cons (dpx st12).2 .nil)))) (by simp [Sm.d]) (by simp [nLs, nLd, ye.noL, e1.noL]) (by simp) (by simp [Sm.Wf]; exact ⟨hz, wy, wf1⟩) (by simp [Sm.size])
    rintro σ' H8 ⟨rfl, rfl⟩
    -- call
    refine ifs_by (fun σ' H' => Same H8 H' ∧ σ' = [some v, some (.ref pi), some (.ref a), some (.ref b), some (.ref c), some (.str wd), some (.ref p6), some (.ref p7), none, none]) ?_ ?_
    rotate_left
    · intro N hN
      obtain ⟨hs, hc, hdp⟩ := st0.info.c
      refine ⟨_, rfl, rfl, _, rfl, ite2 (fun _ => ?_) (fun _ => hN _ _ ⟨Same.refl _, rfl⟩)⟩
      refine ⟨_, rfl, c, _, rfl, .inl (.of hc), _, _, rfl, rfl, _, rfl, ite2 (fun g2 => ?_) (fun _ => hN _ _ ⟨Same.refl _, rfl⟩)⟩
      have l0 : hs.length = hds.length := by rw [dpAll_len hdp, List.length_map]
      have h0 : 0 < hds.length := by
        have := of_decide_eq_true g2
        omega
      refine ⟨_, rfl, Nat.zero_le _, fun pn npn => ?_⟩
      have sn := same_new (o := .lst []) npn
      have stn := st0.same ho (o := .lst []) npn
      refine ⟨.list (xl.map PyData.str), .list [], .lst (.of stn.l7) (strs_dpAll xl), .lst (.of upd_same) .nil, strs_shaped xl hk7, strs_shaped [] (fun z hz => nomatch hz), _, rfl, ?_⟩
      rw [eqv_strs_nil]
      cases xl with
      | nil => exact hN _ _ ⟨sn, rfl⟩
      | cons x xr =>
        obtain ⟨hs', hc', hdp'⟩ := stn.info.c
        have eh : hs' = hs := by
          have := sn _ _ hc
          rw [hc'] at this
          injection this with this
          injection this
        subst eh
        refine ⟨_, rfl, _, rfl, _, rfl, c, _, rfl, .inl (.of hc'), v, 7, hs'.length, rfl, stn.cell, by decide, by decide, by omega, by omega, fun H9 j k9 c9 j0 j1 => ?_⟩
        have st9 := stn.kp k9 c9 ho nc6' nc7
        have hc9 : H9 c = some (.lst hs') := k9 _ _ hc' fun z => absurd z ho.2.2
        obtain ⟨j, rfl⟩ := Int.eq_ofNat_of_zero_le j0
        have hj : j < hds.length := by omega
        obtain ⟨hv', ev', dv'⟩ := dpAll_get (i := j) (dpAll_kp k9 _ _ (heads_noL hds) hdp') (by rw [List.getElem?_map, List.getElem?_eq_getElem hj]; rfl)
        obtain ⟨ph, yh, rfl, sh, dh⟩ := dp_tup dv'
        obtain ⟨y1, yr, rfl, d1, dh⟩ := dpAll_cons dh
        obtain ⟨y2, yr, rfl, d2, dh⟩ := dpAll_cons dh
        rw [dpAll_nil dh] at sh
        rw [dp_str d1, dp_int d2] at sh
        have hm : hds[j] ∈ hds := List.getElem_mem _
        have hq2 := hq _ hm
        refine ⟨c, _, j, _, rfl, rfl, .of hc9, atI_nat ev', ?_⟩
        refine ⟨_, rfl, p7, _, 0, _, rfl, rfl, .of st9.l7, atI_nat (j := 0) rfl, ?_⟩
        refine ⟨_, rfl, ph, _, 0, _, rfl, rfl, sh, atI_nat (j := 0) rfl, ?_⟩
        refine ⟨_, rfl, _, rfl, ph, _, 1, _, rfl, rfl, sh, atI_nat (j := 1) rfl, _, rfl, p6, _, rfl, .of st9.l6, fun pc npc => ?_⟩
        have st10 := st9.same ho (o := .lst (cutV [x0, x1, x2, x3] none (some (hds[j].2 : Int)))) npc
        refine ⟨pc, _, rfl, .inl ⟨.of upd_same, fun pd npd => ?_⟩⟩
        have st11 := st10.same ho (o := .tup (cutV [x0, x1, x2, x3] none (some (hds[j].2 : Int)))) npd
        rw [cutV_to] at st11
        rw [cutV_to]
        have dargs : Dp K _ (.ref pd) (.tuple (([e0, e1, e2, e3].take hds[j].2).map Ex.d)) := .tup (.of (upd_same (H := upd H9 pc _) (a := pd) (o := .tup ([x0, x1, x2, x3].take hds[j].2)))) (by rw [List.map_take]; exact dpAll_take _ st11.ex.1)
        refine mk _ [.str "call", .str x, .str hds[j].1, .tuple (([e0, e1, e2, e3].take hds[j].2).map Ex.d)] _ (.call x hds[j].1 ([e0, e1, e2, e3].take hds[j].2)) st11.k st11.cell (.cons (.str _) (.cons (.str _) (.cons (.str _) (.cons dargs .nil)))) (by simp only [Sm.d]) (by simp only [nLs, nLd, exs_noL]; rfl) (by show 4 ≤ 4; decide) ?_ (by simp [Sm.size])
        unfold Sm.Wf
        refine ⟨hxl _ (by simp), ?_, fun e he => ex2 e (List.mem_of_mem_take he)⟩
        rw [List.length_take, show ([e0, e1, e2, e3] : List Ex).length = 4 from rfl, Nat.min_eq_left hq2]
        exact hm
    rintro σ' H9 ⟨s9, rfl⟩
    have st9 : PSg K H H9 v (.ref pi) nms rws hds a b c p6 [x0, x1, x2, x3] [e0, e1, e2, e3] p7 xl :=
      ⟨st0.k.trans (.of_same s9), st0.cell.same s9, st0.info.kp (Kp.of_same (S := cellS v) s9) ho, s9 _ _ st0.l6, ⟨dpAll_same st0.ex.1 s9 (exs_noL _), st0.ex.2⟩, s9 _ _ st0.l7⟩
    -- fail
    refine ifs_by (fun σ' H' => PSg K H H' v (.ref pi) nms rws hds a b c p6 [x0, x1, x2, x3] [e0, e1, e2, e3] p7 xl ∧ σ' = [some v, some (.ref pi), some (.ref a), some (.ref b), some (.ref c), some (.str wd), some (.ref p6), some (.ref p7), none, none]) ?_ ?_
    rotate_left
    · intro N hN
      refine ⟨_, rfl, rfl, _, rfl, ite2 (fun _ => ?_) (fun _ => hN _ _ ⟨st9, rfl⟩)⟩
      refine ⟨_, rfl, v, 8, 3, rfl, st9.cell, by decide, by decide, by decide, by decide, fun H10 r k10 c10 _ _ => ?_⟩
      have st10 := st9.kp k10 c10 ho nc6' nc7
      refine ⟨rfl, _, rfl, ite2 (fun _ => ?_) (fun _ => hN _ _ ⟨st10, rfl⟩)⟩
      refine ⟨_, rfl, v, 9, 100, rfl, c10, by decide, by decide, by decide, by decide, fun H11 n k11 c11 n0 n1 => ?_⟩
      have st11 := st10.kp k11 c11 ho nc6' nc7
      exact mk H11 [.str "fail", .int n] _ (.fail n) st11.k st11.cell (.cons (.str _) (.cons (.int _) .nil)) (by simp only [Sm.d]) rfl (by show 2 ≤ 4; decide) (by unfold Sm.Wf; exact ⟨n0, n1⟩) (by simp [Sm.size])
    rintro σ' H10 ⟨st10, rfl⟩
    -- give
    refine ifs_by (fun σ' H' => PSg K H H' v (.ref pi) nms rws hds a b c p6 [x0, x1, x2, x3] [e0, e1, e2, e3] p7 xl ∧ σ' = [some v, some (.ref pi), some (.ref a), some (.ref b), some (.ref c), some (.str wd), some (.ref p6), some (.ref p7), none, none]) ?_ ?_
    rotate_left
    · intro N hN
      refine ⟨_, rfl, rfl, _, rfl, ite2 (fun _ => ?_) (fun _ => hN _ _ ⟨st10, rfl⟩)⟩
      refine ⟨_, rfl, v, 8, 2, rfl, st10.cell, by decide, by decide, by decide, by decide, fun H11 r k11 c11 _ _ => ?_⟩
      have st11 := st10.kp k11 c11 ho nc6' nc7
      refine ⟨rfl, _, rfl, ite2 (fun _ => ?_) (fun _ => hN _ _ ⟨st11, rfl⟩)⟩
      refine ⟨_, rfl, p6, _, 0, _, rfl, rfl, .of st11.l6, atI_nat (j := 0) rfl, ?_⟩
      exact mk H11 [.str "give", e0.d] _ (.give e0) st11.k st11.cell (.cons (.str _) (.cons (dpx st11).1 .nil)) (by simp only [Sm.d]) (by simp [nLs, nLd, e0.noL]) (by show 2 ≤ 4; decide) (by unfold Sm.Wf; exact wf0) (by simp [Sm.size])
    rintro σ' H11 ⟨st11, rfl⟩
    -- set
    refine ifs_by (fun σ' H' => PSg K H H' v (.ref pi) nms rws hds a b c p6 [x0, x1, x2, x3] [e0, e1, e2, e3] p7 xl ∧ σ' = [some v, some (.ref pi), some (.ref a), some (.ref b), some (.ref c), some (.str wd), some (.ref p6), some (.ref p7), none, none]) ?_ ?_
    rotate_left
    · intro N hN
      refine ⟨_, rfl, rfl, _, rfl, ite2 (fun _ => ?_) (fun _ => hN _ _ ⟨st11, rfl⟩)⟩
      refine ⟨_, rfl, Nat.zero_le _, fun pn npn => ?_⟩
      have stn := st11.same ho (o := .lst []) npn
      refine ⟨.list (xl.map PyData.str), .list [], .lst (.of stn.l7) (strs_dpAll xl), .lst (.of upd_same) .nil, strs_shaped xl hk7, strs_shaped [] (fun z hz => nomatch hz), _, rfl, ?_⟩
      rw [eqv_strs_nil]
      cases xl with
      | nil => exact hN _ _ ⟨stn, rfl⟩
      | cons x xr =>
        refine ⟨_, rfl, p7, _, 0, _, rfl, rfl, .of stn.l7, atI_nat (j := 0) rfl, _, rfl, p6, _, 0, _, rfl, rfl, .of stn.l6, atI_nat (j := 0) rfl, ?_⟩
        exact mk _ [.str "set", .str x, e0.d] _ (.set x e0) stn.k stn.cell (.cons (.str _) (.cons (.str _) (.cons (dpx stn).1 .nil))) (by simp only [Sm.d]) (by simp [nLs, nLd, e0.noL]) (by show 3 ≤ 4; decide) (by unfold Sm.Wf; exact ⟨hxl _ (by simp), wf0⟩) (by simp [Sm.size])
    rintro σ' H12 ⟨st12, rfl⟩
    refine ⟨_, rfl, p6, _, 0, _, rfl, rfl, .of st12.l6, atI_nat (j := 0) rfl, ?_⟩
    exact mk H12 [.str "tell", e0.d] _ (.tell e0) st12.k st12.cell (.cons (.str _) (.cons (dpx st12).1 .nil)) (by simp only [Sm.d]) (by simp [nLs, nLd, e0.noL]) (by show 2 ≤ 4; decide) (by unfold Sm.Wf; exact wf0) (by simp [Sm.size])
end
section
variable {P : Program} {w : World} {K : PySem.W.Frag} {mg : Str → Option Value} {base : Heap}
/-- the cells that are left, in a list -/
structure CellsOk (H : Hp) (pc : Addr) (cs : List V) : Prop where
  at_ : H pc = some (.lst cs)
  ok : ∀ x ∈ cs, CellOk H x
  off : ∀ x ∈ cs, x ≠ .ref pc
def cellsS (pc : Addr) (cs : List V) : Addr → Prop := fun b => b = pc ∨ ∃ x ∈ cs, cellS x b
theorem CellOk.kp {H H' : Hp} {S : Addr → Prop} {x : V} (c : CellOk H x) (k : Kp S H H') (h : ∀ b, x = .ref b → S b → CellOk H' x) : CellOk H' x := by
  rcases c with ⟨n, rfl⟩ | ⟨a, l, t, rfl, ha, h1, h2⟩
  · exact .inl ⟨n, rfl⟩
  · by_cases z : S a
    · exact h a rfl z
    · exact .inr ⟨a, l, t, rfl, k _ _ ha fun y => absurd y z, h1, h2⟩
theorem CellsOk.cell {H H' : Hp} {pc : Addr} {cs : List V} {v : V} (h : CellsOk H pc cs) (k : Kp (cellS v) H H') (c : CellOk H' v) (n : v ≠ .ref pc) : CellsOk H' pc cs :=
  ⟨k _ _ h.at_ fun z => absurd z n, fun x hx => (h.ok x hx).kp k fun b e z => by rw [e, ← show v = .ref b from z]; exact c, h.off⟩
theorem CellsOk.same {H H' : Hp} {pc : Addr} {cs : List V} (h : CellsOk H pc cs) (k : Same H H') : CellsOk H' pc cs :=
  ⟨k _ _ h.at_, fun x hx => (h.ok x hx).same k, h.off⟩
theorem cellsS_drop {pc : Addr} {cs : List V} (n : Nat) : ∀ b, cellsS pc (cs.drop n) b → cellsS pc cs b := by
  rintro b (e | ⟨x, hx, e⟩)
  · exact .inl e
  · exact .inr ⟨x, List.mem_of_mem_drop hx, e⟩
theorem CellsOk.pop {H : Hp} {pc : Addr} {y : V} {cs : List V} (h : CellsOk H pc (y :: cs)) : CellsOk (upd H pc (.lst cs)) pc cs ∧ CellOk (upd H pc (.lst cs)) y :=
  ⟨⟨upd_same, fun x hx => (h.ok x (List.mem_cons_of_mem _ hx)).upd (h.off x (List.mem_cons_of_mem _ hx)), fun x hx => h.off x (List.mem_cons_of_mem _ hx)⟩, (h.ok y (List.mem_cons_self ..)).upd (h.off y (List.mem_cons_self ..))⟩
theorem nLs_app : ∀ {a b : List PyData}, nLs a = true → nLs b = true → nLs (a ++ b) = true
  | [], _, _, h => h
  | x :: r, b, h, h' => by
    simp only [nLs, Bool.and_eq_true] at h
    show nLs (x :: (r ++ b)) = true
    simp only [nLs, Bool.and_eq_true]
    exact ⟨h.1, nLs_app h.2 h'⟩
theorem cat_use {H : Hp} {va vb : V} {ds es : List PyData} {Q : VK} (ha : Dp K H va (.tuple ds)) (hb : Dp K H vb (.tuple es)) (hn : nLs ds = true) (hm : nLs es = true) (hl : ds.length + es.length ≤ sizeLine)
    (q : ∀ H' r, Same H H' → Dp K H' r (.tuple (ds ++ es)) → Q r H') : rCatA K va vb H Q := by
  obtain ⟨a, xs, rfl, ha, da⟩ := dp_tup ha
  obtain ⟨b, ys, rfl, hb, db⟩ := dp_tup hb
  refine ⟨a, b, xs, ys, rfl, rfl, ha, hb, by rw [dpAll_len da, dpAll_len db]; exact hl, fun e => ?_, fun _ e => ?_, fun _ _ p np => ?_⟩
  · subst e
    cases da
    exact q _ _ (Same.refl _) (.tup hb db)
  · subst e
    cases db
    rw [List.append_nil] at q
    exact q _ _ (Same.refl _) (.tup ha da)
  · exact q _ _ (same_new np) (.tup (.of upd_same) (dpAll_same (dpAll_app da db) (same_new np) (nLs_app hn hm)))
theorem dp_new {H : Hp} {p : Addr} {xs : List V} {ds : List PyData} (np : H p = none) (h : DpAll K H xs ds) (n : nLs ds = true) : Dp K (upd H p (.tup xs)) (.ref p) (.tuple ds) := .tup (.of upd_same) (dpAll_same h (same_new np) n)
theorem Sm.ds_append (a b : List Sm) : Sm.ds (a ++ b) = Sm.ds a ++ Sm.ds b := by rw [Sm.ds_eq, Sm.ds_eq, Sm.ds_eq, List.map_append]
theorem Sm.ds_len (a : List Sm) : (Sm.ds a).length = a.length := by rw [Sm.ds_eq, List.length_map]
theorem Sm.size_pos (s : Sm) : 1 ≤ s.size := by cases s <;> simp only [Sm.size] <;> omega
theorem Sm.sizes_len : ∀ a : List Sm, a.length ≤ Sm.sizes a
  | [] => Nat.zero_le _
  | s :: r => by
    simp only [Sm.sizes, List.length_cons]
    have := Sm.sizes_len r
    have := s.size_pos
    omega
theorem Sm.sizes_append : ∀ a b : List Sm, Sm.sizes (a ++ b) = Sm.sizes a + Sm.sizes b
  | [], b => by simp [Sm.sizes]
  | s :: r, b => by
    show Sm.sizes (s :: (r ++ b)) = _
    simp only [Sm.sizes, Sm.sizes_append r b]
    omega
def sp_gbody (K : PySem.W.Frag) (D : Nat) : Sp := fun vs H Q _ => ∃ (pc : Addr) (cs : List V) (dp : Int) (vi : V) (nms rws : List Str) (hds : List (Str × Nat)) (a b c : Addr), vs = [.ref pc, .int dp, vi] ∧ CellsOk H pc cs ∧ 0 ≤ dp ∧ dp ≤ 4 ∧ 4 - dp ≤ D ∧
  cs.length ≤ 1000 ∧ Info K H vi nms rws hds a b c ∧ nms.length ≤ 16 ∧ rws.length ≤ 16 ∧ hds.length ≤ 16 ∧ (∀ q ∈ hds, q.2 ≤ 4) ∧ (∀ z ∈ nms, PyData.strOk z = true) ∧ Off (cellsS pc cs) a b c ∧
  ∀ H' r n (bd : List Sm), Kp (cellsS pc cs) H H' → CellsOk H' pc (cs.drop n) → n ≤ cs.length → Dp K H' r (.tuple (Sm.ds bd)) → Sm.Wfs nms rws hds bd (4 - dp).toNat → Sm.sizes bd ≤ n → Q r H'
def sp_nest (K : PySem.W.Frag) (D : Nat) : Sp := fun vs H Q _ => ∃ (v : V) (way : Int) (pc : Addr) (cs : List V) (dp : Int) (vi : V) (nms rws : List Str) (hds : List (Str × Nat)) (a b c : Addr), vs = [v, .int way, .ref pc, .int dp, vi] ∧ CellOk H v ∧ v ≠ .ref pc ∧ CellsOk H pc cs ∧ 0 ≤ dp ∧ dp ≤ 3 ∧ 4 - dp ≤ D ∧
  cs.length ≤ 1000 ∧ Info K H vi nms rws hds a b c ∧ nms.length ≤ 16 ∧ rws.length ≤ 16 ∧ hds.length ≤ 16 ∧ (∀ q ∈ hds, q.2 ≤ 4) ∧ (∀ z ∈ nms, PyData.strOk z = true) ∧ Off (cellS v) a b c ∧ Off (cellsS pc cs) a b c ∧
  ∀ H' r n (s : Sm), Kp (fun x => cellS v x ∨ cellsS pc cs x) H H' → CellsOk H' pc (cs.drop n) → n ≤ cs.length → Dp K H' r s.d → s.Wf nms rws hds (4 - dp).toNat → s.ends = false → s.size ≤ n + 1 → Q r H'
theorem ok_nest0 (T : Top K mg) : FnOk P w K mg base CX0 11 (He.ga K "_law_nest") T.fd__law_nest ["_law_cell", "_law_way", "_law_cells", "_law_deep", "_law_info"] (sp_nest K 0) := by
  refine T.F__law_nest.ok sc__law_nest (fun vs H Q E h => ?_) (fun cdv A outer s H vs Q E hr h => ?_)
  · obtain ⟨v, way, pc, cs, dp, vi, nms, rws, hds, a, b, c, rfl, _⟩ := h
    rfl
  · obtain ⟨v, way, pc, cs, dp, vi, nms, rws, hds, a, b, c, rfl, _, _, _, h1, h2, h3, _⟩ := h
    exfalso
    have : (4 : Int) - dp ≤ 0 := h3
    omega
theorem ok_nest_of (T : Top K mg) (D : Nat) (G__law_body : FnOk P w K mg base CX0 (2 * D + 12) (He.ga K "_law_body") T.fd__law_body ["_law_cells", "_law_deep", "_law_info"] (sp_gbody K D)) :
    FnOk P w K mg base CX0 (2 * D + 13) (He.ga K "_law_nest") T.fd__law_nest ["_law_cell", "_law_way", "_law_cells", "_law_deep", "_law_info"] (sp_nest K (D + 1)) := by
  have G__law_mixed := ok__law_mixed (P := P) (w := w) (base := base) T
  have G__law_within := ok__law_within (P := P) (w := w) (base := base) T
  have G__law_expressions := ok__law_expressions (P := P) (w := w) (base := base) T
  refine T.F__law_nest.ok sc__law_nest (fun vs H Q E h => ?_) (fun cdv A outer s H vs Q E hr h => ?_)
  · obtain ⟨v, way, pc, cs, dp, vi, nms, rws, hds, a, b, c, rfl, _⟩ := h
    rfl
  · obtain ⟨v, way, pc, cs, dp, vi, nms, rws, hds, a, b, c, rfl, hv, vpc, hC, d0, d1, d2, hcl, hI, hn, hw, hh, hq, hk, ho, hoC, q⟩ := h
    refine ⟨_, PSs.nox (pss_cons (ps_set (i := 5) sc__law_nest.nd rfl (Or.inl rfl) (pe_ix ix_list (pe_call G__law_expressions (hr.mono (by omega)) (by rfl) T.g__law_expressions T.F__law_expressions.kp T.b__law_expressions .nil pass0 (pa_cons (pe_call G__law_within (hr.mono (by omega)) (by rfl) T.g__law_within T.F__law_within.kp T.b__law_within .nil pass0 (pa_cons (pv 0) (pa_cons pe_int pa_nil))) (pa_cons pe_int (pa_cons (pv 4) pa_nil)))) pe_int (fun _ _ => rfl)))
        (pss_cons (ps_if (pt_cmpR op_lt (pv 1) pe_int (nomark _)) (pss_cons (ps_set (i := 6) sc__law_nest.nd rfl (Or.inl rfl) (pe_call G__law_body (hr.mono (by omega)) (by rfl) T.g__law_body T.F__law_body.kp T.b__law_body .nil pass0 (pa_cons (pv 2) (pa_cons (pe_op op_add (pv 3) pe_int) (pa_cons (pv 4) pa_nil)))))
        (pss_cons (ps_set (i := 7) sc__law_nest.nd rfl (Or.inl rfl) (pe_tup pa_nil))
        (pss_cons (ps_if (pt_cmpR op_eq (pv 1) pe_int (nomark _)) (pss_one (ps_set (i := 7) sc__law_nest.nd rfl (Or.inl rfl) (pe_call G__law_body (hr.mono (by omega)) (by rfl) T.g__law_body T.F__law_body.kp T.b__law_body .nil pass0 (pa_cons (pv 2) (pa_cons (pe_op op_add (pv 3) pe_int) (pa_cons (pv 4) pa_nil)))))) pss_nil)
        (pss_one (ps_ret (pe_tup (pa_cons pe_str (pa_cons (pv 5) (pa_cons (pv 6) (pa_cons (pv 7) pa_nil)))))))))) pss_nil)
        (pss_cons (ps_set (i := 8) sc__law_nest.nd rfl (Or.inl rfl) (pe_tup pa_nil))
        (pss_cons (ps_if (PW.pt (pw_and (pt_cmpR op_gt (pe_call G__law_mixed (hr.mono (by omega)) (by rfl) T.g__law_mixed T.F__law_mixed.kp T.b__law_mixed .nil pass0 (pa_cons (pv 0) (pa_cons pe_int (pa_cons pe_int pa_nil)))) pe_int (nomark _)) (pw_and (pt_cmpR op_gt (pe_callB call_len_seq (by rfl) T.m_len (by decide +kernel) (pa_cons (pe_ix ix_tup (pv 4) pe_int (fun _ _ => rfl)) pa_nil)) pe_int (nomark _)) (pw_and1 (pt_cmpR op_gt (pe_callB call_len_seq (by rfl) T.m_len (by decide +kernel) (pa_cons (pv 2) pa_nil)) pe_int (nomark _)))))) (pss_cons (ps_expr (pe_bm PySem.F.plainAttrs_list PySem.F.slot_list_pop PySem.F.type_list_pop mt_popAt (pv 2) (pa_cons pe_int pa_nil)))
        (pss_cons (ps_set (i := 9) sc__law_nest.nd rfl (Or.inl rfl) (pe_ix ix_list (pe_ix ix_tup (pv 4) pe_int (fun _ _ => rfl)) (pe_call G__law_mixed (hr.mono (by omega)) (by rfl) T.g__law_mixed T.F__law_mixed.kp T.b__law_mixed .nil pass0 (pa_cons (pv 0) (pa_cons pe_int (pa_cons (pe_callB call_len_seq (by rfl) T.m_len (by decide +kernel) (pa_cons (pe_ix ix_tup (pv 4) pe_int (fun _ _ => rfl)) pa_nil)) pa_nil)))) (fun _ _ => rfl)))
        (pss_cons (ps_set (i := 5) sc__law_nest.nd rfl (Or.inl rfl) (pe_tup (pa_cons pe_str (pa_cons (pe_tup (pa_cons pe_str (pa_cons (pv 9) pa_nil))) (pa_cons (pe_tup (pa_cons pe_str (pa_cons (pe_call G__law_mixed (hr.mono (by omega)) (by rfl) T.g__law_mixed T.F__law_mixed.kp T.b__law_mixed .nil pass0 (pa_cons (pv 0) (pa_cons pe_int (pa_cons pe_int pa_nil)))) pa_nil))) pa_nil)))))
        (pss_one (ps_set (i := 8) sc__law_nest.nd rfl (Or.inl rfl) (pe_tup (pa_cons (pe_tup (pa_cons pe_str (pa_cons (pv 9) (pa_cons (pe_tup (pa_cons pe_str (pa_cons (pe_tup (pa_cons pe_str (pa_cons (pv 9) pa_nil))) (pa_cons (pe_tup (pa_cons pe_str (pa_cons (pe_op op_add pe_int (pe_call G__law_mixed (hr.mono (by omega)) (by rfl) T.g__law_mixed T.F__law_mixed.kp T.b__law_mixed .nil pass0 (pa_cons (pv 0) (pa_cons pe_int (pa_cons pe_int pa_nil))))) pa_nil))) pa_nil)))) pa_nil)))) pa_nil))))))) pss_nil)
        (pss_one (ps_ret (pe_tup (pa_cons pe_str (pa_cons (pv 5) (pa_cons (pe_op op_catA (pv 8) (pe_call G__law_body (hr.mono (by omega)) (by rfl) T.g__law_body T.F__law_body.kp T.b__law_body .nil pass0 (pa_cons (pv 2) (pa_cons (pe_op op_add (pv 3) pe_int) (pa_cons (pv 4) pa_nil))))) pa_nil)))))))))), ?_⟩
    have d3 : (4 - (dp + 1)).toNat + 1 = (4 - dp).toNat := by omega
    have mono1 : ∀ {H1 H2 : Hp}, Kp (cellS v) H1 H2 → Kp (fun x => cellS v x ∨ cellsS pc cs x) H1 H2 := fun k => k.mono fun _ z => .inl z
    have monoC : ∀ {H1 H2 : Hp} {n : Nat}, Kp (cellsS pc (cs.drop n)) H1 H2 → Kp (fun x => cellS v x ∨ cellsS pc cs x) H1 H2 := fun k => k.mono fun b z => .inr (cellsS_drop _ b z)
    have hoA : Off (fun x => cellS v x ∨ cellsS pc cs x) a b c := ⟨fun z => z.elim ho.1 hoC.1, fun z => z.elim ho.2.1 hoC.2.1, fun z => z.elim ho.2.2 hoC.2.2⟩
    refine ⟨_, rfl, v, 2, rfl, hv, by decide, by decide, fun H1 v1 k1 c1 c1' w1 => ?_⟩
    have sub1 := cellS_sub w1
    refine ⟨_, rfl, v1, vi, 1, nms, rws, hds, a, b, c, rfl, c1', by decide, by decide, hI.kp k1 ho, hn, hw, ho.sub sub1, fun H2 p2 xs es k2 c2 np2 nc2 l2 ex len => ?_⟩
    obtain ⟨e0, rfl⟩ : ∃ e0, es = [e0] := by
      match es, len with
      | [e0], _ => exact ⟨_, rfl⟩
    obtain ⟨x0, r0, rfl, dx0, h1⟩ := dpAll_cons ex.1
    rw [dpAll_nil h1] at l2
    have wf0 : e0.Wf nms rws 4 := ex.2 e0 (by simp)
    refine ⟨p2, _, 0, _, rfl, rfl, .of l2, atI_nat (j := 0) rfl, ?_⟩
    have k02 : Kp (cellS v) H H2 := k1.trans (k2.mono sub1)
    have c2' := cell_after w1 c1 k2 c2
    have C2 := hC.cell k02 c2' vpc
    have I2 := hI.kp k02 ho
    have kA2 := mono1 k02
    clear ex l2 c2 k2
    dsimp only [gName]
    refine ifs_by (fun σ' H' => H' = H2 ∧ σ' = [some v, some (.int way), some (.ref pc), some (.int dp), some vi, some x0, none, none, none, none]) ?_ ?_
    rotate_left
    · intro N hN
      refine ⟨_, rfl, _, _, rfl, rfl, _, rfl, ite2 (fun _ => ?_) (fun _ => hN _ _ ⟨rfl, rfl⟩)⟩
      -- if
      refine ⟨_, rfl, _, rfl, _, _, rfl, rfl, _, rfl, pc, cs, dp + 1, vi, nms, rws, hds, a, b, c, rfl, C2, by omega, by omega, by omega, hcl, I2, hn, hw, hh, hq, hk, hoC, fun H3 ry n ys k3 C3 hn3 dy wy sy => ?_⟩
      have kA3 := kA2.trans (monoC (n := 0) k3)
      have I3 := I2.kp k3 hoC
      refine ⟨Nat.zero_le _, fun pe npe => ?_⟩
      have s4 := same_new (o := .tup []) npe
      have de : Dp K (upd H3 pe (.tup [])) (.ref pe) (.tuple (Sm.ds [])) := .tup (.of upd_same) (by simp only [Sm.ds]; exact .nil)
      dsimp only [gName]
      refine ifs_by (fun σ' H' => ∃ rn m ns, Kp (fun x => cellS v x ∨ cellsS pc cs x) H3 H' ∧ CellsOk H' pc (cs.drop m) ∧ n ≤ m ∧ m ≤ cs.length ∧ Dp K H' rn (.tuple (Sm.ds ns)) ∧ Sm.Wfs nms rws hds ns (4 - (dp + 1)).toNat ∧ Sm.sizes ns + n ≤ m ∧ σ' = [some v, some (.int way), some (.ref pc), some (.int dp), some vi, some x0, some ry, some rn, none, none]) ?_ ?_
      · rintro σ' H5 ⟨rn, m, ns, k5, C5, nm, hm, dn, wn, sn, rfl⟩
        have kA5 := kA3.trans k5
        refine ⟨_, rfl, _, rfl, _, rfl, (by show 4 ≤ sizeLine; rw [sizeLine_eq]; decide), fun pr npr => ?_⟩
        have s6 := same_new (o := .tup [.str "if", x0, ry, rn]) npr
        refine q _ _ m (.ite e0 ys ns) (kA5.trans (.of_same s6)) (C5.same s6) hm ?_ ?_ rfl ?_
        · simp only [Sm.d]
          refine .tup (.of upd_same) (.cons (.str _) (.cons ?_ (.cons ?_ (.cons ?_ .nil))))
          · exact dp_same (dp_kp ((monoC (n := 0) k3).trans k5) _ _ e0.noL dx0) s6 e0.noL
          · have nn : nLd (.tuple (Sm.ds ys)) = true := by simp only [nLd]; exact Sm.noLs ys
            exact dp_same (dp_kp k5 _ _ nn dy) s6 nn
          · have nn : nLd (.tuple (Sm.ds ns)) = true := by simp only [nLd]; exact Sm.noLs ns
            exact dp_same dn s6 nn
        · unfold Sm.Wf
          refine ⟨by omega, wf0, ?_, ?_⟩
          · rw [← d3]
            exact wy
          · rw [← d3]
            exact wn
        · simp only [Sm.size]
          omega
      · intro M hM
        refine ⟨_, rfl, rfl, _, rfl, ite2 (fun _ => ?_) (fun _ => ?_)⟩
        · refine ⟨_, rfl, _, rfl, _, _, rfl, rfl, _, rfl, pc, cs.drop n, dp + 1, vi, nms, rws, hds, a, b, c, rfl, C3.same s4, by omega, by omega, by omega, by rw [List.length_drop]; omega, I3.kp (Kp.of_same (S := cellS v) s4) ho, hn, hw, hh, hq, hk, hoC.sub (cellsS_drop n), fun H6 rn m ns k6 C6 hm6 dn wn sn => ?_⟩
          rw [List.length_drop] at hm6
          rw [List.drop_drop] at C6
          exact hM _ _ ⟨rn, n + m, ns, (Kp.of_same s4).trans (monoC k6), C6, by omega, by omega, dn, wn, by omega, rfl⟩
        · exact hM _ _ ⟨.ref pe, n, [], .of_same s4, C3.same s4, by omega, hn3, de, by simp [Sm.Wfs], by simp [Sm.sizes], rfl⟩
    rintro σ' H3 ⟨rfl, rfl⟩
    -- while
    refine ⟨Nat.zero_le _, fun pe npe => ?_⟩
    have s4 := same_new (o := .tup []) npe
    have c4 := c2'.same s4
    have C4 := C2.same s4
    have I4 := I2.kp (Kp.of_same (S := cellS v) s4) ho
    have kA4 := kA2.trans (.of_same s4)
    have dx4 := dp_same dx0 s4 e0.noL
    have de : Dp K (upd H3 pe (.tup [])) (.ref pe) (.tuple (Sm.ds [])) := .tup (.of upd_same) (by simp only [Sm.ds]; exact .nil)
    generalize upd H3 pe (.tup []) = H4 at c4 C4 I4 kA4 dx4 de
    dsimp only [gName]
    refine ifs_by (fun σ' H' => ∃ xa ea pf fs n x9, Kp (fun x => cellS v x ∨ cellsS pc cs x) H H' ∧ CellsOk H' pc (cs.drop n) ∧ n ≤ cs.length ∧ Info K H' vi nms rws hds a b c ∧ Dp K H' xa (Ex.d ea) ∧ ea.Wf nms rws 4 ∧ Dp K H' (.ref pf) (.tuple (Sm.ds fs)) ∧ Sm.sizes fs ≤ n ∧ (∀ bd k, Sm.Wfs nms rws hds bd k → Sm.Wfs nms rws hds (fs ++ bd) k) ∧
      σ' = [some v, some (.int way), some (.ref pc), some (.int dp), some vi, some xa, none, none, some (.ref pf), x9]) ?_ ?_
    · rintro σ' H5 ⟨xa, ea, pf, fs, n, x9, k5, C5, hn5, I5, da, wa, df, sf, wf, rfl⟩
      refine ⟨_, rfl, _, rfl, _, rfl, _, rfl, _, _, rfl, rfl, _, rfl, pc, cs.drop n, dp + 1, vi, nms, rws, hds, a, b, c, rfl, C5, by omega, by omega, by omega, by rw [List.length_drop]; omega, I5, hn, hw, hh, hq, hk, hoC.sub (cellsS_drop n), fun H6 rb m bd k6 C6 hm6 db wb sb => ?_⟩
      rw [List.length_drop] at hm6
      rw [List.drop_drop] at C6
      have nf := Sm.noLs fs
      have nb := Sm.noLs bd
      have lf := Sm.sizes_len fs
      have lb := Sm.sizes_len bd
      refine cat_use (dp_kp k6 _ _ (by simp only [nLd]; exact nf) df) db nf nb (by rw [Sm.ds_len, Sm.ds_len, sizeLine_eq]; omega) fun H7 rc s7 dc => ?_
      rw [← Sm.ds_append] at dc
      refine ⟨(by show 3 ≤ sizeLine; rw [sizeLine_eq]; decide), fun pr npr => ?_⟩
      have s8 := same_new (o := .tup [.str "while", xa, rc]) npr
      refine q _ _ (n + m) (.loop ea (fs ++ bd)) (((k5.trans (monoC k6)).trans (.of_same s7)).trans (.of_same s8)) ((C6.same s7).same s8) (by omega) ?_ ?_ rfl ?_
      · simp only [Sm.d]
        refine .tup (.of upd_same) (.cons (.str _) (.cons ?_ (.cons ?_ .nil)))
        · exact dp_same (dp_same (dp_kp k6 _ _ ea.noL da) s7 ea.noL) s8 ea.noL
        · exact dp_same dc s8 (by simp only [nLd]; exact Sm.noLs _)
      · unfold Sm.Wf
        refine ⟨by omega, wa, ?_⟩
        rw [← d3]
        exact wf _ _ wb
      · simp only [Sm.size, Sm.sizes_append]
        omega
    · intro N hN
      have no : ∀ H' , Kp (cellS v) H4 H' → CellOk H' v → N [some v, some (.int way), some (.ref pc), some (.int dp), some vi, some x0, none, none, some (.ref pe), none] H' := fun H' k' c' =>
        hN _ _ ⟨x0, e0, pe, [], 0, none, kA4.trans (mono1 k'), C4.cell k' c' vpc, Nat.zero_le _, I4.kp k' ho, dp_kp k' _ _ e0.noL dx4, wf0, dp_kp k' _ _ (by simp only [nLd, Sm.ds, nLs]) de, by simp [Sm.sizes], fun bd k h => h, rfl⟩
      obtain ⟨pi, rfl, hT⟩ := I4.tup
      refine ⟨_, rfl, v, 3, 4, rfl, c4, by decide, by decide, by decide, by decide, fun H5 r5 k5 c5 _ _ => ?_⟩
      have I5 := I4.kp k5 ho
      have hT5 := sqT_kp k5 hT
      refine ⟨_, _, rfl, rfl, _, rfl, ite2 (fun _ => ?_) (fun _ => no _ k5 c5)⟩
      refine ⟨_, rfl, pi, _, 0, _, rfl, rfl, hT5, atI_nat (j := 0) rfl, a, _, rfl, .inl (.of I5.a), _, _, rfl, rfl, _, rfl, ite2 (fun g1 => ?_) (fun _ => no _ k5 c5)⟩
      have n0 : 0 < nms.length := by
        have := of_decide_eq_true g1
        rw [List.length_map] at this
        omega
      have C5 := C4.cell k5 c5 vpc
      refine ⟨_, rfl, pc, _, rfl, .inl (.of C5.at_), _, _, rfl, rfl, _, rfl, ite2 (fun g2 => ?_) (fun _ => no _ k5 c5)⟩
      cases cs with
      | nil =>
        have := of_decide_eq_true g2
        simp at this
      | cons y cs1 =>
        refine ⟨_, rfl, .inl ⟨rfl, _, .of C5.at_⟩, pc, _, 0, 0, y, rfl, rfl, C5.at_, by decide, by decide, ?_, rfl, ?_⟩
        · unfold seqIndex?
          simp
        show tSeq _ _ _ _ (upd H5 pc (.lst cs1))
        obtain ⟨C6, _⟩ := C5.pop
        have c6 : CellOk (upd H5 pc (.lst cs1)) v := c5.upd vpc
        have k6 : Kp (fun x => cellS v x ∨ cellsS pc (y :: cs1) x) H5 (upd H5 pc (.lst cs1)) := Kp.upd C5.at_ trivial (.inr (.inl rfl))
        have I6 := I5.kp k6 hoA
        have kA6 := (kA4.trans (mono1 k5)).trans k6
        have hT6 := sqT_kp k6 hT5
        generalize upd H5 pc (.lst cs1) = H6 at C6 c6 k6 I6 kA6 hT6
        refine ⟨_, rfl, pi, _, 0, _, rfl, rfl, hT6, atI_nat (j := 0) rfl, _, rfl, _, rfl, pi, _, 0, _, rfl, rfl, hT6, atI_nat (j := 0) rfl, a, _, rfl, .inl (.of I6.a), v, 4, (nms.map V.str).length, rfl, c6, by decide, by decide, by rw [List.length_map]; omega, by rw [List.length_map]; omega, fun H7 j k7 c7 j0 j1 => ?_⟩
        rw [List.length_map] at j1
        have I7 := I6.kp k7 ho
        have C7 := C6.cell k7 c7 vpc
        obtain ⟨x, hx, ex⟩ := in_strs_at j0 j1
        refine ⟨a, _, j, _, rfl, rfl, .of I7.a, ex, ?_⟩
        -- asked
        refine ⟨_, rfl, (by show 2 ≤ sizeLine; rw [sizeLine_eq]; decide), fun p1 n1 => ?_⟩
        have s1 := same_new (o := .tup [.str "name", .str x]) n1
        refine ⟨_, rfl, v, 5, 5, rfl, c7.same s1, by decide, by decide, by decide, by decide, fun H8 r8 k8 c8 r80 r81 => ?_⟩
        refine ⟨(by show 2 ≤ sizeLine; rw [sizeLine_eq]; decide), fun p2 n2 => ?_⟩
        have s2 := same_new (o := .tup [.str "number", .int r8]) n2
        refine ⟨(by show 3 ≤ sizeLine; rw [sizeLine_eq]; decide), fun p3 n3 => ?_⟩
        have s3 := same_new (o := .tup [.str "less", .ref p1, .ref p2]) n3
        have d1 : Dp K _ (.ref p1) (Ex.nam x).d := dp_same (dp_kp k8 _ _ rfl (dp_new n1 (.cons (.str _) (.cons (.str _) .nil)) rfl)) s2 rfl
        have d2 : Dp K _ (.ref p2) (Ex.num r8).d := dp_new n2 (.cons (.str _) (.cons (.int _) .nil)) rfl
        have dl : Dp K _ (.ref p3) (Ex.op "less" (.nam x) (.num r8)).d := dp_new n3 (.cons (.str _) (.cons d1 (.cons d2 .nil))) rfl
        have k78 : Kp (cellS v) H7 _ := ((Kp.of_same s1).trans k8).trans ((Kp.of_same s2).trans (.of_same s3))
        have c9 := (c8.same s2).same s3
        generalize upd (upd H8 p2 _) p3 _ = H9 at dl k78 c9
        have wl : (Ex.op "less" (.nam x) (.num r8)).Wf nms rws 4 := ⟨by decide +kernel, hx, ⟨by omega, by omega⟩⟩
        clear d1 d2
        -- first
        refine ⟨_, rfl, _, rfl, (by show 2 ≤ sizeLine; rw [sizeLine_eq]; decide), fun q1 m1 => ?_⟩
        have t1 := same_new (o := .tup [.str "name", .str x]) m1
        refine ⟨_, rfl, v, 6, 2, rfl, c9.same t1, by decide, by decide, by decide, by decide, fun H10 r10 k10 c10 r100 r101 => ?_⟩
        refine ⟨_, _, rfl, rfl, (by show 2 ≤ sizeLine; rw [sizeLine_eq]; decide), fun q2 m2 => ?_⟩
        have t2 := same_new (o := .tup [.str "number", .int (1 + r10)]) m2
        refine ⟨(by show 3 ≤ sizeLine; rw [sizeLine_eq]; decide), fun q3 m3 => ?_⟩
        have t3 := same_new (o := .tup [.str "add", .ref q1, .ref q2]) m3
        refine ⟨(by show 3 ≤ sizeLine; rw [sizeLine_eq]; decide), fun q4 m4 => ?_⟩
        have t4 := same_new (o := .tup [.str "set", .str x, .ref q3]) m4
        refine ⟨(by show 1 ≤ sizeLine; rw [sizeLine_eq]; decide), fun q5 m5 => ?_⟩
        have t5 := same_new (o := .tup [.ref q4]) m5
        have f1 : Dp K _ (.ref q1) (Ex.nam x).d := dp_same (dp_kp k10 _ _ rfl (dp_new m1 (.cons (.str _) (.cons (.str _) .nil)) rfl)) t2 rfl
        have f2 : Dp K _ (.ref q2) (Ex.num (1 + r10)).d := dp_new m2 (.cons (.str _) (.cons (.int _) .nil)) rfl
        have f3 : Dp K _ (.ref q3) (Ex.op "add" (.nam x) (.num (1 + r10))).d := dp_new m3 (.cons (.str _) (.cons f1 (.cons f2 .nil))) rfl
        have f4 : Dp K _ (.ref q4) (.tuple [.str "set", .str x, (Ex.op "add" (.nam x) (.num (1 + r10))).d]) := dp_new m4 (.cons (.str _) (.cons (.str _) (.cons f3 .nil))) (by simp [nLs, nLd, Ex.d])
        rw [show PyData.tuple [.str "set", .str x, (Ex.op "add" (.nam x) (.num (1 + r10))).d] = (Sm.set x (Ex.op "add" (.nam x) (.num (1 + r10)))).d by simp only [Sm.d]] at f4
        have f5 : Dp K _ (.ref q5) (.tuple [(Sm.set x (Ex.op "add" (.nam x) (.num (1 + r10)))).d]) := dp_new m5 (.cons f4 .nil) (by simp only [nLs, Sm.noL]; rfl)
        rw [show [(Sm.set x (Ex.op "add" (.nam x) (.num (1 + r10)))).d] = Sm.ds [Sm.set x (Ex.op "add" (.nam x) (.num (1 + r10)))] by simp only [Sm.ds]] at f5
        have k9e : Kp (cellS v) H9 _ := ((Kp.of_same t1).trans k10).trans ((Kp.of_same t2).trans ((Kp.of_same t3).trans ((Kp.of_same t4).trans (.of_same t5))))
        have cE := (((c10.same t2).same t3).same t4).same t5
        have kF := (k7.trans k78).trans k9e
        refine hN _ _ ⟨.ref p3, _, q5, _, 1, some (.str x), kA6.trans (mono1 kF), C6.cell kF cE vpc, by simp, I6.kp kF ho, dp_kp k9e _ _ (Ex.noL _) dl, wl, f5, by simp [Sm.sizes, Sm.size], fun bd k h => ?_, rfl⟩
        show Sm.Wfs nms rws hds (_ :: bd) k
        simp only [Sm.Wfs]
        refine ⟨?_, fun _ => rfl, h⟩
        unfold Sm.Wf
        exact ⟨hx, ⟨by decide +kernel, hx, ⟨by omega, by omega⟩⟩⟩
end
section
variable {P : Program} {w : World} {K : PySem.W.Frag} {mg : Str → Option Value} {base : Heap}
def opn (nms rws : List Str) (hds : List (Str × Nat)) (bd : List Sm) (k : Nat) : Prop := ∀ s ∈ bd, s.Wf nms rws hds k ∧ s.ends = false
theorem wfs_snoc {nms rws : List Str} {hds : List (Str × Nat)} {k : Nat} {s : Sm} (h : s.Wf nms rws hds k) : ∀ {bd : List Sm}, opn nms rws hds bd k → Sm.Wfs nms rws hds (bd ++ [s]) k
  | [], _ => by
    show Sm.Wfs nms rws hds [s] k
    simp only [Sm.Wfs]
    exact ⟨h, fun z => absurd rfl z, trivial⟩
  | t :: r, o => by
    show Sm.Wfs nms rws hds (t :: (r ++ [s])) k
    simp only [Sm.Wfs]
    obtain ⟨o1, o2⟩ := o t (List.mem_cons_self ..)
    exact ⟨o1, fun _ => o2, wfs_snoc h fun x hx => o x (List.mem_cons_of_mem _ hx)⟩
theorem wfs_opn {nms rws : List Str} {hds : List (Str × Nat)} {k : Nat} : ∀ {bd : List Sm}, opn nms rws hds bd k → Sm.Wfs nms rws hds bd k
  | [], _ => by simp only [Sm.Wfs]
  | t :: r, o => by
    simp only [Sm.Wfs]
    obtain ⟨o1, o2⟩ := o t (List.mem_cons_self ..)
    exact ⟨o1, fun _ => o2, wfs_opn fun x hx => o x (List.mem_cons_of_mem _ hx)⟩
theorem plain_any {nms rws : List Str} {hds : List (Str × Nat)} {s : Sm} (h : s.Wf nms rws hds 0) (z : s.size = 1) (k : Nat) : s.Wf nms rws hds k := by
  cases s <;> simp only [Sm.Wf] at h ⊢ <;> first | exact h | exact absurd h.1 (by decide)
/-- a statement's word -/
theorem sm_head {H : Hp} {v : V} {s : Sm} (h : Dp K H v s.d) : ∃ p wd xs, v = .ref p ∧ SqT K H p (.str wd :: xs) ∧ (inV (.str wd) [.str "give", .str "fail"] = s.ends) := by
  cases s <;> simp only [Sm.d] at h <;> (obtain ⟨p, xs, rfl, hs, da⟩ := dp_tup h; obtain ⟨x, r, rfl, dx, _⟩ := dpAll_cons da; rw [dp_str dx] at hs; exact ⟨p, _, r, rfl, hs, by rfl⟩)
theorem okg_body_of (T : Top K mg) (D : Nat) (G__law_nest : FnOk P w K mg base CX0 (2 * D + 11) (He.ga K "_law_nest") T.fd__law_nest ["_law_cell", "_law_way", "_law_cells", "_law_deep", "_law_info"] (sp_nest K D)) :
    FnOk P w K mg base CX0 (2 * D + 12) (He.ga K "_law_body") T.fd__law_body ["_law_cells", "_law_deep", "_law_info"] (sp_gbody K D) := by
  have G__law_mixed := ok__law_mixed (P := P) (w := w) (base := base) T
  have G__law_plain := ok__law_plain (P := P) (w := w) (base := base) T
  refine T.F__law_body.ok sc__law_body (fun vs H Q E h => ?_) (fun cdv A outer s H vs Q E hr h => ?_)
  · obtain ⟨pc, cs, dp, vi, nms, rws, hds, a, b, c, rfl, _⟩ := h
    rfl
  · obtain ⟨pc, cs, dp, vi, nms, rws, hds, a, b, c, rfl, hC, d0, d1, d2, hcl, hI, hn, hw, hh, hq, hk, ho, q⟩ := h
    refine ⟨_, PSs.nox (pss_cons (ps_set (i := 3) sc__law_body.nd rfl (Or.inl rfl) (pe_lst pa_nil))
        (pss_cons (ps_while PassesOwn.never (pt_cmpR op_gt (pe_callB call_len_seq (by rfl) T.m_len (by decide +kernel) (pa_cons (pv 0) pa_nil)) pe_int (nomark _)) (pss_cons (ps_set (i := 4) sc__law_body.nd rfl (Or.inl rfl) (pe_bm PySem.F.plainAttrs_list PySem.F.slot_list_pop PySem.F.type_list_pop mt_popAt (pv 0) (pa_cons pe_int pa_nil)))
        (pss_cons (ps_set (i := 5) sc__law_body.nd rfl (Or.inl rfl) (pe_call G__law_mixed (hr.mono (by omega)) (by rfl) T.g__law_mixed T.F__law_mixed.kp T.b__law_mixed .nil pass0 (pa_cons (pv 4) (pa_cons pe_int (pa_cons pe_int pa_nil)))))
        (pss_cons (ps_if (PW.pt (pw_and (pt_cmpR op_lt (pv 5) pe_int (nomark _)) (pw_and1 (pt_cmpR op_gt (pv 1) pe_int (nomark _))))) (pss_one (ps_ret (pe_callTy call_tuple_of (by rfl) T.m_tuple (by decide +kernel) (pa_cons (pv 3) pa_nil)))) pss_nil)
        (pss_cons (ps_if (PW.pt (pw_and (pt_cmpR op_in_seq (pv 5) (pe_lst (pa_cons pe_int (pa_cons pe_int (pa_cons pe_int pa_nil)))) (by rfl)) (pw_and1 (pt_cmpR op_lt (pv 1) pe_int (nomark _))))) (pss_one (ps_expr (pe_bm PySem.F.plainAttrs_list PySem.F.slot_list_append PySem.F.type_list_append mt_append (pv 3) (pa_cons (pe_call G__law_nest (hr.mono (by omega)) (by rfl) T.g__law_nest T.F__law_nest.kp T.b__law_nest .nil pass0 (pa_cons (pv 4) (pa_cons (pv 5) (pa_cons (pv 0) (pa_cons (pv 1) (pa_cons (pv 2) pa_nil)))))) pa_nil)))) (pss_one (ps_expr (pe_bm PySem.F.plainAttrs_list PySem.F.slot_list_append PySem.F.type_list_append mt_append (pv 3) (pa_cons (pe_call G__law_plain (hr.mono (by omega)) (by rfl) T.g__law_plain T.F__law_plain.kp T.b__law_plain .nil pass0 (pa_cons (pv 4) (pa_cons (pv 2) pa_nil))) pa_nil)))))
        (pss_one (ps_if (pt_cmpR op_in_seq (pe_ix ix_tup (pe_ix ix_list (pv 3) (pe_un un_neg pe_int) (fun _ _ => rfl)) pe_int (fun _ _ => rfl)) (pe_lst (pa_cons pe_str (pa_cons pe_str pa_nil))) (by rfl)) (pss_one (ps_ret (pe_callTy call_tuple_of (by rfl) T.m_tuple (by decide +kernel) (pa_cons (pv 3) pa_nil)))) pss_nil)))))))
        (pss_one (ps_ret (pe_callTy call_tuple_of (by rfl) T.m_tuple (by decide +kernel) (pa_cons (pv 3) pa_nil)))))), ?_⟩
    refine ⟨Nat.zero_le _, fun F nF => ?_⟩
    have s1 := same_new (o := .lst []) nF
    have Fpc : F ≠ pc := (ne_of_none hC.at_ nF).symm
    have nFS : ¬ cellsS pc cs F := by
      rintro (e | ⟨x, hx, e⟩)
      · exact Fpc e
      · exact (hC.ok x hx).fresh nF e
    -- the end: a tuple of what was found
    have fin : ∀ (H' : Hp) (rs : List V) (bd : List Sm) (n : Nat), Kp (cellsS pc cs) H H' → CellsOk H' pc (cs.drop n) → n ≤ cs.length → H' F = some (.lst rs) → DpAll K H' rs (Sm.ds bd) → Sm.Wfs nms rws hds bd (4 - dp).toNat → Sm.sizes bd ≤ n → ∀ p, H' p = none → Q (.ref p) (upd H' p (.tup rs)) := by
      intro H' rs bd n k' C' hn' e' da wf sz p np
      have s' := same_new (o := .tup rs) np
      exact q _ _ n bd (k'.trans (.of_same s')) (C'.same s') hn' (dp_new np da (Sm.noLs bd)) wf sz
    refine while_by (fun σ' H' => ∃ n rs bd x4 x5, Kp (cellsS pc cs) H H' ∧ CellsOk H' pc (cs.drop n) ∧ n ≤ cs.length ∧ H' F = some (.lst rs) ∧ DpAll K H' rs (Sm.ds bd) ∧ opn nms rws hds bd (4 - dp).toNat ∧ Sm.sizes bd ≤ n ∧ σ' = [some (.ref pc), some (.int dp), some vi, some (.ref F), x4, x5])
      (fun σ' H' => match H' pc with | some (.lst xs) => xs.length | _ => 0) ?_ ?_ ?_
    · exact ⟨0, [], [], none, none, kp_upd_new Kp.refl nF, hC.same s1, Nat.zero_le _, upd_same, by simp only [Sm.ds]; exact .nil, (fun s hs => nomatch hs), by simp [Sm.sizes], rfl⟩
    · rintro σ' H1 ⟨n, rs, bd, x4, x5, k1, C1, hn1, e1, da, op, sz, rfl⟩
      refine ⟨_, rfl, pc, _, rfl, .inl (.of C1.at_), _, _, rfl, rfl, _, rfl, ite2 (fun g1 => ?_) (fun _ => ?_)⟩
      · have wfin := wfs_opn op
        cases hcs : cs.drop n with
        | nil =>
          have := of_decide_eq_true g1
          rw [hcs] at this
          simp at this
        | cons v cs1 =>
          have hcs1 : cs1 = cs.drop (n + 1) := by rw [← List.drop_drop, hcs]; rfl
          have hn2 : n + 1 ≤ cs.length := by
            have := congrArg List.length hcs
            rw [List.length_drop, List.length_cons] at this
            omega
          rw [hcs] at C1
          have vin : v ∈ cs := List.mem_of_mem_drop (by rw [hcs]; exact List.mem_cons_self ..)
          have vpc : v ≠ .ref pc := hC.off v vin
          obtain ⟨C2, c2⟩ := C1.pop
          have mu : (match H1 pc with | some (.lst xs) => xs.length | _ => 0) = cs1.length + 1 := by
            rw [C1.at_]
            rfl
          refine ⟨_, rfl, .inl ⟨rfl, _, .of C1.at_⟩, pc, _, 0, 0, v, rfl, rfl, C1.at_, by decide, by decide, by unfold seqIndex?; simp, rfl, ?_⟩
          show tSeq _ _ _ _ (upd H1 pc (.lst cs1))
          have k2 : Kp (cellsS pc cs) H1 (upd H1 pc (.lst cs1)) := Kp.upd C1.at_ trivial (.inl rfl)
          have k02 := k1.trans k2
          have e2 : upd H1 pc (.lst cs1) F = some (.lst rs) := by rw [upd_ne Fpc]; exact e1
          have da2 := dpAll_kp k2 _ _ (Sm.noLs bd) da
          generalize upd H1 pc (.lst cs1) = H2 at C2 c2 k2 k02 e2 da2
          have subv : ∀ x, cellS v x → cellsS pc cs x := fun x z => .inr ⟨v, vin, z⟩
          have ov := ho.sub subv
          have nFv : ¬ cellS v F := fun z => nFS (subv _ z)
          refine ⟨_, rfl, v, 6, 16, rfl, c2, by decide, by decide, by decide, by decide, fun H3 way k3 c3 w0 w1 => ?_⟩
          have k03 := k02.trans (k3.mono subv)
          have C3 := C2.cell k3 c3 vpc
          have e3 := k3 _ _ e2 fun z => absurd z nFv
          have da3 := dpAll_kp k3 _ _ (Sm.noLs bd) da2
          have I3 := hI.kp k03 ho
          have rl : rs.length ≤ 1000 := by
            rw [dpAll_len da, Sm.ds_len]
            have := Sm.sizes_len bd
            omega
          dsimp only [gName]
          refine ifs_by (fun σ' H' => H' = H3 ∧ σ' = [some (.ref pc), some (.int dp), some vi, some (.ref F), some v, some (.int way)]) ?_ ?_
          rotate_left
          · intro N hN
            refine ⟨_, rfl, _, _, rfl, rfl, _, rfl, ite2 (fun _ => ?_) (fun _ => hN _ _ ⟨rfl, rfl⟩)⟩
            refine ⟨_, rfl, _, _, rfl, rfl, _, rfl, ite2 (fun _ => ?_) (fun _ => hN _ _ ⟨rfl, rfl⟩)⟩
            exact ⟨_, rfl, F, _, rfl, .inl ⟨.of e3, fin _ _ bd (n + 1) k03 (by rw [← hcs1]; exact C3) hn2 e3 da3 wfin (by omega)⟩⟩
          rintro σ' H4 ⟨rfl, rfl⟩
          -- one more statement
          refine ifs_by (fun σ' H' => ∃ m x s, Kp (cellsS pc cs) H H' ∧ CellsOk H' pc (cs.drop m) ∧ n + 1 ≤ m ∧ m ≤ cs.length ∧ H' F = some (.lst (rs ++ [x])) ∧ DpAll K H' rs (Sm.ds bd) ∧ Dp K H' x (Sm.d s) ∧ s.Wf nms rws hds (4 - dp).toNat ∧ Sm.sizes bd + s.size ≤ m ∧ σ' = [some (.ref pc), some (.int dp), some vi, some (.ref F), some v, some (.int way)]) ?_ ?_
          · rintro σ' H5 ⟨m, x, s, k5, C5, m0, m1, e5, da5, dx, wf, sz5, rfl⟩
            have da6 : DpAll K H5 (rs ++ [x]) (Sm.ds (bd ++ [s])) := by
              rw [Sm.ds_append]
              refine dpAll_app da5 ?_
              simp only [Sm.ds]
              exact .cons dx .nil
            have wf6 := wfs_snoc wf op
            have sz6 : Sm.sizes (bd ++ [s]) ≤ m := by
              rw [Sm.sizes_append]
              simp only [Sm.sizes]
              omega
            obtain ⟨ps, wd, xs, rfl, hs, hend⟩ := sm_head dx
            refine ⟨_, rfl, 1, rfl, F, _, -1, _, rfl, rfl, .of e5, atI_last _ _, ps, _, 0, _, rfl, rfl, hs, atI_nat (j := 0) rfl, (by show 2 ≤ sizeLine; rw [sizeLine_eq]; decide), fun pl npl => ?_⟩
            have sl := same_new (o := .lst [.str "give", .str "fail"]) npl
            refine ⟨pl, _, rfl, .inl (.of upd_same), rfl, by decide +kernel, _, rfl, ?_⟩
            dsimp only
            rw [if_neg Bool.false_ne_true, hend]
            have e7 := sl _ _ e5
            have da7 := dpAll_same da6 sl (Sm.noLs _)
            have k7 := k5.trans (.of_same sl)
            have C7 := C5.same sl
            cases hse : s.ends with
            | true =>
              exact ⟨_, rfl, F, _, rfl, .inl ⟨.of e7, fin _ _ (bd ++ [s]) m k7 C7 m1 e7 da7 wf6 sz6⟩⟩
            | false =>
              refine ⟨⟨m, rs ++ [.ref ps], bd ++ [s], _, _, k7, C7, m1, e7, da7, ?_, sz6, rfl⟩, ?_⟩
              · intro y hy
                rcases List.mem_append.mp hy with hy | hy
                · exact op y hy
                · rw [List.mem_singleton.mp hy]
                  exact ⟨wf, hse⟩
              · show (match (upd H5 pl _) pc with | some (.lst xs) => xs.length | _ => 0) < (match H1 pc with | some (.lst xs) => xs.length | _ => 0)
                rw [mu, C7.at_]
                show (cs.drop m).length < cs1.length + 1
                rw [hcs1, List.length_drop, List.length_drop]
                omega
          · intro N hN
            -- append
            have app : ∀ (H5 : Hp) (x : V) (s : Sm) (m : Nat), Kp (cellsS pc cs) H H5 → CellsOk H5 pc (cs.drop m) → n + 1 ≤ m → m ≤ cs.length → H5 F = some (.lst rs) → DpAll K H5 rs (Sm.ds bd) → Dp K H5 x s.d → s.Wf nms rws hds (4 - dp).toNat → Sm.sizes bd + s.size ≤ m → N [some (.ref pc), some (.int dp), some vi, some (.ref F), some v, some (.int way)] (upd H5 F (.lst (rs ++ [x]))) := by
              intro H5 x s m k5 C5 m0 m1 e5 da5 dx wf sz5
              have ku : Kp (fun y => y = F) H5 (upd H5 F (.lst (rs ++ [x]))) := Kp.upd e5 trivial rfl
              have nS' : ∀ y ∈ cs.drop m, ¬ cellS y F := fun y hy z => nFS (.inr ⟨y, List.mem_of_mem_drop hy, z⟩)
              refine hN _ _ ⟨m, x, s, kp_upd_new k5 nF, ⟨by rw [upd_ne Fpc.symm]; exact C5.at_, fun y hy => (C5.ok y hy).upd (nS' y hy), C5.off⟩, m0, m1, upd_same, dpAll_kp ku _ _ (Sm.noLs bd) da5, dp_kp ku _ _ s.noL dx, wf, sz5, rfl⟩
            refine ⟨_, rfl, (by show 3 ≤ sizeLine; rw [sizeLine_eq]; decide), fun pl npl => ?_⟩
            have sl := same_new (o := .lst [.int 2, .int 3, .int 4]) npl
            refine ⟨pl, _, rfl, .inl (.of upd_same), rfl, by decide +kernel, _, rfl, ?_⟩
            have c5 := c3.same sl
            have C5 := C3.same sl
            have I5 := I3.kp (Kp.of_same (S := cellS v) sl) ov
            have e5 := sl _ _ e3
            have da5 := dpAll_same da3 sl (Sm.noLs bd)
            have k5 := k03.trans (.of_same sl)
            generalize upd H4 pl (.lst [.int 2, .int 3, .int 4]) = H5 at c5 C5 I5 e5 da5 k5
            have rl2 : rs.length < sizeLine := by rw [sizeLine_eq]; omega
            refine ite_else ?_ fun _ leaf => ?_
            · refine ⟨_, rfl, .inl ⟨rfl, _, .of e5⟩, _, rfl, _, rfl, v, vi, nms, rws, hds, a, b, c, rfl, c5, I5, hn, hw, hh, hq, hk, ov, fun H6 x s k6 c6 dx wf sz6 => ?_⟩
              have e6 := k6 _ _ e5 fun z => absurd z nFv
              refine ⟨F, _, _, rfl, rfl, e6, rl2, ?_⟩
              exact app H6 x s (n + 1) (k5.trans (k6.mono subv)) (by rw [← hcs1]; exact C5.cell k6 c6 vpc) (Nat.le_refl _) hn2 e6 (dpAll_kp k6 _ _ (Sm.noLs bd) da5) dx (plain_any wf sz6 _) (by omega)
            · refine ⟨_, rfl, _, _, rfl, rfl, _, rfl, ite_else leaf fun g2 _ => ?_⟩
              have dp4 : dp < 4 := of_decide_eq_true g2
              refine ⟨_, rfl, .inl ⟨rfl, _, .of e5⟩, _, rfl, _, rfl, _, rfl, _, rfl, _, rfl, v, way, pc, cs1, dp, vi, nms, rws, hds, a, b, c, rfl, c5, vpc, C5, d0, by omega, d2, by rw [hcs1, List.length_drop]; omega, I5, hn, hw, hh, hq, hk, ov, ho.sub (fun x z => by rw [hcs1] at z; exact cellsS_drop _ x z), fun H6 x m s k6 C6 hm6 dx wf en sz6 => ?_⟩
              rw [hcs1, List.length_drop] at hm6
              rw [hcs1, List.drop_drop] at C6
              have sub6 : ∀ y, (cellS v y ∨ cellsS pc cs1 y) → cellsS pc cs y := by
                rintro y (z | z)
                · exact subv y z
                · rw [hcs1] at z
                  exact cellsS_drop _ y z
              have k6' := k6.mono sub6
              have e6 := k6' _ _ e5 fun z => absurd z nFS
              refine ⟨F, _, _, rfl, rfl, e6, rl2, ?_⟩
              exact app H6 x s (n + 1 + m) (k5.trans k6') C6 (by omega) (by omega) e6 (dpAll_kp k6 _ _ (Sm.noLs bd) da5) dx wf (by omega)
      · have C1' := C1
        exact ⟨_, rfl, F, _, rfl, .inl ⟨.of e1, fin _ _ bd n k1 C1 hn1 e1 da (wfs_opn op) sz⟩⟩
    · intro σ' H' Q1 Q2 h hc
      obtain ⟨v, h1, p, ys, h2, h3, i, j, h4, h5, k, h6, h7⟩ := hc
      exact ⟨v, h1, p, ys, h2, h3, i, j, h4, h5, k, h6, h _ _ h7⟩
theorem okg_body (T : Top K mg) : ∀ D : Nat, FnOk P w K mg base CX0 (2 * D + 12) (He.ga K "_law_body") T.fd__law_body ["_law_cells", "_law_deep", "_law_info"] (sp_gbody K D)
  | 0 => okg_body_of T 0 (ok_nest0 T)
  | D + 1 => okg_body_of T (D + 1) (ok_nest_of T D (okg_body T D))
end
section
variable {P : Program} {w : World} {K : PySem.W.Frag} {mg : Str → Option Value} {base : Heap}
theorem kp_int {H H' : Hp} {c : Int} (k : Kp (cellS (.int c)) H H') : Same H H' := fun b o e => k b o e fun z => nomatch z
def sp__law_inner_cell (K : PySem.W.Frag) : Sp := fun vs H Q _ => ∃ (a : Addr) (ns : List Int) (fi k j : Int), vs = [.ref a, .int fi, .int k, .int j] ∧ SqL K H a (ns.map V.int) ∧ 0 ≤ fi ∧ 0 ≤ k ∧ k < 1000 ∧ 0 ≤ j ∧ j < 1000 ∧
  ∀ H' v, Same H H' → CellOk H' v → (∀ p, v = .ref p → H p = none) → Q v H'
theorem ok__law_inner_cell (T : Top K mg) : FnOk P w K mg base CX0 2 (He.ga K "_law_inner_cell") T.fd__law_inner_cell ["_law_script", "_law_first", "_law_k", "_law_j"] (sp__law_inner_cell K) := by
  have G__law_mixed := ok__law_mixed (P := P) (w := w) (base := base) T
  have G__law_held := ok__law_held (P := P) (w := w) (base := base) T
  have G__law_cell_at := ok__law_cell_at (P := P) (w := w) (base := base) T
  refine T.F__law_inner_cell.ok sc__law_inner_cell (fun vs H Q E h => ?_) (fun cdv A outer s H vs Q E hr h => ?_)
  · obtain ⟨a, ns, fi, k, j, rfl, _⟩ := h
    rfl
  · obtain ⟨a, ns, fi, k, j, rfl, hS, f0, k0, k1, j0, j1, q⟩ := h
    refine ⟨_, PSs.nox (pss_cons (ps_set (i := 4) sc__law_inner_cell.nd rfl (Or.inl rfl) (pe_call G__law_held (hr.mono (by omega)) (by rfl) T.g__law_held T.F__law_held.kp T.b__law_held .nil pass0 (pa_cons (pe_call G__law_cell_at (hr.mono (by omega)) (by rfl) T.g__law_cell_at T.F__law_cell_at.kp T.b__law_cell_at .nil pass0 (pa_cons (pv 0) (pa_cons (pe_op op_add (pe_op op_add (pe_op op_add (pe_op op_add (pv 1) pe_int) (pe_op op_mul (pv 2) (pv 2))) (pv 2)) (pv 3)) pa_nil))) pa_nil)))
        (pss_cons (ps_if (pt_val (pe_callB call_isi (by rfl) T.m_isinstance (by decide +kernel) (pa_cons (pv 4) (pa_cons (pe_bltn (v := .ty "list") (by rfl) T.m_list (by decide +kernel) rfl) pa_nil)))) (pss_one (ps_ret (pv 4))) pss_nil)
        (pss_one (ps_ret (pe_call G__law_mixed (hr.mono (by omega)) (by rfl) T.g__law_mixed T.F__law_mixed.kp T.b__law_mixed .nil pass0 (pa_cons (pe_op op_add (pe_call G__law_cell_at (hr.mono (by omega)) (by rfl) T.g__law_cell_at T.F__law_cell_at.kp T.b__law_cell_at .nil pass0 (pa_cons (pv 0) (pa_cons (pe_op op_add (pe_op op_add (pv 1) pe_int) (pv 3)) pa_nil))) (pe_op op_mul pe_int (pv 3))) (pa_cons (pv 2) (pa_cons pe_int pa_nil)))))))), ?_⟩
    have kk : 0 ≤ k * k := Int.mul_nonneg k0 k0
    refine ⟨_, rfl, _, rfl, _, _, rfl, rfl, _, rfl, _, rfl, _, _, rfl, rfl, .inl ⟨by omega, by omega⟩, _, _, rfl, rfl, _, rfl, _, _, rfl, rfl, _, rfl, _, _, rfl, rfl, a, ns, _, rfl, by omega, hS, _, rfl, fun H1 v s1 c1 f1 => ?_⟩
    rcases c1 with ⟨c, rfl⟩ | ⟨p, l, t, rfl, hp, hl, ht⟩
    · refine ⟨_, rfl, _, _, _, _, false, rfl, .ty _, .base (.int c), kit_ty (by decide +kernel), false, rfl, ?_⟩
      refine ⟨_, rfl, _, rfl, _, _, rfl, rfl, _, rfl, _, _, rfl, rfl, a, ns, _, rfl, by omega, s1.seq hS, _, rfl, _, _, rfl, rfl, .inl ⟨by decide, by decide⟩, _, _, rfl, rfl, _, rfl, _, k, 1000003, rfl, .inl ⟨_, rfl⟩, k0, by omega, by decide, by decide, fun H2 r k2 _ _ _ => ?_⟩
      exact q _ _ (s1.trans (kp_int k2)) (.inl ⟨_, rfl⟩) fun p e => nomatch e
    · refine ⟨_, rfl, _, _, _, _, true, rfl, .ty _, .base (.lst hp), kit_ty (by decide +kernel), true, rfl, ?_⟩
      exact ⟨_, rfl, q _ _ s1 (.inr ⟨p, l, t, rfl, hp, hl, ht⟩) f1⟩
/-! a whole program -/
structure Pg where
  hs : List (Str × List Str × List Sm)
  ps : List Str
  rs : List (Str × Nat)
  bd : List Sm
def hpD (h : Str × List Str × List Sm) : PyData := .tuple [.str h.1, .tuple (h.2.1.map .str), .tuple (Sm.ds h.2.2)]
def rwD (r : Str × Nat) : PyData := .tuple [.str r.1, .int r.2]
def hdOf (h : Str × List Str × List Sm) : Str × Nat := (h.1, h.2.1.length)
def Pg.d (p : Pg) : PyData := .tuple [.tuple (p.hs.map hpD), .tuple (p.ps.map .str), .tuple (p.rs.map rwD), .tuple (Sm.ds p.bd)]
theorem strs_noL (zs : List Str) : nLs (zs.map PyData.str) = true := noLs_all fun x hx => by
  obtain ⟨z, _, rfl⟩ := List.mem_map.mp hx
  rfl
theorem hpD_noL (h : Str × List Str × List Sm) : nLd (hpD h) = true := by
  simp only [hpD, nLd, nLs, strs_noL, Sm.noLs]
  rfl
theorem hps_noL (hs : List (Str × List Str × List Sm)) : nLs (hs.map hpD) = true := noLs_all fun x hx => by
  obtain ⟨z, _, rfl⟩ := List.mem_map.mp hx
  exact hpD_noL z
theorem rws_noL (rs : List (Str × Nat)) : nLs (rs.map rwD) = true := noLs_all fun x hx => by
  obtain ⟨z, _, rfl⟩ := List.mem_map.mp hx
  rfl
theorem Pg.noL (p : Pg) : nLd p.d = true := by
  simp only [Pg.d, nLd, nLs, strs_noL, Sm.noLs, hps_noL, rws_noL]
  rfl
structure HpWf (hds : List (Str × Nat)) (h : Str × List Str × List Sm) : Prop where
  nm : IsNm h.1
  pl : h.2.1.length ≤ 4
  pn : h.2.1.Nodup
  pk : ∀ x ∈ h.2.1, IsNm x
  bd : ∃ vs : List Str, (∀ x ∈ vs, IsNm x) ∧ vs.length ≤ 12 ∧ (∀ x ∈ h.2.1, x ∈ vs) ∧ Sm.Wfs vs [] hds h.2.2 4
  sz : Sm.sizes h.2.2 ≤ 8
structure Pg.Wf (p : Pg) : Prop where
  hl : p.hs.length ≤ 4
  hn : (p.hs.map (·.1)).Nodup
  hok : ∀ (i : Nat) h, p.hs[i]? = some h → HpWf ((p.hs.take i).map hdOf) h
  pl : p.ps.length ≤ 4
  pn : p.ps.Nodup
  pk : ∀ x ∈ p.ps, IsNm x
  rl : p.rs.length ≤ 3
  rn : (p.rs.map (·.1)).Nodup
  rk : ∀ r ∈ p.rs, IsNm r.1 ∧ 1 ≤ r.2 ∧ r.2 ≤ 8 ∧ r.1 ∉ p.ps
  bd : ∃ vs : List Str, (∀ x ∈ vs, IsNm x) ∧ vs.length ≤ 12 ∧ (∀ x ∈ p.ps, x ∈ vs) ∧ (∀ r ∈ p.rs, r.1 ∉ vs) ∧ Sm.Wfs vs (p.rs.map (·.1)) (p.hs.map hdOf) p.bd 4
  sz : Sm.sizes p.bd ≤ 24
/-- what the drawer of a program has at hand -/
structure PW (H0 H : Hp) (Ln : Addr) (nm : List Str) (vh : V) : Prop where
  s : Same H0 H
  ln : H Ln = some (.lst (nm.map V.str))
  c : CellOk H vh
structure PF (H0 : Hp) (Ln : Addr) (vh : V) : Prop where
  l : H0 Ln = none
  v : ∀ b, cellS vh b → H0 b = none
  n : ¬ cellS vh Ln
section
variable {H0 H H' : Hp} {Ln : Addr} {nm : List Str} {vh : V}
theorem PW.kpS {S : Addr → Prop} (h : PW H0 H Ln nm vh) (k : Kp S H H') (h0 : ∀ b, S b → H0 b = none) (hn : ¬ S Ln) (c' : CellOk H' vh) : PW H0 H' Ln nm vh :=
  ⟨Kp.same h.s k h0, k _ _ h.ln fun z => absurd z hn, c'⟩
theorem PW.kp (h : PW H0 H Ln nm vh) (f : PF H0 Ln vh) (k : Kp (cellS vh) H H') (c' : CellOk H' vh) : PW H0 H' Ln nm vh := h.kpS k f.v f.n c'
theorem PW.same (h : PW H0 H Ln nm vh) (k : Same H H') : PW H0 H' Ln nm vh := ⟨h.s.trans k, k _ _ h.ln, h.c.same k⟩
theorem PW.upd (h : PW H0 H Ln nm vh) {p : Addr} {o : HO} (np : H0 p = none) (nl : p ≠ Ln) (nc : ¬ cellS vh p) : PW H0 (upd H p o) Ln nm vh :=
  ⟨fun b x e => by rw [upd_ne (ne_of_none e np)]; exact h.s b x e, by rw [upd_ne nl.symm]; exact h.ln, h.c.upd nc⟩
theorem PW.new (h : PW H0 H Ln nm vh) {p : Addr} {o : HO} (np : H p = none) : PW H0 (L2.upd H p o) Ln nm vh := h.same (same_new np)
theorem PW.free (h : PW H0 H Ln nm vh) {p : Addr} (np : H p = none) : H0 p = none ∧ p ≠ Ln ∧ ¬ cellS vh p := ⟨h.s.free np, (ne_of_none h.ln np).symm, h.c.fresh np⟩
end
end
section
variable {P : Program} {w : World} {K : PySem.W.Frag} {mg : Str → Option Value} {base : Heap}
def mosts : List Int := [1, 2, 3, 5, 8, 12]
def manys : List Int := [0, 0, 1, 2, 3, 4]
theorem getElem_mem' {α : Type} {l : List α} {i : Nat} {x : α} (h : l[i]? = some x) : x ∈ l := List.mem_of_getElem? h
theorem ints_at {l : List Int} {j : Int} (h0 : 0 ≤ j) (h1 : j < l.length) : ∃ x ∈ l, atI (l.map V.int) j = some (.int x) := by
  obtain ⟨x, hx, e⟩ := at_list (ns := l.map V.int) h0 (by rw [List.length_map]; exact h1)
  obtain ⟨z, hz, rfl⟩ := List.mem_map.mp hx
  exact ⟨z, hz, e⟩
theorem cutV_mid (xs : List V) {i j : Nat} (h1 : i ≤ j) (h2 : j ≤ xs.length) : cutV xs (some (i : Int)) (some (j : Int)) = (xs.drop i).take (j - i) := by
  unfold cutV
  rw [HT.sIx_nat, HT.sIx_nat, Nat.min_eq_left h2, Nat.min_eq_left (by omega)]
theorem CellsOk.fresh {H : Hp} {pc : Addr} {cs : List V} (h : CellsOk H pc cs) {p : Addr} (np : H p = none) : ¬ cellsS pc cs p := by
  rintro (e | ⟨x, hx, e⟩)
  · rw [e, h.at_] at np
    cases np
  · exact (h.ok x hx).fresh np e
/-- the helpers that were drawn -/
structure HsOk (nm : List Str) (hs : List (Str × List Str × List Sm)) : Prop where
  wf : ∀ (j : Nat) h, hs[j]? = some h → HpWf ((hs.take j).map hdOf) h
  nm : ∀ (j : Nat) h, hs[j]? = some h → nm[15 - j]? = some h.1 ∨ nm[j]? = some h.1
def hdD (q : Str × Nat) : PyData := .tuple [.str q.1, .int q.2]
theorem hds_noL (l : List (Str × Nat)) : nLs (l.map hdD) = true := heads_noL l
theorem hsOk_snoc {nm : List Str} {hs : List (Str × List Str × List Sm)} {h : Str × List Str × List Sm} (o : HsOk nm hs) (w : HpWf (hs.map hdOf) h) (e : nm[15 - hs.length]? = some h.1 ∨ nm[hs.length]? = some h.1) : HsOk nm (hs ++ [h]) := by
  have key : ∀ (j : Nat) x, (hs ++ [h])[j]? = some x → (j < hs.length ∧ hs[j]? = some x) ∨ (j = hs.length ∧ x = h) := by
    intro j x hx
    rcases Nat.lt_trichotomy j hs.length with hj | hj | hj
    · rw [List.getElem?_append_left hj] at hx
      exact .inl ⟨hj, hx⟩
    · subst hj
      rw [List.getElem?_append_right (Nat.le_refl _), Nat.sub_self] at hx
      exact .inr ⟨rfl, (Option.some.inj hx).symm⟩
    · rw [List.getElem?_eq_none (by rw [List.length_append]; simp; omega)] at hx
      cases hx
  refine ⟨fun j x hx => ?_, fun j x hx => ?_⟩
  · rcases key j x hx with ⟨hj, hx⟩ | ⟨rfl, rfl⟩
    · rw [List.take_append_of_le_length (by omega)]
      exact o.wf j x hx
    · rw [List.take_append_of_le_length (Nat.le_refl _), List.take_length]
      exact w
  · rcases key j x hx with ⟨hj, hx⟩ | ⟨rfl, rfl⟩
    · exact o.nm j x hx
    · exact e
structure LWg (K : PySem.W.Frag) (H0 H : Hp) (Ln : Addr) (nm : List Str) (vh : V) (LR : Addr) (xr : List V) (rs : List (Str × Nat)) (LH LD : Addr) (xh xd : List V) (hs : List (Str × List Str × List Sm)) : Prop where
  w : PW H0 H Ln nm vh
  eR : H LR = some (.lst xr)
  dR : DpAll K H xr (rs.map rwD)
  eH : H LH = some (.lst xh)
  dH : DpAll K H xh (hs.map hpD)
  eD : H LD = some (.lst xd)
  dD : DpAll K H xd ((hs.map hdOf).map hdD)
theorem LWg.kpS {H0 H H' : Hp} {Ln : Addr} {nm : List Str} {vh : V} {LR : Addr} {xr : List V} {rs : List (Str × Nat)} {LH LD : Addr} {xh xd : List V} {hs : List (Str × List Str × List Sm)} (h : LWg K H0 H Ln nm vh LR xr rs LH LD xh xd hs) {S : Addr → Prop} (k : Kp S H H')
    (h0 : ∀ b, S b → H0 b = none) (n1 : ¬ S Ln) (n2 : ¬ S LR) (n3 : ¬ S LH) (n4 : ¬ S LD) (c' : CellOk H' vh) : LWg K H0 H' Ln nm vh LR xr rs LH LD xh xd hs :=
  ⟨h.w.kpS k h0 n1 c', k _ _ h.eR fun z => absurd z n2, dpAll_kp k _ _ (rws_noL rs) h.dR, k _ _ h.eH fun z => absurd z n3, dpAll_kp k _ _ (hps_noL hs) h.dH, k _ _ h.eD fun z => absurd z n4, dpAll_kp k _ _ (hds_noL _) h.dD⟩
theorem LWg.same {H0 H H' : Hp} {Ln : Addr} {nm : List Str} {vh : V} {LR : Addr} {xr : List V} {rs : List (Str × Nat)} {LH LD : Addr} {xh xd : List V} {hs : List (Str × List Str × List Sm)} (h : LWg K H0 H Ln nm vh LR xr rs LH LD xh xd hs) (k : Same H H') : LWg K H0 H' Ln nm vh LR xr rs LH LD xh xd hs :=
  h.kpS (S := fun _ => False) (Kp.of_same k) (fun _ z => z.elim) id id id id (h.w.c.same k)
theorem LWg.new {H0 H : Hp} {Ln : Addr} {nm : List Str} {vh : V} {LR : Addr} {xr : List V} {rs : List (Str × Nat)} {LH LD : Addr} {xh xd : List V} {hs : List (Str × List Str × List Sm)} (h : LWg K H0 H Ln nm vh LR xr rs LH LD xh xd hs) {p : Addr} {o : HO} (np : H p = none) : LWg K H0 (upd H p o) Ln nm vh LR xr rs LH LD xh xd hs := h.same (same_new np)
/-- addresses that stand apart -/
structure LF (H0 : Hp) (Ln : Addr) (vh : V) (LR LH LD : Addr) : Prop where
  f : PF H0 Ln vh
  rc : ¬ cellS vh LR
  hc : ¬ cellS vh LH
  dc : ¬ cellS vh LD
  h0 : H0 LH = none
  d0 : H0 LD = none
  hl : LH ≠ Ln
  dl : LD ≠ Ln
  hr : LH ≠ LR
  dr : LD ≠ LR
  hd : LH ≠ LD
theorem LWg.kp {H0 H H' : Hp} {Ln : Addr} {nm : List Str} {vh : V} {LR : Addr} {xr : List V} {rs : List (Str × Nat)} {LH LD : Addr} {xh xd : List V} {hs : List (Str × List Str × List Sm)} (h : LWg K H0 H Ln nm vh LR xr rs LH LD xh xd hs) (f : LF H0 Ln vh LR LH LD) (k : Kp (cellS vh) H H') (c' : CellOk H' vh) : LWg K H0 H' Ln nm vh LR xr rs LH LD xh xd hs :=
  h.kpS k f.f.v f.f.n f.rc f.hc f.dc c'
theorem nm_strOk {z : Str} (h : IsNm z) : PyData.strOk z = true := by
  unfold PyData.strOk
  rw [← Array.all_toList]
  refine List.all_eq_true.mpr fun c hc => decide_eq_true ?_
  have := (h.let_ c hc).2
  omega
theorem hs_nodup {nm : List Str} {hs : List (Str × List Str × List Sm)} (hN : Nms nm) (o : HsOk nm hs) (hl : hs.length ≤ 4) : (hs.map (·.1)).Nodup := by
  have nl := hN.len
  have inj : ∀ (i j : Nat) z, nm[i]? = some z → nm[j]? = some z → i = j := by
    intro i j z hi hj
    obtain ⟨li, ei⟩ := List.getElem?_eq_some_iff.mp hi
    obtain ⟨lj, ej⟩ := List.getElem?_eq_some_iff.mp hj
    exact (List.getElem_inj hN.nd).mp (ei.trans ej.symm)
  refine List.pairwise_iff_getElem.mpr fun i j hi hj hij e => ?_
  rw [List.length_map] at hi hj
  rw [List.getElem_map, List.getElem_map] at e
  have e2 : hs[i].1 = hs[j].1 := e
  have h1 := o.nm i _ (List.getElem?_eq_getElem (by omega : i < hs.length))
  have h2 := o.nm j _ (List.getElem?_eq_getElem hj)
  rw [e2] at h1
  rcases h1 with h1 | h1 <;> rcases h2 with h2 | h2 <;> have := inj _ _ _ h1 h2 <;> omega
def sp__law_program (K : PySem.W.Frag) : Sp := fun vs H Q _ => ∃ (a : Addr) (ns : List Int) (fi : Int), vs = [.ref a, .int fi] ∧ SqL K H a (ns.map V.int) ∧ 0 ≤ fi ∧ fi ≤ 1000 ∧ ∀ H' r (p : Pg), Same H H' → Dp K H' r p.d → p.Wf → Q r H'
theorem ok__law_program (T : Top K mg) : FnOk P w K mg base CX0 21 (He.ga K "_law_program") T.fd__law_program ["_law_script", "_law_first"] (sp__law_program K) := by
  have G__law_mixed := ok__law_mixed (P := P) (w := w) (base := base) T
  have G__law_held := ok__law_held (P := P) (w := w) (base := base) T
  have G__law_cell_at := ok__law_cell_at (P := P) (w := w) (base := base) T
  have G__law_names := ok__law_names (P := P) (w := w) (base := base) T
  have G__law_inner_cell := ok__law_inner_cell (P := P) (w := w) (base := base) T
  have G__law_body := okg_body (P := P) (w := w) (base := base) T 4
  refine T.F__law_program.ok sc__law_program (fun vs H Q E h => ?_) (fun cdv A outer s H vs Q E hr h => ?_)
  · obtain ⟨a, ns, fi, rfl, _⟩ := h
    rfl
  · obtain ⟨a, ns, fi, rfl, hS, f0, f1, q⟩ := h
    refine ⟨_, PSs.nox (pss_cons (ps_set (i := 2) sc__law_program.nd rfl (Or.inl rfl) (pe_call G__law_cell_at (hr.mono (by omega)) (by rfl) T.g__law_cell_at T.F__law_cell_at.kp T.b__law_cell_at .nil pass0 (pa_cons (pv 0) (pa_cons (pv 1) pa_nil))))
        (pss_cons (ps_set (i := 3) sc__law_program.nd rfl (Or.inr rfl) (pe_call G__law_names (hr.mono (by omega)) (by rfl) T.g__law_names T.F__law_names.kp T.b__law_names .nil pass0 (pa_cons (pe_op op_fdivW (pv 2) pe_int) pa_nil)))
        (pss_cons (ps_set (i := 4) sc__law_program.nd rfl (Or.inr rfl) (pe_call G__law_held (hr.mono (by omega)) (by rfl) T.g__law_held T.F__law_held.kp T.b__law_held .nil pass0 (pa_cons (pe_op op_fdivW (pv 2) (pe_op op_pow pe_int pe_int)) pa_nil)))
        (pss_cons (ps_if (pt_not (pt_val (pe_callB call_isi (by rfl) T.m_isinstance (by decide +kernel) (pa_cons (pv 4) (pa_cons (pe_bltn (v := .ty "list") (by rfl) T.m_list (by decide +kernel) rfl) pa_nil))))) (pss_one (ps_set (i := 4) sc__law_program.nd rfl (Or.inr rfl) (pv 2))) pss_nil)
        (pss_cons (ps_set (i := 5) sc__law_program.nd rfl (Or.inl rfl) (pe_ix ix_list (pe_lst (pa_cons pe_int (pa_cons pe_int (pa_cons pe_int (pa_cons pe_int (pa_cons pe_int (pa_cons pe_int pa_nil))))))) (pe_call G__law_mixed (hr.mono (by omega)) (by rfl) T.g__law_mixed T.F__law_mixed.kp T.b__law_mixed .nil pass0 (pa_cons (pv 4) (pa_cons pe_int (pa_cons pe_int pa_nil)))) (fun _ _ => rfl)))
        (pss_cons (ps_setLc (i := 6) (own := [("_law_k", 9)]) (by rfl) sc__law_program.nd rfl rfl (sw_true rfl rfl rfl (by decide +kernel)) (pi_range1 (by rfl) T.m_range (pa_cons pe_int pa_nil)) (blkOk_by (own := [("_law_k", 9)]) (N := N__law_program) (sc := defScope s__law_program) (by decide +kernel)) (fun _ _ _ _ _ => (pg_name (i := 9) sc__law_program.nd rfl (Or.inl rfl))) (fun _ _ _ _ _ => pts_nil) (fun _ _ _ _ _ => (pe_tup (pa_cons (pe_ix (ix_listK (K := K) rfl) (pv 3) (pe_op op_add pe_int (pv 9)) (fun _ _ => rfl)) (pa_cons (pe_ix (ix_listK (K := K) rfl) (pe_lst (pa_cons pe_int (pa_cons pe_int (pa_cons pe_int (pa_cons (pe_op op_add pe_int (pe_call G__law_mixed (hr.mono (by omega)) (by rfl) T.g__law_mixed T.F__law_mixed.kp T.b__law_mixed .nil pass0 (pa_cons (pv 4) (pa_cons (pv 9) (pa_cons pe_int pa_nil))))) pa_nil))))) (pe_call G__law_mixed (hr.mono (by omega)) (by rfl) T.g__law_mixed T.F__law_mixed.kp T.b__law_mixed .nil pass0 (pa_cons (pv 4) (pa_cons (pe_op op_add pe_int (pv 9)) (pa_cons pe_int pa_nil)))) (fun _ _ => rfl)) pa_nil)))))
        (pss_cons (ps_set (i := 6) sc__law_program.nd rfl (Or.inl rfl) (pe_slice sl_list (pv 6) po_none (po_some (pe_call G__law_mixed (hr.mono (by omega)) (by rfl) T.g__law_mixed T.F__law_mixed.kp T.b__law_mixed .nil pass0 (pa_cons (pv 4) (pa_cons pe_int (pa_cons pe_int pa_nil)))))))
        (pss_cons (ps_set (i := 7) sc__law_program.nd rfl (Or.inl rfl) (pe_lst pa_nil))
        (pss_cons (ps_set (i := 8) sc__law_program.nd rfl (Or.inl rfl) (pe_lst pa_nil))
        (pss_cons (ps_for PassesOwn.never (by rfl) (pi_range1 (by rfl) T.m_range (pa_cons (pe_ix ix_list (pe_lst (pa_cons pe_int (pa_cons pe_int (pa_cons pe_int (pa_cons pe_int (pa_cons pe_int (pa_cons pe_int pa_nil))))))) (pe_call G__law_mixed (hr.mono (by omega)) (by rfl) T.g__law_mixed T.F__law_mixed.kp T.b__law_mixed .nil pass0 (pa_cons (pv 4) (pa_cons pe_int (pa_cons pe_int pa_nil)))) (fun _ _ => rfl)) pa_nil)) (pg_name (i := 9) sc__law_program.nd rfl (Or.inr rfl)) (pss_cons (ps_set (i := 10) sc__law_program.nd rfl (Or.inl rfl) (pe_ifExp (pt_val (pe_callB call_isi (by rfl) T.m_isinstance (by decide +kernel) (pa_cons (pv 4) (pa_cons (pe_bltn (v := .ty "list") (by rfl) T.m_list (by decide +kernel) rfl) pa_nil)))) (pv 4) (pe_op op_add (pv 2) (pv 9))))
        (pss_cons (ps_set (i := 11) sc__law_program.nd rfl (Or.inr rfl) (pe_callTy call_tuple_of (by rfl) T.m_tuple (by decide +kernel) (pa_cons (pe_slice sl_list (pv 3) (po_some (pv 9)) (po_some (pe_op op_add (pv 9) (pe_call G__law_mixed (hr.mono (by omega)) (by rfl) T.g__law_mixed T.F__law_mixed.kp T.b__law_mixed .nil pass0 (pa_cons (pv 10) (pa_cons pe_int (pa_cons pe_int pa_nil))))))) pa_nil)))
        (pss_cons (ps_setLc (i := 12) (own := [("_law_j", 16)]) (by rfl) sc__law_program.nd rfl rfl (sw_true rfl rfl rfl (by decide +kernel)) (pi_range1 (by rfl) T.m_range (pa_cons (pe_op op_add pe_int (pe_op op_mul pe_int (pv 9))) pa_nil)) (blkOk_by (own := [("_law_j", 16)]) (N := N__law_program) (sc := defScope s__law_program) (by decide +kernel)) (fun _ _ _ _ _ => (pg_name (i := 16) sc__law_program.nd rfl (Or.inl rfl))) (fun _ _ _ _ _ => pts_nil) (fun _ _ _ _ _ => (pe_call G__law_inner_cell (hr.mono (by omega)) (by rfl) T.g__law_inner_cell T.F__law_inner_cell.kp T.b__law_inner_cell .nil pass0 (pa_cons (pv 0) (pa_cons (pv 1) (pa_cons (pv 9) (pa_cons (pv 16) pa_nil)))))))
        (pss_cons (ps_set (i := 13) sc__law_program.nd rfl (Or.inl rfl) (pe_op op_cat (pe_callTy call_list_of (by rfl) T.m_list (by decide +kernel) (pa_cons (pv 11) pa_nil)) (pe_slice sl_list (pe_lc (own := [("_law_name", 14)]) (by rfl) sc__law_program.nd (pi_list (pe_slice sl_list (pv 3) po_none (po_some (pv 5)))) (blkOk_by (own := [("_law_name", 14)]) (N := N__law_program) (sc := defScope s__law_program) (by decide +kernel)) (fun _ _ _ _ _ => (pg_name (i := 14) sc__law_program.nd rfl (Or.inl rfl))) (fun _ _ _ _ _ => (pts_one (pt_cmpR (op_notIn_seqK (K := K) rfl) (pv 14) (pv 11) (by rfl)))) (fun _ _ _ _ _ => (pv 14))) po_none (po_some (pe_op op_sub pe_int (pe_callB call_len_seq (by rfl) T.m_len (by decide +kernel) (pa_cons (pv 11) pa_nil)))))))
        (pss_cons (ps_set (i := 14) sc__law_program.nd rfl (Or.inl rfl) (pe_ix ix_list (pv 3) (pe_ix ix_list (pe_lst (pa_cons (pe_op op_sub pe_int (pv 9)) (pa_cons (pv 9) pa_nil))) (pe_call G__law_mixed (hr.mono (by omega)) (by rfl) T.g__law_mixed T.F__law_mixed.kp T.b__law_mixed .nil pass0 (pa_cons (pv 4) (pa_cons (pv 9) (pa_cons pe_int pa_nil)))) (fun _ _ => rfl)) (fun _ _ => rfl)))
        (pss_cons (ps_expr (pe_bm PySem.F.plainAttrs_list PySem.F.slot_list_append PySem.F.type_list_append mt_append (pv 7) (pa_cons (pe_tup (pa_cons (pv 14) (pa_cons (pv 11) (pa_cons (pe_call G__law_body (hr.mono (by omega)) (by rfl) T.g__law_body T.F__law_body.kp T.b__law_body .nil pass0 (pa_cons (pv 12) (pa_cons pe_int (pa_cons (pe_tup (pa_cons (pv 13) (pa_cons (pe_lst pa_nil) (pa_cons (pe_callTy call_list_of (by rfl) T.m_list (by decide +kernel) (pa_cons (pv 8) pa_nil)) pa_nil)))) pa_nil)))) pa_nil)))) pa_nil)))
        (pss_one (ps_expr (pe_bm PySem.F.plainAttrs_list PySem.F.slot_list_append PySem.F.type_list_append mt_append (pv 8) (pa_cons (pe_tup (pa_cons (pv 14) (pa_cons (pe_callB call_len_seq (by rfl) T.m_len (by decide +kernel) (pa_cons (pv 11) pa_nil)) pa_nil))) pa_nil)))))))))))
        (pss_cons (ps_set (i := 11) sc__law_program.nd rfl (Or.inr rfl) (pe_callTy call_tuple_of (by rfl) T.m_tuple (by decide +kernel) (pa_cons (pe_slice sl_list (pv 3) po_none (po_some (pe_callB (call_min2 rfl) (by rfl) T.m_min (by decide +kernel) (pa_cons (pv 5) (pa_cons (pe_call G__law_mixed (hr.mono (by omega)) (by rfl) T.g__law_mixed T.F__law_mixed.kp T.b__law_mixed .nil pass0 (pa_cons (pv 4) (pa_cons pe_int (pa_cons pe_int pa_nil)))) pa_nil))))) pa_nil)))
        (pss_cons (ps_set (i := 15) sc__law_program.nd rfl (Or.inl rfl) (pe_tup (pa_cons (pe_slice sl_list (pv 3) po_none (po_some (pv 5))) (pa_cons (pe_lc (own := [("_law_row", 17)]) (by rfl) sc__law_program.nd (pi_list (pv 6)) (blkOk_by (own := [("_law_row", 17)]) (N := N__law_program) (sc := defScope s__law_program) (by decide +kernel)) (fun _ _ _ _ _ => (pg_name (i := 17) sc__law_program.nd rfl (Or.inl rfl))) (fun _ _ _ _ _ => pts_nil) (fun _ _ _ _ _ => (pe_ix (ix_tupK (K := K) rfl) (pv 17) pe_int (fun _ _ => rfl)))) (pa_cons (pv 8) pa_nil)))))
        (pss_cons (ps_setLc (i := 12) (own := [("_law_cell", 2)]) (by rfl) sc__law_program.nd rfl rfl (sw_true rfl rfl rfl (by decide +kernel)) (pi_list (pe_slice sl_list (pv 0) (po_some (pe_op op_add (pv 1) pe_int)) (po_some (pe_op op_add (pv 1) pe_int)))) (blkOk_by (own := [("_law_cell", 2)]) (N := N__law_program) (sc := defScope s__law_program) (by decide +kernel)) (fun _ _ _ _ _ => (pg_name (i := 2) sc__law_program.nd rfl (Or.inl rfl))) (fun _ _ _ _ _ => pts_nil) (fun _ _ _ _ _ => (pe_call G__law_held (hr.mono (by omega)) (by rfl) T.g__law_held T.F__law_held.kp T.b__law_held .nil pass0 (pa_cons (pv 2) pa_nil))))
        (pss_one (ps_ret (pe_tup (pa_cons (pe_callTy call_tuple_of (by rfl) T.m_tuple (by decide +kernel) (pa_cons (pv 7) pa_nil)) (pa_cons (pv 11) (pa_cons (pe_callTy call_tuple_of (by rfl) T.m_tuple (by decide +kernel) (pa_cons (pv 6) pa_nil)) (pa_cons (pe_call G__law_body (hr.mono (by omega)) (by rfl) T.g__law_body T.F__law_body.kp T.b__law_body .nil pass0 (pa_cons (pv 12) (pa_cons pe_int (pa_cons (pv 15) pa_nil)))) pa_nil)))))))))))))))))))), ?_⟩
    refine ⟨_, rfl, _, rfl, a, ns, fi, rfl, f0, hS, ?_⟩
    generalize cellA ns fi = c
    refine ⟨_, rfl, _, _, rfl, rfl, wide_div (b := 64) (by decide) (by decide) (by decide) (by decide), _, rfl, fun H1 Ln nm s1 nLn eLn hN => ?_⟩
    refine ⟨_, rfl, _, _, rfl, rfl, ⟨by decide, by decide, by decide⟩, _, _, rfl, rfl, wide_div (b := 80) (by decide) (by decide) (by decide) (by decide), _, rfl, fun H2 vh0 s2 c2 f2 => ?_⟩
    dsimp only [gName]
    refine ifs_by (fun σ' H' => H' = H2 ∧ ∃ vh, CellOk H2 vh ∧ (∀ p, vh = .ref p → H1 p = none) ∧ σ' = [some (.ref a), some (.int fi), some (.int c), some (.ref Ln), some vh, none, none, none, none, none, none, none, none, none, none, none, none, none]) ?_ ?_
    rotate_left
    · intro N hN'
      rcases c2 with ⟨x, rfl⟩ | ⟨p, l, t, rfl, hp, hl, ht⟩
      · refine ⟨_, rfl, _, _, _, _, false, rfl, .ty _, .base (.int x), kit_ty (by decide +kernel), false, rfl, ?_⟩
        exact ⟨_, rfl, hN' _ _ ⟨rfl, .int c, .inl ⟨_, rfl⟩, (fun p e => nomatch e), rfl⟩⟩
      · refine ⟨_, rfl, _, _, _, _, true, rfl, .ty _, .base (.lst hp), kit_ty (by decide +kernel), true, rfl, ?_⟩
        exact hN' _ _ ⟨rfl, .ref p, .inr ⟨p, l, t, rfl, hp, hl, ht⟩, f2, rfl⟩
    rintro σ' H3 ⟨rfl, vh, c3, f3, rfl⟩
    have pf : PF H Ln vh := ⟨nLn, fun b e => s1.free (f3 b e), fun e => by
      have := f3 Ln e
      rw [eLn] at this
      cases this⟩
    have w3 : PW H H3 Ln nm vh := ⟨s1.trans s2, s2 _ _ eLn, c3⟩
    clear s1 s2 c2 f2 c3 f3 eLn nLn
    have nl := hN.len
    -- most
    refine ⟨(by show 6 ≤ sizeLine; rw [sizeLine_eq]; decide), fun L1 n1 => ?_⟩
    have w4 := w3.new (o := .lst (mosts.map V.int)) n1
    have nc1 := (w3.free n1).2.2
    refine ⟨_, rfl, vh, 4, 6, rfl, w4.c, by decide, by decide, by decide, by decide, fun H5 j k5 c5 j0 j1 => ?_⟩
    have w5 := w4.kp pf k5 c5
    obtain ⟨m, hm, em⟩ := ints_at (l := mosts) j0 j1
    have m1 : 1 ≤ m ∧ m ≤ 12 := by
      have : ∀ x ∈ mosts, 1 ≤ x ∧ x ≤ 12 := by decide
      exact this m hm
    refine ⟨L1, _, j, _, rfl, rfl, .of (k5 _ _ upd_same fun z => absurd z nc1), em, ?_⟩
    clear w3 w4 hm em
    -- rows
    refine ⟨3, rfl, by decide, by decide, fun D nD => ?_⟩
    obtain ⟨nD0, nDL, nDc⟩ := w5.free nD
    refine lc_range (lo := 0) (n := 3) (fun i H' => PW H H' Ln nm vh ∧ ∃ (xs : List V) (rs : List (Str × Nat)), H' D = some (.lst xs) ∧ DpAll K H' xs (rs.map rwD) ∧ rs.map (·.1) = (nm.drop 12).take i ∧ ∀ r ∈ rs, 1 ≤ r.2 ∧ r.2 ≤ 8) ?_ ?_ ?_
    · exact ⟨w5.new nD, [], [], upd_same, .nil, rfl, fun r hr => nomatch hr⟩
    · rintro i H6 hi ⟨w6, xs, rs, e6, d6, r6, b6⟩
      have hi2 : 12 + i < nm.length := by omega
      have eN : atI (nm.map V.str) (12 + (0 + (i : Int))) = some (.str nm[12 + i]) := by
        rw [show (12 + (0 + (i : Int))) = ((12 + i : Nat) : Int) by omega]
        exact atI_nat (by rw [List.getElem?_map, List.getElem?_eq_getElem hi2]; rfl)
      refine ⟨rfl, _, rfl, _, rfl, _, _, rfl, rfl, Ln, _, _, _, rfl, rfl, .of w6.ln, eN, ?_⟩
      refine ⟨_, rfl, _, rfl, vh, 0 + (i : Int), 8, rfl, w6.c, by omega, by omega, by decide, by decide, fun H7 r7 k7 c7 r70 r71 => ?_⟩
      have w7 := w6.kp pf k7 c7
      refine ⟨_, _, rfl, rfl, (by show 4 ≤ sizeLine; rw [sizeLine_eq]; decide), fun L2 n2 => ?_⟩
      have w8 := w7.new (o := .lst (([1, 2, 8, 1 + r7] : List Int).map V.int)) n2
      have nc2 := (w7.free n2).2.2
      refine ⟨_, rfl, _, rfl, _, _, rfl, rfl, vh, 5 + (0 + (i : Int)), 4, rfl, w8.c, by omega, by omega, by decide, by decide, fun H9 j9 k9 c9 j90 j91 => ?_⟩
      have w9 := w8.kp pf k9 c9
      obtain ⟨sz, hsz, esz⟩ := ints_at (l := [1, 2, 8, 1 + r7]) j90 j91
      have sz1 : 1 ≤ sz ∧ sz ≤ 8 := by
        simp only [List.mem_cons, List.not_mem_nil, or_false] at hsz
        omega
      refine ⟨L2, _, j9, _, rfl, rfl, .of (k9 _ _ upd_same fun z => absurd z nc2), esz, ?_⟩
      refine ⟨(by show 2 ≤ sizeLine; rw [sizeLine_eq]; decide), fun p np => ?_⟩
      have w10 := w9.new (o := .tup [.str nm[12 + i], .int sz]) np
      have e10 : (upd H9 p (.tup [.str nm[12 + i], .int sz])) D = some (.lst xs) := by
        rw [upd_ne (fun z => ?_)]
        · exact k9 _ _ (same_new n2 _ _ (k7 _ _ e6 fun z => absurd z nDc)) fun z => absurd z nDc
        · have : H9 D = some (.lst xs) := k9 _ _ (same_new n2 _ _ (k7 _ _ e6 fun z => absurd z nDc)) fun z => absurd z nDc
          rw [z, np] at this
          cases this
      have d10 : DpAll K (upd H9 p (.tup [.str nm[12 + i], .int sz])) xs (rs.map rwD) := dpAll_same (dpAll_kp k9 _ _ (rws_noL rs) (dpAll_same (dpAll_kp k7 _ _ (rws_noL rs) d6) (same_new n2) (rws_noL rs))) (same_new np) (rws_noL rs)
      obtain ⟨szn, rfl⟩ := Int.eq_ofNat_of_zero_le (show 0 ≤ sz by omega)
      have dt : Dp K (upd H9 p (.tup [.str nm[12 + i], .int szn])) (.ref p) (rwD (nm[12 + i], szn)) := dp_new np (.cons (.str _) (.cons (.int _) .nil)) rfl
      generalize upd H9 p (.tup [.str nm[12 + i], .int szn]) = H10 at w10 e10 d10 dt
      have xl : xs.length ≤ 3 := by
        rw [dpAll_len d10, List.length_map]
        have := congrArg List.length r6
        rw [List.length_map, List.length_take] at this
        omega
      have ku : Kp (fun y => y = D) H10 (upd H10 D (.lst (xs ++ [.ref p]))) := Kp.upd e10 trivial rfl
      refine ⟨xs, e10, by rw [sizeLine_eq]; omega, w10.upd nD0 nDL nDc, xs ++ [.ref p], rs ++ [(nm[12 + i], szn)], upd_same, ?_, ?_, ?_⟩
      · rw [List.map_append]
        exact dpAll_app (dpAll_kp ku _ _ (rws_noL rs) d10) (.cons (dp_kp ku _ _ rfl dt) .nil)
      · rw [List.map_append, r6, List.take_add_one, List.getElem?_drop, List.getElem?_eq_getElem hi2]
        rfl
      · intro r hr
        rcases List.mem_append.mp hr with hr | hr
        · exact b6 r hr
        · rw [List.mem_singleton.mp hr]
          exact ⟨by show 1 ≤ szn; omega, by show szn ≤ 8; omega⟩
    rintro H6 ⟨w6, xs, rs, e6, d6, r6, b6⟩
    -- rows[:..]
    refine ⟨_, rfl, _, rfl, vh, 8, 4, rfl, w6.c, by decide, by decide, by decide, by decide, fun H7 j7 k7 c7 j70 j71 => ?_⟩
    have w7 := w6.kp pf k7 c7
    obtain ⟨j7, rfl⟩ := Int.eq_ofNat_of_zero_le j70
    refine ⟨_, rfl, D, _, rfl, .of (k7 _ _ e6 fun z => absurd z nDc), fun LR nLR => ?_⟩
    rw [cutV_to]
    have w8 := w7.new (o := .lst (xs.take j7)) nLR
    have dR : DpAll K (upd H7 LR (.lst (xs.take j7))) (xs.take j7) ((rs.take j7).map rwD) := by
      rw [List.map_take]
      exact dpAll_take _ (dpAll_same (dpAll_kp k7 _ _ (rws_noL rs) d6) (same_new nLR) (rws_noL rs))
    have eR : upd H7 LR (.lst (xs.take j7)) LR = some (.lst (xs.take j7)) := upd_same
    obtain ⟨rs', hrs'⟩ : ∃ rs', rs' = rs.take j7 := ⟨_, rfl⟩
    have rn : rs'.map (·.1) = (nm.drop 12).take (min j7 3) := by
      rw [hrs', List.map_take, r6, List.take_take]
    have rb' : ∀ r ∈ rs', 1 ≤ r.2 ∧ r.2 ≤ 8 := fun r hr => b6 r (List.mem_of_mem_take (by rw [← hrs']; exact hr))
    rw [← hrs'] at dR
    obtain ⟨nR0, nRL, nRc⟩ := w7.free nLR
    generalize xs.take j7 = xr at dR eR w8 ⊢
    generalize upd H7 LR (.lst xr) = H8 at w8 dR eR
    clear w6 w7 d6 e6 r6 b6 hrs'
    -- helpers, heads
    refine ⟨Nat.zero_le _, fun LH nLH => ?_⟩
    obtain ⟨nH0, nHL, nHc⟩ := w8.free nLH
    have sH := same_new (o := .lst []) nLH
    refine ⟨Nat.zero_le _, fun LD nLD => ?_⟩
    have w9 := w8.new (o := .lst []) nLH
    obtain ⟨nD0', nDL', nDc'⟩ := w9.free nLD
    have sD := same_new (o := .lst []) nLD
    have lf : LF H Ln vh LR LH LD := ⟨pf, nRc, nHc, nDc', nH0, nD0', nHL, nDL', (ne_of_none eR nLH).symm, (ne_of_none (sH _ _ eR) nLD).symm, ne_of_none (upd_same (H := H8) (a := LH) (o := .lst [])) nLD⟩
    have l10 : LWg K H (upd (upd H8 LH (.lst [])) LD (.lst [])) Ln nm vh LR xr rs' LH LD [] [] [] := ⟨w9.new nLD, sD _ _ (sH _ _ eR), dpAll_same (dpAll_same dR sH (rws_noL _)) sD (rws_noL _), sD _ _ upd_same, .nil, upd_same, .nil⟩
    generalize upd (upd H8 LH (.lst [])) LD (.lst []) = H10 at l10
    clear w8 w9 dR eR sH sD nLH nLD
    refine ⟨(by show 6 ≤ sizeLine; rw [sizeLine_eq]; decide), fun L3 n3 => ?_⟩
    have l11 := l10.new (o := .lst (manys.map V.int)) n3
    have nc3 := (l10.w.free n3).2.2
    refine ⟨_, rfl, vh, 9, 6, rfl, l11.w.c, by decide, by decide, by decide, by decide, fun H12 j12 k12 c12 j120 j121 => ?_⟩
    have l12 := l11.kp lf k12 c12
    obtain ⟨many, hmany, emany⟩ := ints_at (l := manys) j120 j121
    have many1 : 0 ≤ many ∧ many ≤ 4 := by
      have : ∀ x ∈ manys, 0 ≤ x ∧ x ≤ 4 := by decide
      exact this many hmany
    refine ⟨L3, _, j12, _, rfl, rfl, .of (k12 _ _ upd_same fun z => absurd z nc3), emany, many, rfl, by omega, by omega, ?_⟩
    clear l10 l11 hmany emany
    refine for_range (lo := 0) (n := many.toNat) (fun i σ' H' => ∃ xh xd hs x9 x10 x11 x12 x13 x14 x16 x17, LWg K H H' Ln nm vh LR xr rs' LH LD xh xd hs ∧ hs.length = i ∧ HsOk nm hs ∧
      σ' = [some (.ref a), some (.int fi), some (.int c), some (.ref Ln), some vh, some (.int m), some (.ref LR), some (.ref LH), some (.ref LD), x9, x10, x11, x12, x13, x14, none, x16, x17]) ?_ ?_ ?_
    · exact ⟨[], [], [], none, none, none, none, none, none, none, none, l12, rfl, ⟨fun j h e => by simp at e, fun j h e => by simp at e⟩, rfl⟩
    · rintro i σ' H13 hi ⟨xh, xd, hs, x9, x10, x11, x12, x13, x14, x16, x17, l13, hl13, ok13, rfl⟩
      have hi4 : i < 4 := by omega
      -- own
      have own : ∃ vo, (vo = vh ∨ ∃ x, vo = .int x) ∧ ∀ Q' : VK, Q' vo H13 → (fun σ H Q => (tIf (tB (tCB (rIsi K) (tCons (tVar 4) (tCons (tC (.ty "list")) tNil)))) (tVar 4) (tOp (rI0 fun i j => V.int (i + j)) (tVar 2) (tVar 9))) σ H Q) [some (.ref a), some (.int fi), some (.int c), some (.ref Ln), some vh, some (.int m), some (.ref LR), some (.ref LH), some (.ref LD), some (.int (0 + (i : Int))), x10, x11, x12, x13, x14, none, x16, x17] H13 Q' := by
        rcases l13.w.c with ⟨x, rfl⟩ | ⟨p, l, t, rfl, hp, hl, ht⟩
        · exact ⟨.int (c + (0 + (i : Int))), .inr ⟨_, rfl⟩, fun Q' h => ⟨_, rfl, _, _, _, _, false, rfl, .ty _, .base (.int x), kit_ty (by decide +kernel), false, rfl, _, rfl, _, rfl, _, _, rfl, rfl, h⟩⟩
        · exact ⟨.ref p, .inl rfl, fun Q' h => ⟨_, rfl, _, _, _, _, true, rfl, .ty _, .base (.lst hp), kit_ty (by decide +kernel), true, rfl, _, rfl, h⟩⟩
      obtain ⟨vo, wo, own⟩ := own
      refine own _ ?_
      have subo := cellS_sub wo
      -- params
      refine ⟨_, rfl, _, rfl, _, rfl, _, rfl, _, rfl, vo, 10, 5, rfl, CellOk.or wo l13.w.c, by decide, by decide, by decide, by decide, fun H14 n14 k14 c14 n140 n141 => ?_⟩
      have l14 := l13.kp lf (k14.mono subo) (cell_after wo l13.w.c k14 c14)
      obtain ⟨n14, rfl⟩ := Int.eq_ofNat_of_zero_le n140
      refine ⟨_, _, rfl, rfl, _, rfl, Ln, _, rfl, .of l14.w.ln, fun Lp nLp => ?_⟩
      rw [show (0 + (i : Int)) + (n14 : Int) = ((i + n14 : Nat) : Int) by omega, show (0 + (i : Int)) = ((i : Nat) : Int) by omega, cutV_mid _ (by omega) (by rw [List.length_map, nl]; omega), Nat.add_sub_cancel_left, ← List.map_drop, ← List.map_take]
      obtain ⟨pr, hpr⟩ : ∃ pr, pr = (nm.drop i).take n14 := ⟨_, rfl⟩
      rw [← hpr]
      have l15 := l14.new (o := .lst (pr.map V.str)) nLp
      refine ⟨Lp, _, rfl, .inl ⟨.of upd_same, fun Tp nTp => ?_⟩⟩
      have l16 := l15.new (o := .tup (pr.map V.str)) nTp
      have prl : pr.length ≤ 4 := by rw [hpr, List.length_take]; omega
      have prn : pr.Nodup := by
        rw [hpr]
        exact ((List.take_sublist _ _).trans (List.drop_sublist _ _)).nodup hN.nd
      have prk : ∀ x ∈ pr, x ∈ nm := fun x hx => List.mem_of_mem_drop (List.mem_of_mem_take (by rw [← hpr]; exact hx))
      have dTp : SqT K (upd (upd H14 Lp (.lst (pr.map V.str))) Tp (.tup (pr.map V.str))) Tp (pr.map V.str) := .of upd_same
      generalize upd (upd H14 Lp (.lst (pr.map V.str))) Tp (.tup (pr.map V.str)) = H16 at l16 dTp
      clear l14 l15
      -- cells
      refine ⟨_, rfl, _, _, rfl, rfl, .inl ⟨by decide, by decide⟩, _, _, rfl, rfl, 2 + 2 * (i : Int), rfl, by omega, by omega, fun pc npc => ?_⟩
      refine lc_range (lo := 0) (n := (2 + 2 * (i : Int)).toNat) (H1 := H16) (D := pc) (fun j H' => Same H16 H' ∧ ∃ cs, CellsOk H' pc cs ∧ cs.length = j ∧ ∀ x ∈ cs, ∀ b, cellS x b → H16 b = none) ?_ ?_ ?_
      · exact ⟨same_new npc, [], ⟨upd_same, (fun x hx => nomatch hx), fun x hx => nomatch hx⟩, rfl, fun x hx => nomatch hx⟩
      · rintro j H17 hj ⟨s17, cs, C17, lc, f17⟩
        refine ⟨rfl, _, rfl, _, rfl, _, rfl, _, rfl, a, ns, fi, (i : Int), 0 + (j : Int), rfl, (l16.w.s.trans s17).seq hS, f0, by omega, by omega, by omega, by omega, fun H18 v s18 c18 f18 => ?_⟩
        have C18 := C17.same s18
        have nv : v ≠ .ref pc := fun e => by
          have := f18 pc e
          rw [C17.at_] at this
          cases this
        have cup : ∀ x ∈ cs, ¬ cellS x pc := fun x hx e => C17.off x hx e
        refine ⟨cs, C18.at_, by rw [lc, sizeLine_eq]; omega, ?_, cs ++ [v], ⟨upd_same, fun x hx => ?_, fun x hx => ?_⟩, by rw [List.length_append, lc]; rfl, fun x hx b e => ?_⟩
        · intro b o hb
          rw [upd_ne (ne_of_none hb npc)]
          exact (s17.trans s18) b o hb
        · rcases List.mem_append.mp hx with hx | hx
          · exact (C18.ok x hx).upd (cup x hx)
          · rw [List.mem_singleton.mp hx]
            exact c18.upd nv
        · rcases List.mem_append.mp hx with hx | hx
          · exact C17.off x hx
          · rw [List.mem_singleton.mp hx]
            exact nv
        · rcases List.mem_append.mp hx with hx | hx
          · exact f17 x hx b e
          · rw [List.mem_singleton.mp hx] at e
            exact s17.free (f18 b e)
      rintro H17 ⟨s17, cs, C17, lc, f17⟩
      have fS : ∀ b, cellsS pc cs b → H16 b = none := by
        rintro b (e | ⟨x, hx, e⟩)
        · rw [e]
          exact npc
        · exact f17 x hx b e
      have l17 := l16.same s17
      have dTp17 := sqT_kp (Kp.of_same (S := cellS vh) s17) dTp
      -- variables
      refine ⟨_, rfl, Tp, _, rfl, .inr dTp17, fun L4 n4 => ?_⟩
      have s4 := same_new (o := .lst (pr.map V.str)) n4
      have m0 : ∃ mn : Nat, m = mn := Int.eq_ofNat_of_zero_le (by omega)
      obtain ⟨mn, rfl⟩ := m0
      refine ⟨_, rfl, _, rfl, _, rfl, Ln, _, rfl, .of (s4 _ _ l17.w.ln), fun L5 n5 => ?_⟩
      rw [cutV_to, ← List.map_take]
      have s5 := same_new (o := .lst ((nm.take mn).map V.str)) n5
      refine ⟨L5, rfl, ⟨_, .of upd_same⟩, fun L6 n6 => ?_⟩
      have s45 := s4.trans s5
      refine lc_list (K := K) (a := L5) (xs := (nm.take mn).map V.str) (fun j H' => Same (upd (upd H17 L4 (.lst (pr.map V.str))) L5 (.lst ((nm.take mn).map V.str))) H' ∧ ∃ fs : List Str, H' L6 = some (.lst (fs.map V.str)) ∧ (∀ x ∈ fs, x ∈ nm) ∧ fs.length ≤ j) ?_ ?_ ?_ ?_
      · exact ⟨same_new n6, [], upd_same, (fun x hx => nomatch hx), Nat.le_refl _⟩
      · rintro j H' _ ⟨s', _⟩
        exact .of (s' _ _ upd_same)
      · rintro j x H' hx ⟨s', fs, e6, f6, g6⟩
        rw [List.getElem?_map] at hx
        obtain ⟨z, hz, rfl⟩ := Option.map_eq_some_iff.mp hx
        have zin : z ∈ nm := List.mem_of_mem_take (List.mem_of_getElem? hz)
        have jl : j < mn := by
          have := (List.getElem?_eq_some_iff.mp hz).1
          rw [List.length_take] at this
          omega
        refine ⟨rfl, _, rfl, _, rfl, Tp, _, rfl, .inr (sqT_kp (Kp.of_same (S := cellS vh) (s45.trans s')) dTp17), rfl, flat_strs _, _, rfl, ?_⟩
        dsimp only
        rw [if_pos rfl, in_strs]
        refine ite2 (fun _ => ?_) (fun _ => ?_)
        · refine ⟨_, rfl, _, e6, by rw [List.length_map, sizeLine_eq]; omega, ?_, fs ++ [z], ?_, ?_, ?_⟩
          · intro b o hb
            rw [upd_ne (ne_of_none hb n6)]
            exact s' b o hb
          · rw [upd_same, List.map_append]
            rfl
          · intro y hy
            rcases List.mem_append.mp hy with hy | hy
            · exact f6 y hy
            · rw [List.mem_singleton.mp hy]
              exact zin
          · rw [List.length_append]
            show fs.length + 1 ≤ j + 1
            omega
        · exact ⟨s', fs, e6, f6, by omega⟩
      rintro H18 ⟨s18, fs, e18, f18, g18⟩
      refine ⟨_, rfl, Tp, _, rfl, .inr (sqT_kp (Kp.of_same (S := cellS vh) (s45.trans s18)) dTp17), _, _, rfl, rfl, _, rfl, L6, _, rfl, .of e18, fun L7 n7 => ?_⟩
      rw [List.length_map, show (12 : Int) - (pr.length : Int) = ((12 - pr.length : Nat) : Int) by omega, cutV_to, ← List.map_take]
      have s7 := same_new (o := .lst ((fs.take (12 - pr.length)).map V.str)) n7
      have e4 := s7 _ _ (s18 _ _ (s5 _ _ (upd_same (H := H17) (a := L4) (o := .lst (pr.map V.str)))))
      refine ⟨L4, L7, _, _, rfl, rfl, e4, upd_same, by rw [List.length_map, List.length_map, List.length_take, sizeLine_eq]; omega, fun LV nLV => ?_⟩
      rw [← List.map_append]
      obtain ⟨vs, hvs⟩ : ∃ vs, vs = pr ++ fs.take (12 - pr.length) := ⟨_, rfl⟩
      rw [← hvs]
      have sV := same_new (o := .lst (vs.map V.str)) nLV
      have vsl : vs.length ≤ 12 := by rw [hvs, List.length_append, List.length_take]; omega
      have vsn : ∀ x ∈ vs, x ∈ nm := fun x hx => by
        rw [hvs] at hx
        rcases List.mem_append.mp hx with hx | hx
        · exact prk x hx
        · exact f18 x (List.mem_of_mem_take hx)
      have vsp : ∀ x ∈ pr, x ∈ vs := fun x hx => by
        rw [hvs]
        exact List.mem_append_left _ hx
      have s19 := (s45.trans s18).trans (s7.trans sV)
      have eV : upd (upd H18 L7 (.lst ((fs.take (12 - pr.length)).map V.str))) LV (.lst (vs.map V.str)) LV = some (.lst (vs.map V.str)) := upd_same
      generalize upd (upd H18 L7 (.lst ((fs.take (12 - pr.length)).map V.str))) LV (.lst (vs.map V.str)) = H19 at s19 eV
      have C19 := C17.same s19
      have l19 := l17.same s19
      have nVS : ¬ cellsS pc cs LV := by
        have h1 : H17 LV = none := ((s45.trans s18).trans s7).free nLV
        exact C17.fresh h1
      have dTp19 := sqT_kp (Kp.of_same (S := cellS vh) s19) dTp17
      have s169 := s17.trans s19
      have nVh : ¬ cellS vh LV := l17.w.c.fresh (((s45.trans s18).trans s7).free nLV)
      clear sV s7 s45 s5 s4 e4 e18 s18 l17 C17 dTp17 n4 n5 n6 n7 nLV
      -- name
      refine ⟨_, rfl, _, rfl, _, _, rfl, rfl, _, rfl, (by show 2 ≤ sizeLine; rw [sizeLine_eq]; decide), fun L8 n8 => ?_⟩
      have s8 := same_new (o := .lst (([15 - (i : Int), (i : Int)] : List Int).map V.int)) n8
      have l20 := l19.same s8
      have nc8 : ¬ cellS vh L8 := l19.w.c.fresh n8
      refine ⟨_, rfl, _, rfl, vh, (i : Int), 2, rfl, l20.w.c, by omega, by omega, by decide, by decide, fun H21 j21 k21 c21 j210 j211 => ?_⟩
      have l21 := l20.kp lf k21 c21
      obtain ⟨ix, hix, eix⟩ := ints_at (l := [15 - (i : Int), (i : Int)]) j210 j211
      refine ⟨L8, _, j21, _, rfl, rfl, .of (k21 _ _ upd_same fun z => absurd z nc8), eix, ?_⟩
      have hix2 : ix = ((15 - i : Nat) : Int) ∨ ix = ((i : Nat) : Int) := by
        simp only [List.mem_cons, List.not_mem_nil, or_false] at hix
        omega
      obtain ⟨nmk, hnmk, enmk⟩ : ∃ z, (nm[15 - i]? = some z ∨ nm[i]? = some z) ∧ atI (nm.map V.str) ix = some (.str z) := by
        rcases hix2 with rfl | rfl
        · have h1 : 15 - i < nm.length := by omega
          exact ⟨nm[15 - i], .inl (List.getElem?_eq_getElem h1), atI_nat (by rw [List.getElem?_map, List.getElem?_eq_getElem h1]; rfl)⟩
        · have h1 : i < nm.length := by omega
          exact ⟨nm[i], .inr (List.getElem?_eq_getElem h1), atI_nat (by rw [List.getElem?_map, List.getElem?_eq_getElem h1]; rfl)⟩
      refine ⟨Ln, _, ix, _, rfl, rfl, .of l21.w.ln, enmk, ?_⟩
      have k19 : Kp (cellS vh) H19 H21 := (Kp.of_same s8).trans k21
      have vS : ∀ b, cellS vh b → ¬ cellsS pc cs b := fun b e z => by
        have h1 := fS b z
        rcases l16.w.c with ⟨x, rfl⟩ | ⟨p, l, t, rfl, hp, _, _⟩
        · cases e
        · cases e
          rw [hp] at h1
          cases h1
      have C21 : CellsOk H21 pc cs := ⟨k19 _ _ C19.at_ fun z => absurd (.inl rfl) (vS _ z), fun x hx => (C19.ok x hx).kp k19 fun b e z => absurd (.inr ⟨x, hx, e⟩) (vS b z), C19.off⟩
      have eV21 := k19 _ _ eV fun z => absurd z nVh
      have dTp21 := sqT_kp k19 dTp19
      clear l19 l20 C19 s8 n8 nc8 hix eix hix2 enmk
      -- helpers.append
      refine ⟨_, rfl, .inl ⟨rfl, _, .of l21.eH⟩, _, rfl, _, rfl, _, rfl, _, rfl, Nat.zero_le _, fun LE nLE => ?_⟩
      have sE := same_new (o := .lst []) nLE
      have l22 := l21.same sE
      refine ⟨_, rfl, LD, _, rfl, .inl (.of l22.eD), fun LC nLC => ?_⟩
      have sC := same_new (o := .lst xd) nLC
      have l23 := l22.same sC
      refine ⟨(by show 3 ≤ sizeLine; rw [sizeLine_eq]; decide), fun PI nPI => ?_⟩
      have sI := same_new (o := .tup [.ref LV, .ref LE, .ref LC]) nPI
      have l24 := l23.same sI
      have sECI := (sE.trans sC).trans sI
      have C24 := C21.same sECI
      have offI : Off (cellsS pc cs) LV LE LC := ⟨nVS, C21.fresh nLE, (C21.same sE).fresh nLC⟩
      have info : Info K (upd (upd (upd H21 LE (.lst [])) LC (.lst xd)) PI (.tup [.ref LV, .ref LE, .ref LC])) (.ref PI) vs [] (hs.map hdOf) LV LE LC :=
        ⟨⟨PI, rfl, .of upd_same⟩, sECI _ _ eV21, sI _ _ (sC _ _ upd_same), xd, sI _ _ upd_same, l24.dD⟩
      have dTp24 := sqT_kp (Kp.of_same (S := cellS vh) sECI) dTp21
      generalize upd (upd (upd H21 LE (.lst [])) LC (.lst xd)) PI (.tup [.ref LV, .ref LE, .ref LC]) = H24 at l24 C24 info dTp24 sECI
      have kq : ∀ q ∈ hs.map hdOf, q.2 ≤ 4 := fun q hq => by
        obtain ⟨h, hh, rfl⟩ := List.mem_map.mp hq
        obtain ⟨j, hj⟩ := List.getElem?_of_mem hh
        exact (ok13.wf j h hj).pl
      have hpc16 := fS
      have notS : ∀ b, (∃ o, H16 b = some o) → ¬ cellsS pc cs b := fun b ⟨o, e⟩ z => by
        rw [fS b z] at e
        cases e
      refine ⟨pc, cs, 0, .ref PI, vs, [], hs.map hdOf, LV, LE, LC, rfl, C24, by decide, by decide, by decide, by rw [lc]; omega, info, by omega, by decide, by rw [List.length_map]; omega, kq, fun z hz => nm_strOk (hN.nm z (vsn z hz)), offI, fun H25 rb nn bd k25 C25 hnn dB wB szB => ?_⟩
      have l25 : LWg K H H25 Ln nm vh LR xr rs' LH LD xh xd hs := l24.kpS k25 (fun b z => l16.w.s.free (fS b z)) (notS _ ⟨_, l16.w.ln⟩) (notS _ ⟨_, l16.eR⟩) (notS _ ⟨_, l16.eH⟩) (notS _ ⟨_, l16.eD⟩) (l24.w.c.kp k25 fun b e z => absurd z (fun y => vS b e y))
      have dTp25 := sqT_kp k25 dTp24
      refine ⟨(by show 3 ≤ sizeLine; rw [sizeLine_eq]; decide), fun TU nTU => ?_⟩
      have l26 := l25.new (o := .tup [.str nmk, .ref Tp, rb]) nTU
      have dTU : Dp K (upd H25 TU (.tup [.str nmk, .ref Tp, rb])) (.ref TU) (hpD (nmk, pr, bd)) := dp_new nTU (.cons (.str _) (.cons (.tup dTp25 (strs_dpAll pr)) (.cons dB .nil))) (by simp only [nLs, nLd, strs_noL, Sm.noLs]; rfl)
      have dTp26 := sqT_kp (Kp.of_same (S := cellS vh) (same_new (o := .tup [.str nmk, .ref Tp, rb]) nTU)) dTp25
      generalize upd H25 TU (.tup [.str nmk, .ref Tp, rb]) = H26 at l26 dTU dTp26
      have hlen : hs.length ≤ 4 := by omega
      refine ⟨LH, _, _, rfl, rfl, l26.eH, by rw [dpAll_len l26.dH, List.length_map, sizeLine_eq]; omega, ?_⟩
      have kh : Kp (fun b => b = LH) H26 (upd H26 LH (.lst (xh ++ [.ref TU]))) := Kp.upd l26.eH trivial rfl
      have w27 : PW H (upd H26 LH (.lst (xh ++ [.ref TU]))) Ln nm vh := l26.w.upd lf.h0 lf.hl lf.hc
      have eR27 := kh _ _ l26.eR fun z => absurd z.symm lf.hr
      have eD27 := kh _ _ l26.eD fun z => absurd z.symm lf.hd
      have dR27 := dpAll_kp kh _ _ (rws_noL _) l26.dR
      have dH27 := dpAll_app (dpAll_kp kh _ _ (hps_noL _) l26.dH) (.cons (dp_kp kh _ _ (hpD_noL _) dTU) .nil)
      have dD27 := dpAll_kp kh _ _ (hds_noL _) l26.dD
      have eH27 : upd H26 LH (.lst (xh ++ [.ref TU])) LH = some (.lst (xh ++ [.ref TU])) := upd_same
      have dTp27 := sqT_kp kh dTp26
      have dH27' : DpAll K (upd H26 LH (.lst (xh ++ [.ref TU]))) (xh ++ [.ref TU]) ((hs ++ [(nmk, pr, bd)]).map hpD) := by
        rw [List.map_append]
        exact dH27
      generalize upd H26 LH (.lst (xh ++ [.ref TU])) = H27 at w27 eR27 eD27 dR27 dH27 dH27' dD27 eH27 dTp27
      -- heads.append
      refine ⟨_, rfl, .inl ⟨rfl, _, .of eD27⟩, _, rfl, _, rfl, Tp, _, rfl, .inr dTp27, (by show 2 ≤ sizeLine; rw [sizeLine_eq]; decide), fun TW nTW => ?_⟩
      have sW := same_new (o := .tup [.str nmk, .int (pr.map V.str).length]) nTW
      have eD28 := sW _ _ eD27
      refine ⟨LD, _, _, rfl, rfl, eD28, by rw [dpAll_len dD27, List.length_map, List.length_map, sizeLine_eq]; omega, ?_⟩
      have dTW : Dp K (upd H27 TW (.tup [.str nmk, .int (pr.map V.str).length])) (.ref TW) (hdD (nmk, pr.length)) := by
        have := dp_new (K := K) nTW (.cons (.str nmk) (.cons (.int ((pr.map V.str).length : Int)) .nil)) rfl
        rw [List.length_map] at this ⊢
        exact this
      have w28 := w27.same sW
      have kd : Kp (fun b => b = LD) (upd H27 TW (.tup [.str nmk, .int (pr.map V.str).length])) (upd (upd H27 TW (.tup [.str nmk, .int (pr.map V.str).length])) LD (.lst (xd ++ [.ref TW]))) := Kp.upd eD28 trivial rfl
      refine ⟨_, _, hs ++ [(nmk, pr, bd)], _, _, _, _, _, _, _, _, ⟨w28.upd lf.d0 lf.dl lf.dc, kd _ _ (sW _ _ eR27) fun z => absurd z.symm lf.dr, dpAll_kp kd _ _ (rws_noL _) (dpAll_same dR27 sW (rws_noL _)), kd _ _ (sW _ _ eH27) fun z => absurd z lf.hd, ?_, upd_same, ?_⟩, by rw [List.length_append, hl13]; rfl, ?_, rfl⟩
      · exact dpAll_kp kd _ _ (hps_noL _) (dpAll_same dH27' sW (hps_noL _))
      · rw [List.map_append, List.map_append]
        exact dpAll_app (dpAll_kp kd _ _ (hds_noL _) (dpAll_same dD27 sW (hds_noL _))) (.cons (dp_kp kd _ _ rfl dTW) .nil)
      · refine hsOk_snoc ok13 ⟨?_, prl, prn, fun x hx => hN.nm x (prk x hx), ⟨vs, fun x hx => hN.nm x (vsn x hx), vsl, vsp, wB⟩, ?_⟩ (by rw [hl13]; exact hnmk)
        · rcases hnmk with h | h
          · exact hN.nm _ (List.mem_of_getElem? h)
          · exact hN.nm _ (List.mem_of_getElem? h)
        · show Sm.sizes bd ≤ 8
          omega
    · rintro σ' H13 ⟨xh, xd, hs, x9, x10, x11, x12, x13, x14, x16, x17, l13, hl13, ok13, rfl⟩
      have hl4 : hs.length ≤ 4 := by omega
      -- params
      refine ⟨_, rfl, _, rfl, _, rfl, vh, 2, 5, rfl, l13.w.c, by decide, by decide, by decide, by decide, fun H14 n14 k14 c14 n140 n141 => ?_⟩
      have l14 := l13.kp lf k14 c14
      obtain ⟨n14, rfl⟩ := Int.eq_ofNat_of_zero_le n140
      obtain ⟨mn, rfl⟩ := Int.eq_ofNat_of_zero_le (show 0 ≤ m by omega)
      refine ⟨_, _, rfl, ?_⟩
      rw [show (if (n14 : Int) < (mn : Int) then (n14 : Int) else (mn : Int)) = ((min mn n14 : Nat) : Int) by split <;> omega]
      refine ⟨_, rfl, Ln, _, rfl, .of l14.w.ln, fun Lp nLp => ?_⟩
      rw [cutV_to, ← List.map_take]
      obtain ⟨pr, hpr⟩ : ∃ pr, pr = nm.take (min mn n14) := ⟨_, rfl⟩
      rw [← hpr]
      have l15 := l14.new (o := .lst (pr.map V.str)) nLp
      refine ⟨Lp, _, rfl, .inl ⟨.of upd_same, fun Tp nTp => ?_⟩⟩
      have l16 := l15.new (o := .tup (pr.map V.str)) nTp
      have prl : pr.length ≤ 4 := by rw [hpr, List.length_take]; omega
      have prn : pr.Nodup := by
        rw [hpr]
        exact (List.take_sublist _ _).nodup hN.nd
      have prm : ∀ x ∈ pr, x ∈ nm.take mn := fun x hx => by
        rw [hpr] at hx
        exact List.mem_of_mem_take (i := n14) (by rw [List.take_take, Nat.min_comm]; exact hx)
      have dTp : SqT K (upd (upd H14 Lp (.lst (pr.map V.str))) Tp (.tup (pr.map V.str))) Tp (pr.map V.str) := .of upd_same
      generalize upd (upd H14 Lp (.lst (pr.map V.str))) Tp (.tup (pr.map V.str)) = H16 at l16 dTp
      clear l14 l15
      -- info
      refine ⟨_, rfl, _, rfl, _, rfl, Ln, _, rfl, .of l16.w.ln, fun LV nLV => ?_⟩
      rw [cutV_to, ← List.map_take]
      have sV := same_new (o := .lst ((nm.take mn).map V.str)) nLV
      have l17 := l16.same sV
      have eV : upd H16 LV (.lst ((nm.take mn).map V.str)) LV = some (.lst ((nm.take mn).map V.str)) := upd_same
      have dTp17 := sqT_kp (Kp.of_same (S := cellS vh) sV) dTp
      generalize upd H16 LV (.lst ((nm.take mn).map V.str)) = H17 at l17 eV dTp17
      refine ⟨_, rfl, LR, rfl, ⟨_, .of l17.eR⟩, fun LB nLB => ?_⟩
      refine lc_list (K := K) (a := LR) (xs := xr) (fun j H' => Same H17 H' ∧ H' LB = some (.lst (((rs'.map (·.1)).take j).map V.str))) ?_ ?_ ?_ ?_
      · exact ⟨same_new nLB, upd_same⟩
      · rintro j H' _ ⟨s', _⟩
        exact .of (s' _ _ l17.eR)
      · rintro j x H' hx ⟨s', e'⟩
        obtain ⟨d, hd, dx⟩ := dpAll_getV (dpAll_same l17.dR s' (rws_noL _)) hx
        rw [List.getElem?_map] at hd
        obtain ⟨r, hr, rfl⟩ := Option.map_eq_some_iff.mp hd
        obtain ⟨p, ys, rfl, sp, da⟩ := dp_tup dx
        obtain ⟨y1, yr, rfl, d1, _⟩ := dpAll_cons da
        rw [dp_str d1] at sp
        have rlen : (rs'.map (·.1)).length ≤ 16 := by rw [rn, List.length_take]; omega
        refine ⟨rfl, _, rfl, p, _, 0, _, rfl, rfl, sp, atI_nat (j := 0) rfl, _, e', by rw [List.length_map, List.length_take, sizeLine_eq]; omega, ?_, ?_⟩
        · intro b o hb
          rw [upd_ne (ne_of_none hb nLB)]
          exact s' b o hb
        · rw [upd_same, List.take_add_one, List.getElem?_map, hr, List.map_append]
          rfl
      rintro H18 ⟨s18, e18⟩
      have xrl : xr.length = rs'.length := by rw [dpAll_len l17.dR, List.length_map]
      rw [xrl, ← List.length_map (f := fun r : Str × Nat => r.1), List.take_length] at e18
      have l18 := l17.same s18
      refine ⟨_, rfl, (by show 3 ≤ sizeLine; rw [sizeLine_eq]; decide), fun PI nPI => ?_⟩
      have sI := same_new (o := .tup [.ref LV, .ref LB, .ref LD]) nPI
      have l19 := l18.same sI
      have eV19 := sI _ _ (s18 _ _ eV)
      have eB19 := sI _ _ e18
      have tI : SqT K (upd H18 PI (.tup [.ref LV, .ref LB, .ref LD])) PI [.ref LV, .ref LB, .ref LD] := .of upd_same
      have dTp19 := sqT_kp (Kp.of_same (S := cellS vh) (s18.trans sI)) dTp17
      generalize upd H18 PI (.tup [.ref LV, .ref LB, .ref LD]) = H19 at l19 eV19 eB19 tI dTp19
      -- cells
      refine ⟨_, rfl, _, rfl, _, _, rfl, rfl, _, rfl, _, rfl, _, _, rfl, rfl, _, rfl, a, _, rfl, l19.w.s.seq hS, fun LS nLS => ?_⟩
      have sS := same_new (o := .lst (cutV (ns.map V.int) (some (fi + 1)) (some (fi + 25)))) nLS
      obtain ⟨ms, hms, lms⟩ : ∃ ms : List Int, cutV (ns.map V.int) (some (fi + 1)) (some (fi + 25)) = ms.map V.int ∧ ms.length ≤ 24 := by
        obtain ⟨fn, rfl⟩ := Int.eq_ofNat_of_zero_le f0
        refine ⟨((ns.drop (min (fn + 1) ns.length)).take (min (fn + 25) ns.length - min (fn + 1) ns.length)), ?_, ?_⟩
        · unfold cutV
          rw [show ((fn : Int) + 1) = ((fn + 1 : Nat) : Int) by omega, show ((fn : Int) + 25) = ((fn + 25 : Nat) : Int) by omega, HT.sIx_nat, HT.sIx_nat, List.length_map, List.map_take, List.map_drop]
        · rw [List.length_take]
          omega
      rw [hms] at sS ⊢
      refine ⟨LS, rfl, ⟨_, .of upd_same⟩, fun pc npc => ?_⟩
      refine lc_list (K := K) (a := LS) (xs := ms.map V.int) (fun j H' => Same (upd H19 LS (.lst (ms.map V.int))) H' ∧ ∃ cs, CellsOk H' pc cs ∧ cs.length = j ∧ ∀ x ∈ cs, ∀ b, cellS x b → H19 b = none) ?_ ?_ ?_ ?_
      · exact ⟨same_new npc, [], ⟨upd_same, (fun x hx => nomatch hx), fun x hx => nomatch hx⟩, rfl, fun x hx => nomatch hx⟩
      · rintro j H' _ ⟨s', _⟩
        exact .of (s' _ _ upd_same)
      · rintro j x H20 hx ⟨s20, cs, C20, lc, f20⟩
        rw [List.getElem?_map] at hx
        obtain ⟨z, hz, rfl⟩ := Option.map_eq_some_iff.mp hx
        have jl : j < 24 := by
          have := (List.getElem?_eq_some_iff.mp hz).1
          omega
        refine ⟨rfl, _, rfl, z, rfl, fun H21 v s21 c21 f21 => ?_⟩
        have C21 := C20.same s21
        have nv : v ≠ .ref pc := fun e => by
          have := f21 pc e
          rw [C20.at_] at this
          cases this
        have cup : ∀ x ∈ cs, ¬ cellS x pc := fun x hx e => C20.off x hx e
        refine ⟨cs, C21.at_, by rw [lc, sizeLine_eq]; omega, ?_, cs ++ [v], ⟨upd_same, fun x hx => ?_, fun x hx => ?_⟩, by rw [List.length_append, lc]; rfl, fun x hx b e => ?_⟩
        · intro b o hb
          rw [upd_ne (ne_of_none hb npc)]
          exact (s20.trans s21) b o hb
        · rcases List.mem_append.mp hx with hx | hx
          · exact (C21.ok x hx).upd (cup x hx)
          · rw [List.mem_singleton.mp hx]
            exact c21.upd nv
        · rcases List.mem_append.mp hx with hx | hx
          · exact C20.off x hx
          · rw [List.mem_singleton.mp hx]
            exact nv
        · rcases List.mem_append.mp hx with hx | hx
          · exact f20 x hx b e
          · rw [List.mem_singleton.mp hx] at e
            exact (sS.trans s20).free (f21 b e)
      rintro H20 ⟨s20, cs, C20, lc, f20⟩
      rw [List.length_map] at lc
      have s920 := sS.trans s20
      have fS : ∀ b, cellsS pc cs b → H19 b = none := by
        rintro b (e | ⟨x, hx, e⟩)
        · rw [e]
          exact sS.free npc
        · exact f20 x hx b e
      have notS : ∀ b, (∃ o, H19 b = some o) → ¬ cellsS pc cs b := fun b ⟨o, e⟩ z => by
        rw [fS b z] at e
        cases e
      have l20 := l19.same s920
      have dTp20 := sqT_kp (Kp.of_same (S := cellS vh) s920) dTp19
      -- the program
      refine ⟨_, rfl, LH, _, rfl, .inl ⟨.of l20.eH, fun TH nTH => ?_⟩⟩
      have sH := same_new (o := .tup xh) nTH
      refine ⟨_, rfl, _, rfl, LR, _, rfl, .inl ⟨.of (sH _ _ l20.eR), fun TR nTR => ?_⟩⟩
      have sR := same_new (o := .tup xr) nTR
      have sHR := sH.trans sR
      have tH : SqT K (upd (upd H20 TH (.tup xh)) TR (.tup xr)) TH xh := .of (sR _ _ upd_same)
      have tR : SqT K (upd (upd H20 TH (.tup xh)) TR (.tup xr)) TR xr := .of upd_same
      have l21 := l20.same sHR
      have C21 := C20.same sHR
      have dTp21 := sqT_kp (Kp.of_same (S := cellS vh) sHR) dTp20
      have s1921 := s920.trans sHR
      generalize upd (upd H20 TH (.tup xh)) TR (.tup xr) = H21 at tH tR l21 C21 dTp21 s1921
      have info : Info K H21 (.ref PI) (nm.take mn) (rs'.map (·.1)) (hs.map hdOf) LV LB LD := ⟨⟨PI, rfl, sqT_kp (Kp.of_same (S := cellS vh) s1921) tI⟩, s1921 _ _ eV19, s1921 _ _ eB19, xd, l21.eD, l21.dD⟩
      have kq : ∀ q ∈ hs.map hdOf, q.2 ≤ 4 := fun q hq => by
        obtain ⟨h, hh, rfl⟩ := List.mem_map.mp hq
        obtain ⟨j, hj⟩ := List.getElem?_of_mem hh
        exact (ok13.wf j h hj).pl
      have offI : Off (cellsS pc cs) LV LB LD := ⟨notS _ ⟨_, eV19⟩, notS _ ⟨_, eB19⟩, notS _ ⟨_, l19.eD⟩⟩
      have rl16 : (rs'.map (·.1)).length ≤ 3 := by rw [rn, List.length_take]; omega
      refine ⟨_, rfl, _, rfl, pc, cs, 0, .ref PI, nm.take mn, rs'.map (·.1), hs.map hdOf, LV, LB, LD, rfl, C21, by decide, by decide, by decide, by rw [lc]; omega, info, by rw [List.length_take]; omega, by omega, by rw [List.length_map]; omega, kq, fun z hz => nm_strOk (hN.nm z (List.mem_of_mem_take hz)), offI, fun H22 rb nn bd k22 C22 hnn dB wB szB => ?_⟩
      have nH19 : ∀ b, cellsS pc cs b → H b = none := fun b z => l19.w.s.free (fS b z)
      have sm22 : Same H H22 := Kp.same l21.w.s k22 nH19
      have tH22 := sqT_kp k22 tH
      have tR22 := sqT_kp k22 tR
      have dTp22 := sqT_kp k22 dTp21
      have dH22 := dpAll_kp k22 _ _ (hps_noL _) l21.dH
      have dR22 := dpAll_kp k22 _ _ (rws_noL _) l21.dR
      refine ⟨(by show 4 ≤ sizeLine; rw [sizeLine_eq]; decide), fun TP nTP => ?_⟩
      refine q _ _ ⟨hs, pr, rs', bd⟩ (sm22.trans (same_new nTP)) (dp_new nTP (.cons (.tup tH22 dH22) (.cons (.tup dTp22 (strs_dpAll pr)) (.cons (.tup tR22 dR22) (.cons dB .nil)))) (by simp only [nLs, nLd, strs_noL, Sm.noLs, hps_noL, rws_noL]; rfl)) ?_
      have rin : ∀ r ∈ rs', r.1 ∈ nm.drop 12 := fun r hr => List.mem_of_mem_take (by rw [← rn]; exact List.mem_map.mpr ⟨r, hr, rfl⟩)
      have apart : ∀ x, x ∈ nm.take mn → x ∉ nm.drop 12 := by
        intro x hx hy
        have nd := hN.nd
        rw [← List.take_append_drop 12 nm] at nd
        have hx2 : x ∈ nm.take 12 := List.mem_of_mem_take (i := mn) (by rw [List.take_take, Nat.min_eq_left (by omega : mn ≤ 12)]; exact hx)
        exact (List.nodup_append.mp nd).2.2 x hx2 x hy rfl
      refine ⟨hl4, ?_, fun i h e => ok13.wf i h e, prl, prn, fun x hx => hN.nm x (List.mem_of_mem_take (prm x hx)), by rw [← List.length_map (f := fun r : Str × Nat => r.1)]; exact rl16, ?_, fun r hr => ⟨hN.nm _ (List.mem_of_mem_drop (rin r hr)), (rb' r hr).1, (rb' r hr).2, fun z => apart _ (prm _ z) (rin r hr)⟩, ⟨nm.take mn, fun x hx => hN.nm x (List.mem_of_mem_take hx), by rw [List.length_take]; omega, prm, fun r hr z => apart _ z (rin r hr), wB⟩, by show Sm.sizes bd ≤ 24; omega⟩
      · exact hs_nodup hN ok13 hl4
      · show (rs'.map (·.1)).Nodup
        rw [rn]
        exact ((List.take_sublist _ _).trans (List.drop_sublist _ _)).nodup hN.nd
end

/-! inputs that don't fit -/
section
variable {P : Program} {w : World} {K : PySem.W.Frag} {mg : Str → Option Value} {base : Heap}
def OkI (x : V) : Prop := ∃ n, x = .int n ∧ In32 n
def BadI (H : Hp) (x : V) : Prop := (∃ n, x = .int n ∧ ¬ In32 n) ∨ (∃ b, x = .bl b) ∨ x = .non ∨ (∃ z, x = .str z) ∨ (∃ p xs, x = .ref p ∧ (H p = some (.tup xs) ∨ H p = some (.lst xs)))
theorem BadI.sm {H H' : Hp} {x : V} (h : BadI H x) (s : Same H H') : BadI H' x := by
  rcases h with h | h | h | h | ⟨p, xs, rfl, h⟩
  · exact .inl h
  · exact .inr (.inl h)
  · exact .inr (.inr (.inl h))
  · exact .inr (.inr (.inr (.inl h)))
  · exact .inr (.inr (.inr (.inr ⟨p, xs, rfl, h.imp (s _ _) (s _ _)⟩)))
theorem wr_ne {n : Int} (h : ¬ In32 n) : wr n ≠ n := fun e => h (by rw [← e]; exact wr_32 n)
def sp_isinG : Sp := fun vs H Q _ => ∃ x, vs = [x] ∧ ((OkI x ∧ Q (.bl true) H) ∨ (BadI H x ∧ Q (.bl false) H))
theorem ok_is_inputG (T : Top K mg) : FnOk P w K mg base CX0 2 (He.ga K "is_input") T.fd_is_input ["thing"] sp_isinG := by
  have G_wrapped := ok_wrapped (P := P) (w := w) (base := base) T
  refine T.F_is_input.ok sc_is_input (fun vs H Q E h => ?_) (fun cdv A outer s H vs Q E hr h => ?_)
  · obtain ⟨n, rfl, _⟩ := h
    rfl
  · obtain ⟨x, rfl, q⟩ := h
    refine ⟨_, PSs.nox (pss_one (ps_ret (pe_and (pe_callB call_isi (by rfl) T.m_isinstance (by decide +kernel) (pa_cons (pv 0) (pa_cons (pe_bltn (v := .ty "int") (by rfl) T.m_int (by decide +kernel) rfl) pa_nil))) (pe_and (pe_not (pe_callB call_isi (by rfl) T.m_isinstance (by decide +kernel) (pa_cons (pv 0) (pa_cons (pe_bltn (v := .ty "bool") (by rfl) T.m_bool (by decide +kernel) rfl) pa_nil)))) (pe_one (pe_cmpR op_eq (pe_call G_wrapped (hr.mono (by omega)) (by rfl) T.g_wrapped T.F_wrapped.kp T.b_wrapped .nil pass0 (pa_cons (pv 0) pa_nil)) (pv 0) (nomark _))))))), ?_⟩
    have int : ∀ n : Int, x = .int n → Q (.bl (decide (wr n = n))) H → Q (.bl (decide (V.int (wr n) = V.int n))) H := fun n _ q => by
      have e : decide (V.int (wr n) = V.int n) = decide (wr n = n) := by
        by_cases h : wr n = n
        · rw [decide_eq_true h, decide_eq_true (by rw [h])]
        · rw [decide_eq_false h, decide_eq_false fun z => h (V.int.inj z)]
      rw [e]
      exact q
    by_cases hx : ∃ n, x = .int n
    · obtain ⟨n, rfl⟩ := hx
      have ty : TyX K H (.int n) (.type (tyS (.int n))) := dp_ty (.int n)
      refine ⟨_, rfl, _, _, _, _, true, rfl, .ty _, ty, kit_int (.int n), _, rfl, ifT rfl ?_⟩
      refine ⟨_, rfl, _, _, _, _, false, rfl, .ty _, ty, kit_bool (.int n), _, rfl, _, rfl, ifT rfl ?_⟩
      refine ⟨_, rfl, n, rfl, _, rfl, rfl, int n rfl ?_⟩
      rcases q with ⟨⟨n', e, h32⟩, q⟩ | ⟨h, q⟩
      · cases e
        rw [decide_eq_true (wr_in h32)]
        exact q
      · rcases h with ⟨n', e, h32⟩ | ⟨b, e⟩ | e | ⟨z, e⟩ | ⟨p, xs, e, hp⟩
        · cases e
          rw [decide_eq_false (wr_ne h32)]
          exact q
        all_goals cases e
    · rcases q with ⟨⟨n, e, h32⟩, q⟩ | ⟨h, q⟩
      · exact absurd ⟨n, e⟩ hx
      · rcases h with ⟨n, e, h32⟩ | ⟨b, rfl⟩ | rfl | ⟨z, rfl⟩ | ⟨p, xs, rfl, hp⟩
        · exact absurd ⟨n, e⟩ hx
        · have ty : TyX K H (.bl b) (.type (tyS (.bool b))) := dp_ty (.bl b)
          exact ⟨_, rfl, _, _, _, _, true, rfl, .ty _, ty, kit_int (.bool b), _, rfl, ifT rfl ⟨_, rfl, _, _, _, _, true, rfl, .ty _, ty, kit_bool (.bool b), _, rfl, _, rfl, ifF rfl q⟩⟩
        · exact ⟨_, rfl, _, _, _, _, false, rfl, .ty _, dp_ty .non, kit_int .none, _, rfl, ifF rfl q⟩
        · exact ⟨_, rfl, _, _, _, _, false, rfl, .ty _, dp_ty (.str z), kit_int (.str z), _, rfl, ifF rfl q⟩
        · rcases hp with hp | hp
          · exact ⟨_, rfl, _, _, _, _, false, rfl, .ty _, ty_tup (.of hp), kit_int (.tuple []), _, rfl, ifF rfl q⟩
          · exact ⟨_, rfl, _, _, _, _, false, rfl, .ty _, ty_lst (.of hp), kit_int (.list []), _, rfl, ifF rfl q⟩
end
section
variable {P : Program} {w : World} {K : PySem.W.Frag} {mg : Str → Option Value} {base : Heap}
/-- what a program of m inputs is not to be handed -/
inductive Odd (H : Hp) (m : Nat) : V → Prop
  | non : Odd H m .non
  | bl (b : Bool) : Odd H m (.bl b)
  | int (n : Int) : Odd H m (.int n)
  | str (z : Str) : Odd H m (.str z)
  | dct {p : Addr} {kvs : List (Key × V)} (e : H p = some (.dK kvs)) : Odd H m (.ref p)
  | seq {p : Addr} {xs : List V} (e : H p = some (.lst xs) ∨ H p = some (.tup xs)) (l : xs.length ≤ 1000) (a : ∀ x ∈ xs, OkI x ∨ BadI H x) (o : xs.length ≠ m ∨ ∃ x ∈ xs, BadI H x) : Odd H m (.ref p)
theorem kitA_no (d : PyData) (h1 : PySem.W.kitOne K (.type (tyS d)) (.type "list") = some false) (h2 : PySem.W.kitOne K (.type (tyS d)) (.type "tuple") = some false) : PySem.W.kitAny K (.type (tyS d)) [.type "list", .type "tuple"] = some false :=
  kitAny_cons h1 (fun _ => kitAny_cons h2 (fun _ => rfl) (fun z => nomatch z)) (fun z => nomatch z)
theorem Odd.sm {H H' : Hp} {m : Nat} {x : V} (h : Odd H m x) (s : Same H H') : Odd H' m x := by
  cases h with
  | non => exact .non
  | bl b => exact .bl b
  | int n => exact .int n
  | str z => exact .str z
  | dct e => exact .dct (s _ _ e)
  | seq e l a o => exact .seq (e.imp (s _ _) (s _ _)) l (fun x hx => (a x hx).imp id fun z => z.sm s) (o.imp id fun ⟨x, hx, z⟩ => ⟨x, hx, z.sm s⟩)
def sp_refuse (K : PySem.W.Frag) : Sp := fun vs H _ E => ∃ (x : V) (m : Nat), vs = [x, .int (m : Int)] ∧ Odd H m x ∧ ∀ H', Same H H' → E (.ref (He.ga K "NoInputs")) none H'
theorem ok_refuse (T : Top K mg) : FnOk P w K mg base (L2.CX P w) 3 (He.ga K "need_inputs") T.fd_need_inputs ["inputs", "many"] (sp_refuse K) := by
  have G_is_input := ok_is_inputG (P := P) (w := w) (base := base) T
  refine T.F_need_inputs.ok sc_need_inputs (fun vs H Q E h => ?_) (fun cdv A outer s H vs Q E hr h => ?_)
  · obtain ⟨x, m, rfl, _⟩ := h
    rfl
  · obtain ⟨x, m, rfl, odd, q⟩ := h
    by_cases hT : ∃ p xs, x = .ref p ∧ H p = some (.tup xs)
    · obtain ⟨p, xs, rfl, ep⟩ := hT
      refine ⟨_, (pss_cons (ps_if (PW.pt (pw_or (pt_not (pt_val (pe_callB call_isiT (by rfl) T.m_isinstance (by decide +kernel) (pa_cons (pv 0) (pa_cons (pe_tup (pa_cons (pe_bltn (v := .ty "list") (by rfl) T.m_list (by decide +kernel) rfl) (pa_cons (pe_bltn (v := .ty "tuple") (by rfl) T.m_tuple (by decide +kernel) rfl) pa_nil))) pa_nil))))) (pw_or1 (pt_cmpR op_ne (pe_callB call_len_seq (by rfl) T.m_len (by decide +kernel) (pa_cons (pv 0) pa_nil)) (pv 1) (nomark _))))) (pss_one (ps_raise rfl (takes_of rfl rfl rfl rfl) (pmk_own PySem.F.excBase_ValueError T.x_NoInputs.1 T.g_NoInputs T.x_NoInputs.2.1 (raises_own T.x_NoInputs.2.2.1 T.x_NoInputs.2.2.2) rfl))) pss_nil)
        (pss_one (ps_if (pt_not (pt_val (pe_callB (cr_all (by rfl)) (by rfl) T.m_all (by decide +kernel) (pa_cons (pe_lc (own := [("one", 2)]) (by rfl) sc_need_inputs.nd (pi_tup (pv 0)) (blkOk_by (own := [("one", 2)]) (N := N_need_inputs) (sc := defScope s_need_inputs) (by decide +kernel)) (fun _ _ _ _ _ => (pg_name (i := 2) sc_need_inputs.nd rfl (Or.inl rfl))) (fun _ _ _ _ _ => pts_nil) (fun _ _ _ _ _ => (pe_call G_is_input (hr.mono (by omega)) (by rfl) T.g_is_input T.F_is_input.kp T.b_is_input .nil pass0 (pa_cons (pv 2) pa_nil)))) pa_nil)))) (pss_one (ps_raise rfl (takes_of rfl rfl rfl rfl) (pmk_own PySem.F.excBase_ValueError T.x_NoInputs.1 T.g_NoInputs T.x_NoInputs.2.1 (raises_own T.x_NoInputs.2.2.1 T.x_NoInputs.2.2.2) rfl))) pss_nil))), ?_⟩
      refine ⟨_, rfl, by rw [sizeLine_eq]; show 2 ≤ _; omega, fun tp htp => ?_⟩
      have s1 : Same H (upd H tp (.tup [.ty "list", .ty "tuple"])) := same_new htp
      have e1 := s1 _ _ ep
      refine ⟨_, tp, _, _, _, true, rfl, upd_same, .cons (.ty _) (.cons (.ty _) .nil), ty_tup (.of e1), isi_seq K false, _, rfl, ifF rfl ?_⟩
      refine ⟨_, rfl, p, _, rfl, .inr (.of e1), _, rfl, rfl, _, rfl, ?_⟩
      by_cases hl : V.int (xs.length : Int) = V.int (m : Int)
      · refine ifNF hl ?_
        refine ⟨_, rfl, p, rfl, ⟨_, .of e1⟩, fun D hD => ?_⟩
        have hD0 := s1.free hD
        refine lc_tup (K := K) (a := p) (xs := xs) (fun j H' => Same H H' ∧ ∃ bs : List Bool, bs.length = j ∧ ((∃ i x, i < j ∧ xs[i]? = some x ∧ BadI H x) → bs.all id = false) ∧ H' D = some (.lst (bs.map V.bl))) ?_ ?_ ?_ ?_
        · exact ⟨same_upd s1 hD0, [], rfl, fun ⟨i, x, hi, _⟩ => absurd hi (Nat.not_lt_zero _), upd_same⟩
        · intro j H' _ k
          exact .of (k.1 _ _ ep)
        · rintro j x H1 hx ⟨k1, bs, lb, hb, e2⟩
          have jl : j < xs.length := (List.getElem?_eq_some_iff.mp hx).1
          have fin : ∀ b : Bool, (BadI H x → b = false) → ∃ acc, H1 D = some (.lst acc) ∧ acc.length < sizeLine ∧ Same H (upd H1 D (.lst (acc ++ [V.bl b]))) ∧ ∃ bs : List Bool, bs.length = j + 1 ∧ ((∃ i x, i < j + 1 ∧ xs[i]? = some x ∧ BadI H x) → bs.all id = false) ∧ (upd H1 D (.lst (acc ++ [V.bl b]))) D = some (.lst (bs.map V.bl)) := fun b hb2 => by
            refine ⟨_, e2, ?_, same_upd k1 hD0, bs ++ [b], by rw [List.length_append, lb]; rfl, fun ⟨i, y, hi, hy, hbad⟩ => ?_, by rw [upd_same, List.map_append]; rfl⟩
            · rw [List.length_map, lb, sizeLine_eq]
              cases odd with
              | dct e => rw [ep] at e; cases e
              | seq e l a o =>
                rw [ep] at e
                rcases e with e | e
                · cases e
                · cases e
                  omega
            · rw [List.all_append]
              by_cases hij : i < j
              · rw [hb ⟨i, y, hij, hy, hbad⟩]
                rfl
              · have : i = j := by omega
                subst this
                rw [hx] at hy
                cases hy
                rw [hb2 hbad]
                simp
          have hob : OkI x ∨ BadI H x := by
            cases odd with
            | dct e => rw [ep] at e; cases e
            | seq e l a o =>
              rw [ep] at e
              rcases e with e | e
              · cases e
              · cases e
                exact a x (List.mem_of_getElem? hx)
          refine ⟨rfl, _, rfl, x, rfl, ?_⟩
          by_cases hbad : BadI H x
          · exact .inr ⟨hbad.sm k1, fin false fun _ => rfl⟩
          · exact .inl ⟨hob.resolve_right hbad, fin true fun z => absurd z hbad⟩
        · rintro H1 ⟨k1, bs, lb, hb, e2⟩
          refine ⟨D, _, rfl, .inl (.inl e2), _, rfl, ?_⟩
          have ea : bs.all id = false := by
            cases odd with
            | dct e => rw [ep] at e; cases e
            | seq e l a o =>
              rw [ep] at e
              rcases e with e | e
              · cases e
              · cases e
                rcases o with o | ⟨x, hx, z⟩
                · exact absurd (V.int.inj hl) (by omega)
                · obtain ⟨i, hi, ei⟩ := List.getElem_of_mem hx
                  exact hb ⟨i, x, hi, by rw [List.getElem?_eq_getElem hi, ei], z⟩
          rw [ea]
          exact q _ k1
      · refine ifNT hl ?_
        exact q _ s1
    · refine ⟨_, (pss_cons (ps_if (PW.pt (pw_or (pt_not (pt_val (pe_callB call_isiT (by rfl) T.m_isinstance (by decide +kernel) (pa_cons (pv 0) (pa_cons (pe_tup (pa_cons (pe_bltn (v := .ty "list") (by rfl) T.m_list (by decide +kernel) rfl) (pa_cons (pe_bltn (v := .ty "tuple") (by rfl) T.m_tuple (by decide +kernel) rfl) pa_nil))) pa_nil))))) (pw_or1 (pt_cmpR op_ne (pe_callB call_len_seq (by rfl) T.m_len (by decide +kernel) (pa_cons (pv 0) pa_nil)) (pv 1) (nomark _))))) (pss_one (ps_raise rfl (takes_of rfl rfl rfl rfl) (pmk_own PySem.F.excBase_ValueError T.x_NoInputs.1 T.g_NoInputs T.x_NoInputs.2.1 (raises_own T.x_NoInputs.2.2.1 T.x_NoInputs.2.2.2) rfl))) pss_nil)
        (pss_one (ps_if (pt_not (pt_val (pe_callB (cr_all (by rfl)) (by rfl) T.m_all (by decide +kernel) (pa_cons (pe_lc (own := [("one", 2)]) (by rfl) sc_need_inputs.nd (pi_list (pv 0)) (blkOk_by (own := [("one", 2)]) (N := N_need_inputs) (sc := defScope s_need_inputs) (by decide +kernel)) (fun _ _ _ _ _ => (pg_name (i := 2) sc_need_inputs.nd rfl (Or.inl rfl))) (fun _ _ _ _ _ => pts_nil) (fun _ _ _ _ _ => (pe_call G_is_input (hr.mono (by omega)) (by rfl) T.g_is_input T.F_is_input.kp T.b_is_input .nil pass0 (pa_cons (pv 2) pa_nil)))) pa_nil)))) (pss_one (ps_raise rfl (takes_of rfl rfl rfl rfl) (pmk_own PySem.F.excBase_ValueError T.x_NoInputs.1 T.g_NoInputs T.x_NoInputs.2.1 (raises_own T.x_NoInputs.2.2.1 T.x_NoInputs.2.2.2) rfl))) pss_nil))), ?_⟩
      cases odd with
      | non =>
        refine ⟨_, rfl, by rw [sizeLine_eq]; show 2 ≤ _; omega, fun tp htp => ?_⟩
        refine ⟨_, tp, _, _, _, false, rfl, upd_same, .cons (.ty _) (.cons (.ty _) .nil), .base .non, kitAny_cons (kit_ty (r := false) (by decide +kernel)) (fun _ => kitAny_cons (kit_ty (r := false) (by decide +kernel)) (fun _ => rfl) (fun z => nomatch z)) (fun z => nomatch z), _, rfl, ifT rfl ?_⟩
        exact ifT rfl (q _ (same_new htp))
      | bl b =>
        refine ⟨_, rfl, by rw [sizeLine_eq]; show 2 ≤ _; omega, fun tp htp => ?_⟩
        refine ⟨_, tp, _, _, _, false, rfl, upd_same, .cons (.ty _) (.cons (.ty _) .nil), .base (.bl b), kitAny_cons (kit_ty (r := false) (by decide +kernel)) (fun _ => kitAny_cons (kit_ty (r := false) (by decide +kernel)) (fun _ => rfl) (fun z => nomatch z)) (fun z => nomatch z), _, rfl, ifT rfl ?_⟩
        exact ifT rfl (q _ (same_new htp))
      | int n =>
        refine ⟨_, rfl, by rw [sizeLine_eq]; show 2 ≤ _; omega, fun tp htp => ?_⟩
        refine ⟨_, tp, _, _, _, false, rfl, upd_same, .cons (.ty _) (.cons (.ty _) .nil), .base (.int n), kitAny_cons (kit_ty (r := false) (by decide +kernel)) (fun _ => kitAny_cons (kit_ty (r := false) (by decide +kernel)) (fun _ => rfl) (fun z => nomatch z)) (fun z => nomatch z), _, rfl, ifT rfl ?_⟩
        exact ifT rfl (q _ (same_new htp))
      | str z =>
        refine ⟨_, rfl, by rw [sizeLine_eq]; show 2 ≤ _; omega, fun tp htp => ?_⟩
        refine ⟨_, tp, _, _, _, false, rfl, upd_same, .cons (.ty _) (.cons (.ty _) .nil), .base (.str z), kitAny_cons (kit_ty (r := false) (by decide +kernel)) (fun _ => kitAny_cons (kit_ty (r := false) (by decide +kernel)) (fun _ => rfl) (fun z => nomatch z)) (fun z => nomatch z), _, rfl, ifT rfl ?_⟩
        exact ifT rfl (q _ (same_new htp))
      | dct e =>
        refine ⟨_, rfl, by rw [sizeLine_eq]; show 2 ≤ _; omega, fun tp htp => ?_⟩
        refine ⟨_, tp, _, _, _, false, rfl, upd_same, .cons (.ty _) (.cons (.ty _) .nil), .base (.dK (same_new (o := .tup [.ty "list", .ty "tuple"]) htp _ _ e)), kitAny_cons (kit_ty (r := false) (by decide +kernel)) (fun _ => kitAny_cons (kit_ty (r := false) (by decide +kernel)) (fun _ => rfl) (fun z => nomatch z)) (fun z => nomatch z), _, rfl, ifT rfl ?_⟩
        exact ifT rfl (q _ (same_new htp))
      | @seq p xs e l al o =>
        have ep : H p = some (.lst xs) := e.resolve_right fun z => hT ⟨p, xs, rfl, z⟩
        refine ⟨_, rfl, by rw [sizeLine_eq]; show 2 ≤ _; omega, fun tp htp => ?_⟩
        have s1 : Same H (upd H tp (.tup [.ty "list", .ty "tuple"])) := same_new htp
        have e1 := s1 _ _ ep
        refine ⟨_, tp, _, _, _, true, rfl, upd_same, .cons (.ty _) (.cons (.ty _) .nil), ty_lst (.of e1), isi_seq K true, _, rfl, ifF rfl ?_⟩
        refine ⟨_, rfl, p, _, rfl, .inl (.of e1), _, rfl, rfl, _, rfl, ?_⟩
        by_cases hl : V.int (xs.length : Int) = V.int (m : Int)
        · refine ifNF hl ?_
          refine ⟨_, rfl, p, rfl, ⟨_, .of e1⟩, fun D hD => ?_⟩
          have hD0 := s1.free hD
          refine lc_list (K := K) (a := p) (xs := xs) (fun j H' => Same H H' ∧ ∃ bs : List Bool, bs.length = j ∧ ((∃ i x, i < j ∧ xs[i]? = some x ∧ BadI H x) → bs.all id = false) ∧ H' D = some (.lst (bs.map V.bl))) ?_ ?_ ?_ ?_
          · exact ⟨same_upd s1 hD0, [], rfl, fun ⟨i, x, hi, _⟩ => absurd hi (Nat.not_lt_zero _), upd_same⟩
          · intro j H' _ k
            exact .of (k.1 _ _ ep)
          · rintro j x H1 hx ⟨k1, bs, lb, hb, e2⟩
            have jl : j < xs.length := (List.getElem?_eq_some_iff.mp hx).1
            have fin : ∀ b : Bool, (BadI H x → b = false) → ∃ acc, H1 D = some (.lst acc) ∧ acc.length < sizeLine ∧ Same H (upd H1 D (.lst (acc ++ [V.bl b]))) ∧ ∃ bs : List Bool, bs.length = j + 1 ∧ ((∃ i x, i < j + 1 ∧ xs[i]? = some x ∧ BadI H x) → bs.all id = false) ∧ (upd H1 D (.lst (acc ++ [V.bl b]))) D = some (.lst (bs.map V.bl)) := fun b hb2 => by
              refine ⟨_, e2, ?_, same_upd k1 hD0, bs ++ [b], by rw [List.length_append, lb]; rfl, fun ⟨i, y, hi, hy, hbad⟩ => ?_, by rw [upd_same, List.map_append]; rfl⟩
              · rw [List.length_map, lb, sizeLine_eq]
                omega
              · rw [List.all_append]
                by_cases hij : i < j
                · rw [hb ⟨i, y, hij, hy, hbad⟩]
                  rfl
                · have : i = j := by omega
                  subst this
                  rw [hx] at hy
                  cases hy
                  rw [hb2 hbad]
                  simp
            have hob : OkI x ∨ BadI H x := by
              exact al x (List.mem_of_getElem? hx)
            refine ⟨rfl, _, rfl, x, rfl, ?_⟩
            by_cases hbad : BadI H x
            · exact .inr ⟨hbad.sm k1, fin false fun _ => rfl⟩
            · exact .inl ⟨hob.resolve_right hbad, fin true fun z => absurd z hbad⟩
          · rintro H1 ⟨k1, bs, lb, hb, e2⟩
            refine ⟨D, _, rfl, .inl (.inl e2), _, rfl, ?_⟩
            have ea : bs.all id = false := by
              rcases o with o | ⟨x, hx, z⟩
              · exact absurd (V.int.inj hl) (by omega)
              · obtain ⟨i, hi, ei⟩ := List.getElem_of_mem hx
                exact hb ⟨i, x, hi, by rw [List.getElem?_eq_getElem hi, ei], z⟩
            rw [ea]
            exact q _ k1
        · refine ifNT hl ?_
          exact q _ s1
end
section
variable {P : Program} {w : World} {K : PySem.W.Frag} {mg : Str → Option Value} {base : Heap}
def sp_playedX (K : PySem.W.Frag) : Sp := fun vs H _ E => ∃ (v x : V) (most : Int) (ds : List PyData) (pd : List PyData), vs = [v, x, .int most] ∧ Dp K H v (.tuple ds) ∧ ds[1]? = some (.tuple pd) ∧ Odd H pd.length x ∧ ∀ H', Same H H' → E (.ref (He.ga K "NoInputs")) none H'
theorem ok_playedX (T : Top K mg) : FnOk P w K mg base (L2.CX P w) 60 (He.ga K "played") T.fd_played ["program", "inputs", "most"] (sp_playedX K) := by
  have G_need_inputs := ok_refuse (P := P) (w := w) (base := base) T
  have G_Play___init__ := ok_Play_init (P := P) (w := w) (base := base) T
  have G_Room___init__ := ok_Room_init (P := P) (w := w) (base := base) T
  have G_Play_play_body := ok_body_of (P := P) (w := w) (base := base) T 1 _ (ok_levels T 1)
  refine T.F_played.ok sc_played (fun vs H Q E h => ?_) (fun cdv A outer s H vs Q E hr h => ?_)
  · obtain ⟨v, x, most, ds, pd, rfl, _⟩ := h
    rfl
  · obtain ⟨v, x, most, ds, pd, rfl, dp, hd, odd, q⟩ := h
    refine ⟨_, (pss_cons (ps_expr (pe_call G_need_inputs (hr.mono (by omega)) (by rfl) T.g_need_inputs T.F_need_inputs.kp T.b_need_inputs .nil (passes_call (takes_of rfl rfl rfl rfl) (fun _ _ _ _ h => h)) (pa_cons (pv 1) (pa_cons (pe_callB call_len_seq (by rfl) T.m_len (by decide +kernel) (pa_cons (pe_ix ix_tup (pv 0) pe_int (fun _ _ => rfl)) pa_nil)) pa_nil))))
        (pss_cons (ps_set (i := 3) sc_played.nd rfl (Or.inl rfl) (pe_make T.mk_Play G_Play___init__ (hr.mono (by omega)) (by rfl) T.g_Play T.b_Play___init__ .nil pass0 (pa_cons (pe_ix ix_tup (pv 0) pe_int (fun _ _ => rfl)) (pa_cons (pv 2) pa_nil))))
        (pss_cons (TryN.ps_try_nam (Wout := fun _ _ _ _ => False) rfl rfl sc_played.nd takes_none5 (fun W pn xe tk _ => (pss_one (ps_set (i := 4) sc_played.nd rfl (Or.inl rfl) (pe_tup (pa_cons pe_str (pa_cons (TryN.pe_methAt (pv 3) T.cl_Play T.me_Play_play_body G_Play_play_body (hr.mono (by omega)) T.b_Play_play_body .nil (fun σ => passAt tk σ) (pa_cons (pe_ix (ix_tupQ (K := K) rfl) (pv 0) pe_int (fun _ _ => rfl)) (pa_cons (pe_make T.mk_Room G_Room___init__ (hr.mono (by omega)) (by rfl) T.g_Room T.b_Room___init__ .nil pass0 (pa_cons (pe_ix (ix_tupQ (K := K) rfl) (pv 0) pe_int (fun _ _ => rfl)) (pa_cons (pv 1) (pa_cons (pe_ix (ix_tupQ (K := K) rfl) (pv 0) pe_int (fun _ _ => rfl)) pa_nil)))) pa_nil))) pa_nil)))))) (TryN.HdsN.as (i := 5) ⟨rfl, by decide, .inl T.g_Faulted⟩ rfl rfl (fun a oe cls d pn hz hf => (pss_one (ps_set (i := 4) sc_played.nd rfl (Or.inl rfl) (pe_tup (pa_cons pe_str (pa_cons (pe_xf T.xf_Faulted T.nf_Faulted_word hz hf (pv 5)) pa_nil)))))) (TryN.HdsN.cons ⟨rfl, by decide, .inl T.g_Unended⟩ (fun a oe cls d pn _ _ => (pss_one (ps_set (i := 4) sc_played.nd rfl (Or.inl rfl) (pe_tup (pa_cons pe_str pa_nil))))) .nil)))
        (pss_one (ps_ret (pe_tup (pa_cons (pe_callTy call_tuple_of (by rfl) T.m_tuple (by decide +kernel) (pa_cons (pe_fld (pv 3) rfl) pa_nil)) (pa_cons (pv 4) pa_nil)))))))), ?_⟩
    obtain ⟨p0, xs, rfl, hp, da⟩ := dp_tup dp
    obtain ⟨y, hy, dy⟩ := dpAll_get da hd
    obtain ⟨a1, ys, rfl, ha1, z1⟩ := dp_tup dy
    refine ⟨_, rfl, _, rfl, p0, _, 1, _, rfl, rfl, hp, atI_nat (j := 1) hy, a1, _, rfl, .inr ha1, x, pd.length, ?_, odd, fun H1 s1 => q _ s1⟩
    rw [dpAll_len z1]
    rfl
end

/-! an own rule: a tuple some times over, once too -/
theorem tuple_mul1 (l : Addr) (items : Array Value) (n : Nat) (dd : Option Addr) (sl : Array (Option Value)) (u : Tok) :
    Meets (Builtin.«tuple.__mul__» ⟨[.ref l, .int 1 u], []⟩) (fun _ R s => s.heap.get? l = some { cls := .type "tuple", dict := dd, data := .seq items n, slots := sl } ∧ R (.ok (.ret (Value.ref l))) s) :=
  .of_wp fun prog w A R s h => by
    obtain ⟨hp, g, d, tk, os⟩ := s
    obtain ⟨hl, h⟩ := h
    have f1 := AutoSeq1.idx_int
    have c0 : (decide ((1 : Int) < -(2 ^ 63)) || decide ((1 : Int) ≥ 2 ^ 63)) = false := by decide
    have c1 : (items.isEmpty || (1 : Int) == 1) = true := by rw [show ((1 : Int) == 1) = true from rfl, Bool.or_true]
    wp_walk using wpAny_loadPart' hl
    repeat (first
      | (refine wpAny_ite_false (decide_eq_false (by rw [c0]; exact Bool.false_ne_true)) ?_; wp_walk using wpAny_loadPart' hl)
      | (refine wpAny_ite_true (decide_eq_true c1) ?_; wp_walk using wpAny_loadPart' hl))
    all_goals first | exact ⟨_, rfl, h⟩ | skip
def rRepT1 (K : PySem.W.Frag) : R2 := fun x y H Q => ∃ l k xs, x = .ref l ∧ y = .int k ∧ SqT K H l xs ∧ xs ≠ [] ∧ 1 ≤ k ∧ k ≤ 1000 ∧ xs.length ≤ 1000 ∧ (k = 1 → Q (.ref l) H) ∧ (k ≠ 1 → ∀ p, H p = none → Q (.ref p) (upd H p (.tup (List.replicate k.toNat xs).flatten)))
theorem op_repT1 {X : Cx} : OpR X (binaryOp .Mult) (rRepT1 X.K) := by
  intro pins s σ H x y v u Q I rx ry h
  obtain ⟨l, k, xs, rfl, rfl, hT, hne, h1, h2, hz, q1, q2⟩ := h
  by_cases hk : k = 1
  · subst hk
    cases rx
    obtain ⟨t, rfl⟩ := ry
    obtain ⟨its, r, ⟨⟨cls, dd, data, sl⟩, ho, hc, n, hd⟩, hs⟩ := I.tuple hT
    simp only at hc hd
    subst hc hd
    refine wpAny_binaryOp_repeat_ref (T := "tuple") (U := "int") (by decide) ⟨_, ho, rfl⟩ (fun s' => typeIs_int s' 1 t) noFill_tuple_mul F.fills_int_mul F.slot_int_rmul repeat_tuple F.slot_int_index.lookup
      (call_meets F.slot_int_rmul (typeIs_int s 1 t) F.entry_int_rmul (F.args_int_rmul_2 _ _) (int_rmul_tuple 1 t l its.toArray n dd sl)
        ⟨ho, rfl, ⟨_, ho, rfl⟩, call_meets F.slot_tuple_mul ⟨_, ho, rfl⟩ F.entry_tuple_mul (F.args_tuple_mul_2 _ _) (tuple_mul1 l its.toArray n dd sl t) ⟨ho, ?_⟩⟩)
    exact ⟨.ref l, H, I, rfl, q1 rfl⟩
  · exact op_repT pins s σ H _ _ v u Q I rx ry ⟨l, k, xs, rfl, rfl, hT, hne, by omega, h2, hz, q2 hk⟩

/-! what an expression makes: just this data -/
section
variable {K : PySem.W.Frag} {H0 : Hp} {σ : L2.St}
def Md (K : PySem.W.Frag) (H0 : Hp) (σ : L2.St) (d : PyData) (t : TE) : Prop := ∀ (H : Hp) (Q : VK), Same H0 H → (∀ H' x, Same H H' → Dp K H' x d → Q x H') → t σ H Q
def Mds (K : PySem.W.Frag) (H0 : Hp) (σ : L2.St) (ds : List PyData) (t : TA) : Prop := ∀ (H : Hp) (Q : List V → Hp → Prop), Same H0 H → (∀ H' xs, Same H H' → DpAll K H' xs ds → Q xs H') → t σ H Q
theorem mds_nil : Mds K H0 σ [] tNil := fun H Q _ q => q H [] (Same.refl _) .nil
theorem mds_cons {d : PyData} {ds : List PyData} {t : TE} {u : TA} (h : Md K H0 σ d t) (r : Mds K H0 σ ds u) : Mds K H0 σ (d :: ds) (tCons t u) := fun H Q s q =>
  h H _ s fun H1 x s1 d1 => r H1 _ (s.trans s1) fun H2 xs s2 d2 => q H2 (x :: xs) (s1.trans s2) (.cons (dp_sm s2 d1) d2)
theorem md_tup {ds : List PyData} {u : TA} (r : Mds K H0 σ ds u) (hk : ds.length ≤ 1000 := by simp) : Md K H0 σ (.tuple ds) (tTup u) := fun H Q s q =>
  r H _ s fun H1 xs s1 d1 => ⟨by rw [dpAll_len d1, sizeLine_eq]; omega, fun p np => q _ _ (s1.trans (same_new np)) (.tup (.of upd_same) (dpAll_sm (same_new np) d1))⟩
theorem md_int {i : Int} : Md K H0 σ (.int i) (tC (.int i)) := fun H Q _ q => q H _ (Same.refl _) (.int i)
theorem md_str {z : Str} : Md K H0 σ (.str z) (tC (.str z)) := fun H Q _ q => q H _ (Same.refl _) (.str z)
theorem md_var {i : Nat} {v : V} {d : PyData} (h : σ[i]? = some (some v)) (dp : Dp K H0 v d) : Md K H0 σ d (tVar i) := fun H Q s q => ⟨v, h, q H _ (Same.refl _) (dp_sm s dp)⟩
/-- any expression, read by hand -/
theorem md_by {d : PyData} {t : TE} (h : ∀ (H : Hp) (Q : VK), Same H0 H → (∀ H' x, Same H H' → Dp K H' x d → Q x H') → t σ H Q) : Md K H0 σ d t := h
/-- a new list -/
theorem ml_lst {ds : List PyData} {u : TA} (r : Mds K H0 σ ds u) {H : Hp} {Q : VK} (s : Same H0 H) (q : ∀ H' L vs, Same H H' → H L = none → H' L = some (.lst vs) → DpAll K H' vs ds → Q (.ref L) H') (hk : ds.length ≤ 1000 := by simp) : tLst u σ H Q :=
  r H _ s fun H1 xs s1 d1 => ⟨by rw [dpAll_len d1, sizeLine_eq]; omega, fun p np => q _ p xs (s1.trans (same_new np)) (s1.free np) upd_same (dpAll_sm (same_new np) d1)⟩
end
theorem st_asg {te : TE} {i : Nat} {u : TS} {D : Ends} {σ : L2.St} {H : Hp} (h : te σ H fun v H' => u D (σ.set i (some v)) H') : tSeq (tAsg te (gName i)) u D σ H := h
/-! statements, one step opened -/
section
variable {K : PySem.W.Frag} {te : TE} {g : TG} {tb u : TS} {D : Ends} {σ : L2.St} {H : Hp}
def ForW (J : It) (g : TG) (tb : TS) (D : Ends) (σ : L2.St) (H1 : Hp) : Prop := ∃ W : Nat → Nat → L2.St → Hp → Prop, (∃ m, W 0 m σ H1) ∧ ∀ i m σ H, W i m σ H →
  (J.stop i H ∧ D.nx σ H) ∨ (J.go i H ∧ ∃ N : L2.St → Hp → Prop, (∀ σ' H', N σ' H' → ∃ m', m' < m ∧ W (i + 1) m' σ' H') ∧ ∀ x H', J.yld i H x H' → g x σ H' fun σ2 H2 => tb { D with nx := N, ct := N, bk := D.nx } σ2 H2)
theorem st_forT (h : te σ H fun v H1 => ∃ a, v = .ref a ∧ (∃ xs, SqT K H1 a xs) ∧ ForW (Itt K a) g tb { D with nx := u D } σ H1) : tSeq (tFor (iTup K te) g tb) u D σ H := h
theorem st_forL (h : te σ H fun v H1 => ∃ a, v = .ref a ∧ (∃ xs, SqL K H1 a xs) ∧ ForW (Itl K a) g tb { D with nx := u D } σ H1) : tSeq (tFor (iList K te) g tb) u D σ H := h
theorem st_drop (h : te σ H fun _ H' => u D σ H') : tSeq (tDrop te) u D σ H := h
theorem st_ret (h : te σ H D.rt) : tRet te D σ H := h
theorem fw_tup {a : Addr} {xs : List V} (Pv : Nat → L2.St → Hp → Prop) (h0 : Pv 0 σ H) (hl : ∀ i σ H, i ≤ xs.length → Pv i σ H → SqT K H a xs)
    (hs : ∀ i x σ H, xs[i]? = some x → Pv i σ H → g x σ H fun σ2 H2 => tb { D with nx := Pv (i + 1), ct := Pv (i + 1), bk := D.nx } σ2 H2) (hd : ∀ σ H, Pv xs.length σ H → D.nx σ H) : ForW (Itt K a) g tb D σ H := for_tup Pv h0 hl hs hd
theorem fw_list {a : Addr} {xs : List V} (Pv : Nat → L2.St → Hp → Prop) (h0 : Pv 0 σ H) (hl : ∀ i σ H, i ≤ xs.length → Pv i σ H → SqL K H a xs)
    (hs : ∀ i x σ H, xs[i]? = some x → Pv i σ H → g x σ H fun σ2 H2 => tb { D with nx := Pv (i + 1), ct := Pv (i + 1), bk := D.nx } σ2 H2) (hd : ∀ σ H, Pv xs.length σ H → D.nx σ H) : ForW (Itl K a) g tb D σ H := for_list Pv h0 hl hs hd
end
theorem ar_cons {t : TE} {u : TA} {σ : L2.St} {H : Hp} {Q : List V → Hp → Prop} (h : t σ H fun x H1 => u σ H1 fun xs H2 => Q (x :: xs) H2) : tCons t u σ H Q := h
theorem ar_call {sp : Sp} {dvs : List V} {E : XK} {t : TA} {σ : L2.St} {H : Hp} {Q : VK} (h : t σ H fun vs H1 => sp (vs ++ dvs) H1 Q E) : tCall sp dvs E t σ H Q := h
theorem st_if {c : TT} {t e u : TS} {D : Ends} {σ : L2.St} {H : Hp} (h : c σ H fun b H1 => if b = true then t { D with nx := u D } σ H1 else e { D with nx := u D } σ H1) : tSeq (tIfS c t e) u D σ H := h
theorem tt_test {t : TE} {σ : L2.St} {H : Hp} {Q : Bool → Hp → Prop} (h : t σ H fun x H' => ∃ k, x = .bl k ∧ Q k H') : tTest t σ H Q := h
theorem tt_b {t : TE} {σ : L2.St} {H : Hp} {Q : Bool → Hp → Prop} (h : t σ H fun x H' => ∃ k, x = .bl k ∧ Q k H') : tB t σ H Q := h
theorem tt_not {t : TT} {σ : L2.St} {H : Hp} {Q : Bool → Hp → Prop} (h : t σ H fun c H' => Q (!c) H') : tNot t σ H Q := h
theorem tt_or {t u : TT} {σ : L2.St} {H : Hp} {Q : Bool → Hp → Prop} (h : t σ H fun c H1 => if c = true then Q true H1 else u σ H1 Q) : tOr t u σ H Q := h
theorem te_op {r : R2} {ta tb : TE} {σ : L2.St} {H : Hp} {Q : VK} (h : ta σ H fun x H1 => tb σ H1 fun y H2 => r x y H2 Q) : tOp r ta tb σ H Q := h

section
variable {K : PySem.W.Frag} {H0 : Hp} {σ : L2.St}
theorem md_rep {d : PyData} {t tn : TE} {k : Nat} (h : Md K H0 σ (.tuple [d]) t) (hn : Md K H0 σ (.int (k : Int)) tn) (h1 : 1 ≤ k) (h2 : k ≤ 1000) : Md K H0 σ (.tuple (List.replicate k d)) (tOp (rRepT1 K) t tn) := fun H Q s q =>
  h H _ s fun H1 x s1 d1 => hn H1 _ (s.trans s1) fun H2 y s2 d2 => by
    cases dp_int d2
    obtain ⟨p, xs, rfl, hp, da⟩ := dp_tup (dp_sm s2 d1)
    obtain ⟨x0, r0, rfl, d0, e0⟩ := dpAll_cons da
    cases dpAll_nil e0
    refine ⟨p, _, _, rfl, rfl, hp, by simp, by omega, by omega, by simp, fun e => ?_, fun ne u nu => ?_⟩
    · have e1 : k = 1 := by omega
      subst e1
      exact q _ _ (s1.trans s2) (.tup hp da)
    · refine q _ _ ((s1.trans s2).trans (same_new nu)) (.tup (.of upd_same) ?_)
      rw [Int.toNat_natCast]
      have d0' := dp_sm (same_new (o := .tup (List.replicate k [x0]).flatten) nu) d0
      generalize upd H2 u (.tup (List.replicate k [x0]).flatten) = H3 at d0' ⊢
      clear h1 h2 q hn d2 ne
      induction k with
      | zero => exact .nil
      | succ k ih => rw [List.replicate_succ, List.replicate_succ, List.flatten_cons]; exact .cons d0' ih
theorem md_cat {a b : List PyData} {t u : TE} (ha : Md K H0 σ (.tuple a) t) (hb : Md K H0 σ (.tuple b) u) (hl : a.length + b.length ≤ 5000) : Md K H0 σ (.tuple (a ++ b)) (tOp (rCatA K) t u) := fun H Q s q =>
  ha H _ s fun H1 x s1 d1 => hb H1 _ (s.trans s1) fun H2 y s2 d2 => by
    obtain ⟨p, xs, rfl, hp, da⟩ := dp_tup (dp_sm s2 d1)
    obtain ⟨p2, ys, rfl, hp2, db⟩ := dp_tup d2
    have la := dpAll_len da
    have lb := dpAll_len db
    refine ⟨p, p2, xs, ys, rfl, rfl, hp, hp2, by rw [sizeLine_eq]; omega, fun e => ?_, fun _ e => ?_, fun _ _ r nr => ?_⟩
    · subst e
      have : a = [] := List.eq_nil_of_length_eq_zero la.symm
      subst this
      exact q _ _ (s1.trans s2) d2
    · subst e
      have : b = [] := List.eq_nil_of_length_eq_zero lb.symm
      subst this
      rw [List.append_nil] at q
      exact q _ _ (s1.trans s2) (.tup hp da)
    · exact q _ _ ((s1.trans s2).trans (same_new nr)) (.tup (.of upd_same) (dpAll_sm (same_new nr) (dpAll_app da db)))
theorem md_i0 {g : Int → Int → Int} {i j : Int} {t u : TE} (ha : Md K H0 σ (.int i) t) (hb : Md K H0 σ (.int j) u) : Md K H0 σ (.int (g i j)) (tOp (rI0 fun i j => V.int (g i j)) t u) := fun H Q s q =>
  ha H _ s fun H1 x s1 d1 => hb H1 _ (s.trans s1) fun H2 y s2 d2 => by
    cases dp_int d1
    cases dp_int d2
    exact ⟨_, _, rfl, rfl, q _ _ (s1.trans s2) (.int _)⟩
theorem md_iC {C : Int → Int → Prop} {g : Int → Int → Int} {i j : Int} {t u : TE} (ha : Md K H0 σ (.int i) t) (hb : Md K H0 σ (.int j) u) (hc : C i j) : Md K H0 σ (.int (g i j)) (tOp (rI C fun i j => V.int (g i j)) t u) := fun H Q s q =>
  ha H _ s fun H1 x s1 d1 => hb H1 _ (s.trans s1) fun H2 y s2 d2 => by
    cases dp_int d1
    cases dp_int d2
    exact ⟨_, _, rfl, rfl, hc, q _ _ (s1.trans s2) (.int _)⟩
end
section
variable {K : PySem.W.Frag} {H0 : Hp} {σ : L2.St}
theorem md_ixt {ds : List PyData} {d : PyData} {t : TE} {i : Nat} (h : Md K H0 σ (.tuple ds) t) (hi : ds[i]? = some d) : Md K H0 σ d (tOp (rIxT K) t (tC (.int (i : Int)))) := fun H Q s q =>
  h H _ s fun H1 x s1 d1 => by
    obtain ⟨p, xs, rfl, hp, da⟩ := dp_tup d1
    obtain ⟨v, hv, dv⟩ := dpAll_get da hi
    exact ⟨p, xs, _, v, rfl, rfl, hp, atI_nat hv, q _ _ s1 dv⟩
theorem md_cut2 {d1 d2 d3 : PyData} {t : TE} (h : Md K H0 σ (.tuple [d1, d2, d3]) t) : Md K H0 σ (.tuple [d1, d2]) (tSl (rSlA K) t tNoPart (tPart (tC (.int 2)))) := fun H Q s q =>
  h H _ s fun H1 x s1 e1 => by
    obtain ⟨p, xs, rfl, hp, da⟩ := dp_tup e1
    obtain ⟨x0, r0, rfl, g0, h0⟩ := dpAll_cons da
    obtain ⟨x1, r1, rfl, g1, h1⟩ := dpAll_cons h0
    obtain ⟨x2, r2, rfl, g2, h2⟩ := dpAll_cons h1
    cases dpAll_nil h2
    refine ⟨_, rfl, p, _, rfl, hp, fun z => ?_, fun _ u nu => ?_⟩
    · exact absurd z.2 (by show ¬ HT.sIx 3 3 (some 2) = 3; decide)
    · exact q _ _ (s1.trans (same_new nu)) (.tup (.of upd_same) (.cons (dp_sm (same_new nu) g0) (.cons (dp_sm (same_new nu) g1) .nil)))
end

section
variable {K : PySem.W.Frag} {H0 : Hp} {σ : L2.St}
theorem md_ixl {j : Nat} {a : Addr} {vs : List V} {ds : List PyData} {d : PyData} {i : Int} {ti : TE} (h : σ[j]? = some (some (.ref a))) (hs : SqL K H0 a vs) (da : DpAll K H0 vs ds) (hi : Md K H0 σ (.int i) ti) (h0 : 0 ≤ i) (hd : ds[i.toNat]? = some d) : Md K H0 σ d (tOp (rIxL K) (tVar j) ti) := fun H Q s q =>
  ⟨_, h, hi H _ s fun H1 x s1 d1 => by
    cases dp_int d1
    obtain ⟨v, hv, dv⟩ := dpAll_get da hd
    obtain ⟨n, rfl⟩ := Int.eq_ofNat_of_zero_le h0
    exact ⟨a, vs, _, v, rfl, rfl, (s.trans s1).seq hs, atI_nat hv, q _ _ s1 (dp_sm (s.trans s1) dv)⟩⟩
theorem md_len {j : Nat} {a : Addr} {vs : List V} (h : σ[j]? = some (some (.ref a))) (hs : SqL K H0 a vs) : Md K H0 σ (.int (vs.length : Int)) (tCB (fun xs H Q => ∃ p ys, xs = [.ref p] ∧ (SqL K H p ys ∨ SqT K H p ys) ∧ Q (.int ys.length) H) (tCons (tVar j) tNil)) := fun H Q s q =>
  ⟨_, h, a, vs, rfl, .inl (s.seq hs), q _ _ (Same.refl _) (.int _)⟩
theorem md_neg {i : Int} {t : TE} (h : Md K H0 σ (.int i) t) : Md K H0 σ (.int (-i)) (tUn (rU fun i => .int (-i)) t) := fun H Q s q =>
  h H _ s fun H1 x s1 d1 => by
    cases dp_int d1
    exact ⟨i, rfl, q _ _ s1 (.int _)⟩
/-- a test x == i of a number -/
theorem tt_eqi {i j : Int} {t u : TE} (h : Md K H0 σ (.int i) t) (hu : Md K H0 σ (.int j) u) {H : Hp} {Q : Bool → Hp → Prop} (s : Same H0 H) (q : ∀ H', Same H H' → Q (decide (V.int i = V.int j)) H') : tTest (tOp rEq t u) σ H Q :=
  h H _ s fun H1 x s1 d1 => hu H1 _ (s.trans s1) fun H2 y s2 d2 => by
    cases dp_int d1
    cases dp_int d2
    exact ⟨rfl, _, rfl, q _ (s1.trans s2)⟩
end
section
variable {K : PySem.W.Frag} {H0 : Hp} {σ : L2.St}
theorem md_ixll {u : TA} {ds : List PyData} {d : PyData} {i : Int} {ti : TE} (r : Mds K H0 σ ds u) (hi : Md K H0 σ (.int i) ti) (h0 : 0 ≤ i) (hd : ds[i.toNat]? = some d) (hk : ds.length ≤ 1000 := by simp) : Md K H0 σ d (tOp (rIxL K) (tLst u) ti) := fun H Q s q =>
  ml_lst (K := K) r s (fun H1 L vs s1 nL eL dL => hi H1 _ (s.trans s1) fun H2 y s2 d2 => by
    cases dp_int d2
    obtain ⟨v, hv, dv⟩ := dpAll_get dL hd
    obtain ⟨n, rfl⟩ := Int.eq_ofNat_of_zero_le h0
    exact ⟨L, vs, _, v, rfl, rfl, .of (s2 _ _ eL), atI_nat hv, q _ _ (s1.trans s2) (dp_sm s2 dv)⟩) hk
end

section
variable {P : Program} {w : World} {K : PySem.W.Frag} {mg : Str → Option Value} {base : Heap}
theorem atZ {zs : List Str} {i : Nat} {x : Str} (h : zs[i]? = some x) : atI (zs.map V.str) (i : Int) = some (.str x) := atI_nat (by rw [List.getElem?_map, h]; rfl)
theorem sms_nl (ms : List Sm) : nLs (ms.map Sm.d) = true := by rw [← Sm.ds_eq]; exact Sm.noLs ms
/-- an end as it is due -/
theorem is_end {H0 : Hp} {σ : L2.St} {t u : TE} {s' : PSt} {r : Rs} (h1 : Md K H0 σ (enD s' r) t) (h2 : Md K H0 σ (enD s' r) u) (l : s'.td.length ≤ 6000) (hr : r.wok) {H : Hp} {Q : VK} (s : Same H0 H) (q : ∀ H', Same H H' → Q (.bl true) H') : tCall (sp_isend K 3) [] E0 (tCons t (tCons u tNil)) σ H Q :=
  h1 H _ s fun H1 x s1 d1 => h2 H1 _ (s.trans s1) fun H2 y s2 d2 => ⟨x, y, _, _, rfl, dp_sm s2 d1, d2, alk_td l, alk_rs r hr, fun H3 s3 => q _ ((s1.trans s2).trans s3)⟩
theorem md_lplayed {H0 : Hp} {σ : L2.St} {i j n : Nat} {vp : V} {b : Addr} {hl : Hl} {ps : List (Str × Int)} {ws : List (Str × Nat)} {bd : List Sm} {L F : Nat} {r : Rs} {s' : PSt} {tm : TE} (hi : σ[i]? = some (some vp)) (hj : σ[j]? = some (some (.ref b))) (dp : Dp K H0 vp (plD hl ps ws bd)) (hb : SqL K H0 b ((ps.map (·.2)).map V.int)) (pk : PlOk n hl ps ws bd)
    (hm : Md K H0 σ (.int (L : Int)) tm) (l5 : L ≤ 5000) (he : doAll (hsZ hl) F bd (st0 ps ws L) = some (r, s')) : Md K H0 σ (lpD s' r ((L : Int) - s'.lf)) (tCall (sp_lplayed K n) [] E0 (tCons (tVar i) (tCons (tVar j) (tCons tm tNil)))) := fun H Q s q =>
  ⟨vp, hi, _, hj, hm _ _ s fun H2 x s2 dx => by
    cases dp_int dx
    exact ⟨vp, b, L, hl, ps, ws, bd, s', r, F, rfl, dp_sm (s.trans s2) dp, (s.trans s2).seq hb, pk, l5, he, fun H3 u s3 d3 => q _ _ (s2.trans s3) d3⟩⟩
def sp_law (K : PySem.W.Frag) : Sp := fun vs H Q _ => ∃ (a : Addr) (ns : List Int), vs = [.ref a] ∧ Scp K H a ns ∧ ∀ H', Q (.bl true) H'
theorem law_start {K : PySem.W.Frag} {H : Hp} {a : Addr} {ns : List Int} (hl : ns.length ≤ 63) (hb : ∀ z ∈ ns, Builtin.Int.intBits z ≤ 1048576) (hS : SqL K H a (ns.map V.int)) : sp_law K [.ref a] H (fun v _ => v = .bl true) fun _ _ _ => False := ⟨a, ns, rfl, ⟨hl, hb, hS⟩, fun _ => rfl⟩
/-- statements that neither turn back nor turn aside -/
def Sm.flat : Sm → Prop
  | .set _ _ => True
  | .put _ _ _ => True
  | .tell _ => True
  | _ => False
structure SmF (K : PySem.W.Frag) (H : Hp) (L : Addr) (rs : List Str) (ms : List Sm) : Prop where
  ex : ∃ vs, H L = some (.lst vs) ∧ DpAll K H vs (ms.map Sm.d)
  ok : ∀ m ∈ ms, ∀ hs n, m.ok hs (n + 2) rs
  fl : ∀ m ∈ ms, m.flat
theorem SmF.sm {H H' : Hp} {L : Addr} {rs : List Str} {ms : List Sm} (h : SmF K H L rs ms) (s : Same H H') : SmF K H' L rs ms := by
  obtain ⟨vs, e, d⟩ := h.ex
  exact ⟨⟨vs, s _ _ e, dpAll_sm s d⟩, h.ok, h.fl⟩
theorem SmF.add {H : Hp} {L : Addr} {rs : List Str} {ms : List Sm} {v : V} {m : Sm} {vs : List V} (h : SmF K H L rs ms) (e : H L = some (.lst vs)) (d : DpAll K H vs (ms.map Sm.d)) (dv : Dp K H v m.d) (om : ∀ hs n, m.ok hs (n + 2) rs) (fm : m.flat) : SmF K (upd H L (.lst (vs ++ [v]))) L rs (ms ++ [m]) := by
  have k : Kp (fun a => a = L) H (upd H L (.lst (vs ++ [v]))) := Kp.upd e trivial rfl
  refine ⟨⟨_, upd_same, ?_⟩, fun c hc => ?_, fun c hc => ?_⟩
  · rw [List.map_append]
    exact dpAll_app (dpAll_kp k _ _ (sms_nl ms) d) (.cons (dp_kp k _ _ (Sm.noL m) dv) .nil)
  · rcases List.mem_append.mp hc with z | z
    · exact h.ok c z
    · rw [List.mem_singleton.mp z]
      exact om
  · rcases List.mem_append.mp hc with z | z
    · exact h.fl c z
    · rw [List.mem_singleton.mp z]
      exact fm
theorem wf_ok {nms rws : List Str} : ∀ {d : Nat} {e : Ex}, e.Wf nms rws d → e.dep < d ∧ e.wf rws
  | 0, _, h => h.elim
  | d + 1, .num n, h => ⟨Nat.succ_pos _, h⟩
  | d + 1, .nam x, _ => ⟨Nat.succ_pos _, trivial⟩
  | d + 1, .at_ r e, h => by
    obtain ⟨a, b⟩ := wf_ok (d := d) (e := e) h.2
    exact ⟨by show e.dep + 1 < d + 1; omega, h.1, b⟩
  | d + 1, .no e, h => by
    obtain ⟨a, b⟩ := wf_ok (d := d) (e := e) h
    exact ⟨by show e.dep + 1 < d + 1; omega, b⟩
  | d + 1, .op w x y, h => by
    obtain ⟨a, b⟩ := wf_ok (d := d) (e := x) h.2.1
    obtain ⟨a', b'⟩ := wf_ok (d := d) (e := y) h.2.2
    exact ⟨by show max x.dep y.dep + 1 < d + 1; omega, h.1, b, b'⟩
/-- flat statements: how many turns are left counts for nothing -/
theorem flat_one (hs : Hs) {m : Sm} (hm : m.flat) (kn : Kn) (rw : Rw) (td : List Int) : ∃ r kn' rw' td', (r = Rs.fin ∨ ∃ w, r = Rs.flt w) ∧ ∀ F l, doOne hs (F + 1) m { kn := kn, rw := rw, lf := l, td := td } = some (r, { kn := kn', rw := rw', lf := l, td := td' }) := by
  cases m with
  | set x e =>
    cases h : wx e kn rw with
    | error f => exact ⟨.flt f, kn, rw, td, .inr ⟨_, rfl⟩, fun F l => by simp only [doOne, h]⟩
    | ok v => exact ⟨.fin, kput kn x v, rw, td, .inl rfl, fun F l => by simp only [doOne, h]⟩
  | tell e =>
    cases h : wx e kn rw with
    | error f => exact ⟨.flt f, kn, rw, td, .inr ⟨_, rfl⟩, fun F l => by simp only [doOne, h]⟩
    | ok v => exact ⟨.fin, kn, rw, td ++ [v], .inl rfl, fun F l => by simp only [doOne, h]⟩
  | put r e f =>
    cases h : wx e kn rw with
    | error f => exact ⟨.flt f, kn, rw, td, .inr ⟨_, rfl⟩, fun F l => by simp only [doOne, h]⟩
    | ok p =>
      cases h2 : wx f kn rw with
      | error f => exact ⟨.flt f, kn, rw, td, .inr ⟨_, rfl⟩, fun F l => by simp only [doOne, h, h2]⟩
      | ok v =>
        by_cases h3 : 0 ≤ p ∧ p < (rw r).length
        · exact ⟨.fin, kn, rput rw r p.toNat v, td, .inl rfl, fun F l => by simp only [doOne, h, h2]; rw [if_pos h3]⟩
        · exact ⟨.flt "place", kn, rw, td, .inr ⟨_, rfl⟩, fun F l => by simp only [doOne, h, h2]; rw [if_neg h3]⟩
  | give e => exact hm.elim
  | fail n => exact hm.elim
  | ite e ys zs => exact hm.elim
  | loop e b => exact hm.elim
  | call x h es => exact hm.elim
theorem flat_all (hs : Hs) : ∀ bd : List Sm, (∀ m ∈ bd, m.flat) → ∀ (kn : Kn) (rw : Rw) (td : List Int), ∃ r td', ∀ F l, bd.length ≤ l → bd.length + 2 ≤ F → ∃ kn' rw' l', doAll hs F bd { kn := kn, rw := rw, lf := l, td := td } = some (r, { kn := kn', rw := rw', lf := l', td := td' })
  | [], _, kn, rw, td => ⟨.fin, td, fun F l _ hF => by
    obtain ⟨G, rfl⟩ : ∃ G, F = G + 1 := ⟨F - 1, by simp at hF; omega⟩
    exact ⟨kn, rw, l, by simp only [doAll]⟩⟩
  | m :: r, hm, kn, rw, td => by
    obtain ⟨r1, kn1, rw1, td1, hr, h1⟩ := flat_one hs (hm m (List.mem_cons_self ..)) kn rw td
    rcases hr with rfl | ⟨w, rfl⟩
    · obtain ⟨r2, td2, h2⟩ := flat_all hs r (fun x hx => hm x (List.mem_cons_of_mem _ hx)) kn1 rw1 td1
      refine ⟨r2, td2, fun F l hl hF => ?_⟩
      rw [List.length_cons] at hl hF
      obtain ⟨G, rfl⟩ : ∃ G, F = G + 2 := ⟨F - 2, by omega⟩
      obtain ⟨a, b, c, e⟩ := h2 (G + 1) (l - 1) (by omega) (by omega)
      refine ⟨a, b, c, ?_⟩
      rw [doAll, if_neg (show ¬ l = 0 by omega), h1]
      exact e
    · refine ⟨.flt w, td1, fun F l hl hF => ?_⟩
      rw [List.length_cons] at hl hF
      obtain ⟨G, rfl⟩ : ∃ G, F = G + 2 := ⟨F - 2, by omega⟩
      refine ⟨kn1, rw1, l - 1, ?_⟩
      rw [doAll, if_neg (show ¬ l = 0 by omega), h1]
theorem ends2 {n : Nat} {hl : Hl} {ps : List (Str × Int)} {ws : List (Str × Nat)} {bd : List Sm} (pk : PlOk n hl ps ws bd) {most F : Nat} (hm : most ≤ 5000) {r : Rs} {s' : PSt} (e : doAll (hsZ hl) F bd (st0 ps ws most) = some (r, s')) : s'.td.length ≤ 6000 ∧ r.wok := by
  have sz := (size1 (hsZ hl) F).1 _ _ _ _ e
  have h1 : (st0 ps ws most).td.length = 0 := rfl
  have h2 : (st0 ps ws most).lf = most := rfl
  refine ⟨by omega, ?_⟩
  cases r with
  | flt w => exact (flt_word (hsZ hl) F).1 n _ bd _ w s' pk.ok e
  | fin => trivial
  | gave v => trivial
  | on => trivial
theorem md_playedG {H0 : Hp} {σ : L2.St} {i n : Nat} {vp : V} {hl : Hl} {ps : List (Str × Int)} {ws : List (Str × Nat)} {bd : List Sm} {L F : Nat} {r : Rs} {s' : PSt} {tl tm : TE} (hi : σ[i]? = some (some vp)) (dp : Dp K H0 vp (plD hl ps ws bd)) (htl : ∀ (H : Hp) (Q : VK), Same H0 H → (∀ H' b, Same H H' → SqN K H' b (ps.map (·.2)) → Q (.ref b) H') → tl σ H Q) (pk : PlOk n hl ps ws bd)
    (hm : Md K H0 σ (.int (L : Int)) tm) (l5 : L ≤ 5000) (he : doAll (hsZ hl) F bd (st0 ps ws L) = some (r, s')) : Md K H0 σ (enD s' r) (tCall (sp_played K n) [] E0 (tCons (tVar i) (tCons tl (tCons tm tNil)))) := fun H Q s q =>
  ⟨vp, hi, htl _ _ s fun H1 b s1 hb => hm _ _ (s.trans s1) fun H2 x s2 dx => by
    cases dp_int dx
    exact ⟨vp, b, L, hl, ps, ws, bd, s', r, F, rfl, dp_sm ((s.trans s1).trans s2) dp, sqN_sm s2 hb, pk, l5, he, fun H3 u s3 d3 => q _ _ ((s1.trans s2).trans s3) d3⟩⟩
theorem md_playedD {H0 : Hp} {σ : L2.St} {i n : Nat} {vp : V} {hl : Hl} {ps : List (Str × Int)} {ws : List (Str × Nat)} {bd : List Sm} {F : Nat} {r : Rs} {s' : PSt} {tl : TE} (hi : σ[i]? = some (some vp)) (dp : Dp K H0 vp (plD hl ps ws bd)) (htl : ∀ (H : Hp) (Q : VK), Same H0 H → (∀ H' b, Same H H' → SqN K H' b (ps.map (·.2)) → Q (.ref b) H') → tl σ H Q) (pk : PlOk n hl ps ws bd)
    (he : doAll (hsZ hl) F bd (st0 ps ws 1000) = some (r, s')) : Md K H0 σ (enD s' r) (tCall (sp_played K n) [.int 1000] E0 (tCons (tVar i) (tCons tl tNil))) := fun H Q s q =>
  ⟨vp, hi, htl _ _ s fun H1 b s1 hb =>
    ⟨vp, b, 1000, hl, ps, ws, bd, s', r, F, rfl, dp_sm (s.trans s1) dp, hb, pk, by decide, he, fun H3 u s3 d3 => q _ _ (s1.trans s3) d3⟩⟩
theorem md_nm {H0 : Hp} {σ : L2.St} {j i : Nat} {Ln : Addr} {zs : List Str} {z : Str} (h : σ[j]? = some (some (.ref Ln))) (e : H0 Ln = some (.lst (zs.map V.str))) (hz : zs[i]? = some z) : Md K H0 σ (.str z) (tOp (rIxL K) (tVar j) (tC (.int (i : Int)))) := fun H Q s q =>
  ⟨_, h, Ln, _, _, _, rfl, rfl, .of (s _ _ e), atZ hz, q _ _ (Same.refl _) (.str _)⟩
theorem ix_of {l : List Int} {j : Int} (h0 : 0 ≤ j) (h1 : j < l.length) : ∃ x ∈ l, atI (l.map V.int) j = some (.int x) := by
  obtain ⟨x, hx, e⟩ := at_list (ns := l.map V.int) h0 (by rw [List.length_map]; exact h1)
  obtain ⟨z, hz, rfl⟩ := List.mem_map.mp hx
  exact ⟨z, hz, e⟩
theorem strs_dp {H : Hp} : ∀ l : List Str, DpAll K H (l.map V.str) (l.map PyData.str)
  | [] => .nil
  | _ :: r => .cons (.str _) (strs_dp r)
theorem Info.sm {H H' : Hp} {v : V} {nms rws : List Str} {hds : List (Str × Nat)} {a b c : Addr} (h : Info K H v nms rws hds a b c) (s : Same H H') : Info K H' v nms rws hds a b c := h.kp (S := fun _ => False) (Kp.of_same s) ⟨id, id, id⟩
end
theorem st_asg1 {te : TE} {i : Nat} {D : Ends} {σ : L2.St} {H : Hp} (h : te σ H fun v H' => D.nx (σ.set i (some v)) H') : tAsg te (gName i) D σ H := h

section
variable {P : Program} {w : World} {K : PySem.W.Frag} {mg : Str → Option Value} {base : Heap}
theorem kp_back {H0 H H' : Hp} {S : Addr → Prop} (s : Same H0 H) (k : Kp S H H') (h0 : ∀ b, S b → H0 b = none) : Same H0 H' := fun b o e => k b o (s b o e) fun z => by
  rw [h0 b z] at e
  cases e
def sp_inpby : Sp := fun vs H Q _ => ∃ c m : Int, vs = [.int c, .int m] ∧ 0 ≤ m ∧ m ≤ 20 ∧ ∀ H' L (xs : List Int), Same H H' → H' L = some (.lst (xs.map V.int)) → xs.length = m.toNat → (∀ x ∈ xs, In32 x) → Q (.ref L) H'
theorem ok__law_inputs_by (T : Top K mg) : FnOk P w K mg base CX0 3 (He.ga K "_law_inputs_by") T.fd__law_inputs_by ["_law_cell", "_law_many"] sp_inpby := by
  have G__law_number_by := ok__law_number_by (P := P) (w := w) (base := base) T
  have G__law_held := ok__law_held (P := P) (w := w) (base := base) T
  refine T.F__law_inputs_by.ok sc__law_inputs_by (fun vs H Q E h => ?_) (fun cdv A outer s H vs Q E hr h => ?_)
  · obtain ⟨c, m, rfl, _⟩ := h
    rfl
  · obtain ⟨c, m, rfl, m0, m1, q⟩ := h
    refine ⟨_, PSs.nox (pss_cons (ps_set (i := 2) sc__law_inputs_by.nd rfl (Or.inr rfl) (pe_call G__law_held (hr.mono (by omega)) (by rfl) T.g__law_held T.F__law_held.kp T.b__law_held .nil pass0 (pa_cons (pv 0) pa_nil)))
        (pss_cons (ps_if (pt_val (pe_callB call_isi (by rfl) T.m_isinstance (by decide +kernel) (pa_cons (pv 2) (pa_cons (pe_bltn (v := .ty "list") (by rfl) T.m_list (by decide +kernel) rfl) pa_nil)))) (pss_one (ps_ret (pe_lc (own := [("_law_k", 3)]) (by rfl) sc__law_inputs_by.nd (pi_range1 (by rfl) T.m_range (pa_cons (pv 1) pa_nil)) (blkOk_by (own := [("_law_k", 3)]) (N := N__law_inputs_by) (sc := defScope s__law_inputs_by) (by decide +kernel)) (fun _ _ _ _ _ => (pg_name (i := 3) sc__law_inputs_by.nd rfl (Or.inl rfl))) (fun _ _ _ _ _ => pts_nil) (fun _ _ _ _ _ => (pe_call G__law_number_by (hr.mono (by omega)) (by rfl) T.g__law_number_by T.F__law_number_by.kp T.b__law_number_by .nil pass0 (pa_cons (pv 2) (pa_cons (pv 3) pa_nil))))))) pss_nil)
        (pss_one (ps_ret (pe_lc (own := [("_law_k", 3)]) (by rfl) sc__law_inputs_by.nd (pi_range1 (by rfl) T.m_range (pa_cons (pv 1) pa_nil)) (blkOk_by (own := [("_law_k", 3)]) (N := N__law_inputs_by) (sc := defScope s__law_inputs_by) (by decide +kernel)) (fun _ _ _ _ _ => (pg_name (i := 3) sc__law_inputs_by.nd rfl (Or.inl rfl))) (fun _ _ _ _ _ => pts_nil) (fun _ _ _ _ _ => (pe_call G__law_number_by (hr.mono (by omega)) (by rfl) T.g__law_number_by T.F__law_number_by.kp T.b__law_number_by .nil pass0 (pa_cons (pe_op op_add (pv 0) (pe_op op_mul pe_int (pv 3))) (pa_cons (pe_op op_add (pv 3) pe_int) pa_nil))))))))), ?_⟩
    refine ⟨_, rfl, c, rfl, fun H1 v s1 c1 f1 => ?_⟩
    dsimp only [gName]
    rcases c1 with ⟨x, rfl⟩ | ⟨p, l, t, rfl, hp, hl, ht⟩
    · refine ⟨_, rfl, _, _, _, _, false, rfl, .ty _, .base (.int x), kit_ty (by decide +kernel), false, rfl, ?_⟩
      refine ⟨_, rfl, m, rfl, by omega, by omega, fun D nD => ?_⟩
      refine lc_range (lo := 0) (n := m.toNat) (fun i H' => Same H1 H' ∧ ∃ xs : List Int, H' D = some (.lst (xs.map V.int)) ∧ xs.length = i ∧ ∀ x ∈ xs, In32 x) ?_ ?_ ?_
      · exact ⟨same_new nD, [], upd_same, rfl, fun x hx => nomatch hx⟩
      · rintro i H2 hi ⟨s2, xs, e2, l2, x2⟩
        refine ⟨rfl, _, rfl, _, rfl, _, _, rfl, rfl, .inl ⟨by decide, by decide⟩, _, _, rfl, rfl, _, rfl, _, _, rfl, rfl, _, 0 + (i : Int) + 1, rfl, .inl ⟨_, rfl⟩, by omega, by omega, fun H3 n k3 _ hn => ?_⟩
        have s3 := kp_int k3
        refine ⟨_, s3 _ _ e2, by rw [List.length_map, l2, sizeLine_eq]; omega, same_upd (s2.trans s3) nD, xs ++ [n], by rw [upd_same, List.map_append]; rfl, by rw [List.length_append, l2]; rfl, fun y hy => ?_⟩
        rcases List.mem_append.mp hy with hy | hy
        · exact x2 y hy
        · rw [List.mem_singleton.mp hy]
          exact hn
      · rintro H2 ⟨s2, xs, e2, l2, x2⟩
        exact q _ D xs (s1.trans s2) e2 l2 x2
    · refine ⟨_, rfl, _, _, _, _, true, rfl, .ty _, .base (.lst hp), kit_ty (by decide +kernel), true, rfl, ?_⟩
      have cv : CellOk H1 (.ref p) := .inr ⟨p, l, t, rfl, hp, hl, ht⟩
      refine ⟨_, rfl, m, rfl, by omega, by omega, fun D nD => ?_⟩
      have nc : ¬ cellS (.ref p) D := cv.fresh nD
      have hD : H D = none := s1.free nD
      refine lc_range (lo := 0) (n := m.toNat) (fun i H' => Same H H' ∧ CellOk H' (.ref p) ∧ ∃ xs : List Int, H' D = some (.lst (xs.map V.int)) ∧ xs.length = i ∧ ∀ x ∈ xs, In32 x) ?_ ?_ ?_
      · exact ⟨s1.trans (same_new nD), cv.same (same_new nD), [], upd_same, rfl, fun x hx => nomatch hx⟩
      · rintro i H2 hi ⟨s2, c2, xs, e2, l2, x2⟩
        refine ⟨rfl, _, rfl, _, rfl, .ref p, 0 + (i : Int), rfl, c2, by omega, by omega, fun H3 n k3 c3 hn => ?_⟩
        have e3 := k3 _ _ e2 fun z => absurd z nc
        have s3 := kp_back s2 k3 fun b z => f1 b z
        refine ⟨_, e3, by rw [List.length_map, l2, sizeLine_eq]; omega, same_upd s3 hD, c3.upd nc, xs ++ [n], by rw [upd_same, List.map_append]; rfl, by rw [List.length_append, l2]; rfl, fun y hy => ?_⟩
        rcases List.mem_append.mp hy with hy | hy
        · exact x2 y hy
        · rw [List.mem_singleton.mp hy]
          exact hn
      · rintro H2 ⟨s2, c2, xs, e2, l2, x2⟩
        exact q _ D xs s2 e2 l2 x2
def sp_inps (K : PySem.W.Frag) : Sp := fun vs H Q _ => ∃ (v : V) (a : Addr) (ns : List Int) (k : Int) (d0 : PyData) (ps : List PyData) (ds : List PyData), vs = [v, .ref a, .int k] ∧ 0 ≤ k ∧ SqL K H a (ns.map V.int) ∧ Dp K H v (.tuple (d0 :: .tuple ps :: ds)) ∧ ps.length ≤ 20 ∧ ∀ H' L (xs : List Int), Same H H' → H' L = some (.lst (xs.map V.int)) → xs.length = ps.length → (∀ x ∈ xs, In32 x) → Q (.ref L) H'
theorem ok__law_inputs (T : Top K mg) : FnOk P w K mg base CX0 4 (He.ga K "_law_inputs") T.fd__law_inputs ["_law_program_here", "_law_script", "_law_at"] (sp_inps K) := by
  have G__law_inputs_by := ok__law_inputs_by (P := P) (w := w) (base := base) T
  have G__law_cell_at := ok__law_cell_at (P := P) (w := w) (base := base) T
  refine T.F__law_inputs.ok sc__law_inputs (fun vs H Q E h => ?_) (fun cdv A outer s H vs Q E hr h => ?_)
  · obtain ⟨v, a, ns, k, d0, ps, ds, rfl, _⟩ := h
    rfl
  · obtain ⟨v, a, ns, k, d0, ps, ds, rfl, k0, hS, dv, l20, q⟩ := h
    refine ⟨_, PSs.nox (pss_one (ps_ret (pe_call G__law_inputs_by (hr.mono (by omega)) (by rfl) T.g__law_inputs_by T.F__law_inputs_by.kp T.b__law_inputs_by .nil pass0 (pa_cons (pe_call G__law_cell_at (hr.mono (by omega)) (by rfl) T.g__law_cell_at T.F__law_cell_at.kp T.b__law_cell_at .nil pass0 (pa_cons (pv 1) (pa_cons (pv 2) pa_nil))) (pa_cons (pe_callB call_len_seq (by rfl) T.m_len (by decide +kernel) (pa_cons (pe_ix ix_tup (pv 0) pe_int (fun _ _ => rfl)) pa_nil)) pa_nil))))), ?_⟩
    obtain ⟨p, vs, rfl, hp, dvs⟩ := dp_tup dv
    obtain ⟨v0, r0, rfl, g0, h0⟩ := dpAll_cons dvs
    obtain ⟨v1, r1, rfl, g1, h1⟩ := dpAll_cons h0
    obtain ⟨p1, us, rfl, hp1, dus⟩ := dp_tup g1
    have lu := dpAll_len dus
    refine ⟨_, rfl, _, rfl, a, ns, k, rfl, k0, hS, _, rfl, p, _, 1, _, rfl, rfl, hp, atI_nat (j := 1) rfl, p1, us, rfl, .inr hp1, _, _, rfl, by omega, by omega, fun H1 L xs s1 e1 l1 x1 => ?_⟩
    refine q _ L xs s1 e1 ?_ x1
    rw [l1, lu]
    omega
end

/-! defs that ask for a repr: nothing is being shown around them -/
structure FnG (P : Program) (w : World) (K : PySem.W.Frag) (mg : Str → Option Value) (base : Heap) (CX : CXT) (k : Nat) (f : Addr) (fd : FuncData) (ps : List Str) (sp : Sp) : Prop where
  len : ∀ vs H Q E, sp vs H Q E → vs.length = ps.length
  run : ∀ (A : Around) (outer : List Env) (s : Shared) (H : Hp) (args : Args) (us : List Value) (vs : List V) (Q : VK) (E : XK), A.guards = some [] → Room k A →
    Env0 P w K mg base A outer s H → BindsTo s fd args (ps.zip us) → Vals vs us → sp vs H Q E → codeAny (model P w) A (.call (.ref f) args) (CR CX outer P w H s Q E) s
theorem FnG.of {P : Program} {w : World} {K : PySem.W.Frag} {mg : Str → Option Value} {base : Heap} {CX : CXT} {k : Nat} {f : Addr} {fd : FuncData} {ps : List Str} {sp : Sp} (G : FnOk P w K mg base CX k f fd ps sp) : FnG P w K mg base CX k f fd ps sp :=
  ⟨G.len, fun A outer s H args us vs Q E _ => G.run A outer s H args us vs Q E⟩
section
variable {P : Program} {w : World} {K : PySem.W.Frag} {mg : Str → Option Value} {base : Heap} {x qual : Str} {params : Arguments} {body : List Stmt} {scope : Scope} {dvs : List V} {kws : List (Str × V)} {f : Addr} {fd : FuncData}
theorem FnG.mk' {CX : CXT} {N ps : List Str} {k : Nat} {sp : Sp} (F : FunD K x qual params body scope dvs kws f fd) (S : FnScope N ps scope) (len : ∀ vs H Q E, sp vs H Q E → vs.length = ps.length)
    (hbody : ∀ (cdv : Value) (A : Around) (outer : List Env) (s : Shared) (H : Hp) (vs : List V) (Q : VK) (E : XK), A.guards = some [] → Room k (A.deeper (envOfC qual scope s.heap.objs.size f cdv)) →
      sp vs H Q E → ∃ t, PSs (cxOf CX P w K mg base N qual scope f cdv A outer s H E) body t ∧ t { nx := fun _ H' => Q .non H', rt := Q } (start N vs) H) : FnG P w K mg base CX (k + 1) f fd ps sp := by
  obtain ⟨oc, od, dV, kV, doc, pm, an, cdv, ct, osl, rfl, at_, code, -, -⟩ := F.ex
  refine ⟨len, fun A outer s H args us vs Q E gd room e0 bind rel want => ?_⟩
  have kin : K.In s.heap := e0.mod.kin.keeps fun b o e => (e0.bs b o e).1
  have nol : s.heap.NoLimit := e0.mod.nolimit.keeps fun b o e => (e0.bs b o e).1
  refine codeAny_call_function room.depth (kin _ _ at_) rfl S.co S.gen rfl (PySem.W.codeRec_of kin code) (bind _ _ _ _ ?_)
  refine wpAny_newFunctionEnv_cells S.kind ?pars fun env he s1 y => ?go
  case pars =>
    rintro ⟨n, v⟩ hn
    exact (S.par n (List.of_mem_zip hn).1).imp id fun c => ⟨c, PySem.W.cellsFrom_some _ _ _ (.inl c)⟩
  case go =>
    subst he
    obtain ⟨t, ht, go⟩ := hbody cdv A outer s H vs Q E gd (room.deeper _) want
    have I := inv_start (CX := CX) (E := E) (cd := cdv) (qual := qual) (f := f) S room.hd e0 (len _ _ _ _ want) rel y
    refine ⟨nol.keeps y.toInCall.keep, codeAny_func (wpAny_mono (ht.run [] s1 (start N vs) H _ I go) (fun fl s' z => ?_) fun e s' z => z)⟩
    cases fl with
    | ret u => obtain ⟨v, σ', H', J, rv, qv⟩ := z; exact ⟨v, H', J.os, J.bare, J.base, J.hok, rv, qv⟩
    | next => obtain ⟨σ', H', J, qv⟩ := z; exact ⟨.non, H', J.os, J.bare, J.base, J.hok, rfl, qv⟩
    | brk => exact z.elim fun _ h => h.elim fun _ h => h.2.elim
    | cont => exact z.elim fun _ h => h.elim fun _ h => h.2.elim
end
section
variable {X : Cx} {CX : CXT} {k : Nat} {f : Addr} {fd : FuncData} {ps : List Str} {sp : Sp} {dvs : List V} {ds : List Value} {E : XK} {x : Str} {p pos : Pos} {e : Expr} {es : List Expr} {t : TA}
theorem run_fnG {pins : List (Addr × Obj)} {σ : L2.St} {H : Hp} {s : Shared} {us : List Value} {vs : List V} {Q : VK} (F : FnG X.prog X.w X.K X.mg X.base CX k f fd ps sp) (gd : X.A.guards = some []) (hr : Room k X.A) (hb : Binds X.K fd ps ds) (hd : Vals dvs ds)
    (hx : Passes CX X E) (I : L2.Inv X pins σ H s) (r : Vals vs us) (q : sp (vs ++ dvs) H Q E) : wpAny (model X.prog X.w) X.A (call (.ref f) us) (EP X pins σ Q) X.xe s := by
  have both := r.append hd
  have ln : (us ++ ds).length = ps.length := both.length.symm.trans (F.len _ _ _ _ q)
  apply wpAny_call
  refine codeAny_mono (F.run X.A X.stack s H ⟨us, []⟩ _ _ Q E gd hr I.env0 (hb s us I.kIn ln) both q) ?_
  rintro (e | fl) s' z
  · exact hx pins σ H s e s' I z
  · cases fl with
    | ret u => exact I.after z
    | _ => exact z.elim
theorem pe_callG (F : FnG X.prog X.w X.K X.mg X.base CX k f fd ps sp) (gd : X.A.guards = some []) (hr : Room k X.A) (hg : Gl X x) (hm : X.mg x = some (.ref f)) (hk : PySem.W.keepIn X.K (.ref f) = true) (hb : Binds X.K fd ps ds) (hd : Vals dvs ds) (hx : Passes CX X E)
    (ha : PA X (e :: es) t) (hdb : (x == ("__debug__" : Str)) = false := by decide) (he : starEach (e :: es) X.env = (false, eval e X.env) :: starEach es X.env := by rfl) (hpl : (backTo pos (starEach es X.env)).any (·.1) = false := by rfl) :
    PE X (.Call (.Name x p) (e :: es) [] pos) (tCall sp dvs E t) := ⟨fun pins s σ H Q I h => wpAny_Call_Name_kw (ld_glob I hg hm
      (PySem.W.callWith_K (h₀ := X.base) I.ok.mod.kin hk (thn (ha.run pos pins s σ H _ I h) fun us s1 ⟨vs, H1, I1, r, q⟩ => ⟨I1.kIn, run_fnG F gd hr hb hd hx I1 r q⟩) he hpl) hdb)⟩
/-- repr of data -/
def rRepr (K : PySem.W.Frag) : List V → Hp → VK → Prop := fun xs H Q => ∃ (v : V) (ds : List PyData), xs = [v] ∧ Dp K H v (.tuple ds) ∧ (PyData.tuple ds).showable = true ∧ (PyData.tuple ds).canLay0 = true ∧ (PyData.tuple ds).depth ≤ 60 ∧
  (PyData.tuple ds).shown.length ≤ sizeLine ∧ Q (.str (PyData.tuple ds).shown) H
theorem call_reprD (gd : X.A.guards = some []) (hr : Room k X.A) : CallR X (.builtin "repr") (rRepr X.K) := by
  intro pins s σ H xs us Q I r h
  obtain ⟨v, ds, rfl, dp, sh, cl, de, sz, q⟩ := h
  obtain ⟨u, rfl, ru⟩ := vals1 r
  obtain ⟨as, rd⟩ := Dp.reads I _ v u dp ru
  obtain ⟨a, xs, rfl, -, -⟩ := dp_tup dp
  cases ru
  have un := hr.un
  refine repr_of_reads' rd sh (PyData.noDict_hsm (PyData.hasDict_of_canLay _ cl)) gd (by omega) (fun _ _ e => e) (fun h' z tk keep => ?_) sz
  exact ⟨.str _, H, I.kept keep, ⟨_, rfl⟩, q⟩
end
/-- a law's end for a law that asks for a repr -/
theorem walk_bitsG {l : PySem.W.OpenLaw} {n k : Nat} {q : Program} {loose : List Str} {XP : (Str → Option Value) → Heap → Prop} {YP : World → Heap → Prop} {d : DefRec} {CX : CXT} {x : Str}
    (hn : l.most = some n) (hn2 : n ≤ sizeLine) (hdf : d.params.defaults = []) (hr : Room k callerA)
    (F : ∀ (w : World) (mg : Str → Option Value) (fa : Addr) (h : Heap), YP w h → h.Ns mainGlobals mg → mg d.name = some (.ref fa) →
      ∃ (K : PySem.W.Frag) (fd : FuncData) (sp : Sp), K.In h ∧ (∀ (s : Shared) (u : Value), BindsTo s fd ⟨[u], []⟩ [(x, u)]) ∧
        (∀ (H : Hp) (a : Addr) (ns : List Int), ns.length ≤ n → (∀ z ∈ ns, Builtin.Int.intBits z ≤ 1048576) → Only H → SqL K H a (ns.map V.int) →
          sp [.ref a] H (fun v _ => v = .bl true) fun _ _ _ => False) ∧
        ∀ base : Heap, K.In base → base.Ns mainGlobals mg → FnG l.prog w K mg base CX k fa fd [x] sp)
    (hCX : ∀ (H : Hp) (s : Shared) (e : Value) (s' : Shared), CX [] H s (fun _ _ _ => False) e s' → False) :
    PySem.W.WalkO q loose XP YP l.row.toRowW d [] (fun f vs => PySem.call f vs) := by
  apply Att.attach_callB hn hdf
  intro w s0 s1 mg mb fa o pm cd doc a vs ns G Y ho hd hcd hmg hobj hints hlen hbits hg
  obtain ⟨K, fd, sp, KX, hb, hsp, hF⟩ := F w mg fa _ Y G.T.g hmg
  -- from an abstract heap that tracks the script at most
  have core : ∀ H : Hp, Only H → SqL K H a (ns.map V.int) → HOk l.prog w H s1.heap → (∀ b u, H b = some u → b = a) → ((∃ u, H a = some u) → K.lookup a = none) →
      codeAny (model l.prog w) callerA (.call (.ref fa) ⟨[.ref a], []⟩) (fun r s' => r = .ok (.ret (.bool true)) ∧ OldK s1.heap s'.heap ∧ s'.os = s1.os ∧ AllBare s'.gens) s1 := by
    intro H hO hS hok only own
    have dict : ∀ {b : Addr} {ob : Obj} {es : Array DictEntry} {ep : Nat}, s1.heap.get? b = some ob → ob.data = .dict es ep → H b = none := by
      intro b ob es ep e de
      cases z : H b with
      | none => rfl
      | some u =>
        obtain rfl := only b u z
        cases hobj.symm.trans e
        cases de
    have ns_ : ∀ {b : Addr} {m : Str → Option Value}, s1.heap.Ns b m → (hidT s1.heap H).Ns b m := by
      rintro b m ⟨ob, es, ep, e, de, z⟩
      exact ⟨ob, es, ep, hidT_get e (dict e de), de, z⟩
    have kin : K.In (hidT s1.heap H) := by
      intro b ob e
      refine hidT_get (KX b ob e) ?_
      cases z : H b with
      | none => rfl
      | some u =>
        obtain rfl := only b u z
        cases (own ⟨u, z⟩).symm.trans e
    obtain ⟨mc, c1, c2⟩ := G.T.nolimit
    have e0 : Env0 l.prog w K mg (hidT s1.heap H) callerA [] s1 H :=
      ⟨rfl, ⟨kin, ns_ G.T.g, ⟨mb, ns_ G.T.b, G.T.builtins⟩, mc, ns_ c1, c2⟩, fun b ob e => of_hidT e, Nat.le_of_eq (hidT_size _ _), trivial, (fun b z => nomatch z), hok, .of_eq hg⟩
    refine codeAny_mono ((hF _ kin (ns_ G.T.g)).run callerA [] s1 H ⟨[.ref a], []⟩ [.ref a] [.ref a] _ _ rfl hr e0 (hb s1 (.ref a)) (.cons rfl .nil) (hsp H a ns hlen hbits hO hS)) ?_
    rintro (e | fl) s' z
    · exact (hCX H s1 e s' z).elim
    · cases fl with
      | ret u =>
        obtain ⟨v, H', os, bare, un, ok', rv, rfl⟩ := z
        cases rv
        refine ⟨rfl, OldK.of_keep fun b ob e => ?_, os, bare⟩
        rcases hO b with y | ⟨oz, xs, y⟩
        · exact un.keep b ob e y (fun z => nomatch z) (fun z => nomatch z)
        · have t1 := (hok b _ y).1
          have t2 := (ok' b _ (un.frzs b oz _ y)).1
          cases e.symm.trans t1
          exact t2
      | _ => exact z.elim
  have rv := vals_ints hints
  have bound : (ns.map V.int).length ≤ sizeLine := by rw [List.length_map]; exact Nat.le_trans hlen hn2
  cases hk : K.lookup a with
  | some ob =>
    cases hobj.symm.trans (KX a ob hk)
    exact core (fun _ => none) (fun _ => .inl rfl) (.inr ⟨_, vs.toArray, _, hk, rfl, rfl, rfl, by rw [List.size_toArray, ← rv.length]; exact bound, by simpa using rv⟩) (fun b u z => nomatch z) (fun b u z => nomatch z) (fun ⟨u, z⟩ => nomatch z)
  | none =>
    refine core (fun b => if b = a then some (.frz { cls := .type "list", data := .seq vs.toArray } (.lst (ns.map V.int))) else none) (fun b => ?_) (.inl (.inr ⟨_, if_pos rfl⟩)) (fun b u z => ?_) (fun b u z => ?_) fun _ => hk
    · by_cases e : b = a
      · exact .inr ⟨_, _, if_pos e⟩
      · exact .inl (if_neg e)
    · by_cases e : b = a
      · subst e
        cases (if_pos rfl).symm.trans z
        exact ⟨hobj, bound, vs, _, rv, hobj⟩
      · cases (if_neg e).symm.trans z
    · by_cases e : b = a
      · exact e
      · cases (if_neg e).symm.trans z

section
variable {P : Program} {w : World} {K : PySem.W.Frag} {mg : Str → Option Value} {base : Heap}
def sp_oddOf : Sp := fun vs H Q _ => ∃ (L : Addr) (xs : List Int) (c : Int), vs = [.ref L, .int c] ∧ H L = some (.lst (xs.map V.int)) ∧ xs.length ≤ 20 ∧ (∀ x ∈ xs, In32 x) ∧ ∀ H' v, Same H H' → Odd H' xs.length v → Q v H'
theorem okI_map {xs : List Int} (h : ∀ x ∈ xs, In32 x) : ∀ y ∈ xs.map V.int, OkI y := fun y hy => by
  obtain ⟨x, hx, rfl⟩ := List.mem_map.mp hy
  exact ⟨x, rfl, h x hx⟩
theorem ok__law_odd (T : Top K mg) : FnOk P w K mg base CX0 2 (He.ga K "_law_odd") T.fd__law_odd ["_law_inputs_here", "_law_cell"] sp_oddOf := by
  have G__law_mixed := ok__law_mixed (P := P) (w := w) (base := base) T
  refine T.F__law_odd.ok sc__law_odd (fun vs H Q E h => ?_) (fun cdv A outer s H vs Q E hr h => ?_)
  · obtain ⟨L, xs, c, rfl, _⟩ := h
    rfl
  · obtain ⟨L, xs, c, rfl, eL, lx, x32, q⟩ := h
    refine ⟨_, PSs.nox (pss_cons (ps_set (i := 2) sc__law_odd.nd rfl (Or.inl rfl) (pe_op op_mod (pv 1) pe_int))
        (pss_cons (ps_if (PW.pt (pw_and (pt_cmpR op_lt (pv 2) pe_int (nomark _)) (pw_and1 (pt_cmpR op_gt (pe_callB call_len_seq (by rfl) T.m_len (by decide +kernel) (pa_cons (pv 0) pa_nil)) pe_int (nomark _))))) (pss_cons (ps_set (i := 3) sc__law_odd.nd rfl (Or.inl rfl) (pe_call G__law_mixed (hr.mono (by omega)) (by rfl) T.g__law_mixed T.F__law_mixed.kp T.b__law_mixed .nil pass0 (pa_cons (pv 1) (pa_cons pe_int (pa_cons (pe_callB call_len_seq (by rfl) T.m_len (by decide +kernel) (pa_cons (pv 0) pa_nil)) pa_nil)))))
        (pss_cons (ps_set (i := 4) sc__law_odd.nd rfl (Or.inl rfl) (pe_lst (pa_cons pe_bl (pa_cons pe_str (pa_cons pe_non (pa_cons pe_int (pa_cons (pe_un un_neg pe_int) (pa_cons (pe_tup (pa_cons pe_int pa_nil)) (pa_cons (pe_lst (pa_cons pe_int pa_nil)) (pa_cons pe_bl pa_nil))))))))))
        (pss_one (ps_ret (pe_op op_cat (pe_op op_cat (pe_slice sl_list (pv 0) po_none (po_some (pv 3))) (pe_lst (pa_cons (pe_ix ix_list (pv 4) (pe_call G__law_mixed (hr.mono (by omega)) (by rfl) T.g__law_mixed T.F__law_mixed.kp T.b__law_mixed .nil pass0 (pa_cons (pv 1) (pa_cons pe_int (pa_cons pe_int pa_nil)))) (fun _ _ => rfl)) pa_nil))) (pe_slice sl_list (pv 0) (po_some (pe_op op_add (pv 3) pe_int)) po_none)))))) pss_nil)
        (pss_cons (ps_if (pt_cmpR op_eq (pv 2) pe_int (nomark _)) (pss_one (ps_ret (pe_op op_cat (pv 0) (pe_lst (pa_cons pe_int pa_nil))))) pss_nil)
        (pss_cons (ps_if (PW.pt (pw_and (pt_cmpR op_eq (pv 2) pe_int (nomark _)) (pw_and1 (pt_cmpR op_gt (pe_callB call_len_seq (by rfl) T.m_len (by decide +kernel) (pa_cons (pv 0) pa_nil)) pe_int (nomark _))))) (pss_one (ps_ret (pe_slice sl_list (pv 0) (po_some pe_int) po_none))) pss_nil)
        (pss_one (ps_ret (pe_ix ix_list (pe_lst (pa_cons pe_non (pa_cons pe_str (pa_cons (pe_disp (pps_cons pe_int pe_int pps_nil) (by rfl) (by rfl) (fun z => by cases z) (by decide)) (pa_cons pe_int (pa_cons pe_bl (pa_cons pe_str (pa_cons pe_dnewK pa_nil)))))))) (pe_call G__law_mixed (hr.mono (by omega)) (by rfl) T.g__law_mixed T.F__law_mixed.kp T.b__law_mixed .nil pass0 (pa_cons (pv 1) (pa_cons pe_int (pa_cons pe_int pa_nil)))) (fun _ _ => rfl)))))))), ?_⟩
    have oki := okI_map x32
    have lm : (xs.map V.int).length = xs.length := List.length_map ..
    refine ⟨_, rfl, _, _, rfl, rfl, (by show (0 : Int) < 6; decide), ?_⟩
    dsimp only [gName]
    generalize c % 6 = way
    refine ifs_by (fun σ' H' => Same H H' ∧ σ' = [some (.ref L), some (.int c), some (.int way), none, none]) ?_ ?_
    rotate_left
    · intro N hN
      refine ⟨_, rfl, _, _, rfl, rfl, _, rfl, ite2 (fun _ => ?_) (fun _ => hN _ _ ⟨Same.refl _, rfl⟩)⟩
      refine ⟨_, rfl, L, _, rfl, .inl (.of eL), _, _, rfl, rfl, _, rfl, ite2 (fun g => ?_) (fun _ => hN _ _ ⟨Same.refl _, rfl⟩)⟩
      have l0 : 0 < xs.length := by
        have := of_decide_eq_true g
        rw [lm] at this
        omega
      refine ⟨_, rfl, _, rfl, L, _, rfl, .inl (.of eL), .int c, 1, _, rfl, .inl ⟨_, rfl⟩, by decide, by decide, by rw [lm]; omega, by rw [lm]; omega, fun H1 j k1 _ j0 j1 => ?_⟩
      rw [lm] at j1
      have s1 := kp_int k1
      obtain ⟨j, rfl⟩ := Int.eq_ofNat_of_zero_le j0
      dsimp only [gName, List.set]
      refine ⟨_, rfl, (by show 1 ≤ sizeLine; rw [sizeLine_eq]; decide), fun tp ntp => ⟨(by show 1 ≤ sizeLine; rw [sizeLine_eq]; decide), fun tl ntl => ⟨(by show 8 ≤ sizeLine; rw [sizeLine_eq]; decide), fun S nS => ?_⟩⟩⟩
      have t1 := same_new (o := .tup [V.int 1]) ntp
      have t2 := same_new (o := .lst [V.int 2]) ntl
      have t3 := same_new (o := .lst [V.bl true, .str "1", .non, .int 2147483648, .int (-2147483649), .ref tp, .ref tl, .bl false]) nS
      have eT := (t2.trans t3) _ _ (upd_same (H := H1) (a := tp) (o := .tup [V.int 1]))
      have eT2 := t3 _ _ (upd_same (H := upd H1 tp (.tup [V.int 1])) (a := tl) (o := .lst [V.int 2]))
      have eS := upd_same (H := upd (upd H1 tp (.tup [V.int 1])) tl (.lst [V.int 2])) (a := S) (o := .lst [V.bl true, .str "1", .non, .int 2147483648, .int (-2147483649), .ref tp, .ref tl, .bl false])
      have s2 := s1.trans ((t1.trans t2).trans t3)
      dsimp only [gName, List.set]
      generalize upd (upd (upd H1 tp (.tup [V.int 1])) tl (.lst [V.int 2])) S (.lst [V.bl true, .str "1", .non, .int 2147483648, .int (-2147483649), .ref tp, .ref tl, .bl false]) = H2 at eT eT2 eS s2 ⊢
      have bad : ∀ y ∈ [V.bl true, .str "1", .non, .int 2147483648, .int (-2147483649), .ref tp, .ref tl, .bl false], BadI H2 y := fun y hy => by
        simp only [List.mem_cons, List.not_mem_nil, or_false] at hy
        rcases hy with rfl | rfl | rfl | rfl | rfl | rfl | rfl | rfl
        · exact .inr (.inl ⟨_, rfl⟩)
        · exact .inr (.inr (.inr (.inl ⟨_, rfl⟩)))
        · exact .inr (.inr (.inl rfl))
        · exact .inl ⟨_, rfl, fun z => absurd z.2 (by decide)⟩
        · exact .inl ⟨_, rfl, fun z => absurd z.1 (by decide)⟩
        · exact .inr (.inr (.inr (.inr ⟨_, _, rfl, .inl eT⟩)))
        · exact .inr (.inr (.inr (.inr ⟨_, _, rfl, .inr eT2⟩)))
        · exact .inr (.inl ⟨_, rfl⟩)
      refine ⟨_, rfl, _, rfl, (j : Int), rfl, L, _, rfl, .of (s2 _ _ eL), fun p1 n1 => ?_⟩
      have u1 := same_new (o := .lst (cutV (xs.map V.int) none (some (j : Int)))) n1
      refine ⟨_, rfl, _, rfl, .int c, 2, 8, rfl, .inl ⟨_, rfl⟩, by decide, by decide, by decide, by decide, fun H3 i k3 _ i0 i1 => ?_⟩
      have s3 := kp_int k3
      obtain ⟨y, hy, ey⟩ := at_list (ns := [V.bl true, .str "1", .non, .int 2147483648, .int (-2147483649), .ref tp, .ref tl, .bl false]) i0 i1
      refine ⟨S, _, _, y, rfl, rfl, .of (s3 _ _ (u1 _ _ eS)), ey, (by show 1 ≤ sizeLine; rw [sizeLine_eq]; decide), fun p2 n2 => ?_⟩
      have u2 := same_new (o := .lst [y]) n2
      have lc1 : (cutV (xs.map V.int) none (some (j : Int))).length ≤ xs.length := by rw [← lm]; exact cutV_length _ _ _
      refine ⟨p1, p2, _, _, rfl, rfl, u2 _ _ (s3 _ _ upd_same), upd_same, by rw [sizeLine_eq]; show _ + 1 ≤ _; omega, fun p3 n3 => ?_⟩
      have u3 := same_new (o := .lst (cutV (xs.map V.int) none (some (j : Int)) ++ [y])) n3
      refine ⟨_, rfl, _, rfl, _, _, rfl, rfl, (j : Int) + 1, rfl, L, _, rfl, .of (u3 _ _ (u2 _ _ (s3 _ _ (u1 _ _ (s2 _ _ eL))))), fun p4 n4 => ?_⟩
      have u4 := same_new (o := .lst (cutV (xs.map V.int) (some ((j : Int) + 1)) none)) n4
      have lc2 : (cutV (xs.map V.int) (some ((j : Int) + 1)) none).length ≤ xs.length := by rw [← lm]; exact cutV_length _ _ _
      refine ⟨p3, p4, _, _, rfl, rfl, u4 _ _ upd_same, upd_same, by rw [sizeLine_eq, List.length_append]; show _ + 1 + _ ≤ _; omega, fun p5 n5 => ?_⟩
      have u5 := same_new (o := .lst (cutV (xs.map V.int) none (some (j : Int)) ++ [y] ++ cutV (xs.map V.int) (some ((j : Int) + 1)) none)) n5
      have sAll := (((u1.trans s3).trans u2).trans u3).trans (u4.trans u5)
      have hbad := (bad y hy).sm sAll
      refine q _ _ (s2.trans sAll) (.seq (.inl upd_same) (by rw [List.length_append, List.length_append]; show _ + 1 + _ ≤ _; omega) (fun x hx => ?_) (.inr ⟨y, by simp, hbad⟩))
      rcases List.mem_append.mp hx with hx | hx
      · rcases List.mem_append.mp hx with hx | hx
        · exact .inl (oki x (List.mem_of_mem_drop (List.mem_of_mem_take hx)))
        · rw [List.mem_singleton.mp hx]
          exact .inr hbad
      · exact .inl (oki x (List.mem_of_mem_drop (List.mem_of_mem_take hx)))
    rintro σ' H1 ⟨s1, rfl⟩
    refine ifs_by (fun σ' H' => Same H H' ∧ σ' = [some (.ref L), some (.int c), some (.int way), none, none]) ?_ ?_
    rotate_left
    · intro N hN
      have eL1 := s1 _ _ eL
      refine ⟨_, rfl, rfl, _, rfl, ite2 (fun _ => ?_) (fun _ => hN _ _ ⟨s1, rfl⟩)⟩
      refine ⟨_, rfl, (by show 1 ≤ sizeLine; rw [sizeLine_eq]; decide), fun p np => ?_⟩
      have s2 := same_new (o := .lst [.int 0]) np
      refine ⟨L, p, _, _, rfl, rfl, s2 _ _ eL1, upd_same, by rw [lm, sizeLine_eq]; show _ + 1 ≤ _; omega, fun r nr => ?_⟩
      have s3 := same_new (o := .lst (xs.map V.int ++ [.int 0])) nr
      refine q _ _ ((s1.trans s2).trans s3) (.seq (.inl upd_same) (by rw [List.length_append, lm]; show _ + 1 ≤ _; omega) (fun x hx => ?_) (.inl (by rw [List.length_append, lm]; show xs.length + 1 ≠ _; omega)))
      rcases List.mem_append.mp hx with hx | hx
      · exact .inl (oki x hx)
      · rw [List.mem_singleton.mp hx]
        exact .inl ⟨0, rfl, by decide, by decide⟩
    rintro σ' H2 ⟨s2, rfl⟩
    have eL2 := s2 _ _ eL
    refine ifs_by (fun σ' H' => Same H H' ∧ σ' = [some (.ref L), some (.int c), some (.int way), none, none]) ?_ ?_
    rotate_left
    · intro N hN
      refine ⟨_, rfl, rfl, _, rfl, ite2 (fun _ => ?_) (fun _ => hN _ _ ⟨s2, rfl⟩)⟩
      refine ⟨_, rfl, L, _, rfl, .inl (.of eL2), _, _, rfl, rfl, _, rfl, ite2 (fun g => ?_) (fun _ => hN _ _ ⟨s2, rfl⟩)⟩
      have l0 : 0 < xs.length := by
        have := of_decide_eq_true g
        rw [lm] at this
        omega
      refine ⟨_, rfl, 1, rfl, L, _, rfl, .of eL2, fun r nr => ?_⟩
      have e1 : cutV (xs.map V.int) (some 1) none = (xs.drop 1).map V.int := by
        rw [show (some (1 : Int)) = some ((1 : Nat) : Int) from rfl, cutV_from, List.map_drop]
      rw [e1]
      refine q _ _ (s2.trans (same_new nr)) (.seq (.inl upd_same) (by rw [List.length_map, List.length_drop]; omega) (fun x hx => .inl (okI_map (fun y hy => x32 y (List.mem_of_mem_drop hy)) x hx)) (.inl (by rw [List.length_map, List.length_drop]; omega)))
    rintro σ' H3 ⟨s3, rfl⟩
    intro pd npd
    refine ⟨upd_same, [(.inl 1, .int 2)], rfl, by decide, ?_⟩
    rw [upd_upd]
    have t1 := same_new (o := .dK (mergeK [] [((.inl 1 : Key), V.int 2)])) npd
    have e1 := upd_same (H := H3) (a := pd) (o := .dK (mergeK [] [((.inl 1 : Key), V.int 2)]))
    generalize upd H3 pd (.dK (mergeK [] [((.inl 1 : Key), V.int 2)])) = H4 at t1 e1 ⊢
    intro pe npe
    have t2 := same_new (o := .dK []) npe
    have e2 := upd_same (H := H4) (a := pe) (o := .dK [])
    refine ⟨(by show 7 ≤ sizeLine; rw [sizeLine_eq]; decide), fun S nS => ?_⟩
    have t3 := same_new (o := .lst [V.non, .str "12", .ref pd, .int 7, .bl true, .str "", .ref pe]) nS
    refine ⟨_, rfl, .int c, 3, 7, rfl, .inl ⟨_, rfl⟩, by decide, by decide, by decide, by decide, fun H5 i k5 _ i0 i1 => ?_⟩
    have s5 := kp_int k5
    obtain ⟨y, hy, ey⟩ := at_list (ns := [V.non, .str "12", .ref pd, .int 7, .bl true, .str "", .ref pe]) i0 i1
    have sAll := (s3.trans t1).trans ((t2.trans t3).trans s5)
    refine ⟨S, _, _, y, rfl, rfl, .of (s5 _ _ upd_same), ey, q _ _ sAll ?_⟩
    simp only [List.mem_cons, List.not_mem_nil, or_false] at hy
    rcases hy with rfl | rfl | rfl | rfl | rfl | rfl | rfl
    · exact .non
    · exact .str _
    · exact .dct (((t2.trans t3).trans s5) _ _ e1)
    · exact .int _
    · exact .bl _
    · exact .str _
    · exact .dct ((t3.trans s5) _ _ e2)
end
section
variable {P : Program} {w : World} {K : PySem.W.Frag} {mg : Str → Option Value} {base : Heap}
def sp_class (K : PySem.W.Frag) : Sp := fun vs H Q _ => ∃ a : Addr, vs = [.ref a] ∧ H a = some (TryK.ExK (.ref (He.ga K "NoInputs")) none a) ∧ ∀ H', Same H H' → Q (.str "inputs") H'
theorem ok__law_class (T : Top K mg) : FnOk P w K mg base CX0 1 (He.ga K "_law_class") T.fd__law_class ["_law_e"] (sp_class K) := by
  refine T.F__law_class.ok sc__law_class (fun vs H Q E h => ?_) (fun cdv A outer s H vs Q E hr h => ?_)
  · obtain ⟨a, rfl, _⟩ := h
    rfl
  · obtain ⟨a, rfl, ea, q⟩ := h
    refine ⟨_, PSs.nox (pss_cons (ps_set (i := 1) sc__law_class.nd rfl (Or.inl rfl) (pe_lst (pa_cons (pe_callB (TryK.call_isX T.xi_NoInputs) (by rfl) T.m_isinstance (by decide +kernel) (pa_cons (pv 0) (pa_cons (pe_glob (v := .ref (He.ga K "NoText")) (by rfl) T.g_NoText rfl) pa_nil))) (pa_cons (pe_callB (TryK.call_isX T.xi_NoInputs) (by rfl) T.m_isinstance (by decide +kernel) (pa_cons (pv 0) (pa_cons (pe_glob (v := .ref (He.ga K "NoInputs")) (by rfl) T.g_NoInputs rfl) pa_nil))) (pa_cons (pe_callB (TryK.call_isX T.xi_NoInputs) (by rfl) T.m_isinstance (by decide +kernel) (pa_cons (pv 0) (pa_cons (pe_glob (v := .ref (He.ga K "NoPass")) (by rfl) T.g_NoPass rfl) pa_nil))) (pa_cons (pe_callB (TryK.call_isX T.xi_NoInputs) (by rfl) T.m_isinstance (by decide +kernel) (pa_cons (pv 0) (pa_cons (pe_glob (v := .ref (He.ga K "NoBoxes")) (by rfl) T.g_NoBoxes rfl) pa_nil))) pa_nil))))))
        (pss_cons (ps_if (PW.pt (pw_or (pt_cmpR op_ne (pe_bm PySem.F.plainAttrs_list PySem.F.slot_list_count PySem.F.type_list_count TryK.mt_countF (pv 1) (pa_cons pe_bl pa_nil)) pe_int (nomark _)) (pw_or1 (pt_not (pt_val (pe_callB (TryK.call_isX T.xi_NoInputs) (by rfl) T.m_isinstance (by decide +kernel) (pa_cons (pv 0) (pa_cons (pe_bltn (v := .ty "ValueError") (by rfl) T.m_ValueError (by decide +kernel) rfl) pa_nil)))))))) (pss_one (ps_ret pe_str)) pss_nil)
        (pss_one (ps_ret (pe_ix ix_list (pe_lst (pa_cons pe_str (pa_cons pe_str (pa_cons pe_str (pa_cons pe_str pa_nil))))) (pe_bm PySem.F.plainAttrs_list PySem.F.slot_list_index PySem.F.type_list_index mt_index (pv 1) (pa_cons pe_bl pa_nil)) (fun _ _ => rfl)))))), ?_⟩
    refine ⟨_, rfl, a, _, _, false, rfl, ea, fun u r => r, T.ki_NoInputs_NoText, ?_⟩
    refine ⟨_, rfl, a, _, _, true, rfl, ea, fun u r => r, T.ki_NoInputs_NoInputs, ?_⟩
    refine ⟨_, rfl, a, _, _, false, rfl, ea, fun u r => r, T.ki_NoInputs_NoPass, ?_⟩
    refine ⟨_, rfl, a, _, _, false, rfl, ea, fun u r => r, T.ki_NoInputs_NoBoxes, (by show 4 ≤ sizeLine; rw [sizeLine_eq]; decide), fun L nL => ?_⟩
    have s1 := same_new (o := .lst [V.bl false, .bl true, .bl false, .bl false]) nL
    dsimp only [gName, List.set]
    have eL := upd_same (H := H) (a := L) (o := .lst [V.bl false, .bl true, .bl false, .bl false])
    have cnt : ([V.bl false, .bl true, .bl false, .bl false].countP fun z => eqV z (.bl true)) = 1 := by decide +kernel
    refine ⟨_, rfl, .inl ⟨rfl, _, .of eL⟩, L, _, .bl true, rfl, rfl, .of eL, rfl, rfl, ?_⟩
    rw [cnt]
    refine ⟨rfl, _, rfl, ifNF rfl ?_⟩
    refine ⟨_, rfl, a, _, _, true, rfl, s1 _ _ ea, fun u r => r, T.ki_NoInputs_VE, _, rfl, ifF rfl ?_⟩
    refine ⟨(by show 4 ≤ sizeLine; rw [sizeLine_eq]; decide), fun L2 nL2 => ?_⟩
    have s2 := same_new (o := .lst [V.str "text", .str "inputs", .str "pass", .str "boxes"]) nL2
    refine ⟨_, rfl, .inl ⟨rfl, _, .of (s2 _ _ eL)⟩, L, _, .bl true, 1, .bl true, rfl, rfl, .of (s2 _ _ eL), rfl, rfl, rfl, by decide +kernel, fun m z hm hz => ?_, L2, _, 1, .str "inputs", rfl, rfl, .of upd_same, atI_nat (j := 1) rfl, q _ (s1.trans s2)⟩
    have : m = 0 := by omega
    subst this
    cases hz
    decide +kernel
end
section
variable {P : Program} {w : World} {K : PySem.W.Frag} {mg : Str → Option Value} {base : Heap}
def sp_word (K : PySem.W.Frag) : Sp := fun vs H Q _ => ∃ (v x : V) (ds pd : List PyData), vs = [v, x] ∧ Dp K H v (.tuple ds) ∧ ds[1]? = some (.tuple pd) ∧ Odd H pd.length x ∧ ∀ H', Same H H' → Q (.str "inputs") H'
theorem ok__law_word (T : Top K mg) : FnOk P w K mg base CX0 61 (He.ga K "_law_word") T.fd__law_word ["_law_program_here", "_law_inputs_here"] (sp_word K) := by
  have GX_played := ok_playedX (P := P) (w := w) (base := base) T
  have G__law_class := ok__law_class (P := P) (w := w) (base := base) T
  refine T.F__law_word.ok sc__law_word (fun vs H Q E h => ?_) (fun cdv A outer s H vs Q E hr h => ?_)
  · obtain ⟨v, x, ds, pd, rfl, _⟩ := h
    rfl
  · obtain ⟨v, x, ds, pd, rfl, dp, hd, odd, q⟩ := h
    refine ⟨_, PSs.nox (pss_cons (ps_set (i := 2) sc__law_word.nd rfl (Or.inl rfl) pe_non)
        (pss_cons (TryK.ps_try_nam (Wout := fun _ _ _ _ => False) rfl rfl sc__law_word.nd takes_none5 (fun W pn xe tk _ => (pss_one (ps_expr (pe_callSD GX_played (hr.mono (by omega)) (by rfl) T.g_played T.F_played.kp T.b_played.choose_spec.2 T.b_played.choose_spec.1 (fun σ => passAt tk σ) (pa_cons (pv 0) (pa_cons (pv 1) (pa_cons pe_int pa_nil))))))) (TryK.HdsN.as (i := 3) ⟨rfl, by decide, .inl T.g_WorkError⟩ rfl rfl (fun a oe cls d pn hz hf => (pss_one (ps_set (i := 2) sc__law_word.nd rfl (Or.inl rfl) (pv 3)))) .nil))
        (pss_cons (ps_if (pt_cmpR op_isN (pv 2) pe_non (nomark _)) (pss_one (ps_ret pe_str)) pss_nil)
        (pss_one (ps_ret (pe_call G__law_class (hr.mono (by omega)) (by rfl) T.g__law_class T.F__law_class.kp T.b__law_class .nil pass0 (pa_cons (pv 2) pa_nil))))))), ?_⟩
    dsimp only [gName]
    refine ⟨_, rfl, _, rfl, v, x, 50, ds, pd, rfl, dp, hd, odd, fun H1 s1 => ?_⟩
    refine ⟨true, T.em_NoInputs_WorkError, fun _ ea nea => ?_, fun z => nomatch z⟩
    refine ⟨_, rfl, ?_⟩
    dsimp only [gName, TryK.endsKeep]
    refine ⟨_, rfl, rfl, _, rfl, ifN (fun z => by cases z) ?_⟩
    exact ⟨_, rfl, ea, rfl, upd_same, fun H' s' => q _ ((s1.trans (same_new nea)).trans s')⟩
end

theorem nat_log (n : Int) (h : In32 n) : n.natAbs.log2 < 1920 := by
  obtain ⟨h1, h2⟩ := h
  have := PySem.Flt.log2_lt_of (show 0 < 40 by decide) (show n.natAbs < 2 ^ 40 by omega)
  omega
theorem len_ofString (s : String) : (Str.ofString s).length = s.toList.length := by
  rw [len_list]
  have := TL.tl_ofString s
  rw [show (Str.ofString s).cps.toList = s.toList.map Char.toNat from this, List.length_map]
theorem rw32 {n : Nat} (h : n ≤ 8) : In32 (n : Int) := ⟨by omega, by omega⟩
/-! programs as data: what a repr asks -/
def Okd (n w : Nat) (d : PyData) : Prop := d.showable = true ∧ d.canLay0 = true ∧ d.intsShort 13 = true ∧ d.depth ≤ n ∧ d.weight ≤ w
def OkdL (n w : Nat) (ds : List PyData) : Prop := PyData.showableAll ds = true ∧ PyData.canLayAll0 ds = true ∧ PyData.intsShortAll 13 ds = true ∧ PyData.depthAll ds ≤ n ∧ PyData.weightAll ds ≤ w
theorem Okd.mono {n w n' w' : Nat} {d : PyData} (h : Okd n w d) (hn : n ≤ n') (hw : w ≤ w') : Okd n' w' d := ⟨h.1, h.2.1, h.2.2.1, Nat.le_trans h.2.2.2.1 hn, Nat.le_trans h.2.2.2.2 hw⟩
theorem OkdL.mono {n w n' w' : Nat} {d : List PyData} (h : OkdL n w d) (hn : n ≤ n') (hw : w ≤ w') : OkdL n' w' d := ⟨h.1, h.2.1, h.2.2.1, Nat.le_trans h.2.2.2.1 hn, Nat.le_trans h.2.2.2.2 hw⟩
theorem OkdL.nil {n w : Nat} : OkdL n w [] := ⟨rfl, rfl, rfl, Nat.zero_le _, Nat.zero_le _⟩
theorem OkdL.cons {n w w' : Nat} {d : PyData} {ds : List PyData} (h : Okd n w d) (h' : OkdL n w' ds) : OkdL n (w + 1 + w') (d :: ds) := by
  refine ⟨?_, ?_, ?_, ?_, ?_⟩
  · simp only [PyData.showableAll, h.1, h'.1, Bool.and_self]
  · simp only [PyData.canLayAll0, h.2.1, h'.2.1, Bool.and_self]
  · simp only [PyData.intsShortAll, h.2.2.1, h'.2.2.1, Bool.and_self]
  · simp only [PyData.depthAll]
    exact Nat.max_le.mpr ⟨h.2.2.2.1, h'.2.2.2.1⟩
  · simp only [PyData.weightAll]
    have := h.2.2.2.2
    have := h'.2.2.2.2
    omega
theorem Okd.tup {n w : Nat} {ds : List PyData} (h : OkdL n w ds) : Okd (n + 1) w (.tuple ds) := by
  refine ⟨?_, ?_, ?_, ?_, ?_⟩
  · simp only [PyData.showable]; exact h.1
  · simp only [PyData.canLay0]; exact h.2.1
  · simp only [PyData.intsShort]; exact h.2.2.1
  · simp only [PyData.depth]; have := h.2.2.2.1; omega
  · simp only [PyData.weight]; exact h.2.2.2.2
theorem Okd.kw {n : Nat} {z : Str} (h : PyData.strOk z = true) (l : z.length ≤ 8) : Okd n 8 (.str z) := ⟨by simp only [PyData.showable], by simp only [PyData.canLay0]; exact h, by simp only [PyData.intsShort], by simp only [PyData.depth]; exact Nat.zero_le _, by simp only [PyData.weight]; exact l⟩
theorem Okd.int {n : Nat} {i : Int} (h : In32 i) : Okd n 40 (.int i) := by
  refine ⟨?_, rfl, ?_, Nat.zero_le _, ?_⟩
  · simp only [PyData.showable]
    exact decide_eq_true (nat_log i h)
  · simp only [PyData.intsShort, PyData.shown]
    refine decide_eq_true ?_
    obtain ⟨h1, h2⟩ := h
    have : (Str.ofString (toString i)).length ≤ 13 := by
      rw [len_ofString, String.length_toList]
      exact Nat.le_trans (PySem.int_text_length_le10 (k := 10) (by decide) (by omega)) (by decide)
    exact this
  · simp only [PyData.weight]
    split
    · exact Nat.zero_le _
    · have := PySem.Flt.log2_lt_of (show 0 < 39 by decide) (show i.natAbs < 2 ^ 39 by obtain ⟨h1, h2⟩ := h; omega)
      omega

theorem Okd.nm {n : Nat} {z : Str} (h : IsNm z) : Okd n 8 (.str z) := by
  refine Okd.kw ?_ h.hi
  unfold PyData.strOk
  rw [← Array.all_toList, List.all_eq_true]
  intro c hc
  have := h.let_ c hc
  unfold isLet at this
  exact decide_eq_true (by omega)
structure NCtx (nms rws : List Str) (hds : List (Str × Nat)) : Prop where
  n : ∀ x ∈ nms, IsNm x
  r : ∀ x ∈ rws, IsNm x
  h : ∀ q ∈ hds, IsNm q.1 ∧ q.2 ≤ 4
theorem w7_ok : ∀ x ∈ wds7, PyData.strOk x = true ∧ x.length ≤ 8 := by decide +kernel
theorem Ex.okd {nms rws : List Str} (hn : ∀ x ∈ nms, IsNm x) (hr : ∀ x ∈ rws, IsNm x) : ∀ {d : Nat} {e : Ex}, e.Wf nms rws d → ∃ w, w + 60 ≤ 100 * 2 ^ d ∧ Okd d w e.d
  | 0, _, h => h.elim
  | d + 1, .num n, h => by
    have p : 1 ≤ 2 ^ d := Nat.one_le_two_pow
    refine ⟨_, ?_, (Okd.tup (OkdL.cons (Okd.kw (by decide +kernel) (by decide +kernel)) (OkdL.cons (Okd.int h) (OkdL.nil (w := 0))))).mono (n := 0 + 1) (by omega) (Nat.le_refl _)⟩
    rw [Nat.pow_succ]
    omega
  | d + 1, .nam x, h => by
    have p : 1 ≤ 2 ^ d := Nat.one_le_two_pow
    refine ⟨_, ?_, (Okd.tup (OkdL.cons (Okd.kw (by decide +kernel) (by decide +kernel)) (OkdL.cons (Okd.nm (hn x h)) (OkdL.nil (w := 0))))).mono (n := 0 + 1) (by omega) (Nat.le_refl _)⟩
    rw [Nat.pow_succ]
    omega
  | d + 1, .at_ r e, h => by
    obtain ⟨w, hw, o⟩ := Ex.okd hn hr h.2
    refine ⟨_, ?_, Okd.tup (OkdL.cons (Okd.kw (by decide +kernel) (by decide +kernel)) (OkdL.cons (Okd.nm (hr r h.1)) (OkdL.cons o (OkdL.nil (w := 0)))))⟩
    rw [Nat.pow_succ]
    omega
  | d + 1, .no e, h => by
    obtain ⟨w, hw, o⟩ := Ex.okd hn hr (e := e) h
    refine ⟨_, ?_, Okd.tup (OkdL.cons (Okd.kw (by decide +kernel) (by decide +kernel)) (OkdL.cons o (OkdL.nil (w := 0))))⟩
    rw [Nat.pow_succ]
    omega
  | d + 1, .op wd a b, h => by
    obtain ⟨w, hw, o⟩ := Ex.okd hn hr h.2.1
    obtain ⟨w', hw', o'⟩ := Ex.okd hn hr h.2.2
    have k7 := w7_ok wd h.1
    refine ⟨_, ?_, Okd.tup (OkdL.cons (Okd.kw k7.1 k7.2) (OkdL.cons o (OkdL.cons o' (OkdL.nil (w := 0)))))⟩
    rw [Nat.pow_succ]
    omega
theorem Ex.okd4 {nms rws : List Str} (hn : ∀ x ∈ nms, IsNm x) (hr : ∀ x ∈ rws, IsNm x) {e : Ex} (h : e.Wf nms rws 4) : Okd 4 1540 e.d := by
  obtain ⟨w, hw, o⟩ := Ex.okd hn hr h
  exact o.mono (Nat.le_refl _) (by omega)
theorem exs_okd {nms rws : List Str} (hn : ∀ x ∈ nms, IsNm x) (hr : ∀ x ∈ rws, IsNm x) : ∀ {es : List Ex}, (∀ e ∈ es, e.Wf nms rws 4) → OkdL 4 (1541 * es.length) (es.map Ex.d)
  | [], _ => OkdL.nil
  | e :: r, h => by
    have i := exs_okd hn hr fun x hx => h x (List.mem_cons_of_mem _ hx)
    have j := Ex.okd4 hn hr (h e (List.mem_cons_self ..))
    refine (OkdL.cons j i).mono (Nat.le_refl _) ?_
    rw [List.length_cons]
    omega
mutual
theorem Sm.okd {nms rws : List Str} {hds : List (Str × Nat)} (c : NCtx nms rws hds) : ∀ {s : Sm} {k : Nat}, s.Wf nms rws hds k → Okd (2 * k + 6) (8000 * s.size - 1) s.d
  | .set x e, k, h => by
    simp only [Sm.Wf] at h
    simp only [Sm.d, Sm.size]
    exact (Okd.tup (OkdL.cons (Okd.kw (by decide +kernel) (by decide +kernel)) (OkdL.cons (Okd.nm (c.n x h.1)) (OkdL.cons (Ex.okd4 c.n c.r h.2) (OkdL.nil (w := 0)))))).mono (by omega) (by omega)
  | .put r e f, k, h => by
    simp only [Sm.Wf] at h
    simp only [Sm.d, Sm.size]
    exact (Okd.tup (OkdL.cons (Okd.kw (by decide +kernel) (by decide +kernel)) (OkdL.cons (Okd.nm (c.r r h.1)) (OkdL.cons (Ex.okd4 c.n c.r h.2.1) (OkdL.cons (Ex.okd4 c.n c.r h.2.2) (OkdL.nil (w := 0))))))).mono (by omega) (by omega)
  | .tell e, k, h => by
    simp only [Sm.Wf] at h
    simp only [Sm.d, Sm.size]
    exact (Okd.tup (OkdL.cons (Okd.kw (by decide +kernel) (by decide +kernel)) (OkdL.cons (Ex.okd4 c.n c.r h) (OkdL.nil (w := 0))))).mono (by omega) (by omega)
  | .give e, k, h => by
    simp only [Sm.Wf] at h
    simp only [Sm.d, Sm.size]
    exact (Okd.tup (OkdL.cons (Okd.kw (by decide +kernel) (by decide +kernel)) (OkdL.cons (Ex.okd4 c.n c.r h) (OkdL.nil (w := 0))))).mono (by omega) (by omega)
  | .fail n, k, h => by
    simp only [Sm.Wf] at h
    simp only [Sm.d, Sm.size]
    exact (Okd.tup (n := 0) (OkdL.cons (Okd.kw (by decide +kernel) (by decide +kernel)) (OkdL.cons (Okd.int ⟨by omega, by omega⟩) (OkdL.nil (w := 0))))).mono (by omega) (by omega)
  | .call x hp es, k, h => by
    simp only [Sm.Wf] at h
    simp only [Sm.d, Sm.size]
    have h4 := c.h _ h.2.1
    have l4 : es.length ≤ 4 := h4.2
    exact (Okd.tup (OkdL.cons (Okd.kw (by decide +kernel) (by decide +kernel)) (OkdL.cons (Okd.nm (c.n x h.1)) (OkdL.cons (Okd.nm h4.1) (OkdL.cons (Okd.tup (exs_okd c.n c.r h.2.2)) (OkdL.nil (w := 0))))))).mono (by omega) (by omega)
  | .ite e ys ns, k, h => by
    simp only [Sm.Wf] at h
    simp only [Sm.d, Sm.size]
    have a := Sm.okdL c h.2.2.1
    have b := Sm.okdL c h.2.2.2
    have k0 := h.1
    exact (Okd.tup (n := 2 * k + 5) (OkdL.cons (Okd.kw (by decide +kernel) (by decide +kernel)) (OkdL.cons ((Ex.okd4 c.n c.r h.2.1).mono (by omega) (Nat.le_refl _)) (OkdL.cons ((Okd.tup a).mono (by omega) (Nat.le_refl _)) (OkdL.cons ((Okd.tup b).mono (by omega) (Nat.le_refl _)) (OkdL.nil (w := 0))))))).mono (by omega) (by omega)
  | .loop e b, k, h => by
    simp only [Sm.Wf] at h
    simp only [Sm.d, Sm.size]
    have a := Sm.okdL c h.2.2
    have k0 := h.1
    exact (Okd.tup (n := 2 * k + 5) (OkdL.cons (Okd.kw (by decide +kernel) (by decide +kernel)) (OkdL.cons ((Ex.okd4 c.n c.r h.2.1).mono (by omega) (Nat.le_refl _)) (OkdL.cons ((Okd.tup a).mono (by omega) (Nat.le_refl _)) (OkdL.nil (w := 0)))))).mono (by omega) (by omega)
theorem Sm.okdL {nms rws : List Str} {hds : List (Str × Nat)} (c : NCtx nms rws hds) : ∀ {l : List Sm} {k : Nat}, Sm.Wfs nms rws hds l k → OkdL (2 * k + 6) (8000 * Sm.sizes l) (Sm.ds l)
  | [], _, _ => by simp only [Sm.ds]; exact OkdL.nil
  | s :: r, k, h => by
    simp only [Sm.Wfs] at h
    simp only [Sm.ds, Sm.sizes]
    have a := Sm.okd c h.1
    have b := Sm.okdL c h.2.2
    have p := Sm.size_pos s
    exact (OkdL.cons a b).mono (Nat.le_refl _) (by omega)
end

theorem strs_okd {n : Nat} : ∀ {zs : List Str}, (∀ x ∈ zs, IsNm x) → OkdL n (9 * zs.length) (zs.map PyData.str)
  | [], _ => OkdL.nil
  | z :: r, h => by
    have i := strs_okd (n := n) fun x hx => h x (List.mem_cons_of_mem _ hx)
    refine (OkdL.cons (Okd.nm (h z (List.mem_cons_self ..))) i).mono (Nat.le_refl _) ?_
    rw [List.length_cons]
    omega
theorem all_okd {α : Type} {f : α → PyData} {n w : Nat} : ∀ {l : List α}, (∀ x ∈ l, Okd n w (f x)) → OkdL n ((w + 1) * l.length) (l.map f)
  | [], _ => OkdL.nil
  | z :: r, h => by
    have i := all_okd fun x hx => h x (List.mem_cons_of_mem _ hx)
    refine (OkdL.cons (h z (List.mem_cons_self ..)) i).mono (Nat.le_refl _) ?_
    rw [List.length_cons, Nat.mul_add]
    omega
theorem Pg.Wf.heads {p : Pg} (w : p.Wf) : ∀ q ∈ p.hs.map hdOf, IsNm q.1 ∧ q.2 ≤ 4 := by
  intro q hq
  obtain ⟨h, hh, rfl⟩ := List.mem_map.mp hq
  obtain ⟨i, hi⟩ := List.mem_iff_getElem?.mp hh
  have := w.hok i h hi
  exact ⟨this.nm, this.pl⟩
theorem Pg.Wf.hp {p : Pg} (w : p.Wf) {h : Str × List Str × List Sm} (hh : h ∈ p.hs) : True ∧ Okd 16 64100 (hpD h) := by
  obtain ⟨i, hi⟩ := List.mem_iff_getElem?.mp hh
  have k := w.hok i h hi
  obtain ⟨vs, v1, v2, v3, v4⟩ := k.bd
  have c : NCtx vs [] ((p.hs.take i).map hdOf) := ⟨v1, (fun x hx => nomatch hx), fun q hq => by
    obtain ⟨h', hh', rfl⟩ := List.mem_map.mp hq
    exact w.heads _ (List.mem_map.mpr ⟨h', List.mem_of_mem_take hh', rfl⟩)⟩
  have sz := k.sz
  have pl := k.pl
  refine ⟨trivial, ?_⟩
  have o := Sm.okdL c v4
  unfold hpD
  exact (Okd.tup (OkdL.cons (Okd.nm k.nm) (OkdL.cons ((Okd.tup (strs_okd (n := 14) k.pk)).mono (by omega) (Nat.le_refl _)) (OkdL.cons (Okd.tup o) (OkdL.nil (w := 0)))))).mono (by omega) (by omega)
theorem Pg.Wf.body {p : Pg} (w : p.Wf) : True ∧ OkdL 14 192000 (Sm.ds p.bd) := by
  obtain ⟨vs, v1, v2, v3, v4, v5⟩ := w.bd
  have c : NCtx vs (p.rs.map (·.1)) (p.hs.map hdOf) := ⟨v1, fun x hx => by
    obtain ⟨r, hr, rfl⟩ := List.mem_map.mp hx
    exact (w.rk r hr).1, w.heads⟩
  have sz := w.sz
  exact ⟨trivial, (Sm.okdL c v5).mono (by omega) (by omega)⟩
theorem Pg.Wf.okd {p : Pg} (w : p.Wf) : Okd 18 600000 p.d := by
  have o := w.body.2
  have hl := w.hl
  have pl := w.pl
  have rl := w.rl
  have a := all_okd (f := hpD) (l := p.hs) fun h hh => (w.hp hh).2
  have b := all_okd (f := rwD) (n := 1) (w := 60) (l := p.rs) fun r hr => by
    unfold rwD
    have k := w.rk r hr
    exact (Okd.tup (n := 0) (OkdL.cons (Okd.nm k.1) (OkdL.cons (Okd.int (rw32 k.2.2.1)) (OkdL.nil (w := 0))))).mono (by omega) (by omega)
  unfold Pg.d
  refine (Okd.tup (n := 17) (OkdL.cons (Okd.tup a) (OkdL.cons ((Okd.tup (strs_okd (n := 14) w.pk)).mono (by omega) (Nat.le_refl _)) (OkdL.cons ((Okd.tup b).mono (by omega) (Nat.le_refl _)) (OkdL.cons ((Okd.tup o).mono (by omega) (Nat.le_refl _)) (OkdL.nil (w := 0))))))).mono (by omega) ?_
  have e : (64100 + 1) * p.hs.length ≤ 64101 * 4 := Nat.mul_le_mul_left _ hl
  omega
theorem Okd.shown_len {n : Nat} {d : PyData} (h : Okd n 1000000 d) (hn : n ≤ 64) : d.shown.length ≤ sizeLine := by
  have := PyProof.Rows.shown_le13 (d := d) (by
    unfold PyData.layable0
    rw [h.2.1, decide_eq_true (Nat.le_trans h.2.2.2.1 hn), decide_eq_true (Nat.le_trans h.2.2.2.2 (by decide))]
    rfl) h.2.2.1
  rw [sizeLine_eq]
  omega

/-! a drawn program may be played -/
mutual
theorem Sm.okU {hs : Hs} : ∀ (n : Nat) {rs : List Str} (m : Sm), m.ok hs n rs → m.ok hs (n + 1) rs
  | 0, _, _, h => h.elim
  | _ + 1, _, .set _ _, h => h
  | _ + 1, _, .tell _, h => h
  | _ + 1, _, .give _, h => h
  | _ + 1, _, .put _ _ _, h => h
  | _ + 1, _, .fail _, h => h
  | n + 1, _, .ite e ys zs, h => ⟨h.1, fun m hm => Sm.okU n m (h.2.1 m hm), fun m hm => Sm.okU n m (h.2.2 m hm)⟩
  | n + 1, _, .loop e b, h => ⟨h.1, fun m hm => Sm.okU n m (h.2 m hm)⟩
  | n + 1, _, .call _ _ _, h => by
    obtain ⟨h1, h2, h3, ps, body, h4, h5, h6⟩ := h
    exact ⟨h1, h2, h3, ps, body, h4, h5, fun m hm => Sm.okU n m (h6 m hm)⟩
end
theorem okU_to {hs : Hs} {n k : Nat} {rs : List Str} {m : Sm} (h : m.ok hs n rs) (l : n ≤ k) : m.ok hs k rs := by
  induction l with
  | refl => exact h
  | step _ ih => exact Sm.okU _ m ih
theorem failU : ∀ n : Nat, n < 100 → SeqAt.shaped (.str (failW (n : Int))) = true := by decide +kernel
theorem wfs_mem {nms rws : List Str} {hds : List (Str × Nat)} {k : Nat} : ∀ {bd : List Sm}, Sm.Wfs nms rws hds bd k → ∀ m ∈ bd, m.Wf nms rws hds k
  | [], _, m, hm => nomatch hm
  | s :: r, h, m, hm => by
    simp only [Sm.Wfs] at h
    rcases List.mem_cons.mp hm with rfl | hm
    · exact h.1
    · exact wfs_mem h.2.2 m hm
theorem ex_okW {nms rws : List Str} {e : Ex} (h : e.Wf nms rws 4) : e.ok rws := ⟨Nat.lt_of_lt_of_le (wf_ok h).1 (by decide), (wf_ok h).2⟩
theorem sm_okW {hs : Hs} {nms rws : List Str} {hds : List (Str × Nat)} {B : Nat} (h4 : ∀ q ∈ hds, q.2 ≤ 4) (hh : ∀ h m, (h, m) ∈ hds → ∃ ps body, hs h = some (ps, body) ∧ ps.length = m ∧ ∀ b ∈ body, Sm.ok hs B [] b) : ∀ (k : Nat) (m : Sm), m.Wf nms rws hds k → m.ok hs (B + k + 1) rws
  | k, .set x e, h => by simp only [Sm.Wf] at h; exact ex_okW h.2
  | k, .tell e, h => by simp only [Sm.Wf] at h; exact ex_okW h
  | k, .give e, h => by simp only [Sm.Wf] at h; exact ex_okW h
  | k, .put r e f, h => by simp only [Sm.Wf] at h; exact ⟨h.1, ex_okW h.2.1, ex_okW h.2.2⟩
  | k, .fail n, h => by
    simp only [Sm.Wf] at h
    refine ⟨⟨by omega, by omega⟩, ?_⟩
    obtain ⟨j, rfl⟩ := Int.eq_ofNat_of_zero_le h.1
    exact failU j (by omega)
  | k + 1, .ite e ys zs, h => by
    simp only [Sm.Wf] at h
    exact ⟨ex_okW h.2.1, fun m hm => sm_okW h4 hh k m (wfs_mem h.2.2.1 m hm), fun m hm => sm_okW h4 hh k m (wfs_mem h.2.2.2 m hm)⟩
  | 0, .ite e ys zs, h => by simp only [Sm.Wf] at h; exact absurd h.1 (Nat.lt_irrefl _)
  | k + 1, .loop e b, h => by
    simp only [Sm.Wf] at h
    exact ⟨ex_okW h.2.1, fun m hm => sm_okW h4 hh k m (wfs_mem h.2.2 m hm)⟩
  | 0, .loop e b, h => by simp only [Sm.Wf] at h; exact absurd h.1 (Nat.lt_irrefl _)
  | k, .call x g es, h => by
    simp only [Sm.Wf] at h
    obtain ⟨_, h1, h2⟩ := h
    obtain ⟨ps, body, e1, e2, e3⟩ := hh _ _ h1
    have := h4 _ h1
    exact ⟨trivial, fun e he => ex_okW (h2 e he), by omega, ps, body, e1, e2, fun b hb => okU_to (e3 b hb) (by omega)⟩
theorem hsZ_memU : ∀ {hl : Hl}, (hl.map (·.1)).Nodup → ∀ {q : Str × List Str × List Sm}, q ∈ hl → hsZ hl q.1 = some q.2
  | [], _, _, h => nomatch h
  | p :: r, nd, q, h => by
    rw [List.map_cons, List.nodup_cons] at nd
    unfold hsZ
    rcases List.mem_cons.mp h with rfl | h
    · rw [List.find?_cons_of_pos (by simp)]
      rfl
    · have ne : p.1 ≠ q.1 := fun e => nd.1 (by rw [e]; exact List.mem_map_of_mem (f := (·.1)) h)
      rw [List.find?_cons_of_neg (by simpa using ne)]
      exact hsZ_memU nd.2 h
theorem Pg.Wf.hokU {p : Pg} (w : p.Wf) : ∀ (i : Nat) (h : Str × List Str × List Sm), p.hs[i]? = some h → ∀ b ∈ h.2.2, b.ok (hsZ p.hs) (5 * (i + 1)) []
  | i, h, hi, b, hb => by
    have k := w.hok i h hi
    obtain ⟨vs, v1, v2, v3, v4⟩ := k.bd
    have hd4 : ∀ q ∈ (p.hs.take i).map hdOf, q.2 ≤ 4 := fun q hq => by
      obtain ⟨h', hh', rfl⟩ := List.mem_map.mp hq
      obtain ⟨j, hj⟩ := List.getElem?_of_mem (List.mem_of_mem_take hh')
      exact (w.hok j h' hj).pl
    have key := sm_okW (hs := hsZ p.hs) (nms := vs) (rws := []) (hds := (p.hs.take i).map hdOf) (B := 5 * i) hd4 (fun x m hm => by
      obtain ⟨h', hh', e⟩ := List.mem_map.mp hm
      obtain ⟨j, hj⟩ := List.getElem?_of_mem hh'
      have jl : j < i := by
        have := (List.getElem?_eq_some_iff.mp hj).1
        rw [List.length_take] at this
        omega
      rw [List.getElem?_take_of_lt jl] at hj
      have e1 : h'.1 = x := congrArg Prod.fst e
      have e2 : h'.2.1.length = m := congrArg Prod.snd e
      refine ⟨h'.2.1, h'.2.2, ?_, e2, fun b hb => okU_to (Pg.Wf.hokU w j h' hj b hb) (by omega)⟩
      rw [← e1]
      exact hsZ_memU w.hn (List.mem_of_getElem? hj)) 4 b (wfs_mem v4 b hb)
    exact okU_to key (by omega)
termination_by i => i
theorem Pg.Wf.plOk {p : Pg} (w : p.Wf) {xs : List Int} (x32 : ∀ x ∈ xs, In32 x) (lx : xs.length = p.ps.length) : PlOk 25 p.hs (p.ps.zip xs) p.rs p.bd := by
  obtain ⟨vs, v1, v2, v3, v4, v5⟩ := w.bd
  have hl := w.hl
  have pl := w.pl
  have rl := w.rl
  refine ⟨fun x hx => x32 _ (List.of_mem_zip hx).2, by rw [List.length_zip]; omega, w.hn, by omega, w.rn, fun q hq => by have := (w.rk q hq).2.2.1; omega, by omega, fun m hm => ?_⟩
  have hd4 : ∀ q ∈ p.hs.map hdOf, q.2 ≤ 4 := fun q hq => (w.heads q hq).2
  refine okU_to (sm_okW (hs := hsZ p.hs) (B := 20) hd4 (fun x m hm => ?_) 4 m (wfs_mem v5 m hm)) (by omega)
  obtain ⟨h', hh', e⟩ := List.mem_map.mp hm
  obtain ⟨j, hj⟩ := List.getElem?_of_mem hh'
  have jl := (List.getElem?_eq_some_iff.mp hj).1
  have e1 : h'.1 = x := congrArg Prod.fst e
  have e2 : h'.2.1.length = m := congrArg Prod.snd e
  refine ⟨h'.2.1, h'.2.2, ?_, e2, fun b hb => okU_to (Pg.Wf.hokU w j h' hj b hb) (by omega)⟩
  rw [← e1]
  exact hsZ_memU w.hn hh'
theorem pgd_plD {p : Pg} {xs : List Int} (lx : xs.length = p.ps.length) : p.d = plD p.hs (p.ps.zip xs) p.rs p.bd := by
  have e : (p.ps.zip xs).map (fun x => PyData.str x.1) = p.ps.map PyData.str := by
    have : (p.ps.zip xs).map (fun x => PyData.str x.1) = ((p.ps.zip xs).map Prod.fst).map PyData.str := by rw [List.map_map]; rfl
    rw [this, List.map_fst_zip (by omega)]
  unfold Pg.d plD
  rw [e]
  rfl
theorem Pg.zip2 {p : Pg} {xs : List Int} (lx : xs.length = p.ps.length) : (p.ps.zip xs).map (·.2) = xs := List.map_snd_zip (by omega)

section
variable {P : Program} {w : World} {K : PySem.W.Frag} {mg : Str → Option Value} {base : Heap}
theorem shaped_ints : ∀ xs : List Int, SeqAt.shaped (.list (xs.map PyData.int)) = true := by
  have h1 : ∀ l : List Int, PyData.canLayAll0 (l.map PyData.int) = true := by
    intro l
    induction l with
    | nil => rfl
    | cons x r ih =>
      show PyData.canLayAll0 (PyData.int x :: r.map PyData.int) = true
      unfold PyData.canLayAll0
      rw [ih]
      rfl
  have h2 : ∀ l : List Int, PyData.depthAll (l.map PyData.int) ≤ 1 := by
    intro l
    induction l with
    | nil => decide
    | cons x r ih =>
      show PyData.depthAll (PyData.int x :: r.map PyData.int) ≤ 1
      unfold PyData.depthAll
      have : (PyData.int x).depth ≤ 1 := by unfold PyData.depth; decide
      omega
  intro xs
  unfold SeqAt.shaped
  rw [Bool.and_eq_true]
  refine ⟨?_, decide_eq_true ?_⟩
  · unfold PyData.canLay0
    exact h1 xs
  · have := h2 xs
    unfold PyData.depth
    omega
theorem ne_use {x y : V} {H : Hp} {Q : VK} (e : x = y) (s : scal x y = true) (q : Q (.bl false) H) : rNe x y H Q := by
  subst e
  refine ⟨s, ?_⟩
  rw [decide_eq_true rfl]
  exact q
theorem shaped_kinds : SeqAt.shaped (.list [.str "inputs", .str "inputs"]) = true := by decide +kernel
theorem ok_law (T : Top K mg) : FnG P w K mg base CX0 200 (He.ga K "law") T.fd_law ["_law_script"] (sp_law K) := by
  have G__law_cell_at := ok__law_cell_at (P := P) (w := w) (base := base) T
  have G__law_program := ok__law_program (P := P) (w := w) (base := base) T
  have G__law_inputs := ok__law_inputs (P := P) (w := w) (base := base) T
  have G__law_odd := ok__law_odd (P := P) (w := w) (base := base) T
  have G__law_word := ok__law_word (P := P) (w := w) (base := base) T
  have G_played := ok_played (P := P) (w := w) (base := base) T 25
  have G__law_played := ok__law_played (P := P) (w := w) (base := base) T 25
  have G__law_is_end := ok__law_is_end (P := P) (w := w) (base := base) T 3
  refine FnG.mk' T.F_law sc_law (fun vs H Q E h => ?_) (fun cdv A outer s H vs Q E gd hr h => ?_)
  · obtain ⟨a, ns, rfl, _⟩ := h
    rfl
  · obtain ⟨a, ns, rfl, sc, q⟩ := h
    have hS := sc.2.2
    refine ⟨_, PSs.nox (pss_cons (ps_set (i := 1) sc_law.nd rfl (Or.inl rfl) (pe_call G__law_program (hr.mono (by omega)) (by rfl) T.g__law_program T.F__law_program.kp T.b__law_program .nil pass0 (pa_cons (pv 0) (pa_cons pe_int pa_nil))))
        (pss_cons (ps_set (i := 2) sc_law.nd rfl (Or.inl rfl) (pe_call G__law_inputs (hr.mono (by omega)) (by rfl) T.g__law_inputs T.F__law_inputs.kp T.b__law_inputs .nil pass0 (pa_cons (pv 1) (pa_cons (pv 0) (pa_cons pe_int pa_nil)))))
        (pss_cons (ps_set (i := 3) sc_law.nd rfl (Or.inl rfl) (pe_callB (call_reprD gd hr) (by rfl) T.m_repr (by decide +kernel) (pa_cons (pv 1) pa_nil)))
        (pss_cons (ps_set (i := 4) sc_law.nd rfl (Or.inl rfl) (pe_call G__law_odd (hr.mono (by omega)) (by rfl) T.g__law_odd T.F__law_odd.kp T.b__law_odd .nil pass0 (pa_cons (pv 2) (pa_cons (pe_op op_fdivW (pe_call G__law_cell_at (hr.mono (by omega)) (by rfl) T.g__law_cell_at T.F__law_cell_at.kp T.b__law_cell_at .nil pass0 (pa_cons (pv 0) (pa_cons pe_int pa_nil))) pe_int) pa_nil))))
        (pss_cons (ps_if (PW.pt (pw_and (pt_cmpR op_eq (pe_op op_mod (pe_op op_fdivW (pe_call G__law_cell_at (hr.mono (by omega)) (by rfl) T.g__law_cell_at T.F__law_cell_at.kp T.b__law_cell_at .nil pass0 (pa_cons (pv 0) (pa_cons pe_int pa_nil))) pe_int) pe_int) pe_int (nomark _)) (pw_and1 (pt_val (pe_callB call_isi (by rfl) T.m_isinstance (by decide +kernel) (pa_cons (pv 4) (pa_cons (pe_bltn (v := .ty "list") (by rfl) T.m_list (by decide +kernel) rfl) pa_nil))))))) (pss_one (ps_set (i := 4) sc_law.nd rfl (Or.inl rfl) (pe_callTy call_tuple_of (by rfl) T.m_tuple (by decide +kernel) (pa_cons (pv 4) pa_nil)))) pss_nil)
        (pss_cons (ps_if (pt_cmpR op_gt (pe_op op_mod (pe_call G__law_cell_at (hr.mono (by omega)) (by rfl) T.g__law_cell_at T.F__law_cell_at.kp T.b__law_cell_at .nil pass0 (pa_cons (pv 0) (pa_cons pe_int pa_nil))) pe_int) pe_int (nomark _)) (pss_one (ps_if (pt_cmpR (op_neD hr.units) (pe_lst (pa_cons (pe_call G__law_word (hr.mono (by omega)) (by rfl) T.g__law_word T.F__law_word.kp T.b__law_word .nil pass0 (pa_cons (pv 1) (pa_cons (pv 4) pa_nil))) (pa_cons (pe_call G__law_word (hr.mono (by omega)) (by rfl) T.g__law_word T.F__law_word.kp T.b__law_word .nil pass0 (pa_cons (pv 1) (pa_cons (pv 4) pa_nil))) pa_nil))) (pe_lst (pa_cons pe_str (pa_cons pe_str pa_nil))) (nomark _)) (pss_one (ps_ret pe_bl)) pss_nil)) pss_nil)
        (pss_cons (ps_set (i := 5) sc_law.nd rfl (Or.inl rfl) (pe_slice sl_tupA (pe_call G__law_played (hr.mono (by omega)) (by rfl) T.g__law_played T.F__law_played.kp T.b__law_played .nil pass0 (pa_cons (pv 1) (pa_cons (pv 2) (pa_cons pe_int pa_nil)))) po_none (po_some pe_int)))
        (pss_cons (ps_set (i := 6) sc_law.nd rfl (Or.inl rfl) (pe_callTy call_list_of (by rfl) T.m_list (by decide +kernel) (pa_cons (pv 2) pa_nil)))
        (pss_cons (ps_if (PW.pt (pw_or (pt_not (pt_val (pe_call G__law_is_end (hr.mono (by omega)) (by rfl) T.g__law_is_end T.F__law_is_end.kp T.b__law_is_end .nil pass0 (pa_cons (pe_call G_played (hr.mono (by omega)) (by rfl) T.g_played T.F_played.kp T.b_played.choose_spec.2 T.b_played.choose_spec.1 pass0 (pa_cons (pv 1) (pa_cons (pv 6) (pa_cons pe_int pa_nil)))) (pa_cons (pv 5) pa_nil))))) (pw_or (pt_cmpR (op_neD hr.units) (pv 6) (pv 2) (nomark _)) (pw_or1 (pt_cmpR op_ne (pe_callB (call_reprD gd hr) (by rfl) T.m_repr (by decide +kernel) (pa_cons (pv 1) pa_nil)) (pv 3) (nomark _)))))) (pss_one (ps_ret pe_bl)) pss_nil)
        (pss_one (ps_ret (pe_call G__law_is_end (hr.mono (by omega)) (by rfl) T.g__law_is_end T.F__law_is_end.kp T.b__law_is_end .nil pass0 (pa_cons (pe_call G_played (hr.mono (by omega)) (by rfl) T.g_played T.F_played.kp T.b_played.choose_spec.2 T.b_played.choose_spec.1 pass0 (pa_cons (pv 1) (pa_cons (pe_callTy call_tuple_of (by rfl) T.m_tuple (by decide +kernel) (pa_cons (pv 2) pa_nil)) (pa_cons pe_int pa_nil)))) (pa_cons (pv 5) pa_nil)))))))))))))), ?_⟩
    refine ⟨_, rfl, a, ns, 2, rfl, hS, by decide, by decide, fun H1 r p s1 dp wf => ?_⟩
    have ok := wf.okd
    have pl4 := wf.pl
    refine ⟨_, rfl, _, rfl, r, a, ns, 1, _, _, _, rfl, by decide, s1.seq hS, dp, by rw [List.length_map]; omega, fun H2 Li xs s2 eLi lx x32 => ?_⟩
    rw [List.length_map] at lx
    have s02 := s1.trans s2
    have dp2 := dp_sm s2 dp
    refine ⟨_, rfl, r, _, rfl, dp2, ok.1, ok.2.1, Nat.le_trans ok.2.2.2.1 (by decide), (ok.mono (Nat.le_refl _) (by decide)).shown_len (by decide), ?_⟩
    refine ⟨_, rfl, _, rfl, a, ns, 0, rfl, by decide, s02.seq hS, _, _, rfl, rfl, wide_div (b := 64) (by decide) (by decide) (by decide) (by decide), Li, xs, _, rfl, eLi, by omega, x32, fun H3 x s3 odd => ?_⟩
    dsimp only [gName, List.set]
    rw [lx] at odd
    have s03 := s02.trans s3
    refine ifs_by (fun σ' H' => Same H3 H' ∧ ∃ x', Odd H' p.ps.length x' ∧ σ' = [some (.ref a), some r, some (.ref Li), some (.str p.d.shown), some x', none, none]) ?_ ?_
    rotate_left
    · intro N hN
      have out : ∀ H', Same H3 H' → N [some (.ref a), some r, some (.ref Li), some (.str p.d.shown), some x, none, none] H' := fun H' s' => hN _ _ ⟨s', x, odd.sm s', rfl⟩
      refine ⟨_, rfl, a, ns, 0, rfl, by decide, s03.seq hS, _, _, rfl, rfl, wide_div (b := 64) (by decide) (by decide) (by decide) (by decide), _, _, rfl, rfl, (by show (0 : Int) < 2; decide), rfl, _, rfl, ite2 (fun _ => ?_) (fun _ => out _ (Same.refl _))⟩
      cases odd with
      | non => exact ⟨_, rfl, _, _, _, _, false, rfl, .ty _, .base .non, kit_ty (by decide +kernel), _, rfl, ifF rfl (out _ (Same.refl _))⟩
      | bl b => exact ⟨_, rfl, _, _, _, _, false, rfl, .ty _, .base (.bl b), kit_ty (by decide +kernel), _, rfl, ifF rfl (out _ (Same.refl _))⟩
      | int n => exact ⟨_, rfl, _, _, _, _, false, rfl, .ty _, .base (.int n), kit_ty (by decide +kernel), _, rfl, ifF rfl (out _ (Same.refl _))⟩
      | str z => exact ⟨_, rfl, _, _, _, _, false, rfl, .ty _, .base (.str z), kit_ty (by decide +kernel), _, rfl, ifF rfl (out _ (Same.refl _))⟩
      | dct e => exact ⟨_, rfl, _, _, _, _, false, rfl, .ty _, .base (.dK e), kit_ty (by decide +kernel), _, rfl, ifF rfl (out _ (Same.refl _))⟩
      | @seq pa ys e l al o =>
        rcases e with e | e
        · refine ⟨_, rfl, _, _, _, _, true, rfl, .ty _, .base (.lst e), kit_ty (by decide +kernel), _, rfl, ifT rfl ?_⟩
          refine ⟨_, rfl, pa, _, rfl, .inl ⟨.of e, fun t nt => hN _ _ ⟨same_new nt, _, .seq (.inr upd_same) l (fun y hy => (al y hy).imp id fun z => z.sm (same_new nt)) (o.imp id fun ⟨y, hy, z⟩ => ⟨y, hy, z.sm (same_new nt)⟩), rfl⟩⟩⟩
        · exact ⟨_, rfl, _, _, _, _, false, rfl, .ty _, .base (.tup e), kit_ty (by decide +kernel), _, rfl, ifF rfl (out _ (Same.refl _))⟩
    rintro σ' H4 ⟨s34, x', odd4, rfl⟩
    have s04 := s03.trans s34
    have dp4 := dp_sm (s3.trans s34) dp2
    refine ifs_by (fun σ' H' => Same H4 H' ∧ σ' = [some (.ref a), some r, some (.ref Li), some (.str p.d.shown), some x', none, none]) ?_ ?_
    rotate_left
    · intro N hN
      refine ⟨_, rfl, a, ns, 0, rfl, by decide, s04.seq hS, _, _, rfl, rfl, (by show (0 : Int) < 3; decide), _, _, rfl, rfl, _, rfl, ite2 (fun _ => ?_) (fun _ => hN _ _ ⟨Same.refl _, rfl⟩)⟩
      have lpd : (p.ps.map PyData.str).length = p.ps.length := List.length_map ..
      refine ⟨_, rfl, _, rfl, r, x', _, p.ps.map PyData.str, rfl, dp4, rfl, by rw [lpd]; exact odd4, fun H5 s5 => ⟨_, rfl, _, rfl, r, x', _, p.ps.map PyData.str, rfl, dp_sm s5 dp4, rfl, by rw [lpd]; exact odd4.sm s5, fun H6 s6 => ⟨(by show 2 ≤ sizeLine; rw [sizeLine_eq]; decide), fun l1 n1 => ⟨(by show 2 ≤ sizeLine; rw [sizeLine_eq]; decide), fun l2 n2 => ?_⟩⟩⟩⟩
      have t1 := same_new (o := .lst [V.str "inputs", .str "inputs"]) n1
      have t2 := same_new (o := .lst [V.str "inputs", .str "inputs"]) n2
      refine ⟨.list [.str "inputs", .str "inputs"], .list [.str "inputs", .str "inputs"], .lst (.of (t2 _ _ upd_same)) (.cons (.str _) (.cons (.str _) .nil)), .lst (.of upd_same) (.cons (.str _) (.cons (.str _) .nil)), shaped_kinds, shaped_kinds, _, rfl, ?_⟩
      rw [SeqAt.eqv_refl _ (by decide +kernel)]
      exact ifF rfl (hN _ _ ⟨(s5.trans s6).trans (t1.trans t2), rfl⟩)
    rintro σ' H5 ⟨s45, rfl⟩
    have s05 := s04.trans s45
    have dp5 := dp_sm s45 dp4
    rw [pgd_plD lx] at dp5
    have pk := wf.plOk x32 lx
    have eLi5 : H5 Li = some (.lst (((p.ps.zip xs).map (·.2)).map V.int)) := by
      rw [Pg.zip2 lx]
      exact (s3.trans (s34.trans s45)) _ _ eLi
    obtain ⟨F, rr, s', he, l1, l2, l3⟩ := ends pk 60 (by decide)
    refine st_asg (md_cut2 (md_lplayed (K := K) (H0 := H5) (σ := [some (.ref a), some r, some (.ref Li), some (.str p.d.shown), some x', none, none]) (L := 60) rfl rfl dp5 (.of eLi5) pk md_int (by decide) he) H5 _ (Same.refl _) (fun H6 u6 s6 d6 => ?_))
    dsimp only [List.set]
    have eLi6 := s6 _ _ eLi5
    refine ⟨_, rfl, Li, _, rfl, .inl (.of eLi6), fun Lh nLh => ?_⟩
    have s7 := same_new (o := .lst (((p.ps.zip xs).map (·.2)).map V.int)) nLh
    have eLh := upd_same (H := H6) (a := Lh) (o := .lst (((p.ps.zip xs).map (·.2)).map V.int))
    dsimp only [gName, List.set]
    generalize upd H6 Lh (.lst (((p.ps.zip xs).map (·.2)).map V.int)) = H7 at s7 eLh ⊢
    have d7 := dp_sm s7 d6
    have dp7 := dp_sm (s6.trans s7) dp5
    have s57 := s6.trans s7
    refine st_if (tt_or (tt_not (tt_b (is_end (K := K) (H0 := H7) (σ := [some (.ref a), some r, some (.ref Li), some (.str p.d.shown), some x', some u6, some (.ref Lh)]) (s' := s') (r := rr) (md_playedG (L := 60) rfl dp7 (fun H' Q s' q' => ⟨_, rfl, q' _ _ (Same.refl _) (.inl (.of (s' _ _ eLh)))⟩) pk md_int (by decide) he) (md_var rfl d7) l1 l2 (Same.refl _) (fun H8 s8 => ?_)))))
    refine ⟨_, rfl, ifF rfl ?_⟩
    have s78 := s8
    have shI := shaped_ints ((p.ps.zip xs).map (·.2))
    refine ⟨_, rfl, _, rfl, .list (((p.ps.zip xs).map (·.2)).map PyData.int), .list (((p.ps.zip xs).map (·.2)).map PyData.int), .lst (.of (s8 _ _ eLh)) (ints_dp _), .lst (.of ((s7.trans s8) _ _ eLi6)) (ints_dp _), shI, shI, _, rfl, ?_⟩
    rw [SeqAt.eqv_refl _ (Bool.and_eq_true_iff.mp shI).1]
    refine ifF rfl ?_
    have dp8 := dp_sm (s34.trans (s45.trans (s57.trans s8))) (dp_sm s3 dp2)
    refine ⟨_, rfl, r, _, rfl, dp8, ok.1, ok.2.1, Nat.le_trans ok.2.2.2.1 (by decide), (ok.mono (Nat.le_refl _) (by decide)).shown_len (by decide), ?_⟩
    refine ⟨_, rfl, ne_use rfl rfl ⟨_, rfl, ifF rfl ?_⟩⟩
    refine st_ret (is_end (K := K) (H0 := H8) (σ := [some (.ref a), some r, some (.ref Li), some (.str p.d.shown), some x', some u6, some (.ref Lh)]) (s' := s') (r := rr) (md_playedG (L := 60) rfl (dp_sm s8 dp7) (fun H' Q s' q' => ⟨_, rfl, Li, _, rfl, .inl ⟨.of (s' _ _ ((s7.trans s8) _ _ eLi6)), fun l nl => q' _ _ (same_new nl) (.inr (.of upd_same))⟩⟩) pk md_int (by decide) he) (md_var rfl (dp_sm s8 d7)) l1 l2 (Same.refl _) (fun H9 s9 => q _))
end

def d_wrapped : He.DefD := ⟨("wrapped", none), "wrapped", "wrapped", defArgs s_wrapped, defBody s_wrapped, defScope s_wrapped, [], []⟩
def d_divided : He.DefD := ⟨("divided", none), "divided", "divided", defArgs s_divided, defBody s_divided, defScope s_divided, [], []⟩
def d_reckoned : He.DefD := ⟨("reckoned", none), "reckoned", "reckoned", defArgs s_reckoned, defBody s_reckoned, defScope s_reckoned, [], []⟩
def d_denied : He.DefD := ⟨("denied", none), "denied", "denied", defArgs s_denied, defBody s_denied, defScope s_denied, [], []⟩
def d_Faulted___init__ : He.DefD := ⟨("Faulted", some "__init__"), "__init__", "Faulted.__init__", defArgs s_Faulted___init__, defBody s_Faulted___init__, defScope s_Faulted___init__, [], []⟩
def d_Room___init__ : He.DefD := ⟨("Room", some "__init__"), "__init__", "Room.__init__", defArgs s_Room___init__, defBody s_Room___init__, defScope s_Room___init__, [], []⟩
def d_Room_row_with : He.DefD := ⟨("Room", some "row_with"), "row_with", "Room.row_with", defArgs s_Room_row_with, defBody s_Room_row_with, defScope s_Room_row_with, [], []⟩
def d_Room_worth : He.DefD := ⟨("Room", some "worth"), "worth", "Room.worth", defArgs s_Room_worth, defBody s_Room_worth, defScope s_Room_worth, [], []⟩
def d_Play___init__ : He.DefD := ⟨("Play", some "__init__"), "__init__", "Play.__init__", defArgs s_Play___init__, defBody s_Play___init__, defScope s_Play___init__, [], []⟩
def d_Play_take_turn : He.DefD := ⟨("Play", some "take_turn"), "take_turn", "Play.take_turn", defArgs s_Play_take_turn, defBody s_Play_take_turn, defScope s_Play_take_turn, [], []⟩
def d_Play_play_body : He.DefD := ⟨("Play", some "play_body"), "play_body", "Play.play_body", defArgs s_Play_play_body, defBody s_Play_play_body, defScope s_Play_play_body, [], []⟩
def d_Play_do_all : He.DefD := ⟨("Play", some "do_all"), "do_all", "Play.do_all", defArgs s_Play_do_all, defBody s_Play_do_all, defScope s_Play_do_all, [], []⟩
def d_Play_do_one : He.DefD := ⟨("Play", some "do_one"), "do_one", "Play.do_one", defArgs s_Play_do_one, defBody s_Play_do_one, defScope s_Play_do_one, [], []⟩
def d_Play_again : He.DefD := ⟨("Play", some "again"), "again", "Play.again", defArgs s_Play_again, defBody s_Play_again, defScope s_Play_again, [], []⟩
def d_is_input : He.DefD := ⟨("is_input", none), "is_input", "is_input", defArgs s_is_input, defBody s_is_input, defScope s_is_input, [], []⟩
def d_need_inputs : He.DefD := ⟨("need_inputs", none), "need_inputs", "need_inputs", defArgs s_need_inputs, defBody s_need_inputs, defScope s_need_inputs, [], []⟩
def d_played : He.DefD := ⟨("played", none), "played", "played", defArgs s_played, defBody s_played, defScope s_played, [.int 1000], []⟩
def d__law_cell_at : He.DefD := ⟨("_law_cell_at", none), "_law_cell_at", "_law_cell_at", defArgs s__law_cell_at, defBody s__law_cell_at, defScope s__law_cell_at, [], []⟩
def d__law_whole : He.DefD := ⟨("_law_whole", none), "_law_whole", "_law_whole", defArgs s__law_whole, defBody s__law_whole, defScope s__law_whole, [], []⟩
def d__law_held : He.DefD := ⟨("_law_held", none), "_law_held", "_law_held", defArgs s__law_held, defBody s__law_held, defScope s__law_held, [], []⟩
def d__law_mixed : He.DefD := ⟨("_law_mixed", none), "_law_mixed", "_law_mixed", defArgs s__law_mixed, defBody s__law_mixed, defScope s__law_mixed, [], []⟩
def d__law_kept : He.DefD := ⟨("_law_kept", none), "_law_kept", "_law_kept", defArgs s__law_kept, defBody s__law_kept, defScope s__law_kept, [], []⟩
def d__law_letter : He.DefD := ⟨("_law_letter", none), "_law_letter", "_law_letter", defArgs s__law_letter, defBody s__law_letter, defScope s__law_letter, [], []⟩
def d__law_names : He.DefD := ⟨("_law_names", none), "_law_names", "_law_names", defArgs s__law_names, defBody s__law_names, defScope s__law_names, [], []⟩
def d__law_number_by : He.DefD := ⟨("_law_number_by", none), "_law_number_by", "_law_number_by", defArgs s__law_number_by, defBody s__law_number_by, defScope s__law_number_by, [], []⟩
def d__law_within : He.DefD := ⟨("_law_within", none), "_law_within", "_law_within", defArgs s__law_within, defBody s__law_within, defScope s__law_within, [], []⟩
def d__law_expression : He.DefD := ⟨("_law_expression", none), "_law_expression", "_law_expression", defArgs s__law_expression, defBody s__law_expression, defScope s__law_expression, [], []⟩
def d__law_expressions : He.DefD := ⟨("_law_expressions", none), "_law_expressions", "_law_expressions", defArgs s__law_expressions, defBody s__law_expressions, defScope s__law_expressions, [], []⟩
def d__law_plain : He.DefD := ⟨("_law_plain", none), "_law_plain", "_law_plain", defArgs s__law_plain, defBody s__law_plain, defScope s__law_plain, [], []⟩
def d__law_nest : He.DefD := ⟨("_law_nest", none), "_law_nest", "_law_nest", defArgs s__law_nest, defBody s__law_nest, defScope s__law_nest, [], []⟩
def d__law_body : He.DefD := ⟨("_law_body", none), "_law_body", "_law_body", defArgs s__law_body, defBody s__law_body, defScope s__law_body, [], []⟩
def d__law_inner_cell : He.DefD := ⟨("_law_inner_cell", none), "_law_inner_cell", "_law_inner_cell", defArgs s__law_inner_cell, defBody s__law_inner_cell, defScope s__law_inner_cell, [], []⟩
def d__law_program : He.DefD := ⟨("_law_program", none), "_law_program", "_law_program", defArgs s__law_program, defBody s__law_program, defScope s__law_program, [], []⟩
def d__law_alike : He.DefD := ⟨("_law_alike", none), "_law_alike", "_law_alike", defArgs s__law_alike, defBody s__law_alike, defScope s__law_alike, [], []⟩
def d__law_worth : He.DefD := ⟨("_law_worth", none), "_law_worth", "_law_worth", defArgs s__law_worth, defBody s__law_worth, defScope s__law_worth, [], []⟩
def d__law_done : He.DefD := ⟨("_law_done", none), "_law_done", "_law_done", defArgs s__law_done, defBody s__law_done, defScope s__law_done, [], []⟩
def d__law_again : He.DefD := ⟨("_law_again", none), "_law_again", "_law_again", defArgs s__law_again, defBody s__law_again, defScope s__law_again, [], []⟩
def d__law_one : He.DefD := ⟨("_law_one", none), "_law_one", "_law_one", defArgs s__law_one, defBody s__law_one, defScope s__law_one, [], []⟩
def d__law_called : He.DefD := ⟨("_law_called", none), "_law_called", "_law_called", defArgs s__law_called, defBody s__law_called, defScope s__law_called, [], []⟩
def d__law_played : He.DefD := ⟨("_law_played", none), "_law_played", "_law_played", defArgs s__law_played, defBody s__law_played, defScope s__law_played, [], []⟩
def d__law_is_end : He.DefD := ⟨("_law_is_end", none), "_law_is_end", "_law_is_end", defArgs s__law_is_end, defBody s__law_is_end, defScope s__law_is_end, [], []⟩
def d__law_inputs_by : He.DefD := ⟨("_law_inputs_by", none), "_law_inputs_by", "_law_inputs_by", defArgs s__law_inputs_by, defBody s__law_inputs_by, defScope s__law_inputs_by, [], []⟩
def d__law_inputs : He.DefD := ⟨("_law_inputs", none), "_law_inputs", "_law_inputs", defArgs s__law_inputs, defBody s__law_inputs, defScope s__law_inputs, [], []⟩
def d__law_class : He.DefD := ⟨("_law_class", none), "_law_class", "_law_class", defArgs s__law_class, defBody s__law_class, defScope s__law_class, [], []⟩
def d__law_word : He.DefD := ⟨("_law_word", none), "_law_word", "_law_word", defArgs s__law_word, defBody s__law_word, defScope s__law_word, [], []⟩
def d__law_odd : He.DefD := ⟨("_law_odd", none), "_law_odd", "_law_odd", defArgs s__law_odd, defBody s__law_odd, defScope s__law_odd, [], []⟩
def d_law : He.DefD := ⟨("law", none), "law", "law", defArgs s_law, defBody s_law, defScope s_law, [], []⟩
def fn0 : List He.DefD := [d_wrapped, d_divided, d_reckoned, d_denied, d_Faulted___init__, d_Room___init__, d_Room_row_with, d_Room_worth, d_Play___init__, d_Play_take_turn, d_Play_play_body, d_Play_do_all, d_Play_do_one, d_Play_again, d_is_input, d_need_inputs, d_played, d__law_cell_at, d__law_whole, d__law_held, d__law_mixed, d__law_kept, d__law_letter, d__law_names, d__law_number_by, d__law_within, d__law_expression, d__law_expressions, d__law_plain, d__law_nest]
def fn1 : List He.DefD := [d__law_body, d__law_inner_cell, d__law_program, d__law_alike, d__law_worth, d__law_done, d__law_again, d__law_one, d__law_called, d__law_played, d__law_is_end, d__law_inputs_by, d__law_inputs, d__law_class, d__law_word, d__law_odd, d_law]
def fn : List He.DefD := fn0 ++ fn1
def fa0 : List He.Fa := [.glo "wrapped", .glo "divided", .glo "reckoned", .glo "denied", .meth "Room" "__init__", .meth "Room" "row_with", .meth "Room" "worth", .meth "Play" "__init__", .meth "Play" "take_turn", .meth "Play" "play_body", .meth "Play" "do_all", .meth "Play" "do_one", .meth "Play" "again", .glo "is_input", .glo "need_inputs", .glo "played", .glo "_law_cell_at", .glo "_law_whole", .glo "_law_held", .glo "_law_mixed", .glo "_law_kept", .glo "_law_letter", .glo "_law_names", .glo "_law_number_by", .glo "_law_within", .glo "_law_expression", .glo "_law_expressions", .glo "_law_plain", .glo "_law_nest", .glo "_law_body"]
def fa1 : List He.Fa := [.glo "_law_inner_cell", .glo "_law_program", .glo "_law_alike", .glo "_law_worth", .glo "_law_done", .glo "_law_again", .glo "_law_one", .glo "_law_called", .glo "_law_played", .glo "_law_is_end", .glo "_law_inputs_by", .glo "_law_inputs", .glo "_law_class", .glo "_law_word", .glo "_law_odd", .glo "law", .glo "WorkError", .exc "WorkError", .glo "NoText", .glo "NoInputs", .exc "NoInputs", .glo "NoPass", .exc "NoPass", .glo "NoBoxes", .exc "NoBoxes", .glo "Faulted", .glo "Unended", .exc "Unended", .glo "Room", .cls "Room"]
def fa2 : List He.Fa := [.noat "Room" "known", .noat "Room" "rows", .mkr "Room", .glo "Play", .cls "Play", .noat "Play" "helpers", .noat "Play" "left", .noat "Play" "told", .mkr "Play", .exm "Unended" "Unended" true, .exm "Unended" "Faulted" false, .exm "Faulted" "Faulted" true, .exm "NoInputs" "WorkError" true, .free "ValueError", .free "all", .free "bool", .free "dict", .free "divmod", .free "int", .free "isinstance", .free "len", .free "list", .free "max", .free "min", .free "range", .free "repr", .free "str", .free "tuple", .free "zip", .int "HALF" (2147483648)]
def fa3 : List He.Fa := [.int "ROUND" (4294967296)]
def fa : List He.Fa := fa0 ++ fa1 ++ fa2 ++ fa3
def exB (K : PySem.W.Frag) : Bool := weB K (He.ga K "WorkError") && (oexB K (He.ga K "Faulted") && (oinB K (He.ga K "Faulted") (He.ma K (He.ga K "Faulted") "__init__") && (xfB K (He.ga K "Faulted") && (nofB K (He.ga K "Faulted") "word" && (TryK.eicB K (He.ga K "NoInputs") && (decide (PySem.W.kitOne K (.ref (He.ga K "NoInputs")) (.ref (He.ga K "NoText")) = some false) && (decide (PySem.W.kitOne K (.ref (He.ga K "NoInputs")) (.ref (He.ga K "NoInputs")) = some true) && (decide (PySem.W.kitOne K (.ref (He.ga K "NoInputs")) (.ref (He.ga K "NoPass")) = some false) && (decide (PySem.W.kitOne K (.ref (He.ga K "NoInputs")) (.ref (He.ga K "NoBoxes")) = some false) && (decide (PySem.W.kitOne K (.ref (He.ga K "NoInputs")) (.type "ValueError") = some true)))))))))))
abbrev hk : PySem.W.Hook := hookE 4 fa fn exB
def ob (s : PySem.W.SharedT) : He.AlD × Bool := obsE 4 fa fn exB (HandSHeadRun.getT s)
theorem ob_eq (s : PySem.W.SharedT) : ob s = hk.obs s.abs := obsE_eq (HandSHeadRun.getT_eq s)
abbrev R : PySem.W.OpenRow := PySem.W.OpenLaw.row PySem.Challenge.rw_passworks_k14_inputs
def lo0 : List PySem.Str := ["WorkError", "NoText", "NoInputs", "NoPass", "NoBoxes", "HALF", "ROUND", "wrapped", "divided", "reckoned", "denied", "Faulted", "Unended", "Room", "Play", "is_input", "need_inputs", "played", "_law_cell_at", "_law_whole", "_law_held", "_law_mixed", "_law_kept", "_law_letter", "_law_names", "_law_number_by", "_law_within", "_law_expression", "_law_expressions", "_law_plain"]
def lo1 : List PySem.Str := ["_law_nest", "_law_body", "_law_inner_cell", "_law_program", "_law_alike", "_law_worth", "_law_done", "_law_again", "_law_one", "_law_called", "_law_played", "_law_is_end", "_law_inputs_by", "_law_inputs", "_law_class", "_law_word", "_law_odd"]
def lo : List PySem.Str := lo0 ++ lo1
theorem run (w : World) : HandSHeadRun.RunEq R (PySem.W.view R.prog [51]) hk ob 4000 lo w := by
  intro os
  kernel_rfl
theorem top_of {K : PySem.W.Frag} {h : Heap} {mg : Str → Option Value} (X : K.In h) (G : h.Ns mainGlobals mg) (c : SaysE fa fn exB K) : Nonempty (Top K mg) := by
  obtain ⟨fd0, F0⟩ := c.1.def_ 0 (d := d_wrapped) rfl
  obtain ⟨fd1, F1⟩ := c.1.def_ 1 (d := d_divided) rfl
  obtain ⟨fd2, F2⟩ := c.1.def_ 2 (d := d_reckoned) rfl
  obtain ⟨fd3, F3⟩ := c.1.def_ 3 (d := d_denied) rfl
  obtain ⟨fd4, F4⟩ := c.1.def_ 4 (d := d_Faulted___init__) rfl
  obtain ⟨fd5, F5⟩ := c.1.def_ 5 (d := d_Room___init__) rfl
  obtain ⟨fd6, F6⟩ := c.1.def_ 6 (d := d_Room_row_with) rfl
  obtain ⟨fd7, F7⟩ := c.1.def_ 7 (d := d_Room_worth) rfl
  obtain ⟨fd8, F8⟩ := c.1.def_ 8 (d := d_Play___init__) rfl
  obtain ⟨fd9, F9⟩ := c.1.def_ 9 (d := d_Play_take_turn) rfl
  obtain ⟨fd10, F10⟩ := c.1.def_ 10 (d := d_Play_play_body) rfl
  obtain ⟨fd11, F11⟩ := c.1.def_ 11 (d := d_Play_do_all) rfl
  obtain ⟨fd12, F12⟩ := c.1.def_ 12 (d := d_Play_do_one) rfl
  obtain ⟨fd13, F13⟩ := c.1.def_ 13 (d := d_Play_again) rfl
  obtain ⟨fd14, F14⟩ := c.1.def_ 14 (d := d_is_input) rfl
  obtain ⟨fd15, F15⟩ := c.1.def_ 15 (d := d_need_inputs) rfl
  obtain ⟨fd16, F16⟩ := c.1.def_ 16 (d := d_played) rfl
  obtain ⟨fd17, F17⟩ := c.1.def_ 17 (d := d__law_cell_at) rfl
  obtain ⟨fd18, F18⟩ := c.1.def_ 18 (d := d__law_whole) rfl
  obtain ⟨fd19, F19⟩ := c.1.def_ 19 (d := d__law_held) rfl
  obtain ⟨fd20, F20⟩ := c.1.def_ 20 (d := d__law_mixed) rfl
  obtain ⟨fd21, F21⟩ := c.1.def_ 21 (d := d__law_kept) rfl
  obtain ⟨fd22, F22⟩ := c.1.def_ 22 (d := d__law_letter) rfl
  obtain ⟨fd23, F23⟩ := c.1.def_ 23 (d := d__law_names) rfl
  obtain ⟨fd24, F24⟩ := c.1.def_ 24 (d := d__law_number_by) rfl
  obtain ⟨fd25, F25⟩ := c.1.def_ 25 (d := d__law_within) rfl
  obtain ⟨fd26, F26⟩ := c.1.def_ 26 (d := d__law_expression) rfl
  obtain ⟨fd27, F27⟩ := c.1.def_ 27 (d := d__law_expressions) rfl
  obtain ⟨fd28, F28⟩ := c.1.def_ 28 (d := d__law_plain) rfl
  obtain ⟨fd29, F29⟩ := c.1.def_ 29 (d := d__law_nest) rfl
  obtain ⟨fd30, F30⟩ := c.1.def_ 30 (d := d__law_body) rfl
  obtain ⟨fd31, F31⟩ := c.1.def_ 31 (d := d__law_inner_cell) rfl
  obtain ⟨fd32, F32⟩ := c.1.def_ 32 (d := d__law_program) rfl
  obtain ⟨fd33, F33⟩ := c.1.def_ 33 (d := d__law_alike) rfl
  obtain ⟨fd34, F34⟩ := c.1.def_ 34 (d := d__law_worth) rfl
  obtain ⟨fd35, F35⟩ := c.1.def_ 35 (d := d__law_done) rfl
  obtain ⟨fd36, F36⟩ := c.1.def_ 36 (d := d__law_again) rfl
  obtain ⟨fd37, F37⟩ := c.1.def_ 37 (d := d__law_one) rfl
  obtain ⟨fd38, F38⟩ := c.1.def_ 38 (d := d__law_called) rfl
  obtain ⟨fd39, F39⟩ := c.1.def_ 39 (d := d__law_played) rfl
  obtain ⟨fd40, F40⟩ := c.1.def_ 40 (d := d__law_is_end) rfl
  obtain ⟨fd41, F41⟩ := c.1.def_ 41 (d := d__law_inputs_by) rfl
  obtain ⟨fd42, F42⟩ := c.1.def_ 42 (d := d__law_inputs) rfl
  obtain ⟨fd43, F43⟩ := c.1.def_ 43 (d := d__law_class) rfl
  obtain ⟨fd44, F44⟩ := c.1.def_ 44 (d := d__law_word) rfl
  obtain ⟨fd45, F45⟩ := c.1.def_ 45 (d := d__law_odd) rfl
  obtain ⟨fd46, F46⟩ := c.1.def_ 46 (d := d_law) rfl
  obtain ⟨tk_HALF, ck_HALF⟩ := He.int_ok X G (c.1.fact 89 (f := .int "HALF" (2147483648)) rfl)
  obtain ⟨tk_ROUND, ck_ROUND⟩ := He.int_ok X G (c.1.fact 90 (f := .int "ROUND" (4294967296)) rfl)
  have hx := c.2
  obtain ⟨hx0, hy0⟩ := He.ba (show (weB K (He.ga K "WorkError") && _) = true from hx)
  obtain ⟨hx1, hy1⟩ := He.ba (show (oexB K (He.ga K "Faulted") && _) = true from hy0)
  obtain ⟨hx2, hy2⟩ := He.ba (show (oinB K (He.ga K "Faulted") (He.ma K (He.ga K "Faulted") "__init__") && _) = true from hy1)
  obtain ⟨hx3, hy3⟩ := He.ba (show (xfB K (He.ga K "Faulted") && _) = true from hy2)
  obtain ⟨hx4, hy4⟩ := He.ba (show (nofB K (He.ga K "Faulted") "word" && _) = true from hy3)
  obtain ⟨hx5, hy5⟩ := He.ba (show (TryK.eicB K (He.ga K "NoInputs") && _) = true from hy4)
  obtain ⟨hx6, hy6⟩ := He.ba (show (decide (PySem.W.kitOne K (.ref (He.ga K "NoInputs")) (.ref (He.ga K "NoText")) = some false) && _) = true from hy5)
  obtain ⟨hx7, hy7⟩ := He.ba (show (decide (PySem.W.kitOne K (.ref (He.ga K "NoInputs")) (.ref (He.ga K "NoInputs")) = some true) && _) = true from hy6)
  obtain ⟨hx8, hy8⟩ := He.ba (show (decide (PySem.W.kitOne K (.ref (He.ga K "NoInputs")) (.ref (He.ga K "NoPass")) = some false) && _) = true from hy7)
  obtain ⟨hx9, hy9⟩ := He.ba (show (decide (PySem.W.kitOne K (.ref (He.ga K "NoInputs")) (.ref (He.ga K "NoBoxes")) = some false) && _) = true from hy8)
  have hx10 : (decide (PySem.W.kitOne K (.ref (He.ga K "NoInputs")) (.type "ValueError") = some true)) = true := hy9
  exact ⟨{ fd_wrapped := fd0, F_wrapped := F0, b_wrapped := FunD.bindsN F0 fun _ _ _ _ _ _ us hl => (match us, hl with | [_], _ => rfl), g_wrapped := He.glo_ok X G (c.1.fact 0 (f := .glo "wrapped") rfl), fd_divided := fd1, F_divided := F1, b_divided := FunD.bindsN F1 fun _ _ _ _ _ _ us hl => (match us, hl with | [_, _, _], _ => rfl), g_divided := He.glo_ok X G (c.1.fact 1 (f := .glo "divided") rfl), fd_reckoned := fd2, F_reckoned := F2, b_reckoned := FunD.bindsN F2 fun _ _ _ _ _ _ us hl => (match us, hl with | [_, _, _], _ => rfl), g_reckoned := He.glo_ok X G (c.1.fact 2 (f := .glo "reckoned") rfl), fd_denied := fd3, F_denied := F3, b_denied := FunD.bindsN F3 fun _ _ _ _ _ _ us hl => (match us, hl with | [_], _ => rfl), g_denied := He.glo_ok X G (c.1.fact 3 (f := .glo "denied") rfl), fd_Faulted___init__ := fd4, F_Faulted___init__ := F4, b_Faulted___init__ := FunD.bindsN F4 fun _ _ _ _ _ _ us hl => (match us, hl with | [_, _], _ => rfl), fd_Room___init__ := fd5, F_Room___init__ := F5, b_Room___init__ := FunD.bindsN F5 fun _ _ _ _ _ _ us hl => (match us, hl with | [_, _, _, _], _ => rfl), me_Room___init__ := He.meth_ok (c.1.fact 4 (f := .meth "Room" "__init__") rfl), fd_Room_row_with := fd6, F_Room_row_with := F6, b_Room_row_with := FunD.bindsN F6 fun _ _ _ _ _ _ us hl => (match us, hl with | [_, _, _], _ => rfl), me_Room_row_with := He.meth_ok (c.1.fact 5 (f := .meth "Room" "row_with") rfl), fd_Room_worth := fd7, F_Room_worth := F7, b_Room_worth := FunD.bindsN F7 fun _ _ _ _ _ _ us hl => (match us, hl with | [_, _], _ => rfl), me_Room_worth := He.meth_ok (c.1.fact 6 (f := .meth "Room" "worth") rfl), fd_Play___init__ := fd8, F_Play___init__ := F8, b_Play___init__ := FunD.bindsN F8 fun _ _ _ _ _ _ us hl => (match us, hl with | [_, _, _], _ => rfl), me_Play___init__ := He.meth_ok (c.1.fact 7 (f := .meth "Play" "__init__") rfl), fd_Play_take_turn := fd9, F_Play_take_turn := F9, b_Play_take_turn := FunD.bindsN F9 fun _ _ _ _ _ _ us hl => (match us, hl with | [_], _ => rfl), me_Play_take_turn := He.meth_ok (c.1.fact 8 (f := .meth "Play" "take_turn") rfl), fd_Play_play_body := fd10, F_Play_play_body := F10, b_Play_play_body := FunD.bindsN F10 fun _ _ _ _ _ _ us hl => (match us, hl with | [_, _, _], _ => rfl), me_Play_play_body := He.meth_ok (c.1.fact 9 (f := .meth "Play" "play_body") rfl), fd_Play_do_all := fd11, F_Play_do_all := F11, b_Play_do_all := FunD.bindsN F11 fun _ _ _ _ _ _ us hl => (match us, hl with | [_, _, _], _ => rfl), me_Play_do_all := He.meth_ok (c.1.fact 10 (f := .meth "Play" "do_all") rfl), fd_Play_do_one := fd12, F_Play_do_one := F12, b_Play_do_one := FunD.bindsN F12 fun _ _ _ _ _ _ us hl => (match us, hl with | [_, _, _], _ => rfl), me_Play_do_one := He.meth_ok (c.1.fact 11 (f := .meth "Play" "do_one") rfl), fd_Play_again := fd13, F_Play_again := F13, b_Play_again := FunD.bindsN F13 fun _ _ _ _ _ _ us hl => (match us, hl with | [_, _, _], _ => rfl), me_Play_again := He.meth_ok (c.1.fact 12 (f := .meth "Play" "again") rfl), fd_is_input := fd14, F_is_input := F14, b_is_input := FunD.bindsN F14 fun _ _ _ _ _ _ us hl => (match us, hl with | [_], _ => rfl), g_is_input := He.glo_ok X G (c.1.fact 13 (f := .glo "is_input") rfl), fd_need_inputs := fd15, F_need_inputs := F15, b_need_inputs := FunD.bindsN F15 fun _ _ _ _ _ _ us hl => (match us, hl with | [_, _], _ => rfl), g_need_inputs := He.glo_ok X G (c.1.fact 14 (f := .glo "need_inputs") rfl), fd_played := fd16, F_played := F16, b2_played := FunD.binds1 F16 2 0 (by simp [He.DefD.dvs, d_played]) rfl fun _ _ _ _ _ _ _ us its hu hi => (match us, hu, its, hi with | [_, _], _, [_], _ => ⟨_, rfl, rfl⟩), b_played := FunD.binds1 F16 3 1 (by simp [He.DefD.dvs, d_played]) rfl fun _ _ _ _ _ _ _ us its hu hi => (match us, hu, its, hi with | [_, _, _], _, [_], _ => ⟨_, rfl, rfl⟩), g_played := He.glo_ok X G (c.1.fact 15 (f := .glo "played") rfl), fd__law_cell_at := fd17, F__law_cell_at := F17, b__law_cell_at := FunD.bindsN F17 fun _ _ _ _ _ _ us hl => (match us, hl with | [_, _], _ => rfl), g__law_cell_at := He.glo_ok X G (c.1.fact 16 (f := .glo "_law_cell_at") rfl), fd__law_whole := fd18, F__law_whole := F18, b__law_whole := FunD.bindsN F18 fun _ _ _ _ _ _ us hl => (match us, hl with | [_], _ => rfl), g__law_whole := He.glo_ok X G (c.1.fact 17 (f := .glo "_law_whole") rfl), fd__law_held := fd19, F__law_held := F19, b__law_held := FunD.bindsN F19 fun _ _ _ _ _ _ us hl => (match us, hl with | [_], _ => rfl), g__law_held := He.glo_ok X G (c.1.fact 18 (f := .glo "_law_held") rfl), fd__law_mixed := fd20, F__law_mixed := F20, b__law_mixed := FunD.bindsN F20 fun _ _ _ _ _ _ us hl => (match us, hl with | [_, _, _], _ => rfl), g__law_mixed := He.glo_ok X G (c.1.fact 19 (f := .glo "_law_mixed") rfl), fd__law_kept := fd21, F__law_kept := F21, b__law_kept := FunD.bindsN F21 fun _ _ _ _ _ _ us hl => (match us, hl with | [], _ => rfl), g__law_kept := He.glo_ok X G (c.1.fact 20 (f := .glo "_law_kept") rfl), fd__law_letter := fd22, F__law_letter := F22, b__law_letter := FunD.bindsN F22 fun _ _ _ _ _ _ us hl => (match us, hl with | [_], _ => rfl), g__law_letter := He.glo_ok X G (c.1.fact 21 (f := .glo "_law_letter") rfl), fd__law_names := fd23, F__law_names := F23, b__law_names := FunD.bindsN F23 fun _ _ _ _ _ _ us hl => (match us, hl with | [_], _ => rfl), g__law_names := He.glo_ok X G (c.1.fact 22 (f := .glo "_law_names") rfl), fd__law_number_by := fd24, F__law_number_by := F24, b__law_number_by := FunD.bindsN F24 fun _ _ _ _ _ _ us hl => (match us, hl with | [_, _], _ => rfl), g__law_number_by := He.glo_ok X G (c.1.fact 23 (f := .glo "_law_number_by") rfl), fd__law_within := fd25, F__law_within := F25, b__law_within := FunD.bindsN F25 fun _ _ _ _ _ _ us hl => (match us, hl with | [_, _], _ => rfl), g__law_within := He.glo_ok X G (c.1.fact 24 (f := .glo "_law_within") rfl), fd__law_expression := fd26, F__law_expression := F26, b__law_expression := FunD.bindsN F26 fun _ _ _ _ _ _ us hl => (match us, hl with | [_, _, _], _ => rfl), g__law_expression := He.glo_ok X G (c.1.fact 25 (f := .glo "_law_expression") rfl), fd__law_expressions := fd27, F__law_expressions := F27, b__law_expressions := FunD.bindsN F27 fun _ _ _ _ _ _ us hl => (match us, hl with | [_, _, _], _ => rfl), g__law_expressions := He.glo_ok X G (c.1.fact 26 (f := .glo "_law_expressions") rfl), fd__law_plain := fd28, F__law_plain := F28, b__law_plain := FunD.bindsN F28 fun _ _ _ _ _ _ us hl => (match us, hl with | [_, _], _ => rfl), g__law_plain := He.glo_ok X G (c.1.fact 27 (f := .glo "_law_plain") rfl), fd__law_nest := fd29, F__law_nest := F29, b__law_nest := FunD.bindsN F29 fun _ _ _ _ _ _ us hl => (match us, hl with | [_, _, _, _, _], _ => rfl), g__law_nest := He.glo_ok X G (c.1.fact 28 (f := .glo "_law_nest") rfl), fd__law_body := fd30, F__law_body := F30, b__law_body := FunD.bindsN F30 fun _ _ _ _ _ _ us hl => (match us, hl with | [_, _, _], _ => rfl), g__law_body := He.glo_ok X G (c.1.fact 29 (f := .glo "_law_body") rfl), fd__law_inner_cell := fd31, F__law_inner_cell := F31, b__law_inner_cell := FunD.bindsN F31 fun _ _ _ _ _ _ us hl => (match us, hl with | [_, _, _, _], _ => rfl), g__law_inner_cell := He.glo_ok X G (c.1.fact 30 (f := .glo "_law_inner_cell") rfl), fd__law_program := fd32, F__law_program := F32, b__law_program := FunD.bindsN F32 fun _ _ _ _ _ _ us hl => (match us, hl with | [_, _], _ => rfl), g__law_program := He.glo_ok X G (c.1.fact 31 (f := .glo "_law_program") rfl), fd__law_alike := fd33, F__law_alike := F33, b__law_alike := FunD.bindsN F33 fun _ _ _ _ _ _ us hl => (match us, hl with | [_, _], _ => rfl), g__law_alike := He.glo_ok X G (c.1.fact 32 (f := .glo "_law_alike") rfl), fd__law_worth := fd34, F__law_worth := F34, b__law_worth := FunD.bindsN F34 fun _ _ _ _ _ _ us hl => (match us, hl with | [_, _], _ => rfl), g__law_worth := He.glo_ok X G (c.1.fact 33 (f := .glo "_law_worth") rfl), fd__law_done := fd35, F__law_done := F35, b__law_done := FunD.bindsN F35 fun _ _ _ _ _ _ us hl => (match us, hl with | [_, _, _], _ => rfl), g__law_done := He.glo_ok X G (c.1.fact 34 (f := .glo "_law_done") rfl), fd__law_again := fd36, F__law_again := F36, b__law_again := FunD.bindsN F36 fun _ _ _ _ _ _ us hl => (match us, hl with | [_, _, _], _ => rfl), g__law_again := He.glo_ok X G (c.1.fact 35 (f := .glo "_law_again") rfl), fd__law_one := fd37, F__law_one := F37, b__law_one := FunD.bindsN F37 fun _ _ _ _ _ _ us hl => (match us, hl with | [_, _, _], _ => rfl), g__law_one := He.glo_ok X G (c.1.fact 36 (f := .glo "_law_one") rfl), fd__law_called := fd38, F__law_called := F38, b__law_called := FunD.bindsN F38 fun _ _ _ _ _ _ us hl => (match us, hl with | [_, _, _, _], _ => rfl), g__law_called := He.glo_ok X G (c.1.fact 37 (f := .glo "_law_called") rfl), fd__law_played := fd39, F__law_played := F39, b__law_played := FunD.bindsN F39 fun _ _ _ _ _ _ us hl => (match us, hl with | [_, _, _], _ => rfl), g__law_played := He.glo_ok X G (c.1.fact 38 (f := .glo "_law_played") rfl), fd__law_is_end := fd40, F__law_is_end := F40, b__law_is_end := FunD.bindsN F40 fun _ _ _ _ _ _ us hl => (match us, hl with | [_, _], _ => rfl), g__law_is_end := He.glo_ok X G (c.1.fact 39 (f := .glo "_law_is_end") rfl), fd__law_inputs_by := fd41, F__law_inputs_by := F41, b__law_inputs_by := FunD.bindsN F41 fun _ _ _ _ _ _ us hl => (match us, hl with | [_, _], _ => rfl), g__law_inputs_by := He.glo_ok X G (c.1.fact 40 (f := .glo "_law_inputs_by") rfl), fd__law_inputs := fd42, F__law_inputs := F42, b__law_inputs := FunD.bindsN F42 fun _ _ _ _ _ _ us hl => (match us, hl with | [_, _, _], _ => rfl), g__law_inputs := He.glo_ok X G (c.1.fact 41 (f := .glo "_law_inputs") rfl), fd__law_class := fd43, F__law_class := F43, b__law_class := FunD.bindsN F43 fun _ _ _ _ _ _ us hl => (match us, hl with | [_], _ => rfl), g__law_class := He.glo_ok X G (c.1.fact 42 (f := .glo "_law_class") rfl), fd__law_word := fd44, F__law_word := F44, b__law_word := FunD.bindsN F44 fun _ _ _ _ _ _ us hl => (match us, hl with | [_, _], _ => rfl), g__law_word := He.glo_ok X G (c.1.fact 43 (f := .glo "_law_word") rfl), fd__law_odd := fd45, F__law_odd := F45, b__law_odd := FunD.bindsN F45 fun _ _ _ _ _ _ us hl => (match us, hl with | [_, _], _ => rfl), g__law_odd := He.glo_ok X G (c.1.fact 44 (f := .glo "_law_odd") rfl), fd_law := fd46, F_law := F46, b_law := FunD.bindsN F46 fun _ _ _ _ _ _ us hl => (match us, hl with | [_], _ => rfl), g_law := He.glo_ok X G (c.1.fact 45 (f := .glo "law") rfl), g_WorkError := He.glo_ok X G (c.1.fact 46 (f := .glo "WorkError") rfl), we_WorkError := weB_ok hx0, x_WorkError := He.exc_ok (c.1.fact 47 (f := .exc "WorkError") rfl), g_NoText := He.glo_ok X G (c.1.fact 48 (f := .glo "NoText") rfl), g_NoInputs := He.glo_ok X G (c.1.fact 49 (f := .glo "NoInputs") rfl), x_NoInputs := He.exc_ok (c.1.fact 50 (f := .exc "NoInputs") rfl), g_NoPass := He.glo_ok X G (c.1.fact 51 (f := .glo "NoPass") rfl), x_NoPass := He.exc_ok (c.1.fact 52 (f := .exc "NoPass") rfl), g_NoBoxes := He.glo_ok X G (c.1.fact 53 (f := .glo "NoBoxes") rfl), x_NoBoxes := He.exc_ok (c.1.fact 54 (f := .exc "NoBoxes") rfl), g_Faulted := He.glo_ok X G (c.1.fact 55 (f := .glo "Faulted") rfl), o_Faulted := oexB_ok hx1, in_Faulted := oinB_ok hx2, xf_Faulted := xfB_ok hx3, nf_Faulted_word := nofB_ok hx4, g_Unended := He.glo_ok X G (c.1.fact 56 (f := .glo "Unended") rfl), x_Unended := He.exc_ok (c.1.fact 57 (f := .exc "Unended") rfl), g_Room := He.glo_ok X G (c.1.fact 58 (f := .glo "Room") rfl), cl_Room := He.cls_ok (c.1.fact 59 (f := .cls "Room") rfl), no_Room_known := He.noat_ok (c.1.fact 60 (f := .noat "Room" "known") rfl), no_Room_rows := He.noat_ok (c.1.fact 61 (f := .noat "Room" "rows") rfl), mk_Room := He.mkr_ok (c.1.fact 62 (f := .mkr "Room") rfl), g_Play := He.glo_ok X G (c.1.fact 63 (f := .glo "Play") rfl), cl_Play := He.cls_ok (c.1.fact 64 (f := .cls "Play") rfl), no_Play_helpers := He.noat_ok (c.1.fact 65 (f := .noat "Play" "helpers") rfl), no_Play_left := He.noat_ok (c.1.fact 66 (f := .noat "Play" "left") rfl), no_Play_told := He.noat_ok (c.1.fact 67 (f := .noat "Play" "told") rfl), mk_Play := He.mkr_ok (c.1.fact 68 (f := .mkr "Play") rfl), em_Unended_Unended := He.exm_ok (c.1.fact 69 (f := .exm "Unended" "Unended" true) rfl), em_Unended_Faulted := He.exm_ok (c.1.fact 70 (f := .exm "Unended" "Faulted" false) rfl), em_Faulted_Faulted := He.exm_ok (c.1.fact 71 (f := .exm "Faulted" "Faulted" true) rfl), em_NoInputs_WorkError := He.exm_ok (c.1.fact 72 (f := .exm "NoInputs" "WorkError" true) rfl), xi_NoInputs := TryK.eicB_ok hx5, ki_NoInputs_NoText := of_decide_eq_true hx6, ki_NoInputs_NoInputs := of_decide_eq_true hx7, ki_NoInputs_NoPass := of_decide_eq_true hx8, ki_NoInputs_NoBoxes := of_decide_eq_true hx9, ki_NoInputs_VE := of_decide_eq_true hx10, m_ValueError := He.free_ok X G (c.1.fact 73 (f := .free "ValueError") rfl), m_all := He.free_ok X G (c.1.fact 74 (f := .free "all") rfl), m_bool := He.free_ok X G (c.1.fact 75 (f := .free "bool") rfl), m_dict := He.free_ok X G (c.1.fact 76 (f := .free "dict") rfl), m_divmod := He.free_ok X G (c.1.fact 77 (f := .free "divmod") rfl), m_int := He.free_ok X G (c.1.fact 78 (f := .free "int") rfl), m_isinstance := He.free_ok X G (c.1.fact 79 (f := .free "isinstance") rfl), m_len := He.free_ok X G (c.1.fact 80 (f := .free "len") rfl), m_list := He.free_ok X G (c.1.fact 81 (f := .free "list") rfl), m_max := He.free_ok X G (c.1.fact 82 (f := .free "max") rfl), m_min := He.free_ok X G (c.1.fact 83 (f := .free "min") rfl), m_range := He.free_ok X G (c.1.fact 84 (f := .free "range") rfl), m_repr := He.free_ok X G (c.1.fact 85 (f := .free "repr") rfl), m_str := He.free_ok X G (c.1.fact 86 (f := .free "str") rfl), m_tuple := He.free_ok X G (c.1.fact 87 (f := .free "tuple") rfl), m_zip := He.free_ok X G (c.1.fact 88 (f := .free "zip") rfl), t_HALF := tk_HALF, c_HALF := ck_HALF, t_ROUND := tk_ROUND, c_ROUND := ck_ROUND }⟩
theorem law_binds {K : PySem.W.Frag} {mg : Str → Option Value} (T : Top K mg) (s : Shared) (u : Value) : BindsTo s T.fd_law ⟨[u], []⟩ [("_law_script", u)] :=
  FunD.bindsA (ps := ["_law_script"]) T.F_law (fun _ _ _ _ _ _ us hl => (match us, hl with | [_], _ => rfl)) s [u] rfl
end K14
namespace K14
open PySem PySem.Spec PyProof.Rows L2
theorem law_F (w : World) (mg : Str → Option Value) (fa : Addr) (h : Heap) (Y : hk.says w h) (G : h.Ns mainGlobals mg) (hmg : mg "law" = some (.ref fa)) :
    ∃ (K : PySem.W.Frag) (fd : FuncData) (sp : Sp), K.In h ∧ (∀ (s : Shared) (u : Value), BindsTo s fd ⟨[u], []⟩ [("_law_script", u)]) ∧
        (∀ (H : Hp) (a : Addr) (ns : List Int), ns.length ≤ 63 → (∀ z ∈ ns, Builtin.Int.intBits z ≤ 1048576) → Only H → SqL K H a (ns.map V.int) → sp [.ref a] H (fun v _ => v = .bl true) fun _ _ _ => False) ∧
        ∀ base : Heap, K.In base → base.Ns mainGlobals mg → FnG (PySem.Challenge.rw_passworks_k14_inputs).prog w K mg base L2.CX0 200 fa fd ["_law_script"] sp := by
  obtain ⟨K, KX, c⟩ := Y
  obtain ⟨T⟩ := top_of KX G c
  obtain rfl : He.ga K "law" = fa := by
    have e := T.g_law.symm.trans hmg
    injection e with e
    injection e
  exact ⟨K, T.fd_law, sp_law K, KX, law_binds T, fun H a ns hl hb _ hS => law_start hl hb hS, fun base _ _ => ok_law T⟩
end K14
open PySem PySem.W PySem.Calls PyProof.Rows
theorem K14.law_nm : (HandSHeadRun.topDef (OpenLaw.row PySem.Challenge.rw_passworks_k14_inputs).prog 51).name = ("law" : PySem.Str) := by kernel_rfl
theorem K14.law_walk : PySem.W.WalkO (view (OpenLaw.row PySem.Challenge.rw_passworks_k14_inputs).prog [51]) K14.lo (XL (view (OpenLaw.row PySem.Challenge.rw_passworks_k14_inputs).prog [51]) []) K14.hk.says (OpenLaw.row PySem.Challenge.rw_passworks_k14_inputs).toRowW (HandSHeadRun.topDef (OpenLaw.row PySem.Challenge.rw_passworks_k14_inputs).prog 51) [] (fun f vs => PySem.call f vs) :=
  K14.walk_bitsG (l := PySem.Challenge.rw_passworks_k14_inputs) (n := 63) (k := 200) (x := "_law_script") (CX := L2.CX0) rfl (by decide) (by kernel_rfl) ⟨rfl, by decide, by decide⟩ (fun w mg fa h Y G hmg0 => K14.law_F w mg fa h Y G (K14.law_nm ▸ hmg0)) (fun _ _ _ _ z => z)
theorem PySem.Challenge.cw_passworks_k14_inputs_holds : PySem.Challenge.rw_passworks_k14_inputs.Holds := by
  w_on; o_law
  refine HandSHeadRun.head_any (r := OpenLaw.row PySem.Challenge.rw_passworks_k14_inputs) (q := view (OpenLaw.row PySem.Challenge.rw_passworks_k14_inputs).prog [51]) (H := K14.hk) (ob := K14.ob) (M := 4000) (loose := K14.lo) (d := HandSHeadRun.topDef (OpenLaw.row PySem.Challenge.rw_passworks_k14_inputs).prog 51) (kwd := []) K14.ob_eq
    (by kernel_rfl) (fun s => by kernel_rfl) K14.run (by kernel_rfl) (by kernel_rfl) (by kernel_rfl) (by rfl) (by first | assumption | decide +kernel) (by decide +kernel) ⟨rfl, rfl, rfl, rfl, rfl, by decide +kernel⟩ ?hw K14.law_walk
  case hw => w_witness2

