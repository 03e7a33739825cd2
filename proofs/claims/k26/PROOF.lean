import PyProof.Rows.All
import Wide.All
import OpenK.AllK
import Wide.FinOn
import KE.KStateDown
import KE.KRevSl
import Lean
import HandS.ForMost
import HandS.Wide
import KE.GoesEnum
import HandS.Iter
import HandS.Walk
import HandS.WideBits
import HandS.IsInst
import HandS.Flow
import HandS.Style
import HandS.Exc
import HandS.ExcOwn
import HandS.TryMany
import HandS.TryOnly
import HandS.WordsExc
import HandS.ForExc
import HandS.FStr
import HandS.RaiseMore
import HandS.TupAny
import HandS.Defaults
import HandS.Zip
import HandS.CallSlots
import HandS.TupMul
import HandS.More
import HandS.ExcInit
import HandS.ExcField
import KE.GoesNew
import KE.GoesMore
import KE.KDictZip
import HandS.ExcIs
import HandS.ExcValue
import HandS.EndBits
import HandS.Head0
import HandS.Head1
import HandS.Head2
import HandS.HeadEnd
import HandS.HeadHook1
import HandS.HeadHook2
import HandS.StrMore
import HandS.WordsDict
import PySem.Challenge.RW_passworks_k26_gone_by_hand
set_option Elab.async false
set_option linter.all false
set_option maxRecDepth 100000
set_option maxHeartbeats 4000000
namespace K26
/-! what the head shows: defs, facts by names, one more Bool -/
open PySem PySem.Spec PyProof.Rows L2
def obsE (n : Nat) (fa : List He.Fa) (fn : List He.DefD) (ex : PySem.W.Frag → Bool) (g : Addr → Option Obj) : He.AlD × Bool :=
  (He.obsD fa fn (He.frG g (He.asD g n ++ [cStatics])), ex (He.frG g (He.asD g n ++ [cStatics])))
def SaysE (fa : List He.Fa) (fn : List He.DefD) (ex : PySem.W.Frag → Bool) (K : PySem.W.Frag) : Prop := He.SaysD fa fn K ∧ ex K = true
def hookE (n : Nat) (fa : List He.Fa) (fn : List He.DefD) (ex : PySem.W.Frag → Bool) : PySem.W.Hook where
  α := He.AlD × Bool
  obs := fun s => obsE n fa fn ex s.heap.get?
  val := fun _ => (He.valD fn, true)
  says := fun _ h => ∃ K : PySem.W.Frag, K.In h ∧ SaysE fa fn ex K
  of := fun _ _ z => ⟨_, He.frG_in, congrArg Prod.fst z, congrArg Prod.snd z⟩
  keeps := fun _ _ _ ⟨K, a, c⟩ k => ⟨K, a.keeps k, c⟩
theorem obsE_eq {n : Nat} {fa : List He.Fa} {fn : List He.DefD} {ex : PySem.W.Frag → Bool} {g : Addr → Option Obj} {s : Shared} (z : ∀ a, g a = s.heap.get? a) :
    obsE n fa fn ex g = (hookE n fa fn ex).obs s := by
  obtain rfl : g = s.heap.get? := funext z
  rfl
/-- a law's end, the bits of the script's numbers told -/
theorem walk_bits {l : PySem.W.OpenLaw} {n k : Nat} {q : Program} {loose : List Str} {XP : (Str → Option Value) → Heap → Prop} {YP : World → Heap → Prop} {d : DefRec} {CX : CXT} {x : Str}
    (hn : l.most = some n) (hn2 : n ≤ sizeLine) (hdf : d.params.defaults = []) (hr : Room k callerA)
    (F : ∀ (w : World) (mg : Str → Option Value) (fa : Addr) (h : Heap), YP w h → h.Ns mainGlobals mg → mg d.name = some (.ref fa) →
      ∃ (K : PySem.W.Frag) (fd : FuncData) (sp : Sp), K.In h ∧ (∀ (s : Shared) (u : Value), BindsTo s fd ⟨[u], []⟩ [(x, u)]) ∧
        (∀ (H : Hp) (a : Addr) (ns : List Int), ns.length ≤ n → (∀ z ∈ ns, Builtin.Int.intBits z ≤ 1048576) → Only H → SqL K H a (ns.map V.int) →
          sp [.ref a] H (fun v _ => v = .bl true) fun _ _ _ => False) ∧
        ∀ base : Heap, K.In base → base.Ns mainGlobals mg → FnOk l.prog w K mg base CX k fa fd [x] sp)
    (hCX : ∀ (H : Hp) (s : Shared) (e : Value) (s' : Shared), CX [] H s (fun _ _ _ => False) e s' → False) :
    PySem.W.WalkO q loose XP YP l.row.toRowW d [] (fun f vs => PySem.call f vs) := by
  apply Att.attach_callB hn hdf
  intro w s0 s1 mg mb fa o pm cd doc a vs ns G Y ho hd hcd hmg hobj hints hlen hbits hg
  obtain ⟨K, fd, sp, KX, hb, hsp, hF⟩ := F w mg fa _ Y G.T.g hmg
  exact law_call KX G.T.g G.T.b G.T.builtins G.T.nolimit hg hobj hints (Nat.le_trans hlen hn2) hr hF hb (fun H z1 z2 => hsp H a ns hlen hbits z1 z2)
    (fun H e s' => hCX H s1 e s')
/-! heaps -/
theorem same_new {H : Hp} {p : Addr} {o : HO} (z : H p = none) : Same H (upd H p o) := by
  intro b x e
  rw [upd_ne (ne_of_none e z)]
  exact e
theorem at_ints {ns : List Int} {i : Int} (h0 : 0 ≤ i) (h1 : i < ns.length) : atI (ns.map V.int) i = some (.int (ns.getD i.toNat 0)) := by
  obtain ⟨j, rfl⟩ := Int.eq_ofNat_of_zero_le h0
  have hj : j < ns.length := by omega
  refine atI_nat ?_
  rw [List.getElem?_map, List.getElem?_eq_getElem hj]
  simp [List.getD, hj]
/-- what stands behind a statement, once for all its ways -/
theorem seq_by {t u : TS} {D : Ends} {σ : L2.St} {H : Hp} (Pv : L2.St → Hp → Prop) (fin : ∀ σ' H', Pv σ' H' → u D σ' H')
    (first : ∀ N : L2.St → Hp → Prop, (∀ σ' H', Pv σ' H' → N σ' H') → t { D with nx := N } σ H) : tSeq t u D σ H := first _ fin
theorem ifs_by {c : TT} {t1 t2 u : TS} {D : Ends} {σ : L2.St} {H : Hp} (Pv : L2.St → Hp → Prop) (fin : ∀ σ' H', Pv σ' H' → u D σ' H')
    (first : ∀ N : L2.St → Hp → Prop, (∀ σ' H', Pv σ' H' → N σ' H') → tIfS c t1 t2 { D with nx := N } σ H) : tSeq (tIfS c t1 t2) u D σ H := first _ fin
theorem ifD {c A B : Prop} [Decidable c] (hc : c) (h : A) : if decide c = true then A else B := by
  rw [if_pos (decide_eq_true hc)]
  exact h
theorem ifN {c A B : Prop} [Decidable c] (hc : ¬ c) (h : B) : if decide c = true then A else B := by
  rw [if_neg (by rw [decide_eq_true_eq]; exact hc)]
  exact h
theorem blD {c : Prop} [Decidable c] {Q : VK} {H : Hp} (hc : c) (h : Q (.bl true) H) : Q (.bl (decide c)) H := by
  rw [decide_eq_true hc]
  exact h
theorem blN {c : Prop} [Decidable c] {Q : VK} {H : Hp} (hc : ¬ c) (h : Q (.bl false) H) : Q (.bl (decide c)) H := by
  rw [decide_eq_false hc]
  exact h
theorem getD_all {α : Type} {Pr : α → Prop} {ns : List α} {d : α} (h : ∀ x ∈ ns, Pr x) {j : Int} (h0 : 0 ≤ j) (h1 : j < ns.length) : Pr (ns.getD j.toNat d) := by
  have hi : j.toNat < ns.length := by omega
  have e : ns.getD j.toNat d = ns[j.toNat]'hi := by simp [List.getD, hi]
  rw [e]
  exact h _ (List.getElem_mem _)
theorem ifNF {c A B : Prop} [Decidable c] (hc : c) (h : B) : if (!decide c) = true then A else B := by
  rw [decide_eq_true hc]
  exact h
theorem ifNT {c A B : Prop} [Decidable c] (hc : ¬ c) (h : A) : if (!decide c) = true then A else B := by
  rw [decide_eq_false hc]
  exact h
theorem at_list {α : Type} {ns : List α} {i : Int} (h0 : 0 ≤ i) (h1 : i < ns.length) : ∃ x ∈ ns, atI ns i = some x := by
  obtain ⟨j, rfl⟩ := Int.eq_ofNat_of_zero_le h0
  have hj : j < ns.length := by omega
  exact ⟨ns[j], List.getElem_mem _, atI_nat (List.getElem?_eq_getElem hj)⟩
theorem ite_share {c A R : Prop} [Decidable c] (leaf : A) (rest : ¬ c → A → R) : if c then A else R := by
  split
  · exact leaf
  · exact rest (by assumption) leaf
theorem ite_else {c A R : Prop} [Decidable c] (leaf : R) (rest : c → R → A) : if c then A else R := by
  split
  · exact rest (by assumption) leaf
  · exact leaf

/-! own rules: // and divmod by any divisor of few bits, a list turned about -/
section
variable {X : Cx}
theorem op_fdivG : OpR X (binaryOp .FloorDiv) (rI (fun _ j => j ≠ 0 ∧ j.natAbs.log2 < 9000) fun i j => .int (i.fdiv j)) :=
  opI fun _ _ _ _ _ _ _ hc q => floordiv_int hc.1 q (.inl (PyProof.noPylong_of_log2 hc.2))
theorem call_divmodG : CallR X (.builtin "divmod") (fun xs H Q => ∃ i j, xs = [.int i, .int j] ∧ (j ≠ 0 ∧ j.natAbs.log2 < 9000) ∧ ∀ p, H p = none → Q (.ref p) (upd H p (.tup [.int (i.fdiv j), .int (i.fmod j)]))) := by
  intro pins s σ H xs us Q I r h
  obtain ⟨i, j, rfl, hc, q⟩ := h
  obtain ⟨u1, u2, rfl, ⟨t1, rfl⟩, ⟨t2, rfl⟩⟩ := vals2 r
  refine divmod_int hc.1 ?_ (.inl (PyProof.noPylong_of_log2 hc.2))
  refine ⟨.ref s.heap.objs.size, _, ?_, rfl, q _ (I.hok.fresh (Nat.le_refl _))⟩
  refine I.laid (fun b o e => Heap.get?_push_of_some _ e) (Nat.le_refl _) ⟨by show 2 ≤ sizeLine; rw [sizeLine_eq]; decide, [.int (i.fdiv j) s.toks, .int (i.fmod j) (s.toks + 1)], .cons ⟨_, rfl⟩ (.cons ⟨_, rfl⟩ .nil), ?_⟩
  exact ⟨_, Heap.get?_push_size s.heap rfl, rfl, 0, rfl⟩
def tRevL (K : PySem.W.Frag) (te tk : TE) : TE := fun σ H Q => te σ H fun x H1 => tk σ H1 fun y H2 => y = .int (-1) ∧ ∃ a xs, x = .ref a ∧ SqL K H2 a xs ∧ ∀ p, H2 p = none → Q (.ref p) (upd H2 p (.lst xs.reverse))
theorem vals_rev : ∀ {xs : List V} {us : List Value}, Vals xs us → Vals xs.reverse us.reverse
  | _, _, .nil => .nil
  | _, _, .cons r t => by
    rw [List.reverse_cons, List.reverse_cons]
    exact (vals_rev t).append (.cons r .nil)
theorem pe_revL {e k : Expr} {te tk : TE} {p2 pos : Pos} (he : PE X e te) (hk : PE X k tk) : PE X (.Subscript e (.Slice none none (some k) p2) pos) (tRevL X.K te tk) := by
  refine ⟨fun pins s σ H Q I h => ?_⟩
  refine Subscript_ (thn (he.run pins s σ H _ I h) fun v s1 ⟨x, H1, I1, r1, q1⟩ => ?_)
  refine wpAny_Slice ?_
  rw [evalPart_none]
  refine wpAny_pure (wpAny_pure ?_)
  rw [evalPart_some]
  refine thn (hk.run pins s1 σ H1 _ I1 q1) fun vk s2 ⟨y, H2, I2, r2, ey, a, xs, ex, hx, q⟩ => ?_
  subst ey ex
  obtain ⟨t, rfl⟩ := r2
  cases r1
  have I4 : Inv X pins σ H2 { s2 with heap := s2.heap.push { cls := .type "slice", data := .fields #[.none, .none, .int (-1) t] } } := I2.kept (t' := s2.toks) fun b ob q => Heap.get?_push_of_some _ q
  obtain ⟨its, r, ht, hz⟩ := I4.list hx
  have hlen := r.length
  refine tail_any (ops := [.ref a, .ref s2.heap.objs.size]) ht.isList.typeIs slot_list_getitem.lookup ?_ (by with_unfolding_all rfl)
  refine wpAny_getItem_list_slice ht.isList (Heap.IsSliceOf.new ..) .none .none (.int (-1) t) (by decide) ?_ (by rw [List.size_toArray]; omega)
  rw [PySem.W.krv_pick]
  refine ⟨.ref _, _, I4.laid (t' := s2.toks) (o := .lst xs.reverse) (fun b ob q => Heap.get?_push_of_some _ q) (Nat.le_refl _) ?_, rfl, q _ (I4.hok.fresh (Nat.le_refl _))⟩
  exact ⟨by rw [List.length_reverse]; exact hz, its.reverse, 0, vals_rev r, Heap.get?_push_size _ rfl⟩
end

/-! what is kept: all but the mutable things of a set -/
def Kp (S : Addr → Prop) (H H' : Hp) : Prop := ∀ b o, H b = some o → (S b → ¬ Mut (some o)) → H' b = some o
theorem Kp.refl {S : Addr → Prop} {H : Hp} : Kp S H H := fun _ _ h _ => h
theorem Kp.trans {S : Addr → Prop} {H H1 H2 : Hp} (a : Kp S H H1) (b : Kp S H1 H2) : Kp S H H2 := fun c o h k => b c o (a c o h k) k
theorem Kp.mono {S S' : Addr → Prop} {H H' : Hp} (a : Kp S H H') (h : ∀ b, S b → S' b) : Kp S' H H' := fun c o e k => a c o e fun z => k (h c z)
theorem Kp.of_same {S : Addr → Prop} {H H' : Hp} (a : Same H H') : Kp S H H' := fun c o e _ => a c o e
theorem Kp.same {S : Addr → Prop} {H H1 H2 : Hp} (a : Same H H1) (b : Kp S H1 H2) (h : ∀ b, S b → H b = none) : Same H H2 := fun c o e => b c o (a c o e) fun z => by
  rw [h c z] at e
  cases e
theorem Kp.upd {S : Addr → Prop} {H : Hp} {p : Addr} {o u : HO} (h : H p = some o) (m : Mut (some o)) (hp : S p) : Kp S H (upd H p u) := fun c x e k => by
  by_cases z : c = p
  · subst z
    rw [h] at e
    cases e
    exact absurd m (k hp)
  · rw [upd_ne z]
    exact e
/-- the script: read, never written -/
def Scr (K : PySem.W.Frag) (H : Hp) (a : Addr) (xs : List V) : Prop := SqL K H a xs ∧ ¬ Mut (H a)
theorem Scr.kp {K : PySem.W.Frag} {S : Addr → Prop} {H H' : Hp} {a : Addr} {xs : List V} (h : Scr K H a xs) (k : Kp S H H') : SqL K H' a xs := by
  obtain ⟨h1, h2⟩ := h
  rcases h1 with (e | ⟨o, e⟩) | e
  · rw [e] at h2
    exact absurd trivial h2
  · exact .inl (.inr ⟨o, k _ _ e fun _ => by rw [← e]; exact h2⟩)
  · exact .inr e
/-! an own rule: a text some times over -/
section
variable {X : Cx}
theorem op_rep_str : OpR X (binaryOp .Mult) (fun x y H Q => ∃ (z : Str) (n : Int), x = .str z ∧ y = .int n ∧ 0 < z.length ∧ z.length ≤ 1000 ∧ 2 ≤ n ∧ n ≤ 1000 ∧ ∀ u : Str, u.length = n.toNat * z.length → Q (.str u) H) := by
  intro pins s σ H x y v u Q I rx ry h
  obtain ⟨z, n, rfl, rfl, z0, z1, n0, n1, q⟩ := h
  obtain ⟨t, rfl⟩ := rx
  obtain ⟨t', rfl⟩ := ry
  have hn : ¬ n < 1 := by omega
  have hq : (n == 1 || z.length == 0) = false := by
    rw [Bool.or_eq_false_iff]
    exact ⟨beq_eq_false_iff_ne.mpr (by omega), beq_eq_false_iff_ne.mpr (by omega)⟩
  have le : ∀ (k : Nat) (acc : Array Nat), ((List.replicate k z.cps).foldl (· ++ ·) acc).size = acc.size + k * z.length := by
    intro k
    induction k with
    | zero => intro acc; simp
    | succ k ih =>
      intro acc
      rw [List.replicate_succ, List.foldl_cons, ih, Array.size_append]
      show acc.size + z.length + k * z.length = acc.size + (k + 1) * z.length
      rw [Nat.add_mul]
      omega
  have l2 : (⟨(List.replicate n.toNat z.cps).foldl (· ++ ·) #[]⟩ : Str).length = n.toNat * z.length := by
    show ((List.replicate n.toNat z.cps).foldl (· ++ ·) #[]).size = _
    rw [le]
    simp
  have mm : z.length * n.toNat ≤ 1000 * 1000 := Nat.mul_le_mul z1 (by omega)
  have tl : Builtin.Str.tooLong (z.length * n.toNat) = false := by
    unfold Builtin.Str.tooLong
    rw [sizeLine_eq]
    exact decide_eq_false (by omega)
  refine PySem.P.mul_str ?_ (fun _ _ => ?_) (fun _ _ => tl) ?_
  · rw [decide_eq_false (by omega), decide_eq_false (by omega)]
    rfl
  · have : (1000 : Int) * n ≤ 2 ^ 63 - 1 := by omega
    have h3 : (1000 : Int) ≤ (2 ^ 63 - 1) / n := (Int.le_ediv_iff_mul_le (by omega)).mpr this
    omega
  · rw [if_neg hn, hq]
    exact ⟨by rw [l2, Nat.mul_comm, sizeLine_eq]; omega, .str _, H, I.tok _, ⟨_, rfl⟩, q _ l2⟩
end
/-- a comprehension over a text's signs -/
theorem lc_str {x : Str} {g : TG} {tt : TT} {te : TE} {vs : List Nat} {σ : L2.St} {H1 : Hp} {D : Addr} {Qd : Hp → Prop} (Pv : Nat → Hp → Prop) (h0 : Pv 0 (upd H1 D (.lst [])))
    (hs : ∀ i c H, x.cps.toList[i]? = some c → Pv i H → g (.str ⟨#[c]⟩) (wipe σ vs) H fun σ2 H2 => wipe σ2 vs = wipe σ vs ∧ tt σ2 H2 fun b H3 =>
      if b = true then te σ2 H3 fun y H4 => ∃ acc, H4 D = some (.lst acc) ∧ acc.length < sizeLine ∧ Pv (i + 1) (upd H4 D (.lst (acc ++ [y]))) else Pv (i + 1) H3) (hd : ∀ H, Pv x.cps.toList.length H → Qd H) :
    ∃ W : Nat → Nat → Hp → Prop, (∃ m, W 0 m (upd H1 D (.lst []))) ∧ ∀ i m H, W i m H →
      ((Its x).stop i H ∧ Qd H) ∨ ((Its x).go i H ∧ ∃ Nx : Hp → Prop, (∀ H', Nx H' → ∃ m', m' < m ∧ W (i + 1) m' H') ∧ ∀ y H', (Its x).yld i H y H' → g y (wipe σ vs) H' fun σ2 H2 => wipe σ2 vs = wipe σ vs ∧ tt σ2 H2 fun b H3 =>
        if b = true then te σ2 H3 fun y H4 => ∃ acc, H4 D = some (.lst acc) ∧ acc.length < sizeLine ∧ Nx (upd H4 D (.lst (acc ++ [y]))) else Nx H3) := by
  have hl : x.cps.toList.length = x.cps.size := by simp
  refine ⟨fun i m H => m = x.cps.size - i ∧ i ≤ x.cps.size ∧ Pv i H, ⟨x.cps.size, by simp, Nat.zero_le _, h0⟩, ?_⟩
  rintro i m H ⟨rfl, hi, p⟩
  by_cases hlt : i < x.cps.size
  · refine .inr ⟨hlt, Pv (i + 1), fun H' p' => ⟨x.cps.size - (i + 1), by omega, rfl, hlt, p'⟩, fun y H' hy => ?_⟩
    obtain ⟨rfl, c, hc, rfl⟩ := hy
    exact hs i c H' (by rw [Array.getElem?_toList]; exact hc) p
  · refine .inl ⟨Nat.le_of_not_lt hlt, hd H ?_⟩
    rw [hl, show x.cps.size = i by omega]
    exact p
section
variable {X : Cx}
theorem call_str_any : CallR X (.type "str") (fun xs H Q => (∃ i : Int, xs = [.int i] ∧ i.natAbs.log2 < 1920 ∧ Q (.str (toString i)) H) ∨ ∃ a : Str, xs = [.str a] ∧ Q (.str a) H) := by
  intro pins s σ H xs us Q I r h
  rcases h with h | h
  · exact call_str_int pins s σ H xs us Q I r h
  · exact SkE.call_str_str pins s σ H xs us Q I r h
end

/-! rules for use within a comprehension: the written part named -/
section
variable {X : Cx} {K : PySem.W.Frag}
theorem ix_listK (h : X.K = K) : IxR X (rIxL K) := by subst h; exact ix_list
theorem ix_tupK (h : X.K = K) : IxR X (rIxT K) := by subst h; exact ix_tup
theorem op_in_seqK (h : X.K = K) : OpR X (compareOp .In) (rIn K false) := by subst h; exact op_in_seq
theorem op_notIn_seqK (h : X.K = K) : OpR X (compareOp .NotIn) (rIn K true) := by subst h; exact op_notIn_seq
theorem call_isiK (h : X.K = K) : CallR X (.builtin "isinstance") (rIsi K) := by subst h; exact call_isi
theorem call_len_seqK (h : X.K = K) : CallR X (.builtin "len") (fun xs H Q => ∃ p ys, xs = [.ref p] ∧ (SqL K H p ys ∨ SqT K H p ys) ∧ Q (.int ys.length) H) := by subst h; exact call_len_seq
end

/-! an own exception class over an own one: what the head shows of it; Base.__init__(self, ..) -/
section
open PySem.W
def oexB (K : PySem.W.Frag) (C : Addr) : Bool := (match K.lookup C with
  | some ⟨.type "type", _, .cls cd, sl⟩ => (match cd.mro, sl.toList with
    | .ref C' :: bm, [_, _, _, _, some (.builtin n), _] => C' == C && n == "ValueError.__new__" && !cd.hasDel && cd.hasDict && PySem.HandSPX.refsVE bm
    | _, _ => false)
  | _ => false) && (decide (PySem.W.findIn K (.ref C) "__setattr__" = some (some (.builtin "object.__setattr__"))) && (decide (PySem.W.subIn K (.ref C) (.type "BaseException") = some true) && (decide (PySem.W.typeIn K (.ref C) = some (.type "type")) && PySem.W.keepIn K (.ref C))))
theorem oexB_ok {K : PySem.W.Frag} {C : Addr} (h : oexB K C = true) : OexC K C := by
  obtain ⟨h1, h⟩ := Bool.and_eq_true_iff.mp h
  obtain ⟨h2, h⟩ := Bool.and_eq_true_iff.mp h
  obtain ⟨h3, h⟩ := Bool.and_eq_true_iff.mp h
  obtain ⟨h4, h5⟩ := Bool.and_eq_true_iff.mp h
  refine ⟨?_, of_decide_eq_true h2, of_decide_eq_true h3, of_decide_eq_true h4, h5⟩
  split at h1
  · rename_i dd cd sl ho
    split at h1
    · rename_i C' bm k0 k1 k2 k3 n k5 hm hs
      simp only [Bool.and_eq_true, beq_iff_eq, Bool.not_eq_true'] at h1
      obtain ⟨⟨⟨⟨rfl, rfl⟩, hdl⟩, hdc⟩, hb⟩ := h1
      obtain ⟨nm, bs, mro, ns, qn, hd, sn, sb, ab, col, del⟩ := cd
      dsimp only at hm hdl hdc
      subst hm hdl hdc
      obtain ⟨sl⟩ := sl
      dsimp only at hs
      subst hs
      exact ⟨nm, qn, ns, bs, bm, sn, sb, ab, col, dd, k0, k1, k2, k3, k5, ho, hb⟩
    · cases h1
  · cases h1
/-- W.__init__ is ValueError's -/
structure WeI (K : PySem.W.Frag) (W : Addr) : Prop where
  rd : PySem.W.readsIn K W (.type "type") = true
  ga : PySem.W.specialIn K (.ref W) "__getattribute__" = some (some (.builtin "type.__getattribute__"))
  at_ : PySem.W.findCls K (.ref W) (.type "type") "__init__" = some (.val (.builtin "ValueError.__init__"))
def weB (K : PySem.W.Frag) (W : Addr) : Bool := PySem.W.readsIn K W (.type "type") && (decide (PySem.W.specialIn K (.ref W) "__getattribute__" = some (some (.builtin "type.__getattribute__"))) && (match PySem.W.findCls K (.ref W) (.type "type") "__init__" with
  | some (.val v) => decide (v = .builtin "ValueError.__init__")
  | _ => false))
theorem weB_ok {K : PySem.W.Frag} {W : Addr} (h : weB K W = true) : WeI K W := by
  obtain ⟨h1, h⟩ := Bool.and_eq_true_iff.mp h
  obtain ⟨h2, h3⟩ := Bool.and_eq_true_iff.mp h
  refine ⟨h1, of_decide_eq_true h2, ?_⟩
  split at h3
  · rename_i v e
    rw [e, of_decide_eq_true h3]
  · cases h3
/-- __init__ of C is the def at f -/
structure OIn (K : PySem.W.Frag) (C f : Addr) : Prop where
  iC : PySem.W.findIn K (.ref C) "__init__" = some (some (.ref f))
  tI : PySem.W.typeIn K (.ref f) = some (.type "function")
def oinB (K : PySem.W.Frag) (C f : Addr) : Bool := decide (PySem.W.findIn K (.ref C) "__init__" = some (some (.ref f))) && decide (PySem.W.typeIn K (.ref f) = some (.type "function"))
theorem oinB_ok {K : PySem.W.Frag} {C f : Addr} (h : oinB K C f = true) : OIn K C f := by
  obtain ⟨h1, h2⟩ := Bool.and_eq_true_iff.mp h
  exact ⟨of_decide_eq_true h1, of_decide_eq_true h2⟩
def nofB (K : PySem.W.Frag) (C : Addr) (f : Str) : Bool := decide (PySem.W.findIn K (.ref C) f = some none)
theorem nofB_ok {K : PySem.W.Frag} {C : Addr} {f : Str} (h : nofB K C f = true) : PySem.W.findIn K (.ref C) f = some none := of_decide_eq_true h
end
section
variable {X : Cx} {e : Expr} {es : List Expr} {ta : TA} {x : Str} {W : Addr} {p1 p2 pos : Pos}
theorem pe_weinit {pl : Sem Bool} (hg : Gl X x) (hm : X.mg x = some (.ref W)) (T : WeI X.K W) (ha : PA X (e :: es) ta) (hdb : (x == ("__debug__" : Str)) = false := by decide)
    (hc : eval (.Call (.Attribute (.Name x p1) "__init__" p2) (e :: es) [] pos) X.env = (do
      let ov ← eval (.Name x p1) X.env
      standAt p2.atName
      let (f, first) ← holding [ov] (getMethod ov "__init__" pl)
      callWith pos f first (backTo pos (starEach (e :: es) X.env)) (backToKw pos (keywordEach [] X.env))) := by rfl)
    (he : starEach (e :: es) X.env = (false, eval e X.env) :: starEach es X.env := by rfl) (hpl : (backTo pos (starEach es X.env)).any (·.1) = false := by rfl) :
    PE X (.Call (.Attribute (.Name x p1) "__init__" p2) (e :: es) [] pos) (tVeI X.K ta) := by
  refine ⟨fun pins s σ H Q I h => ?_⟩
  refine PySem.W.methodCall_KW (ld_glob I hg hm ?_ hdb) hc
  refine PySem.W.method_cls I.kIn T.ga (PySem.W.cls_value I.kIn T.rd T.at_ (by decide +kernel) ?_)
  show wpAny _ _ (callWith pos (Value.builtin "ValueError.__init__") [] (backTo pos (starEach (e :: es) X.env)) []) _ _ _
  refine PyProof.Rows.callWith_method1 (thn (ha.run pos pins _ σ H _ (I.tok _) h) fun us s1 ⟨vs, H1, I1, r1, a, C, ws, ev, hl, T, ea, q⟩ => ?_) he hpl
  subst ev
  cases r1 with
  | @cons _ u0 _ ur ra rw' =>
    obtain rfl : u0 = Value.ref a := ra
    have hlen : ur.length ≤ sizeLine := by
      rw [← Paired.length rw', sizeLine_eq]
      omega
    exact oinit_ok T I1 ea hlen fun s' J => ⟨.non, H1, J, rfl, q⟩
end

/-! what a class has from another one -/
def inhB (K : PySem.W.Frag) (mk : Bool) (c m o : Str) : Bool := (if mk then (He.Fa.mkr c).ok K else (He.Fa.meth c m).ok K) && decide (He.ma K (He.ga K c) m = He.ma K (He.ga K o) m)
theorem inhB_mk {K : PySem.W.Frag} {c o : Str} (h : inhB K true c "__init__" o = true) : Mk K (He.ga K c) (He.ma K (He.ga K o) "__init__") := by
  obtain ⟨a, b⟩ := He.ba h
  rw [← of_decide_eq_true b]
  exact He.mkr_ok a
theorem inhB_me {K : PySem.W.Frag} {c m o : Str} (h : inhB K false c m o = true) : Meth K (He.ga K c) m (He.ma K (He.ga K o) m) := by
  obtain ⟨a, b⟩ := He.ba h
  rw [← of_decide_eq_true b]
  exact He.meth_ok a
/-! o.m() of an object of one of several classes -/
structure Methd (X : Cx) (m : Str) (c : Addr) (sp : Sp) : Prop where
  ok : ∃ (k : Nat) (f : Addr) (fd : FuncData) (ps : List Str), Cls X.K c ∧ Meth X.K c m f ∧ FnOk X.prog X.w X.K X.mg X.base CX0 k f fd ps sp ∧ Room k X.A ∧ Binds X.K fd ps []
def tMethP (C : Addr → Sp → Prop) (m : Str) (ta : TE) : TE := fun σ H Q => ta σ H fun x H1 => ∃ a dx fs c sp, x = .ref a ∧ H1 a = some (.ins c dx fs) ∧ C c sp ∧ fs.lookup m = none ∧ sp [x] H1 Q E0
theorem pe_methP0 {X : Cx} {C : Addr → Sp → Prop} {m : Str} {o : Expr} {ta : TE} {pl : Sem Bool} {apos pos : Pos} (hC : ∀ c sp, C c sp → Methd X m c sp) (he : PE X o ta)
    (ht : eval (.Call (.Attribute o m apos) [] [] pos) X.env = (do
      let ov ← eval o X.env
      standAt apos.atName
      let (f, first) ← holding [ov] (getMethod ov m pl)
      callWith pos f first (backTo pos (starEach [] X.env)) (backToKw pos (keywordEach [] X.env))) := by rfl) :
    PE X (.Call (.Attribute o m apos) [] [] pos) (tMethP C m ta) := by
  refine ⟨fun pins s σ H Q I h => ?_⟩
  refine PySem.W.methodCall_KW (pl := pl) (thn (he.run pins s σ H _ I h) fun u s1 ⟨x, H1, I1, rx, a, dx, fs, c, sp, ex, ea, hc, l, q⟩ => ?_) ht
  subst ex
  obtain rfl : u = Value.ref a := rx
  obtain ⟨k, f, fd, ps, cl, hm, F, hr, hb⟩ := (hC c sp hc).ok
  refine getmeth_ok I1 ea cl hm l ?_
  exact PySem.W.callWith_K0 (first := [.ref a]) I1.kIn hm.kp (run_fn (us := [.ref a]) (vs := [.ref a]) (dvs := []) F hr hb .nil pass0 I1 (.cons rfl .nil) q)
/-! o.m(e) of an object of one of several classes -/
structure Methd1 (X : Cx) (m : Str) (c : Addr) (sp : Sp) : Prop where
  ok : ∃ (k : Nat) (f : Addr) (fd : FuncData) (ps : List Str), Cls X.K c ∧ Meth X.K c m f ∧ FnOk X.prog X.w X.K X.mg X.base CX0 k f fd ps sp ∧ Room k X.A ∧ Binds X.K fd ps []
def tMethP1 (C : Addr → Sp → Prop) (m : Str) (ta tb : TE) : TE := fun σ H Q => ta σ H fun x H1 => ∃ a dx fs c sp, x = .ref a ∧ H1 a = some (.ins c dx fs) ∧ C c sp ∧ fs.lookup m = none ∧ tCons tb tNil σ H1 fun vs H2 => sp (x :: vs) H2 Q E0
theorem pe_methP1 {X : Cx} {C : Addr → Sp → Prop} {m : Str} {o e : Expr} {ta tb : TE} {pl : Sem Bool} {apos pos : Pos} (hC : ∀ c sp, C c sp → Methd1 X m c sp) (he : PE X o ta) (hb : PE X e tb)
    (hst : starEach [e] X.env = (false, eval e X.env) :: starEach [] X.env := by rfl) (hpl : (backTo pos (starEach ([] : List Expr) X.env)).any (·.1) = false := by rfl)
    (ht : eval (.Call (.Attribute o m apos) [e] [] pos) X.env = (do
      let ov ← eval o X.env
      standAt apos.atName
      let (f, first) ← holding [ov] (getMethod ov m pl)
      callWith pos f first (backTo pos (starEach [e] X.env)) (backToKw pos (keywordEach [] X.env))) := by rfl) :
    PE X (.Call (.Attribute o m apos) [e] [] pos) (tMethP1 C m ta tb) := by
  refine ⟨fun pins s σ H Q I h => ?_⟩
  refine PySem.W.methodCall_KW (pl := pl) (thn (he.run pins s σ H _ I h) fun u s1 ⟨x, H1, I1, rx, a, dx, fs, c, sp, ex, ea, hc, l, q⟩ => ?_) ht
  subst ex
  obtain rfl : u = Value.ref a := rx
  obtain ⟨k, f, fd, ps, cl, hm, F, hr, hbs⟩ := (hC c sp hc).ok
  refine getmeth_ok I1 ea cl hm l ?_
  refine PySem.W.callWith_K (first := [.ref a]) (h₀ := X.base) I.ok.mod.kin hm.kp (thn ((pa_cons (hs := hst) hb pa_nil).run pos pins s1 σ H1 _ I1 q) fun us s2 ⟨vs, H2, I2, r, q2⟩ => ⟨I2.kIn, ?_⟩) hst hpl
  exact run_fn (us := .ref a :: us) (vs := .ref a :: vs) (dvs := []) F hr hbs .nil pass0 I2 (.cons rfl r) (by rw [List.append_nil]; exact q2)

def topS (i : Nat) : Stmt := PySem.Challenge.pw_passworks_k26_gone_by_hand.main.body.getD i (.Pass ⟨0, 0, 0, 0⟩)
abbrev s_wrapped : Stmt := topS 4
abbrev N_wrapped : List Str := ["n"]
theorem sc_wrapped : FnScope N_wrapped ["n"] (defScope s_wrapped) := ⟨rfl, rfl, rfl, by decide +kernel, rfl, by decide +kernel, by decide +kernel⟩
abbrev s_divided : Stmt := topS 5
abbrev N_divided : List Str := ["word", "one", "other", "quotient", "rest"]
theorem sc_divided : FnScope N_divided ["word", "one", "other"] (defScope s_divided) := ⟨rfl, rfl, rfl, by decide +kernel, rfl, by decide +kernel, by decide +kernel⟩
abbrev s_reckoned : Stmt := topS 6
abbrev N_reckoned : List Str := ["word", "one", "other"]
theorem sc_reckoned : FnScope N_reckoned ["word", "one", "other"] (defScope s_reckoned) := ⟨rfl, rfl, rfl, by decide +kernel, rfl, by decide +kernel, by decide +kernel⟩
abbrev s_denied : Stmt := topS 7
abbrev N_denied : List Str := ["n"]
theorem sc_denied : FnScope N_denied ["n"] (defScope s_denied) := ⟨rfl, rfl, rfl, by decide +kernel, rfl, by decide +kernel, by decide +kernel⟩
abbrev s_Deed___init__ : Stmt := inClass (topS 10) 0
abbrev N_Deed___init__ : List Str := ["self", "row"]
theorem sc_Deed___init__ : FnScope N_Deed___init__ ["self", "row"] (defScope s_Deed___init__) := ⟨rfl, rfl, rfl, by decide +kernel, rfl, by decide +kernel, by decide +kernel⟩
abbrev s_NumberDeed_play : Stmt := inClass (topS 11) 0
abbrev N_NumberDeed_play : List Str := ["self", "values"]
theorem sc_NumberDeed_play : FnScope N_NumberDeed_play ["self", "values"] (defScope s_NumberDeed_play) := ⟨rfl, rfl, rfl, by decide +kernel, rfl, by decide +kernel, by decide +kernel⟩
abbrev s_WordDeed_play : Stmt := inClass (topS 12) 1
abbrev N_WordDeed_play : List Str := ["self", "values", "found"]
theorem sc_WordDeed_play : FnScope N_WordDeed_play ["self", "values"] (defScope s_WordDeed_play) := ⟨rfl, rfl, rfl, by decide +kernel, rfl, by decide +kernel, by decide +kernel⟩
abbrev s_NotDeed_play : Stmt := inClass (topS 13) 1
abbrev N_NotDeed_play : List Str := ["self", "values"]
theorem sc_NotDeed_play : FnScope N_NotDeed_play ["self", "values"] (defScope s_NotDeed_play) := ⟨rfl, rfl, rfl, by decide +kernel, rfl, by decide +kernel, by decide +kernel⟩
abbrev s_FreshDeed_play : Stmt := inClass (topS 14) 1
abbrev N_FreshDeed_play : List Str := ["self", "values"]
theorem sc_FreshDeed_play : FnScope N_FreshDeed_play ["self", "values"] (defScope s_FreshDeed_play) := ⟨rfl, rfl, rfl, by decide +kernel, rfl, by decide +kernel, by decide +kernel⟩
abbrev s_GetDeed_play : Stmt := inClass (topS 15) 2
abbrev N_GetDeed_play : List Str := ["self", "values", "held", "place"]
theorem sc_GetDeed_play : FnScope N_GetDeed_play ["self", "values"] (defScope s_GetDeed_play) := ⟨rfl, rfl, rfl, by decide +kernel, rfl, by decide +kernel, by decide +kernel⟩
abbrev s_PutDeed_play : Stmt := inClass (topS 16) 3
abbrev N_PutDeed_play : List Str := ["self", "values", "held", "place"]
theorem sc_PutDeed_play : FnScope N_PutDeed_play ["self", "values"] (defScope s_PutDeed_play) := ⟨rfl, rfl, rfl, by decide +kernel, rfl, by decide +kernel, by decide +kernel⟩
abbrev s_TellDeed_play : Stmt := inClass (topS 17) 1
abbrev N_TellDeed_play : List Str := ["self", "values"]
theorem sc_TellDeed_play : FnScope N_TellDeed_play ["self", "values"] (defScope s_TellDeed_play) := ⟨rfl, rfl, rfl, by decide +kernel, rfl, by decide +kernel, by decide +kernel⟩
abbrev s_deed_of : Stmt := topS 18
abbrev N_deed_of : List Str := ["row", "word"]
theorem sc_deed_of : FnScope N_deed_of ["row"] (defScope s_deed_of) := ⟨rfl, rfl, rfl, by decide +kernel, rfl, by decide +kernel, by decide +kernel⟩
abbrev s_is_between : Stmt := topS 25
abbrev N_is_between : List Str := ["thing", "low", "high"]
theorem sc_is_between : FnScope N_is_between ["thing", "low", "high"] (defScope s_is_between) := ⟨rfl, rfl, rfl, by decide +kernel, rfl, by decide +kernel, by decide +kernel⟩
abbrev s_Going___init__ : Stmt := inClass (topS 27) 0
abbrev N_Going___init__ : List Str := ["self", "works", "most"]
theorem sc_Going___init__ : FnScope N_Going___init__ ["self", "works", "most"] (defScope s_Going___init__) := ⟨rfl, rfl, rfl, by decide +kernel, rfl, by decide +kernel, by decide +kernel⟩
abbrev s_Going_step : Stmt := inClass (topS 27) 1
abbrev N_Going_step : List Str := ["self"]
theorem sc_Going_step : FnScope N_Going_step ["self"] (defScope s_Going_step) := ⟨rfl, rfl, rfl, by decide +kernel, rfl, by decide +kernel, by decide +kernel⟩
abbrev s_Going_enter : Stmt := inClass (topS 27) 2
abbrev N_Going_enter : List Str := ["self", "graph", "inputs", "values", "value", "size", "given"]
theorem sc_Going_enter : FnScope N_Going_enter ["self", "graph", "inputs"] (defScope s_Going_enter) := ⟨rfl, rfl, rfl, by decide +kernel, rfl, by decide +kernel, by decide +kernel⟩
abbrev s_Going_lead : Stmt := inClass (topS 27) 3
abbrev N_Going_lead : List Str := ["self", "way", "first", "frame", "given", "value", "size", "thing"]
theorem sc_Going_lead : FnScope N_Going_lead ["self", "way", "first"] (defScope s_Going_lead) := ⟨rfl, rfl, rfl, by decide +kernel, rfl, by decide +kernel, by decide +kernel⟩
abbrev s_Going_back : Stmt := inClass (topS 27) 4
abbrev N_Going_back : List Str := ["self", "number", "frame"]
theorem sc_Going_back : FnScope N_Going_back ["self", "number"] (defScope s_Going_back) := ⟨rfl, rfl, rfl, by decide +kernel, rfl, by decide +kernel, by decide +kernel⟩
abbrev s_Going_do_rows : Stmt := inClass (topS 27) 5
abbrev N_Going_do_rows : List Str := ["self", "block", "values", "row", "thing", "fault"]
theorem sc_Going_do_rows : FnScope N_Going_do_rows ["self", "block", "values"] (defScope s_Going_do_rows) := ⟨rfl, rfl, rfl, by decide +kernel, rfl, by decide +kernel, by decide +kernel⟩
abbrev s_Going_do_end : Stmt := inClass (topS 27) 6
abbrev N_Going_do_end : List Str := ["self", "end", "values", "value"]
theorem sc_Going_do_end : FnScope N_Going_do_end ["self", "end", "values"] (defScope s_Going_do_end) := ⟨rfl, rfl, rfl, by decide +kernel, rfl, by decide +kernel, by decide +kernel⟩
abbrev s_Going_go : Stmt := inClass (topS 27) 7
abbrev N_Going_go : List Str := ["self", "graph", "number", "values"]
theorem sc_Going_go : FnScope N_Going_go ["self"] (defScope s_Going_go) := ⟨rfl, rfl, rfl, by decide +kernel, rfl, by decide +kernel, by decide +kernel⟩
abbrev s_need_inputs : Stmt := topS 28
abbrev N_need_inputs : List Str := ["inputs", "many", "one"]
theorem sc_need_inputs : FnScope N_need_inputs ["inputs", "many"] (defScope s_need_inputs) := ⟨rfl, rfl, rfl, by decide +kernel, rfl, by decide +kernel, by decide +kernel⟩
abbrev s_gone : Stmt := topS 29
abbrev N_gone : List Str := ["works", "inputs", "most", "main", "going"]
theorem sc_gone : FnScope N_gone ["works", "inputs", "most"] (defScope s_gone) := ⟨rfl, rfl, rfl, by decide +kernel, rfl, by decide +kernel, by decide +kernel⟩
abbrev s__law_cell_at : Stmt := topS 31
abbrev N__law_cell_at : List Str := ["_law_script", "_law_k"]
theorem sc__law_cell_at : FnScope N__law_cell_at ["_law_script", "_law_k"] (defScope s__law_cell_at) := ⟨rfl, rfl, rfl, by decide +kernel, rfl, by decide +kernel, by decide +kernel⟩
abbrev s__law_mixed : Stmt := topS 32
abbrev N__law_mixed : List Str := ["_law_cell", "_law_k", "_law_number_here"]
theorem sc__law_mixed : FnScope N__law_mixed ["_law_cell", "_law_k"] (defScope s__law_mixed) := ⟨rfl, rfl, rfl, by decide +kernel, rfl, by decide +kernel, by decide +kernel⟩
abbrev s__law_state : Stmt := topS 33
abbrev N__law_state : List Str := ["_law_cell", "_law_k", "_law_number_here", "_law_start", "_law_s"]
theorem sc__law_state : FnScope N__law_state ["_law_cell", "_law_k"] (defScope s__law_state) := ⟨rfl, rfl, rfl, by decide +kernel, rfl, by decide +kernel, by decide +kernel⟩
abbrev s__law_next : Stmt := topS 34
abbrev N__law_next : List Str := ["_law_s", "_law_size", "_law_left"]
theorem sc__law_next : FnScope N__law_next ["_law_s", "_law_size"] (defScope s__law_next) := ⟨rfl, rfl, rfl, by decide +kernel, rfl, by decide +kernel, by decide +kernel⟩
abbrev s__law_new : Stmt := topS 35
abbrev N__law_new : List Str := ["_law_s"]
theorem sc__law_new : FnScope N__law_new ["_law_s"] (defScope s__law_new) := ⟨rfl, rfl, rfl, by decide +kernel, rfl, by decide +kernel, by decide +kernel⟩
abbrev s__law_number : Stmt := topS 36
abbrev N__law_number : List Str := ["_law_s", "_law_far"]
theorem sc__law_number : FnScope N__law_number ["_law_s"] (defScope s__law_number) := ⟨rfl, rfl, rfl, by decide +kernel, rfl, by decide +kernel, by decide +kernel⟩
abbrev s__law_pick : Stmt := topS 37
abbrev N__law_pick : List Str := ["_law_s", "_law_wants_row", "_law_some", "_law_value", "_law_size"]
theorem sc__law_pick : FnScope N__law_pick ["_law_s", "_law_wants_row"] (defScope s__law_pick) := ⟨rfl, rfl, rfl, by decide +kernel, rfl, by decide +kernel, by decide +kernel⟩
abbrev s__law_bear : Stmt := topS 38
abbrev N__law_bear : List Str := ["_law_s", "_law_word", "_law_one", "_law_held", "_law_size", "_law_row", "_law_value"]
theorem sc__law_bear : FnScope N__law_bear ["_law_s", "_law_word"] (defScope s__law_bear) := ⟨rfl, rfl, rfl, by decide +kernel, rfl, by decide +kernel, by decide +kernel⟩
abbrev s__law_rows : Stmt := topS 39
abbrev N__law_rows : List Str := ["_law_s", "_law_most", "_law_words", "_law_turn", "_law_word", "_law_one"]
theorem sc__law_rows : FnScope N__law_rows ["_law_s", "_law_most"] (defScope s__law_rows) := ⟨rfl, rfl, rfl, by decide +kernel, rfl, by decide +kernel, by decide +kernel⟩
abbrev s__law_sure : Stmt := topS 40
abbrev N__law_sure : List Str := ["_law_s", "_law_one"]
theorem sc__law_sure : FnScope N__law_sure ["_law_s"] (defScope s__law_sure) := ⟨rfl, rfl, rfl, by decide +kernel, rfl, by decide +kernel, by decide +kernel⟩
abbrev s__law_block : Stmt := topS 41
abbrev N__law_block : List Str := ["_law_s", "_law_sizes_here", "_law_params", "_law_size"]
theorem sc__law_block : FnScope N__law_block ["_law_s", "_law_sizes_here"] (defScope s__law_block) := ⟨rfl, rfl, rfl, by decide +kernel, rfl, by decide +kernel, by decide +kernel⟩
abbrev s__law_args : Stmt := topS 42
abbrev N__law_args : List Str := ["_law_s", "_law_sizes_here", "_law_found", "_law_size", "_law_some", "_law_word", "_law_value", "_law_own"]
theorem sc__law_args : FnScope N__law_args ["_law_s", "_law_sizes_here"] (defScope s__law_args) := ⟨rfl, rfl, rfl, by decide +kernel, rfl, by decide +kernel, by decide +kernel⟩
abbrev s__law_stand : Stmt := topS 43
abbrev N__law_stand : List Str := ["_law_s", "_law_block_here", "_law_kept"]
theorem sc__law_stand : FnScope N__law_stand ["_law_s", "_law_block_here", "_law_kept"] (defScope s__law_stand) := ⟨rfl, rfl, rfl, by decide +kernel, rfl, by decide +kernel, by decide +kernel⟩
abbrev s__law_sizes : Stmt := topS 44
abbrev N__law_sizes : List Str := ["_law_s", "_law_held", "_law_found", "_law_value", "_law_size"]
theorem sc__law_sizes : FnScope N__law_sizes ["_law_s"] (defScope s__law_sizes) := ⟨rfl, rfl, rfl, by decide +kernel, rfl, by decide +kernel, by decide +kernel⟩
abbrev s__law_choice : Stmt := topS 45
abbrev N__law_choice : List Str := ["_law_s", "_law_deep", "_law_one", "_law_kept", "_law_here", "_law_sizes_here", "_law_sides", "_law_join", "_law_leave", "_law_k", "_law_end"]
theorem sc__law_choice : FnScope N__law_choice ["_law_s", "_law_deep"] (defScope s__law_choice) := ⟨rfl, rfl, rfl, by decide +kernel, rfl, by decide +kernel, by decide +kernel⟩
abbrev s__law_loop : Stmt := topS 46
abbrev N__law_loop : List Str := ["_law_s", "_law_deep", "_law_sizes_here", "_law_args_here", "_law_kept", "_law_head", "_law_counter", "_law_one", "_law_bound", "_law_sides", "_law_step", "_law_later", "_law_back", "_law_params"]
theorem sc__law_loop : FnScope N__law_loop ["_law_s", "_law_deep"] (defScope s__law_loop) := ⟨rfl, rfl, rfl, by decide +kernel, rfl, by decide +kernel, by decide +kernel⟩
abbrev s__law_call : Stmt := topS 47
abbrev N__law_call : List Str := ["_law_s", "_law_names", "_law_name", "_law_args_here", "_law_sizes_here", "_law_more", "_law_kept", "_law_block_here"]
theorem sc__law_call : FnScope N__law_call ["_law_s"] (defScope s__law_call) := ⟨rfl, rfl, rfl, by decide +kernel, rfl, by decide +kernel, by decide +kernel⟩
abbrev s__law_parts : Stmt := topS 48
abbrev N__law_parts : List Str := ["_law_s", "_law_deep", "_law_most", "_law_turn", "_law_kind"]
theorem sc__law_parts : FnScope N__law_parts ["_law_s", "_law_deep", "_law_most"] (defScope s__law_parts) := ⟨rfl, rfl, rfl, by decide +kernel, rfl, by decide +kernel, by decide +kernel⟩
abbrev s__law_graph : Stmt := topS 49
abbrev N__law_graph : List Str := ["_law_s", "_law_inputs_here", "_law_helpers", "_law_deep", "_law_block_here"]
theorem sc__law_graph : FnScope N__law_graph ["_law_s", "_law_inputs_here", "_law_helpers", "_law_deep"] (defScope s__law_graph) := ⟨rfl, rfl, rfl, by decide +kernel, rfl, by decide +kernel, by decide +kernel⟩
abbrev s__law_ways : Stmt := topS 50
abbrev N__law_ways : List Str := ["_law_end", "_law_thing"]
theorem sc__law_ways : FnScope N__law_ways ["_law_end"] (defScope s__law_ways) := ⟨rfl, rfl, rfl, by decide +kernel, rfl, by decide +kernel, by decide +kernel⟩
abbrev s__law_seen : Stmt := topS 51
abbrev N__law_seen : List Str := ["_law_blocks", "_law_s", "_law_found", "_law_order", "_law_at", "_law_way"]
theorem sc__law_seen : FnScope N__law_seen ["_law_blocks", "_law_s"] (defScope s__law_seen) := ⟨rfl, rfl, rfl, by decide +kernel, rfl, by decide +kernel, by decide +kernel⟩
abbrev s__law_turned : Stmt := topS 52
abbrev N__law_turned : List Str := ["_law_blocks", "_law_order", "_law_graph_here", "_law_number_here", "_law_params", "_law_rows_here", "_law_end", "_law_roads", "_law_turned_here", "_law_way"]
theorem sc__law_turned : FnScope N__law_turned ["_law_blocks", "_law_order"] (defScope s__law_turned) := ⟨rfl, rfl, rfl, by decide +kernel, rfl, by decide +kernel, by decide +kernel⟩
abbrev s__law_works : Stmt := topS 53
abbrev N__law_works : List Str := ["_law_cell", "_law_k", "_law_s", "_law_names", "_law_counts", "_law_helpers", "_law_name", "_law_inputs_here"]
theorem sc__law_works : FnScope N__law_works ["_law_cell", "_law_k"] (defScope s__law_works) := ⟨rfl, rfl, rfl, by decide +kernel, rfl, by decide +kernel, by decide +kernel⟩
abbrev s__law_wrapped : Stmt := topS 54
abbrev N__law_wrapped : List Str := ["_law_number_here"]
theorem sc__law_wrapped : FnScope N__law_wrapped ["_law_number_here"] (defScope s__law_wrapped) := ⟨rfl, rfl, rfl, by decide +kernel, rfl, by decide +kernel, by decide +kernel⟩
abbrev s__law_reckoned : Stmt := topS 55
abbrev N__law_reckoned : List Str := ["_law_word", "_law_one", "_law_other", "_law_found"]
theorem sc__law_reckoned : FnScope N__law_reckoned ["_law_word", "_law_one", "_law_other"] (defScope s__law_reckoned) := ⟨rfl, rfl, rfl, by decide +kernel, rfl, by decide +kernel, by decide +kernel⟩
abbrev s__law_do : Stmt := topS 56
abbrev N__law_do : List Str := ["_law_row", "_law_values", "_law_word", "_law_found", "_law_held", "_law_place"]
theorem sc__law_do : FnScope N__law_do ["_law_row", "_law_values"] (defScope s__law_do) := ⟨rfl, rfl, rfl, by decide +kernel, rfl, by decide +kernel, by decide +kernel⟩
abbrev s__law_do_rows : Stmt := topS 57
abbrev N__law_do_rows : List Str := ["_law_block_here", "_law_values", "_law_run", "_law_row", "_law_found"]
theorem sc__law_do_rows : FnScope N__law_do_rows ["_law_block_here", "_law_values", "_law_run"] (defScope s__law_do_rows) := ⟨rfl, rfl, rfl, by decide +kernel, rfl, by decide +kernel, by decide +kernel⟩
abbrev s__law_goes : Stmt := topS 58
abbrev N__law_goes : List Str := ["_law_graph_here", "_law_values", "_law_way", "_law_given", "_law_param", "_law_thing", "_law_value"]
theorem sc__law_goes : FnScope N__law_goes ["_law_graph_here", "_law_values", "_law_way", "_law_given"] (defScope s__law_goes) := ⟨rfl, rfl, rfl, by decide +kernel, rfl, by decide +kernel, by decide +kernel⟩
abbrev s__law_go : Stmt := topS 59
abbrev N__law_go : List Str := ["_law_works_here", "_law_graph_here", "_law_inputs_here", "_law_run", "_law_values", "_law_at", "_law_over", "_law_end", "_law_given", "_law_way", "_law_value", "_law_size"]
theorem sc__law_go : FnScope N__law_go ["_law_works_here", "_law_graph_here", "_law_inputs_here", "_law_run"] (defScope s__law_go) := ⟨rfl, rfl, rfl, by decide +kernel, rfl, by decide +kernel, by decide +kernel⟩
abbrev s__law_gone : Stmt := topS 60
abbrev N__law_gone : List Str := ["_law_works_here", "_law_inputs_here", "_law_most", "_law_run", "_law_over"]
theorem sc__law_gone : FnScope N__law_gone ["_law_works_here", "_law_inputs_here", "_law_most"] (defScope s__law_gone) := ⟨rfl, rfl, rfl, by decide +kernel, rfl, by decide +kernel, by decide +kernel⟩
abbrev s__law_inputs : Stmt := topS 61
abbrev N__law_inputs : List Str := ["_law_works_here", "_law_cell", "_law_k", "_law_found", "_law_j", "_law_left", "_law_far"]
theorem sc__law_inputs : FnScope N__law_inputs ["_law_works_here", "_law_cell", "_law_k"] (defScope s__law_inputs) := ⟨rfl, rfl, rfl, by decide +kernel, rfl, by decide +kernel, by decide +kernel⟩
abbrev s_law : Stmt := topS 62
abbrev N_law : List Str := ["_law_script", "_law_works_here", "_law_inputs_here", "_law_handed", "_law_due", "_law_most"]
theorem sc_law : FnScope N_law ["_law_script"] (defScope s_law) := ⟨rfl, rfl, rfl, by decide +kernel, rfl, by decide +kernel, by decide +kernel⟩
abbrev FnP (K : PySem.W.Frag) (x : Str) (st : Stmt) (f : Addr) (fd : FuncData) : Prop := FunD K x x (defArgs st) (defBody st) (defScope st) [] [] f fd
abbrev FnM (K : PySem.W.Frag) (x q : Str) (st : Stmt) (f : Addr) (fd : FuncData) : Prop := FunD K x q (defArgs st) (defBody st) (defScope st) [] [] f fd
structure Top (K : PySem.W.Frag) (mg : Str → Option Value) where
  fd_wrapped : FuncData
  F_wrapped : FnP K "wrapped" s_wrapped (He.ga K "wrapped") fd_wrapped
  b_wrapped : Binds K fd_wrapped ["n"] []
  g_wrapped : mg "wrapped" = some (.ref (He.ga K "wrapped"))
  fd_divided : FuncData
  F_divided : FnP K "divided" s_divided (He.ga K "divided") fd_divided
  b_divided : Binds K fd_divided ["word", "one", "other"] []
  g_divided : mg "divided" = some (.ref (He.ga K "divided"))
  fd_reckoned : FuncData
  F_reckoned : FnP K "reckoned" s_reckoned (He.ga K "reckoned") fd_reckoned
  b_reckoned : Binds K fd_reckoned ["word", "one", "other"] []
  g_reckoned : mg "reckoned" = some (.ref (He.ga K "reckoned"))
  fd_denied : FuncData
  F_denied : FnP K "denied" s_denied (He.ga K "denied") fd_denied
  b_denied : Binds K fd_denied ["n"] []
  g_denied : mg "denied" = some (.ref (He.ga K "denied"))
  fd_Deed___init__ : FuncData
  F_Deed___init__ : FnM K "__init__" "Deed.__init__" s_Deed___init__ (He.ma K (He.ga K "Deed") "__init__") fd_Deed___init__
  me_Deed___init__ : Meth K (He.ga K "Deed") "__init__" (He.ma K (He.ga K "Deed") "__init__")
  b_Deed___init__ : Binds K fd_Deed___init__ ["self", "row"] []
  fd_NumberDeed_play : FuncData
  F_NumberDeed_play : FnM K "play" "NumberDeed.play" s_NumberDeed_play (He.ma K (He.ga K "NumberDeed") "play") fd_NumberDeed_play
  me_NumberDeed_play : Meth K (He.ga K "NumberDeed") "play" (He.ma K (He.ga K "NumberDeed") "play")
  b_NumberDeed_play : Binds K fd_NumberDeed_play ["self", "values"] []
  fd_WordDeed_play : FuncData
  F_WordDeed_play : FnM K "play" "WordDeed.play" s_WordDeed_play (He.ma K (He.ga K "WordDeed") "play") fd_WordDeed_play
  me_WordDeed_play : Meth K (He.ga K "WordDeed") "play" (He.ma K (He.ga K "WordDeed") "play")
  b_WordDeed_play : Binds K fd_WordDeed_play ["self", "values"] []
  fd_NotDeed_play : FuncData
  F_NotDeed_play : FnM K "play" "NotDeed.play" s_NotDeed_play (He.ma K (He.ga K "NotDeed") "play") fd_NotDeed_play
  me_NotDeed_play : Meth K (He.ga K "NotDeed") "play" (He.ma K (He.ga K "NotDeed") "play")
  b_NotDeed_play : Binds K fd_NotDeed_play ["self", "values"] []
  fd_FreshDeed_play : FuncData
  F_FreshDeed_play : FnM K "play" "FreshDeed.play" s_FreshDeed_play (He.ma K (He.ga K "FreshDeed") "play") fd_FreshDeed_play
  me_FreshDeed_play : Meth K (He.ga K "FreshDeed") "play" (He.ma K (He.ga K "FreshDeed") "play")
  b_FreshDeed_play : Binds K fd_FreshDeed_play ["self", "values"] []
  fd_GetDeed_play : FuncData
  F_GetDeed_play : FnM K "play" "GetDeed.play" s_GetDeed_play (He.ma K (He.ga K "GetDeed") "play") fd_GetDeed_play
  me_GetDeed_play : Meth K (He.ga K "GetDeed") "play" (He.ma K (He.ga K "GetDeed") "play")
  b_GetDeed_play : Binds K fd_GetDeed_play ["self", "values"] []
  fd_PutDeed_play : FuncData
  F_PutDeed_play : FnM K "play" "PutDeed.play" s_PutDeed_play (He.ma K (He.ga K "PutDeed") "play") fd_PutDeed_play
  me_PutDeed_play : Meth K (He.ga K "PutDeed") "play" (He.ma K (He.ga K "PutDeed") "play")
  b_PutDeed_play : Binds K fd_PutDeed_play ["self", "values"] []
  fd_TellDeed_play : FuncData
  F_TellDeed_play : FnM K "play" "TellDeed.play" s_TellDeed_play (He.ma K (He.ga K "TellDeed") "play") fd_TellDeed_play
  me_TellDeed_play : Meth K (He.ga K "TellDeed") "play" (He.ma K (He.ga K "TellDeed") "play")
  b_TellDeed_play : Binds K fd_TellDeed_play ["self", "values"] []
  fd_deed_of : FuncData
  F_deed_of : FnP K "deed_of" s_deed_of (He.ga K "deed_of") fd_deed_of
  b_deed_of : Binds K fd_deed_of ["row"] []
  g_deed_of : mg "deed_of" = some (.ref (He.ga K "deed_of"))
  fd_is_between : FuncData
  F_is_between : FnP K "is_between" s_is_between (He.ga K "is_between") fd_is_between
  b_is_between : Binds K fd_is_between ["thing", "low", "high"] []
  g_is_between : mg "is_between" = some (.ref (He.ga K "is_between"))
  fd_Going___init__ : FuncData
  F_Going___init__ : FnM K "__init__" "Going.__init__" s_Going___init__ (He.ma K (He.ga K "Going") "__init__") fd_Going___init__
  me_Going___init__ : Meth K (He.ga K "Going") "__init__" (He.ma K (He.ga K "Going") "__init__")
  b_Going___init__ : Binds K fd_Going___init__ ["self", "works", "most"] []
  fd_Going_step : FuncData
  F_Going_step : FnM K "step" "Going.step" s_Going_step (He.ma K (He.ga K "Going") "step") fd_Going_step
  me_Going_step : Meth K (He.ga K "Going") "step" (He.ma K (He.ga K "Going") "step")
  b_Going_step : Binds K fd_Going_step ["self"] []
  fd_Going_enter : FuncData
  F_Going_enter : FnM K "enter" "Going.enter" s_Going_enter (He.ma K (He.ga K "Going") "enter") fd_Going_enter
  me_Going_enter : Meth K (He.ga K "Going") "enter" (He.ma K (He.ga K "Going") "enter")
  b_Going_enter : Binds K fd_Going_enter ["self", "graph", "inputs"] []
  fd_Going_lead : FuncData
  F_Going_lead : FnM K "lead" "Going.lead" s_Going_lead (He.ma K (He.ga K "Going") "lead") fd_Going_lead
  me_Going_lead : Meth K (He.ga K "Going") "lead" (He.ma K (He.ga K "Going") "lead")
  b_Going_lead : Binds K fd_Going_lead ["self", "way", "first"] []
  fd_Going_back : FuncData
  F_Going_back : FnM K "back" "Going.back" s_Going_back (He.ma K (He.ga K "Going") "back") fd_Going_back
  me_Going_back : Meth K (He.ga K "Going") "back" (He.ma K (He.ga K "Going") "back")
  b_Going_back : Binds K fd_Going_back ["self", "number"] []
  fd_Going_do_rows : FuncData
  F_Going_do_rows : FnM K "do_rows" "Going.do_rows" s_Going_do_rows (He.ma K (He.ga K "Going") "do_rows") fd_Going_do_rows
  me_Going_do_rows : Meth K (He.ga K "Going") "do_rows" (He.ma K (He.ga K "Going") "do_rows")
  b_Going_do_rows : Binds K fd_Going_do_rows ["self", "block", "values"] []
  fd_Going_do_end : FuncData
  F_Going_do_end : FnM K "do_end" "Going.do_end" s_Going_do_end (He.ma K (He.ga K "Going") "do_end") fd_Going_do_end
  me_Going_do_end : Meth K (He.ga K "Going") "do_end" (He.ma K (He.ga K "Going") "do_end")
  b_Going_do_end : Binds K fd_Going_do_end ["self", "end", "values"] []
  fd_Going_go : FuncData
  F_Going_go : FnM K "go" "Going.go" s_Going_go (He.ma K (He.ga K "Going") "go") fd_Going_go
  me_Going_go : Meth K (He.ga K "Going") "go" (He.ma K (He.ga K "Going") "go")
  b_Going_go : Binds K fd_Going_go ["self"] []
  fd_need_inputs : FuncData
  F_need_inputs : FnP K "need_inputs" s_need_inputs (He.ga K "need_inputs") fd_need_inputs
  b_need_inputs : Binds K fd_need_inputs ["inputs", "many"] []
  g_need_inputs : mg "need_inputs" = some (.ref (He.ga K "need_inputs"))
  fd_gone : FuncData
  F_gone : FunD K "gone" "gone" (defArgs s_gone) (defBody s_gone) (defScope s_gone) [.int 3000] [] (He.ga K "gone") fd_gone
  b2_gone : ∃ ds, Vals [.int 3000] ds ∧ Binds K fd_gone ["works", "inputs", "most"] ds
  b_gone : ∃ ds, Vals [] ds ∧ Binds K fd_gone ["works", "inputs", "most"] ds
  g_gone : mg "gone" = some (.ref (He.ga K "gone"))
  fd__law_cell_at : FuncData
  F__law_cell_at : FnP K "_law_cell_at" s__law_cell_at (He.ga K "_law_cell_at") fd__law_cell_at
  b__law_cell_at : Binds K fd__law_cell_at ["_law_script", "_law_k"] []
  g__law_cell_at : mg "_law_cell_at" = some (.ref (He.ga K "_law_cell_at"))
  fd__law_mixed : FuncData
  F__law_mixed : FnP K "_law_mixed" s__law_mixed (He.ga K "_law_mixed") fd__law_mixed
  b__law_mixed : Binds K fd__law_mixed ["_law_cell", "_law_k"] []
  g__law_mixed : mg "_law_mixed" = some (.ref (He.ga K "_law_mixed"))
  fd__law_state : FuncData
  F__law_state : FnP K "_law_state" s__law_state (He.ga K "_law_state") fd__law_state
  b__law_state : Binds K fd__law_state ["_law_cell", "_law_k"] []
  g__law_state : mg "_law_state" = some (.ref (He.ga K "_law_state"))
  fd__law_next : FuncData
  F__law_next : FnP K "_law_next" s__law_next (He.ga K "_law_next") fd__law_next
  b__law_next : Binds K fd__law_next ["_law_s", "_law_size"] []
  g__law_next : mg "_law_next" = some (.ref (He.ga K "_law_next"))
  fd__law_new : FuncData
  F__law_new : FnP K "_law_new" s__law_new (He.ga K "_law_new") fd__law_new
  b__law_new : Binds K fd__law_new ["_law_s"] []
  g__law_new : mg "_law_new" = some (.ref (He.ga K "_law_new"))
  fd__law_number : FuncData
  F__law_number : FnP K "_law_number" s__law_number (He.ga K "_law_number") fd__law_number
  b__law_number : Binds K fd__law_number ["_law_s"] []
  g__law_number : mg "_law_number" = some (.ref (He.ga K "_law_number"))
  fd__law_pick : FuncData
  F__law_pick : FnP K "_law_pick" s__law_pick (He.ga K "_law_pick") fd__law_pick
  b__law_pick : Binds K fd__law_pick ["_law_s", "_law_wants_row"] []
  g__law_pick : mg "_law_pick" = some (.ref (He.ga K "_law_pick"))
  fd__law_bear : FuncData
  F__law_bear : FnP K "_law_bear" s__law_bear (He.ga K "_law_bear") fd__law_bear
  b__law_bear : Binds K fd__law_bear ["_law_s", "_law_word"] []
  g__law_bear : mg "_law_bear" = some (.ref (He.ga K "_law_bear"))
  fd__law_rows : FuncData
  F__law_rows : FnP K "_law_rows" s__law_rows (He.ga K "_law_rows") fd__law_rows
  b__law_rows : Binds K fd__law_rows ["_law_s", "_law_most"] []
  g__law_rows : mg "_law_rows" = some (.ref (He.ga K "_law_rows"))
  fd__law_sure : FuncData
  F__law_sure : FnP K "_law_sure" s__law_sure (He.ga K "_law_sure") fd__law_sure
  b__law_sure : Binds K fd__law_sure ["_law_s"] []
  g__law_sure : mg "_law_sure" = some (.ref (He.ga K "_law_sure"))
  fd__law_block : FuncData
  F__law_block : FnP K "_law_block" s__law_block (He.ga K "_law_block") fd__law_block
  b__law_block : Binds K fd__law_block ["_law_s", "_law_sizes_here"] []
  g__law_block : mg "_law_block" = some (.ref (He.ga K "_law_block"))
  fd__law_args : FuncData
  F__law_args : FnP K "_law_args" s__law_args (He.ga K "_law_args") fd__law_args
  b__law_args : Binds K fd__law_args ["_law_s", "_law_sizes_here"] []
  g__law_args : mg "_law_args" = some (.ref (He.ga K "_law_args"))
  fd__law_stand : FuncData
  F__law_stand : FnP K "_law_stand" s__law_stand (He.ga K "_law_stand") fd__law_stand
  b__law_stand : Binds K fd__law_stand ["_law_s", "_law_block_here", "_law_kept"] []
  g__law_stand : mg "_law_stand" = some (.ref (He.ga K "_law_stand"))
  fd__law_sizes : FuncData
  F__law_sizes : FnP K "_law_sizes" s__law_sizes (He.ga K "_law_sizes") fd__law_sizes
  b__law_sizes : Binds K fd__law_sizes ["_law_s"] []
  g__law_sizes : mg "_law_sizes" = some (.ref (He.ga K "_law_sizes"))
  fd__law_choice : FuncData
  F__law_choice : FnP K "_law_choice" s__law_choice (He.ga K "_law_choice") fd__law_choice
  b__law_choice : Binds K fd__law_choice ["_law_s", "_law_deep"] []
  g__law_choice : mg "_law_choice" = some (.ref (He.ga K "_law_choice"))
  fd__law_loop : FuncData
  F__law_loop : FnP K "_law_loop" s__law_loop (He.ga K "_law_loop") fd__law_loop
  b__law_loop : Binds K fd__law_loop ["_law_s", "_law_deep"] []
  g__law_loop : mg "_law_loop" = some (.ref (He.ga K "_law_loop"))
  fd__law_call : FuncData
  F__law_call : FnP K "_law_call" s__law_call (He.ga K "_law_call") fd__law_call
  b__law_call : Binds K fd__law_call ["_law_s"] []
  g__law_call : mg "_law_call" = some (.ref (He.ga K "_law_call"))
  fd__law_parts : FuncData
  F__law_parts : FnP K "_law_parts" s__law_parts (He.ga K "_law_parts") fd__law_parts
  b__law_parts : Binds K fd__law_parts ["_law_s", "_law_deep", "_law_most"] []
  g__law_parts : mg "_law_parts" = some (.ref (He.ga K "_law_parts"))
  fd__law_graph : FuncData
  F__law_graph : FnP K "_law_graph" s__law_graph (He.ga K "_law_graph") fd__law_graph
  b__law_graph : Binds K fd__law_graph ["_law_s", "_law_inputs_here", "_law_helpers", "_law_deep"] []
  g__law_graph : mg "_law_graph" = some (.ref (He.ga K "_law_graph"))
  fd__law_ways : FuncData
  F__law_ways : FnP K "_law_ways" s__law_ways (He.ga K "_law_ways") fd__law_ways
  b__law_ways : Binds K fd__law_ways ["_law_end"] []
  g__law_ways : mg "_law_ways" = some (.ref (He.ga K "_law_ways"))
  fd__law_seen : FuncData
  F__law_seen : FnP K "_law_seen" s__law_seen (He.ga K "_law_seen") fd__law_seen
  b__law_seen : Binds K fd__law_seen ["_law_blocks", "_law_s"] []
  g__law_seen : mg "_law_seen" = some (.ref (He.ga K "_law_seen"))
  fd__law_turned : FuncData
  F__law_turned : FnP K "_law_turned" s__law_turned (He.ga K "_law_turned") fd__law_turned
  b__law_turned : Binds K fd__law_turned ["_law_blocks", "_law_order"] []
  g__law_turned : mg "_law_turned" = some (.ref (He.ga K "_law_turned"))
  fd__law_works : FuncData
  F__law_works : FnP K "_law_works" s__law_works (He.ga K "_law_works") fd__law_works
  b__law_works : Binds K fd__law_works ["_law_cell", "_law_k"] []
  g__law_works : mg "_law_works" = some (.ref (He.ga K "_law_works"))
  fd__law_wrapped : FuncData
  F__law_wrapped : FnP K "_law_wrapped" s__law_wrapped (He.ga K "_law_wrapped") fd__law_wrapped
  b__law_wrapped : Binds K fd__law_wrapped ["_law_number_here"] []
  g__law_wrapped : mg "_law_wrapped" = some (.ref (He.ga K "_law_wrapped"))
  fd__law_reckoned : FuncData
  F__law_reckoned : FnP K "_law_reckoned" s__law_reckoned (He.ga K "_law_reckoned") fd__law_reckoned
  b__law_reckoned : Binds K fd__law_reckoned ["_law_word", "_law_one", "_law_other"] []
  g__law_reckoned : mg "_law_reckoned" = some (.ref (He.ga K "_law_reckoned"))
  fd__law_do : FuncData
  F__law_do : FnP K "_law_do" s__law_do (He.ga K "_law_do") fd__law_do
  b__law_do : Binds K fd__law_do ["_law_row", "_law_values"] []
  g__law_do : mg "_law_do" = some (.ref (He.ga K "_law_do"))
  fd__law_do_rows : FuncData
  F__law_do_rows : FnP K "_law_do_rows" s__law_do_rows (He.ga K "_law_do_rows") fd__law_do_rows
  b__law_do_rows : Binds K fd__law_do_rows ["_law_block_here", "_law_values", "_law_run"] []
  g__law_do_rows : mg "_law_do_rows" = some (.ref (He.ga K "_law_do_rows"))
  fd__law_goes : FuncData
  F__law_goes : FnP K "_law_goes" s__law_goes (He.ga K "_law_goes") fd__law_goes
  b__law_goes : Binds K fd__law_goes ["_law_graph_here", "_law_values", "_law_way", "_law_given"] []
  g__law_goes : mg "_law_goes" = some (.ref (He.ga K "_law_goes"))
  fd__law_go : FuncData
  F__law_go : FnP K "_law_go" s__law_go (He.ga K "_law_go") fd__law_go
  b__law_go : Binds K fd__law_go ["_law_works_here", "_law_graph_here", "_law_inputs_here", "_law_run"] []
  g__law_go : mg "_law_go" = some (.ref (He.ga K "_law_go"))
  fd__law_gone : FuncData
  F__law_gone : FnP K "_law_gone" s__law_gone (He.ga K "_law_gone") fd__law_gone
  b__law_gone : Binds K fd__law_gone ["_law_works_here", "_law_inputs_here", "_law_most"] []
  g__law_gone : mg "_law_gone" = some (.ref (He.ga K "_law_gone"))
  fd__law_inputs : FuncData
  F__law_inputs : FnP K "_law_inputs" s__law_inputs (He.ga K "_law_inputs") fd__law_inputs
  b__law_inputs : Binds K fd__law_inputs ["_law_works_here", "_law_cell", "_law_k"] []
  g__law_inputs : mg "_law_inputs" = some (.ref (He.ga K "_law_inputs"))
  fd_law : FuncData
  F_law : FnP K "law" s_law (He.ga K "law") fd_law
  b_law : Binds K fd_law ["_law_script"] []
  g_law : mg "law" = some (.ref (He.ga K "law"))
  g_Deed : mg "Deed" = some (.ref (He.ga K "Deed"))
  cl_Deed : Cls K (He.ga K "Deed")
  no_Deed_row : NoAttr K (He.ga K "Deed") "row"
  mk_Deed : Mk K (He.ga K "Deed") (He.ma K (He.ga K "Deed") "__init__")
  g_NumberDeed : mg "NumberDeed" = some (.ref (He.ga K "NumberDeed"))
  cl_NumberDeed : Cls K (He.ga K "NumberDeed")
  no_NumberDeed_row : NoAttr K (He.ga K "NumberDeed") "row"
  mk_NumberDeed : Mk K (He.ga K "NumberDeed") (He.ma K (He.ga K "Deed") "__init__")
  g_WordDeed : mg "WordDeed" = some (.ref (He.ga K "WordDeed"))
  cl_WordDeed : Cls K (He.ga K "WordDeed")
  no_WordDeed_row : NoAttr K (He.ga K "WordDeed") "row"
  mk_WordDeed : Mk K (He.ga K "WordDeed") (He.ma K (He.ga K "Deed") "__init__")
  g_NotDeed : mg "NotDeed" = some (.ref (He.ga K "NotDeed"))
  cl_NotDeed : Cls K (He.ga K "NotDeed")
  no_NotDeed_row : NoAttr K (He.ga K "NotDeed") "row"
  mk_NotDeed : Mk K (He.ga K "NotDeed") (He.ma K (He.ga K "Deed") "__init__")
  g_FreshDeed : mg "FreshDeed" = some (.ref (He.ga K "FreshDeed"))
  cl_FreshDeed : Cls K (He.ga K "FreshDeed")
  no_FreshDeed_row : NoAttr K (He.ga K "FreshDeed") "row"
  mk_FreshDeed : Mk K (He.ga K "FreshDeed") (He.ma K (He.ga K "Deed") "__init__")
  g_GetDeed : mg "GetDeed" = some (.ref (He.ga K "GetDeed"))
  cl_GetDeed : Cls K (He.ga K "GetDeed")
  no_GetDeed_row : NoAttr K (He.ga K "GetDeed") "row"
  mk_GetDeed : Mk K (He.ga K "GetDeed") (He.ma K (He.ga K "Deed") "__init__")
  g_PutDeed : mg "PutDeed" = some (.ref (He.ga K "PutDeed"))
  cl_PutDeed : Cls K (He.ga K "PutDeed")
  no_PutDeed_row : NoAttr K (He.ga K "PutDeed") "row"
  mk_PutDeed : Mk K (He.ga K "PutDeed") (He.ma K (He.ga K "Deed") "__init__")
  g_TellDeed : mg "TellDeed" = some (.ref (He.ga K "TellDeed"))
  cl_TellDeed : Cls K (He.ga K "TellDeed")
  no_TellDeed_row : NoAttr K (He.ga K "TellDeed") "row"
  mk_TellDeed : Mk K (He.ga K "TellDeed") (He.ma K (He.ga K "Deed") "__init__")
  g_WorkError : mg "WorkError" = some (.ref (He.ga K "WorkError"))
  x_WorkError : PySem.W.excIn K (He.ga K "WorkError") He.veBase "ValueError.__new__" = true ∧ PySem.W.keepIn K (.ref (He.ga K "WorkError")) = true ∧ PySem.W.subIn K (.ref (He.ga K "WorkError")) (.type "BaseException") = some true ∧ PySem.W.typeIn K (.ref (He.ga K "WorkError")) = some (.type "type")
  g_NoInputs : mg "NoInputs" = some (.ref (He.ga K "NoInputs"))
  x_NoInputs : PySem.W.excIn K (He.ga K "NoInputs") He.veBase "ValueError.__new__" = true ∧ PySem.W.keepIn K (.ref (He.ga K "NoInputs")) = true ∧ PySem.W.subIn K (.ref (He.ga K "NoInputs")) (.type "BaseException") = some true ∧ PySem.W.typeIn K (.ref (He.ga K "NoInputs")) = some (.type "type")
  g_Going : mg "Going" = some (.ref (He.ga K "Going"))
  cl_Going : Cls K (He.ga K "Going")
  no_Going_helpers : NoAttr K (He.ga K "Going") "helpers"
  no_Going_most : NoAttr K (He.ga K "Going") "most"
  no_Going_many : NoAttr K (He.ga K "Going") "many"
  no_Going_told : NoAttr K (He.ga K "Going") "told"
  no_Going_frames : NoAttr K (He.ga K "Going") "frames"
  no_Going_ended : NoAttr K (He.ga K "Going") "ended"
  mk_Going : Mk K (He.ga K "Going") (He.ma K (He.ga K "Going") "__init__")
  m_all : mg "all" = none
  m_bool : mg "bool" = none
  m_dict : mg "dict" = none
  m_divmod : mg "divmod" = none
  m_int : mg "int" = none
  m_isinstance : mg "isinstance" = none
  m_len : mg "len" = none
  m_list : mg "list" = none
  m_max : mg "max" = none
  m_range : mg "range" = none
  m_repr : mg "repr" = none
  m_str : mg "str" = none
  m_tuple : mg "tuple" = none
  m_zip : mg "zip" = none
  t_HALF : Tok
  c_HALF : mg "HALF" = some (.int 2147483648 t_HALF)
  t_ROUND : Tok
  c_ROUND : mg "ROUND" = some (.int 4294967296 t_ROUND)
  c_WORDS : mg "WORDS" = some (.ref (He.ga K "WORDS"))
  q_WORDS : ∀ H : Hp, SqT K H (He.ga K "WORDS") [.str "add", .str "sub", .str "mul", .str "div", .str "rem", .str "less", .str "same"]
  t_LEAST : Tok
  c_LEAST : mg "LEAST" = some (.int (-2147483648) t_LEAST)
  t_GREATEST : Tok
  c_GREATEST : mg "GREATEST" = some (.int 2147483647 t_GREATEST)
def d_wrapped : He.DefD := ⟨("wrapped", none), "wrapped", "wrapped", defArgs s_wrapped, defBody s_wrapped, defScope s_wrapped, [], []⟩
def d_divided : He.DefD := ⟨("divided", none), "divided", "divided", defArgs s_divided, defBody s_divided, defScope s_divided, [], []⟩
def d_reckoned : He.DefD := ⟨("reckoned", none), "reckoned", "reckoned", defArgs s_reckoned, defBody s_reckoned, defScope s_reckoned, [], []⟩
def d_denied : He.DefD := ⟨("denied", none), "denied", "denied", defArgs s_denied, defBody s_denied, defScope s_denied, [], []⟩
def d_Deed___init__ : He.DefD := ⟨("Deed", some "__init__"), "__init__", "Deed.__init__", defArgs s_Deed___init__, defBody s_Deed___init__, defScope s_Deed___init__, [], []⟩
def d_NumberDeed_play : He.DefD := ⟨("NumberDeed", some "play"), "play", "NumberDeed.play", defArgs s_NumberDeed_play, defBody s_NumberDeed_play, defScope s_NumberDeed_play, [], []⟩
def d_WordDeed_play : He.DefD := ⟨("WordDeed", some "play"), "play", "WordDeed.play", defArgs s_WordDeed_play, defBody s_WordDeed_play, defScope s_WordDeed_play, [], []⟩
def d_NotDeed_play : He.DefD := ⟨("NotDeed", some "play"), "play", "NotDeed.play", defArgs s_NotDeed_play, defBody s_NotDeed_play, defScope s_NotDeed_play, [], []⟩
def d_FreshDeed_play : He.DefD := ⟨("FreshDeed", some "play"), "play", "FreshDeed.play", defArgs s_FreshDeed_play, defBody s_FreshDeed_play, defScope s_FreshDeed_play, [], []⟩
def d_GetDeed_play : He.DefD := ⟨("GetDeed", some "play"), "play", "GetDeed.play", defArgs s_GetDeed_play, defBody s_GetDeed_play, defScope s_GetDeed_play, [], []⟩
def d_PutDeed_play : He.DefD := ⟨("PutDeed", some "play"), "play", "PutDeed.play", defArgs s_PutDeed_play, defBody s_PutDeed_play, defScope s_PutDeed_play, [], []⟩
def d_TellDeed_play : He.DefD := ⟨("TellDeed", some "play"), "play", "TellDeed.play", defArgs s_TellDeed_play, defBody s_TellDeed_play, defScope s_TellDeed_play, [], []⟩
def d_deed_of : He.DefD := ⟨("deed_of", none), "deed_of", "deed_of", defArgs s_deed_of, defBody s_deed_of, defScope s_deed_of, [], []⟩
def d_is_between : He.DefD := ⟨("is_between", none), "is_between", "is_between", defArgs s_is_between, defBody s_is_between, defScope s_is_between, [], []⟩
def d_Going___init__ : He.DefD := ⟨("Going", some "__init__"), "__init__", "Going.__init__", defArgs s_Going___init__, defBody s_Going___init__, defScope s_Going___init__, [], []⟩
def d_Going_step : He.DefD := ⟨("Going", some "step"), "step", "Going.step", defArgs s_Going_step, defBody s_Going_step, defScope s_Going_step, [], []⟩
def d_Going_enter : He.DefD := ⟨("Going", some "enter"), "enter", "Going.enter", defArgs s_Going_enter, defBody s_Going_enter, defScope s_Going_enter, [], []⟩
def d_Going_lead : He.DefD := ⟨("Going", some "lead"), "lead", "Going.lead", defArgs s_Going_lead, defBody s_Going_lead, defScope s_Going_lead, [], []⟩
def d_Going_back : He.DefD := ⟨("Going", some "back"), "back", "Going.back", defArgs s_Going_back, defBody s_Going_back, defScope s_Going_back, [], []⟩
def d_Going_do_rows : He.DefD := ⟨("Going", some "do_rows"), "do_rows", "Going.do_rows", defArgs s_Going_do_rows, defBody s_Going_do_rows, defScope s_Going_do_rows, [], []⟩
def d_Going_do_end : He.DefD := ⟨("Going", some "do_end"), "do_end", "Going.do_end", defArgs s_Going_do_end, defBody s_Going_do_end, defScope s_Going_do_end, [], []⟩
def d_Going_go : He.DefD := ⟨("Going", some "go"), "go", "Going.go", defArgs s_Going_go, defBody s_Going_go, defScope s_Going_go, [], []⟩
def d_need_inputs : He.DefD := ⟨("need_inputs", none), "need_inputs", "need_inputs", defArgs s_need_inputs, defBody s_need_inputs, defScope s_need_inputs, [], []⟩
def d_gone : He.DefD := ⟨("gone", none), "gone", "gone", defArgs s_gone, defBody s_gone, defScope s_gone, [.int 3000], []⟩
def d__law_cell_at : He.DefD := ⟨("_law_cell_at", none), "_law_cell_at", "_law_cell_at", defArgs s__law_cell_at, defBody s__law_cell_at, defScope s__law_cell_at, [], []⟩
def d__law_mixed : He.DefD := ⟨("_law_mixed", none), "_law_mixed", "_law_mixed", defArgs s__law_mixed, defBody s__law_mixed, defScope s__law_mixed, [], []⟩
def d__law_state : He.DefD := ⟨("_law_state", none), "_law_state", "_law_state", defArgs s__law_state, defBody s__law_state, defScope s__law_state, [], []⟩
def d__law_next : He.DefD := ⟨("_law_next", none), "_law_next", "_law_next", defArgs s__law_next, defBody s__law_next, defScope s__law_next, [], []⟩
def d__law_new : He.DefD := ⟨("_law_new", none), "_law_new", "_law_new", defArgs s__law_new, defBody s__law_new, defScope s__law_new, [], []⟩
def d__law_number : He.DefD := ⟨("_law_number", none), "_law_number", "_law_number", defArgs s__law_number, defBody s__law_number, defScope s__law_number, [], []⟩
def d__law_pick : He.DefD := ⟨("_law_pick", none), "_law_pick", "_law_pick", defArgs s__law_pick, defBody s__law_pick, defScope s__law_pick, [], []⟩
def d__law_bear : He.DefD := ⟨("_law_bear", none), "_law_bear", "_law_bear", defArgs s__law_bear, defBody s__law_bear, defScope s__law_bear, [], []⟩
def d__law_rows : He.DefD := ⟨("_law_rows", none), "_law_rows", "_law_rows", defArgs s__law_rows, defBody s__law_rows, defScope s__law_rows, [], []⟩
def d__law_sure : He.DefD := ⟨("_law_sure", none), "_law_sure", "_law_sure", defArgs s__law_sure, defBody s__law_sure, defScope s__law_sure, [], []⟩
def d__law_block : He.DefD := ⟨("_law_block", none), "_law_block", "_law_block", defArgs s__law_block, defBody s__law_block, defScope s__law_block, [], []⟩
def d__law_args : He.DefD := ⟨("_law_args", none), "_law_args", "_law_args", defArgs s__law_args, defBody s__law_args, defScope s__law_args, [], []⟩
def d__law_stand : He.DefD := ⟨("_law_stand", none), "_law_stand", "_law_stand", defArgs s__law_stand, defBody s__law_stand, defScope s__law_stand, [], []⟩
def d__law_sizes : He.DefD := ⟨("_law_sizes", none), "_law_sizes", "_law_sizes", defArgs s__law_sizes, defBody s__law_sizes, defScope s__law_sizes, [], []⟩
def d__law_choice : He.DefD := ⟨("_law_choice", none), "_law_choice", "_law_choice", defArgs s__law_choice, defBody s__law_choice, defScope s__law_choice, [], []⟩
def d__law_loop : He.DefD := ⟨("_law_loop", none), "_law_loop", "_law_loop", defArgs s__law_loop, defBody s__law_loop, defScope s__law_loop, [], []⟩
def d__law_call : He.DefD := ⟨("_law_call", none), "_law_call", "_law_call", defArgs s__law_call, defBody s__law_call, defScope s__law_call, [], []⟩
def d__law_parts : He.DefD := ⟨("_law_parts", none), "_law_parts", "_law_parts", defArgs s__law_parts, defBody s__law_parts, defScope s__law_parts, [], []⟩
def d__law_graph : He.DefD := ⟨("_law_graph", none), "_law_graph", "_law_graph", defArgs s__law_graph, defBody s__law_graph, defScope s__law_graph, [], []⟩
def d__law_ways : He.DefD := ⟨("_law_ways", none), "_law_ways", "_law_ways", defArgs s__law_ways, defBody s__law_ways, defScope s__law_ways, [], []⟩
def d__law_seen : He.DefD := ⟨("_law_seen", none), "_law_seen", "_law_seen", defArgs s__law_seen, defBody s__law_seen, defScope s__law_seen, [], []⟩
def d__law_turned : He.DefD := ⟨("_law_turned", none), "_law_turned", "_law_turned", defArgs s__law_turned, defBody s__law_turned, defScope s__law_turned, [], []⟩
def d__law_works : He.DefD := ⟨("_law_works", none), "_law_works", "_law_works", defArgs s__law_works, defBody s__law_works, defScope s__law_works, [], []⟩
def d__law_wrapped : He.DefD := ⟨("_law_wrapped", none), "_law_wrapped", "_law_wrapped", defArgs s__law_wrapped, defBody s__law_wrapped, defScope s__law_wrapped, [], []⟩
def d__law_reckoned : He.DefD := ⟨("_law_reckoned", none), "_law_reckoned", "_law_reckoned", defArgs s__law_reckoned, defBody s__law_reckoned, defScope s__law_reckoned, [], []⟩
def d__law_do : He.DefD := ⟨("_law_do", none), "_law_do", "_law_do", defArgs s__law_do, defBody s__law_do, defScope s__law_do, [], []⟩
def d__law_do_rows : He.DefD := ⟨("_law_do_rows", none), "_law_do_rows", "_law_do_rows", defArgs s__law_do_rows, defBody s__law_do_rows, defScope s__law_do_rows, [], []⟩
def d__law_goes : He.DefD := ⟨("_law_goes", none), "_law_goes", "_law_goes", defArgs s__law_goes, defBody s__law_goes, defScope s__law_goes, [], []⟩
def d__law_go : He.DefD := ⟨("_law_go", none), "_law_go", "_law_go", defArgs s__law_go, defBody s__law_go, defScope s__law_go, [], []⟩
def d__law_gone : He.DefD := ⟨("_law_gone", none), "_law_gone", "_law_gone", defArgs s__law_gone, defBody s__law_gone, defScope s__law_gone, [], []⟩
def d__law_inputs : He.DefD := ⟨("_law_inputs", none), "_law_inputs", "_law_inputs", defArgs s__law_inputs, defBody s__law_inputs, defScope s__law_inputs, [], []⟩
def d_law : He.DefD := ⟨("law", none), "law", "law", defArgs s_law, defBody s_law, defScope s_law, [], []⟩
def fn0 : List He.DefD := [d_wrapped, d_divided, d_reckoned, d_denied, d_Deed___init__, d_NumberDeed_play, d_WordDeed_play, d_NotDeed_play, d_FreshDeed_play, d_GetDeed_play, d_PutDeed_play, d_TellDeed_play, d_deed_of, d_is_between, d_Going___init__, d_Going_step, d_Going_enter, d_Going_lead, d_Going_back, d_Going_do_rows, d_Going_do_end, d_Going_go, d_need_inputs, d_gone, d__law_cell_at, d__law_mixed, d__law_state, d__law_next, d__law_new, d__law_number]
def fn1 : List He.DefD := [d__law_pick, d__law_bear, d__law_rows, d__law_sure, d__law_block, d__law_args, d__law_stand, d__law_sizes, d__law_choice, d__law_loop, d__law_call, d__law_parts, d__law_graph, d__law_ways, d__law_seen, d__law_turned, d__law_works, d__law_wrapped, d__law_reckoned, d__law_do, d__law_do_rows, d__law_goes, d__law_go, d__law_gone, d__law_inputs, d_law]
def fn : List He.DefD := fn0 ++ fn1
def fa0 : List He.Fa := [.glo "wrapped", .glo "divided", .glo "reckoned", .glo "denied", .meth "Deed" "__init__", .meth "NumberDeed" "play", .meth "WordDeed" "play", .meth "NotDeed" "play", .meth "FreshDeed" "play", .meth "GetDeed" "play", .meth "PutDeed" "play", .meth "TellDeed" "play", .glo "deed_of", .glo "is_between", .meth "Going" "__init__", .meth "Going" "step", .meth "Going" "enter", .meth "Going" "lead", .meth "Going" "back", .meth "Going" "do_rows", .meth "Going" "do_end", .meth "Going" "go", .glo "need_inputs", .glo "gone", .glo "_law_cell_at", .glo "_law_mixed", .glo "_law_state", .glo "_law_next", .glo "_law_new", .glo "_law_number"]
def fa1 : List He.Fa := [.glo "_law_pick", .glo "_law_bear", .glo "_law_rows", .glo "_law_sure", .glo "_law_block", .glo "_law_args", .glo "_law_stand", .glo "_law_sizes", .glo "_law_choice", .glo "_law_loop", .glo "_law_call", .glo "_law_parts", .glo "_law_graph", .glo "_law_ways", .glo "_law_seen", .glo "_law_turned", .glo "_law_works", .glo "_law_wrapped", .glo "_law_reckoned", .glo "_law_do", .glo "_law_do_rows", .glo "_law_goes", .glo "_law_go", .glo "_law_gone", .glo "_law_inputs", .glo "law", .glo "Deed", .cls "Deed", .noat "Deed" "row", .mkr "Deed"]
def fa2 : List He.Fa := [.glo "NumberDeed", .cls "NumberDeed", .noat "NumberDeed" "row", .glo "WordDeed", .cls "WordDeed", .noat "WordDeed" "row", .glo "NotDeed", .cls "NotDeed", .noat "NotDeed" "row", .glo "FreshDeed", .cls "FreshDeed", .noat "FreshDeed" "row", .glo "GetDeed", .cls "GetDeed", .noat "GetDeed" "row", .glo "PutDeed", .cls "PutDeed", .noat "PutDeed" "row", .glo "TellDeed", .cls "TellDeed", .noat "TellDeed" "row", .glo "WorkError", .exc "WorkError", .glo "NoInputs", .exc "NoInputs", .glo "Going", .cls "Going", .noat "Going" "helpers", .noat "Going" "most", .noat "Going" "many"]
def fa3 : List He.Fa := [.noat "Going" "told", .noat "Going" "frames", .noat "Going" "ended", .mkr "Going", .free "all", .free "bool", .free "dict", .free "divmod", .free "int", .free "isinstance", .free "len", .free "list", .free "max", .free "range", .free "repr", .free "str", .free "tuple", .free "zip", .int "HALF" (2147483648), .int "ROUND" (4294967296), .glo "WORDS", .int "LEAST" ((-2147483648)), .int "GREATEST" (2147483647)]
def fa : List He.Fa := fa0 ++ fa1 ++ fa2 ++ fa3
def exB (K : PySem.W.Frag) : Bool := He.tupB K "WORDS" [.str "add", .str "sub", .str "mul", .str "div", .str "rem", .str "less", .str "same"] && (inhB K true "NumberDeed" "__init__" "Deed" && (inhB K true "WordDeed" "__init__" "Deed" && (inhB K true "NotDeed" "__init__" "Deed" && (inhB K true "FreshDeed" "__init__" "Deed" && (inhB K true "GetDeed" "__init__" "Deed" && (inhB K true "PutDeed" "__init__" "Deed" && (inhB K true "TellDeed" "__init__" "Deed")))))))
abbrev hk : PySem.W.Hook := hookE 4 fa fn exB
def ob (s : PySem.W.SharedT) : He.AlD × Bool := obsE 4 fa fn exB (HandSHeadRun.getT s)
theorem ob_eq (s : PySem.W.SharedT) : ob s = hk.obs s.abs := obsE_eq (HandSHeadRun.getT_eq s)
abbrev R : PySem.W.OpenRow := PySem.W.OpenLaw.row PySem.Challenge.rw_passworks_k26_gone_by_hand
def lo0 : List PySem.Str := ["_wall", "HALF", "ROUND", "wrapped", "divided", "reckoned", "denied", "WORDS", "Deed", "NumberDeed", "WordDeed", "NotDeed", "FreshDeed", "GetDeed", "PutDeed", "TellDeed", "deed_of", "WorkError", "NoInputs", "LEAST", "GREATEST", "is_between", "Going", "need_inputs", "gone", "_law_cell_at", "_law_mixed", "_law_state", "_law_next", "_law_new"]
def lo1 : List PySem.Str := ["_law_number", "_law_pick", "_law_bear", "_law_rows", "_law_sure", "_law_block", "_law_args", "_law_stand", "_law_sizes", "_law_choice", "_law_loop", "_law_call", "_law_parts", "_law_graph", "_law_ways", "_law_seen", "_law_turned", "_law_works", "_law_wrapped", "_law_reckoned", "_law_do", "_law_do_rows", "_law_goes", "_law_go", "_law_gone", "_law_inputs"]
def lo : List PySem.Str := lo0 ++ lo1
theorem run (w : World) : HandSHeadRun.RunEq R (PySem.W.view R.prog [62]) hk ob 9000 lo w := by
  intro os
  kernel_rfl
theorem top_of {K : PySem.W.Frag} {h : Heap} {mg : Str → Option Value} (X : K.In h) (G : h.Ns mainGlobals mg) (c : SaysE fa fn exB K) : Nonempty (Top K mg) := by
  obtain ⟨fd0, F0⟩ := c.1.def_ 0 (d := d_wrapped) rfl
  obtain ⟨fd1, F1⟩ := c.1.def_ 1 (d := d_divided) rfl
  obtain ⟨fd2, F2⟩ := c.1.def_ 2 (d := d_reckoned) rfl
  obtain ⟨fd3, F3⟩ := c.1.def_ 3 (d := d_denied) rfl
  obtain ⟨fd4, F4⟩ := c.1.def_ 4 (d := d_Deed___init__) rfl
  obtain ⟨fd5, F5⟩ := c.1.def_ 5 (d := d_NumberDeed_play) rfl
  obtain ⟨fd6, F6⟩ := c.1.def_ 6 (d := d_WordDeed_play) rfl
  obtain ⟨fd7, F7⟩ := c.1.def_ 7 (d := d_NotDeed_play) rfl
  obtain ⟨fd8, F8⟩ := c.1.def_ 8 (d := d_FreshDeed_play) rfl
  obtain ⟨fd9, F9⟩ := c.1.def_ 9 (d := d_GetDeed_play) rfl
  obtain ⟨fd10, F10⟩ := c.1.def_ 10 (d := d_PutDeed_play) rfl
  obtain ⟨fd11, F11⟩ := c.1.def_ 11 (d := d_TellDeed_play) rfl
  obtain ⟨fd12, F12⟩ := c.1.def_ 12 (d := d_deed_of) rfl
  obtain ⟨fd13, F13⟩ := c.1.def_ 13 (d := d_is_between) rfl
  obtain ⟨fd14, F14⟩ := c.1.def_ 14 (d := d_Going___init__) rfl
  obtain ⟨fd15, F15⟩ := c.1.def_ 15 (d := d_Going_step) rfl
  obtain ⟨fd16, F16⟩ := c.1.def_ 16 (d := d_Going_enter) rfl
  obtain ⟨fd17, F17⟩ := c.1.def_ 17 (d := d_Going_lead) rfl
  obtain ⟨fd18, F18⟩ := c.1.def_ 18 (d := d_Going_back) rfl
  obtain ⟨fd19, F19⟩ := c.1.def_ 19 (d := d_Going_do_rows) rfl
  obtain ⟨fd20, F20⟩ := c.1.def_ 20 (d := d_Going_do_end) rfl
  obtain ⟨fd21, F21⟩ := c.1.def_ 21 (d := d_Going_go) rfl
  obtain ⟨fd22, F22⟩ := c.1.def_ 22 (d := d_need_inputs) rfl
  obtain ⟨fd23, F23⟩ := c.1.def_ 23 (d := d_gone) rfl
  obtain ⟨fd24, F24⟩ := c.1.def_ 24 (d := d__law_cell_at) rfl
  obtain ⟨fd25, F25⟩ := c.1.def_ 25 (d := d__law_mixed) rfl
  obtain ⟨fd26, F26⟩ := c.1.def_ 26 (d := d__law_state) rfl
  obtain ⟨fd27, F27⟩ := c.1.def_ 27 (d := d__law_next) rfl
  obtain ⟨fd28, F28⟩ := c.1.def_ 28 (d := d__law_new) rfl
  obtain ⟨fd29, F29⟩ := c.1.def_ 29 (d := d__law_number) rfl
  obtain ⟨fd30, F30⟩ := c.1.def_ 30 (d := d__law_pick) rfl
  obtain ⟨fd31, F31⟩ := c.1.def_ 31 (d := d__law_bear) rfl
  obtain ⟨fd32, F32⟩ := c.1.def_ 32 (d := d__law_rows) rfl
  obtain ⟨fd33, F33⟩ := c.1.def_ 33 (d := d__law_sure) rfl
  obtain ⟨fd34, F34⟩ := c.1.def_ 34 (d := d__law_block) rfl
  obtain ⟨fd35, F35⟩ := c.1.def_ 35 (d := d__law_args) rfl
  obtain ⟨fd36, F36⟩ := c.1.def_ 36 (d := d__law_stand) rfl
  obtain ⟨fd37, F37⟩ := c.1.def_ 37 (d := d__law_sizes) rfl
  obtain ⟨fd38, F38⟩ := c.1.def_ 38 (d := d__law_choice) rfl
  obtain ⟨fd39, F39⟩ := c.1.def_ 39 (d := d__law_loop) rfl
  obtain ⟨fd40, F40⟩ := c.1.def_ 40 (d := d__law_call) rfl
  obtain ⟨fd41, F41⟩ := c.1.def_ 41 (d := d__law_parts) rfl
  obtain ⟨fd42, F42⟩ := c.1.def_ 42 (d := d__law_graph) rfl
  obtain ⟨fd43, F43⟩ := c.1.def_ 43 (d := d__law_ways) rfl
  obtain ⟨fd44, F44⟩ := c.1.def_ 44 (d := d__law_seen) rfl
  obtain ⟨fd45, F45⟩ := c.1.def_ 45 (d := d__law_turned) rfl
  obtain ⟨fd46, F46⟩ := c.1.def_ 46 (d := d__law_works) rfl
  obtain ⟨fd47, F47⟩ := c.1.def_ 47 (d := d__law_wrapped) rfl
  obtain ⟨fd48, F48⟩ := c.1.def_ 48 (d := d__law_reckoned) rfl
  obtain ⟨fd49, F49⟩ := c.1.def_ 49 (d := d__law_do) rfl
  obtain ⟨fd50, F50⟩ := c.1.def_ 50 (d := d__law_do_rows) rfl
  obtain ⟨fd51, F51⟩ := c.1.def_ 51 (d := d__law_goes) rfl
  obtain ⟨fd52, F52⟩ := c.1.def_ 52 (d := d__law_go) rfl
  obtain ⟨fd53, F53⟩ := c.1.def_ 53 (d := d__law_gone) rfl
  obtain ⟨fd54, F54⟩ := c.1.def_ 54 (d := d__law_inputs) rfl
  obtain ⟨fd55, F55⟩ := c.1.def_ 55 (d := d_law) rfl
  obtain ⟨tk_HALF, ck_HALF⟩ := He.int_ok X G (c.1.fact 108 (f := .int "HALF" (2147483648)) rfl)
  obtain ⟨tk_ROUND, ck_ROUND⟩ := He.int_ok X G (c.1.fact 109 (f := .int "ROUND" (4294967296)) rfl)
  obtain ⟨tk_LEAST, ck_LEAST⟩ := He.int_ok X G (c.1.fact 111 (f := .int "LEAST" ((-2147483648))) rfl)
  obtain ⟨tk_GREATEST, ck_GREATEST⟩ := He.int_ok X G (c.1.fact 112 (f := .int "GREATEST" (2147483647)) rfl)
  have hx := c.2
  obtain ⟨hx0, hy0⟩ := He.ba (show (He.tupB K "WORDS" [.str "add", .str "sub", .str "mul", .str "div", .str "rem", .str "less", .str "same"] && _) = true from hx)
  obtain ⟨hx1, hy1⟩ := He.ba (show (inhB K true "NumberDeed" "__init__" "Deed" && _) = true from hy0)
  obtain ⟨hx2, hy2⟩ := He.ba (show (inhB K true "WordDeed" "__init__" "Deed" && _) = true from hy1)
  obtain ⟨hx3, hy3⟩ := He.ba (show (inhB K true "NotDeed" "__init__" "Deed" && _) = true from hy2)
  obtain ⟨hx4, hy4⟩ := He.ba (show (inhB K true "FreshDeed" "__init__" "Deed" && _) = true from hy3)
  obtain ⟨hx5, hy5⟩ := He.ba (show (inhB K true "GetDeed" "__init__" "Deed" && _) = true from hy4)
  obtain ⟨hx6, hy6⟩ := He.ba (show (inhB K true "PutDeed" "__init__" "Deed" && _) = true from hy5)
  have hx7 : (inhB K true "TellDeed" "__init__" "Deed") = true := hy6
  exact ⟨{ fd_wrapped := fd0, F_wrapped := F0, b_wrapped := FunD.bindsN F0 fun _ _ _ _ _ _ us hl => (match us, hl with | [_], _ => rfl), g_wrapped := He.glo_ok X G (c.1.fact 0 (f := .glo "wrapped") rfl), fd_divided := fd1, F_divided := F1, b_divided := FunD.bindsN F1 fun _ _ _ _ _ _ us hl => (match us, hl with | [_, _, _], _ => rfl), g_divided := He.glo_ok X G (c.1.fact 1 (f := .glo "divided") rfl), fd_reckoned := fd2, F_reckoned := F2, b_reckoned := FunD.bindsN F2 fun _ _ _ _ _ _ us hl => (match us, hl with | [_, _, _], _ => rfl), g_reckoned := He.glo_ok X G (c.1.fact 2 (f := .glo "reckoned") rfl), fd_denied := fd3, F_denied := F3, b_denied := FunD.bindsN F3 fun _ _ _ _ _ _ us hl => (match us, hl with | [_], _ => rfl), g_denied := He.glo_ok X G (c.1.fact 3 (f := .glo "denied") rfl), fd_Deed___init__ := fd4, F_Deed___init__ := F4, b_Deed___init__ := FunD.bindsN F4 fun _ _ _ _ _ _ us hl => (match us, hl with | [_, _], _ => rfl), me_Deed___init__ := He.meth_ok (c.1.fact 4 (f := .meth "Deed" "__init__") rfl), fd_NumberDeed_play := fd5, F_NumberDeed_play := F5, b_NumberDeed_play := FunD.bindsN F5 fun _ _ _ _ _ _ us hl => (match us, hl with | [_, _], _ => rfl), me_NumberDeed_play := He.meth_ok (c.1.fact 5 (f := .meth "NumberDeed" "play") rfl), fd_WordDeed_play := fd6, F_WordDeed_play := F6, b_WordDeed_play := FunD.bindsN F6 fun _ _ _ _ _ _ us hl => (match us, hl with | [_, _], _ => rfl), me_WordDeed_play := He.meth_ok (c.1.fact 6 (f := .meth "WordDeed" "play") rfl), fd_NotDeed_play := fd7, F_NotDeed_play := F7, b_NotDeed_play := FunD.bindsN F7 fun _ _ _ _ _ _ us hl => (match us, hl with | [_, _], _ => rfl), me_NotDeed_play := He.meth_ok (c.1.fact 7 (f := .meth "NotDeed" "play") rfl), fd_FreshDeed_play := fd8, F_FreshDeed_play := F8, b_FreshDeed_play := FunD.bindsN F8 fun _ _ _ _ _ _ us hl => (match us, hl with | [_, _], _ => rfl), me_FreshDeed_play := He.meth_ok (c.1.fact 8 (f := .meth "FreshDeed" "play") rfl), fd_GetDeed_play := fd9, F_GetDeed_play := F9, b_GetDeed_play := FunD.bindsN F9 fun _ _ _ _ _ _ us hl => (match us, hl with | [_, _], _ => rfl), me_GetDeed_play := He.meth_ok (c.1.fact 9 (f := .meth "GetDeed" "play") rfl), fd_PutDeed_play := fd10, F_PutDeed_play := F10, b_PutDeed_play := FunD.bindsN F10 fun _ _ _ _ _ _ us hl => (match us, hl with | [_, _], _ => rfl), me_PutDeed_play := He.meth_ok (c.1.fact 10 (f := .meth "PutDeed" "play") rfl), fd_TellDeed_play := fd11, F_TellDeed_play := F11, b_TellDeed_play := FunD.bindsN F11 fun _ _ _ _ _ _ us hl => (match us, hl with | [_, _], _ => rfl), me_TellDeed_play := He.meth_ok (c.1.fact 11 (f := .meth "TellDeed" "play") rfl), fd_deed_of := fd12, F_deed_of := F12, b_deed_of := FunD.bindsN F12 fun _ _ _ _ _ _ us hl => (match us, hl with | [_], _ => rfl), g_deed_of := He.glo_ok X G (c.1.fact 12 (f := .glo "deed_of") rfl), fd_is_between := fd13, F_is_between := F13, b_is_between := FunD.bindsN F13 fun _ _ _ _ _ _ us hl => (match us, hl with | [_, _, _], _ => rfl), g_is_between := He.glo_ok X G (c.1.fact 13 (f := .glo "is_between") rfl), fd_Going___init__ := fd14, F_Going___init__ := F14, b_Going___init__ := FunD.bindsN F14 fun _ _ _ _ _ _ us hl => (match us, hl with | [_, _, _], _ => rfl), me_Going___init__ := He.meth_ok (c.1.fact 14 (f := .meth "Going" "__init__") rfl), fd_Going_step := fd15, F_Going_step := F15, b_Going_step := FunD.bindsN F15 fun _ _ _ _ _ _ us hl => (match us, hl with | [_], _ => rfl), me_Going_step := He.meth_ok (c.1.fact 15 (f := .meth "Going" "step") rfl), fd_Going_enter := fd16, F_Going_enter := F16, b_Going_enter := FunD.bindsN F16 fun _ _ _ _ _ _ us hl => (match us, hl with | [_, _, _], _ => rfl), me_Going_enter := He.meth_ok (c.1.fact 16 (f := .meth "Going" "enter") rfl), fd_Going_lead := fd17, F_Going_lead := F17, b_Going_lead := FunD.bindsN F17 fun _ _ _ _ _ _ us hl => (match us, hl with | [_, _, _], _ => rfl), me_Going_lead := He.meth_ok (c.1.fact 17 (f := .meth "Going" "lead") rfl), fd_Going_back := fd18, F_Going_back := F18, b_Going_back := FunD.bindsN F18 fun _ _ _ _ _ _ us hl => (match us, hl with | [_, _], _ => rfl), me_Going_back := He.meth_ok (c.1.fact 18 (f := .meth "Going" "back") rfl), fd_Going_do_rows := fd19, F_Going_do_rows := F19, b_Going_do_rows := FunD.bindsN F19 fun _ _ _ _ _ _ us hl => (match us, hl with | [_, _, _], _ => rfl), me_Going_do_rows := He.meth_ok (c.1.fact 19 (f := .meth "Going" "do_rows") rfl), fd_Going_do_end := fd20, F_Going_do_end := F20, b_Going_do_end := FunD.bindsN F20 fun _ _ _ _ _ _ us hl => (match us, hl with | [_, _, _], _ => rfl), me_Going_do_end := He.meth_ok (c.1.fact 20 (f := .meth "Going" "do_end") rfl), fd_Going_go := fd21, F_Going_go := F21, b_Going_go := FunD.bindsN F21 fun _ _ _ _ _ _ us hl => (match us, hl with | [_], _ => rfl), me_Going_go := He.meth_ok (c.1.fact 21 (f := .meth "Going" "go") rfl), fd_need_inputs := fd22, F_need_inputs := F22, b_need_inputs := FunD.bindsN F22 fun _ _ _ _ _ _ us hl => (match us, hl with | [_, _], _ => rfl), g_need_inputs := He.glo_ok X G (c.1.fact 22 (f := .glo "need_inputs") rfl), fd_gone := fd23, F_gone := F23, b2_gone := FunD.binds1 F23 2 0 (by simp [He.DefD.dvs, d_gone]) rfl fun _ _ _ _ _ _ _ us its hu hi => (match us, hu, its, hi with | [_, _], _, [_], _ => ⟨_, rfl, rfl⟩), b_gone := FunD.binds1 F23 3 1 (by simp [He.DefD.dvs, d_gone]) rfl fun _ _ _ _ _ _ _ us its hu hi => (match us, hu, its, hi with | [_, _, _], _, [_], _ => ⟨_, rfl, rfl⟩), g_gone := He.glo_ok X G (c.1.fact 23 (f := .glo "gone") rfl), fd__law_cell_at := fd24, F__law_cell_at := F24, b__law_cell_at := FunD.bindsN F24 fun _ _ _ _ _ _ us hl => (match us, hl with | [_, _], _ => rfl), g__law_cell_at := He.glo_ok X G (c.1.fact 24 (f := .glo "_law_cell_at") rfl), fd__law_mixed := fd25, F__law_mixed := F25, b__law_mixed := FunD.bindsN F25 fun _ _ _ _ _ _ us hl => (match us, hl with | [_, _], _ => rfl), g__law_mixed := He.glo_ok X G (c.1.fact 25 (f := .glo "_law_mixed") rfl), fd__law_state := fd26, F__law_state := F26, b__law_state := FunD.bindsN F26 fun _ _ _ _ _ _ us hl => (match us, hl with | [_, _], _ => rfl), g__law_state := He.glo_ok X G (c.1.fact 26 (f := .glo "_law_state") rfl), fd__law_next := fd27, F__law_next := F27, b__law_next := FunD.bindsN F27 fun _ _ _ _ _ _ us hl => (match us, hl with | [_, _], _ => rfl), g__law_next := He.glo_ok X G (c.1.fact 27 (f := .glo "_law_next") rfl), fd__law_new := fd28, F__law_new := F28, b__law_new := FunD.bindsN F28 fun _ _ _ _ _ _ us hl => (match us, hl with | [_], _ => rfl), g__law_new := He.glo_ok X G (c.1.fact 28 (f := .glo "_law_new") rfl), fd__law_number := fd29, F__law_number := F29, b__law_number := FunD.bindsN F29 fun _ _ _ _ _ _ us hl => (match us, hl with | [_], _ => rfl), g__law_number := He.glo_ok X G (c.1.fact 29 (f := .glo "_law_number") rfl), fd__law_pick := fd30, F__law_pick := F30, b__law_pick := FunD.bindsN F30 fun _ _ _ _ _ _ us hl => (match us, hl with | [_, _], _ => rfl), g__law_pick := He.glo_ok X G (c.1.fact 30 (f := .glo "_law_pick") rfl), fd__law_bear := fd31, F__law_bear := F31, b__law_bear := FunD.bindsN F31 fun _ _ _ _ _ _ us hl => (match us, hl with | [_, _], _ => rfl), g__law_bear := He.glo_ok X G (c.1.fact 31 (f := .glo "_law_bear") rfl), fd__law_rows := fd32, F__law_rows := F32, b__law_rows := FunD.bindsN F32 fun _ _ _ _ _ _ us hl => (match us, hl with | [_, _], _ => rfl), g__law_rows := He.glo_ok X G (c.1.fact 32 (f := .glo "_law_rows") rfl), fd__law_sure := fd33, F__law_sure := F33, b__law_sure := FunD.bindsN F33 fun _ _ _ _ _ _ us hl => (match us, hl with | [_], _ => rfl), g__law_sure := He.glo_ok X G (c.1.fact 33 (f := .glo "_law_sure") rfl), fd__law_block := fd34, F__law_block := F34, b__law_block := FunD.bindsN F34 fun _ _ _ _ _ _ us hl => (match us, hl with | [_, _], _ => rfl), g__law_block := He.glo_ok X G (c.1.fact 34 (f := .glo "_law_block") rfl), fd__law_args := fd35, F__law_args := F35, b__law_args := FunD.bindsN F35 fun _ _ _ _ _ _ us hl => (match us, hl with | [_, _], _ => rfl), g__law_args := He.glo_ok X G (c.1.fact 35 (f := .glo "_law_args") rfl), fd__law_stand := fd36, F__law_stand := F36, b__law_stand := FunD.bindsN F36 fun _ _ _ _ _ _ us hl => (match us, hl with | [_, _, _], _ => rfl), g__law_stand := He.glo_ok X G (c.1.fact 36 (f := .glo "_law_stand") rfl), fd__law_sizes := fd37, F__law_sizes := F37, b__law_sizes := FunD.bindsN F37 fun _ _ _ _ _ _ us hl => (match us, hl with | [_], _ => rfl), g__law_sizes := He.glo_ok X G (c.1.fact 37 (f := .glo "_law_sizes") rfl), fd__law_choice := fd38, F__law_choice := F38, b__law_choice := FunD.bindsN F38 fun _ _ _ _ _ _ us hl => (match us, hl with | [_, _], _ => rfl), g__law_choice := He.glo_ok X G (c.1.fact 38 (f := .glo "_law_choice") rfl), fd__law_loop := fd39, F__law_loop := F39, b__law_loop := FunD.bindsN F39 fun _ _ _ _ _ _ us hl => (match us, hl with | [_, _], _ => rfl), g__law_loop := He.glo_ok X G (c.1.fact 39 (f := .glo "_law_loop") rfl), fd__law_call := fd40, F__law_call := F40, b__law_call := FunD.bindsN F40 fun _ _ _ _ _ _ us hl => (match us, hl with | [_], _ => rfl), g__law_call := He.glo_ok X G (c.1.fact 40 (f := .glo "_law_call") rfl), fd__law_parts := fd41, F__law_parts := F41, b__law_parts := FunD.bindsN F41 fun _ _ _ _ _ _ us hl => (match us, hl with | [_, _, _], _ => rfl), g__law_parts := He.glo_ok X G (c.1.fact 41 (f := .glo "_law_parts") rfl), fd__law_graph := fd42, F__law_graph := F42, b__law_graph := FunD.bindsN F42 fun _ _ _ _ _ _ us hl => (match us, hl with | [_, _, _, _], _ => rfl), g__law_graph := He.glo_ok X G (c.1.fact 42 (f := .glo "_law_graph") rfl), fd__law_ways := fd43, F__law_ways := F43, b__law_ways := FunD.bindsN F43 fun _ _ _ _ _ _ us hl => (match us, hl with | [_], _ => rfl), g__law_ways := He.glo_ok X G (c.1.fact 43 (f := .glo "_law_ways") rfl), fd__law_seen := fd44, F__law_seen := F44, b__law_seen := FunD.bindsN F44 fun _ _ _ _ _ _ us hl => (match us, hl with | [_, _], _ => rfl), g__law_seen := He.glo_ok X G (c.1.fact 44 (f := .glo "_law_seen") rfl), fd__law_turned := fd45, F__law_turned := F45, b__law_turned := FunD.bindsN F45 fun _ _ _ _ _ _ us hl => (match us, hl with | [_, _], _ => rfl), g__law_turned := He.glo_ok X G (c.1.fact 45 (f := .glo "_law_turned") rfl), fd__law_works := fd46, F__law_works := F46, b__law_works := FunD.bindsN F46 fun _ _ _ _ _ _ us hl => (match us, hl with | [_, _], _ => rfl), g__law_works := He.glo_ok X G (c.1.fact 46 (f := .glo "_law_works") rfl), fd__law_wrapped := fd47, F__law_wrapped := F47, b__law_wrapped := FunD.bindsN F47 fun _ _ _ _ _ _ us hl => (match us, hl with | [_], _ => rfl), g__law_wrapped := He.glo_ok X G (c.1.fact 47 (f := .glo "_law_wrapped") rfl), fd__law_reckoned := fd48, F__law_reckoned := F48, b__law_reckoned := FunD.bindsN F48 fun _ _ _ _ _ _ us hl => (match us, hl with | [_, _, _], _ => rfl), g__law_reckoned := He.glo_ok X G (c.1.fact 48 (f := .glo "_law_reckoned") rfl), fd__law_do := fd49, F__law_do := F49, b__law_do := FunD.bindsN F49 fun _ _ _ _ _ _ us hl => (match us, hl with | [_, _], _ => rfl), g__law_do := He.glo_ok X G (c.1.fact 49 (f := .glo "_law_do") rfl), fd__law_do_rows := fd50, F__law_do_rows := F50, b__law_do_rows := FunD.bindsN F50 fun _ _ _ _ _ _ us hl => (match us, hl with | [_, _, _], _ => rfl), g__law_do_rows := He.glo_ok X G (c.1.fact 50 (f := .glo "_law_do_rows") rfl), fd__law_goes := fd51, F__law_goes := F51, b__law_goes := FunD.bindsN F51 fun _ _ _ _ _ _ us hl => (match us, hl with | [_, _, _, _], _ => rfl), g__law_goes := He.glo_ok X G (c.1.fact 51 (f := .glo "_law_goes") rfl), fd__law_go := fd52, F__law_go := F52, b__law_go := FunD.bindsN F52 fun _ _ _ _ _ _ us hl => (match us, hl with | [_, _, _, _], _ => rfl), g__law_go := He.glo_ok X G (c.1.fact 52 (f := .glo "_law_go") rfl), fd__law_gone := fd53, F__law_gone := F53, b__law_gone := FunD.bindsN F53 fun _ _ _ _ _ _ us hl => (match us, hl with | [_, _, _], _ => rfl), g__law_gone := He.glo_ok X G (c.1.fact 53 (f := .glo "_law_gone") rfl), fd__law_inputs := fd54, F__law_inputs := F54, b__law_inputs := FunD.bindsN F54 fun _ _ _ _ _ _ us hl => (match us, hl with | [_, _, _], _ => rfl), g__law_inputs := He.glo_ok X G (c.1.fact 54 (f := .glo "_law_inputs") rfl), fd_law := fd55, F_law := F55, b_law := FunD.bindsN F55 fun _ _ _ _ _ _ us hl => (match us, hl with | [_], _ => rfl), g_law := He.glo_ok X G (c.1.fact 55 (f := .glo "law") rfl), g_Deed := He.glo_ok X G (c.1.fact 56 (f := .glo "Deed") rfl), cl_Deed := He.cls_ok (c.1.fact 57 (f := .cls "Deed") rfl), no_Deed_row := He.noat_ok (c.1.fact 58 (f := .noat "Deed" "row") rfl), mk_Deed := He.mkr_ok (c.1.fact 59 (f := .mkr "Deed") rfl), g_NumberDeed := He.glo_ok X G (c.1.fact 60 (f := .glo "NumberDeed") rfl), cl_NumberDeed := He.cls_ok (c.1.fact 61 (f := .cls "NumberDeed") rfl), mk_NumberDeed := inhB_mk hx1, no_NumberDeed_row := He.noat_ok (c.1.fact 62 (f := .noat "NumberDeed" "row") rfl), g_WordDeed := He.glo_ok X G (c.1.fact 63 (f := .glo "WordDeed") rfl), cl_WordDeed := He.cls_ok (c.1.fact 64 (f := .cls "WordDeed") rfl), mk_WordDeed := inhB_mk hx2, no_WordDeed_row := He.noat_ok (c.1.fact 65 (f := .noat "WordDeed" "row") rfl), g_NotDeed := He.glo_ok X G (c.1.fact 66 (f := .glo "NotDeed") rfl), cl_NotDeed := He.cls_ok (c.1.fact 67 (f := .cls "NotDeed") rfl), mk_NotDeed := inhB_mk hx3, no_NotDeed_row := He.noat_ok (c.1.fact 68 (f := .noat "NotDeed" "row") rfl), g_FreshDeed := He.glo_ok X G (c.1.fact 69 (f := .glo "FreshDeed") rfl), cl_FreshDeed := He.cls_ok (c.1.fact 70 (f := .cls "FreshDeed") rfl), mk_FreshDeed := inhB_mk hx4, no_FreshDeed_row := He.noat_ok (c.1.fact 71 (f := .noat "FreshDeed" "row") rfl), g_GetDeed := He.glo_ok X G (c.1.fact 72 (f := .glo "GetDeed") rfl), cl_GetDeed := He.cls_ok (c.1.fact 73 (f := .cls "GetDeed") rfl), mk_GetDeed := inhB_mk hx5, no_GetDeed_row := He.noat_ok (c.1.fact 74 (f := .noat "GetDeed" "row") rfl), g_PutDeed := He.glo_ok X G (c.1.fact 75 (f := .glo "PutDeed") rfl), cl_PutDeed := He.cls_ok (c.1.fact 76 (f := .cls "PutDeed") rfl), mk_PutDeed := inhB_mk hx6, no_PutDeed_row := He.noat_ok (c.1.fact 77 (f := .noat "PutDeed" "row") rfl), g_TellDeed := He.glo_ok X G (c.1.fact 78 (f := .glo "TellDeed") rfl), cl_TellDeed := He.cls_ok (c.1.fact 79 (f := .cls "TellDeed") rfl), mk_TellDeed := inhB_mk hx7, no_TellDeed_row := He.noat_ok (c.1.fact 80 (f := .noat "TellDeed" "row") rfl), g_WorkError := He.glo_ok X G (c.1.fact 81 (f := .glo "WorkError") rfl), x_WorkError := He.exc_ok (c.1.fact 82 (f := .exc "WorkError") rfl), g_NoInputs := He.glo_ok X G (c.1.fact 83 (f := .glo "NoInputs") rfl), x_NoInputs := He.exc_ok (c.1.fact 84 (f := .exc "NoInputs") rfl), g_Going := He.glo_ok X G (c.1.fact 85 (f := .glo "Going") rfl), cl_Going := He.cls_ok (c.1.fact 86 (f := .cls "Going") rfl), no_Going_helpers := He.noat_ok (c.1.fact 87 (f := .noat "Going" "helpers") rfl), no_Going_most := He.noat_ok (c.1.fact 88 (f := .noat "Going" "most") rfl), no_Going_many := He.noat_ok (c.1.fact 89 (f := .noat "Going" "many") rfl), no_Going_told := He.noat_ok (c.1.fact 90 (f := .noat "Going" "told") rfl), no_Going_frames := He.noat_ok (c.1.fact 91 (f := .noat "Going" "frames") rfl), no_Going_ended := He.noat_ok (c.1.fact 92 (f := .noat "Going" "ended") rfl), mk_Going := He.mkr_ok (c.1.fact 93 (f := .mkr "Going") rfl), m_all := He.free_ok X G (c.1.fact 94 (f := .free "all") rfl), m_bool := He.free_ok X G (c.1.fact 95 (f := .free "bool") rfl), m_dict := He.free_ok X G (c.1.fact 96 (f := .free "dict") rfl), m_divmod := He.free_ok X G (c.1.fact 97 (f := .free "divmod") rfl), m_int := He.free_ok X G (c.1.fact 98 (f := .free "int") rfl), m_isinstance := He.free_ok X G (c.1.fact 99 (f := .free "isinstance") rfl), m_len := He.free_ok X G (c.1.fact 100 (f := .free "len") rfl), m_list := He.free_ok X G (c.1.fact 101 (f := .free "list") rfl), m_max := He.free_ok X G (c.1.fact 102 (f := .free "max") rfl), m_range := He.free_ok X G (c.1.fact 103 (f := .free "range") rfl), m_repr := He.free_ok X G (c.1.fact 104 (f := .free "repr") rfl), m_str := He.free_ok X G (c.1.fact 105 (f := .free "str") rfl), m_tuple := He.free_ok X G (c.1.fact 106 (f := .free "tuple") rfl), m_zip := He.free_ok X G (c.1.fact 107 (f := .free "zip") rfl), t_HALF := tk_HALF, c_HALF := ck_HALF, t_ROUND := tk_ROUND, c_ROUND := ck_ROUND, c_WORDS := He.glo_ok X G (c.1.fact 110 (f := .glo "WORDS") rfl), q_WORDS := He.tupB_ok hx0, t_LEAST := tk_LEAST, c_LEAST := ck_LEAST, t_GREATEST := tk_GREATEST, c_GREATEST := ck_GREATEST }⟩
theorem law_binds {K : PySem.W.Frag} {mg : Str → Option Value} (T : Top K mg) (s : Shared) (u : Value) : BindsTo s T.fd_law ⟨[u], []⟩ [("_law_script", u)] :=
  FunD.bindsA (ps := ["_law_script"]) T.F_law (fun _ _ _ _ _ _ us hl => (match us, hl with | [_], _ => rfl)) s [u] rfl
/-! data without lists stays -/
mutual
def nLd : PyData → Bool
  | .list _ => false
  | .dict _ => false
  | .tuple xs => nLs xs
  | .none => true
  | .bool _ => true
  | .int _ => true
  | .str _ => true
def nLs : List PyData → Bool
  | [] => true
  | x :: r => nLd x && nLs r
end
theorem sqT_kp {K : PySem.W.Frag} {S : Addr → Prop} {H H' : Hp} {a : Addr} {xs : List V} (k : Kp S H H') (h : SqT K H a xs) : SqT K H' a xs := by
  rcases h with (e | ⟨o, e⟩) | e
  · exact .inl (.inl (k _ _ e fun _ z => z))
  · exact .inl (.inr ⟨o, k _ _ e fun _ z => z⟩)
  · exact .inr e
mutual
theorem dp_kp {K : PySem.W.Frag} {S : Addr → Prop} {H H' : Hp} (k : Kp S H H') : ∀ (d : PyData) (v : V), nLd d = true → Dp K H v d → Dp K H' v d
  | .none, _, _, h => by cases h; exact .non
  | .bool b, _, _, h => by cases h; exact .bl b
  | .int i, _, _, h => by cases h; exact .int i
  | .str x, _, _, h => by cases h; exact .str x
  | .list _, _, n, _ => by cases n
  | .dict _, _, n, _ => by cases n
  | .tuple ds, _, n, h => by
    cases h with
    | tup hs ha => exact .tup (sqT_kp k hs) (dpAll_kp k ds _ n ha)
theorem dpAll_kp {K : PySem.W.Frag} {S : Addr → Prop} {H H' : Hp} (k : Kp S H H') : ∀ (ds : List PyData) (vs : List V), nLs ds = true → DpAll K H vs ds → DpAll K H' vs ds
  | [], _, _, h => by cases h; exact .nil
  | d :: ds, _, n, h => by
    have n2 : nLd d = true ∧ nLs ds = true := by
      unfold nLs at n
      exact Bool.and_eq_true_iff.mp n
    cases h with
    | cons h1 h2 => exact .cons (dp_kp k d _ n2.1 h1) (dpAll_kp k ds _ n2.2 h2)
end
section
variable {K : PySem.W.Frag} {H : Hp}
theorem dp_tup {v : V} {ds : List PyData} (h : Dp K H v (.tuple ds)) : ∃ a xs, v = .ref a ∧ SqT K H a xs ∧ DpAll K H xs ds := by
  cases h with
  | tup h1 h2 => exact ⟨_, _, rfl, h1, h2⟩
theorem dp_str {v : V} {z : Str} (h : Dp K H v (.str z)) : v = .str z := by cases h; rfl
theorem dp_int {v : V} {z : Int} (h : Dp K H v (.int z)) : v = .int z := by cases h; rfl
theorem dpAll_cons {vs : List V} {d : PyData} {ds : List PyData} (h : DpAll K H vs (d :: ds)) : ∃ v r, vs = v :: r ∧ Dp K H v d ∧ DpAll K H r ds := by
  cases h with
  | cons h1 h2 => exact ⟨_, _, rfl, h1, h2⟩
theorem dpAll_nil {vs : List V} (h : DpAll K H vs []) : vs = [] := by cases h; rfl
theorem dpAll_len : ∀ {vs : List V} {ds : List PyData}, DpAll K H vs ds → vs.length = ds.length
  | _, _, .nil => rfl
  | _, _, .cons _ t => by rw [List.length_cons, List.length_cons, dpAll_len t]
theorem dpAll_get : ∀ {vs : List V} {ds : List PyData} {i : Nat} {d : PyData}, DpAll K H vs ds → ds[i]? = some d → ∃ v, vs[i]? = some v ∧ Dp K H v d
  | _, _, _, _, .nil, e => by simp at e
  | _, _, 0, _, .cons h _, e => ⟨_, rfl, (Option.some.inj e) ▸ h⟩
  | _, _, i + 1, _, .cons _ t, e => dpAll_get (i := i) t e
theorem dpAll_getV : ∀ {vs : List V} {ds : List PyData} {i : Nat} {v : V}, DpAll K H vs ds → vs[i]? = some v → ∃ d, ds[i]? = some d ∧ Dp K H v d
  | _, _, _, _, .nil, e => by simp at e
  | _, _, 0, _, .cons h _, e => ⟨_, rfl, (Option.some.inj e) ▸ h⟩
  | _, _, i + 1, _, .cons _ t, e => dpAll_getV (i := i) t e
theorem dpAll_app : ∀ {vs ws : List V} {ds es : List PyData}, DpAll K H vs ds → DpAll K H ws es → DpAll K H (vs ++ ws) (ds ++ es)
  | _, _, _, _, .nil, s => s
  | _, _, _, _, .cons h t, s => .cons h (dpAll_app t s)
theorem dpAll_take : ∀ {vs : List V} {ds : List PyData} (n : Nat), DpAll K H vs ds → DpAll K H (vs.take n) (ds.take n)
  | _, _, 0, _ => .nil
  | _, _, _ + 1, .nil => .nil
  | _, _, n + 1, .cons h t => .cons h (dpAll_take n t)
theorem dpAll_drop : ∀ {vs : List V} {ds : List PyData} (n : Nat), DpAll K H vs ds → DpAll K H (vs.drop n) (ds.drop n)
  | _, _, 0, h => h
  | _, _, _ + 1, .nil => .nil
  | _, _, n + 1, .cons _ t => dpAll_drop n t
theorem dpAll_strs : ∀ {vs : List V} {zs : List Str}, DpAll K H vs (zs.map PyData.str) → vs = zs.map V.str
  | _, [], h => dpAll_nil h
  | _, z :: zs, h => by
    obtain ⟨v, r, rfl, h1, h2⟩ := dpAll_cons h
    rw [dp_str h1, dpAll_strs h2]
    rfl
theorem strs_dpAll : ∀ (zs : List Str), DpAll K H (zs.map V.str) (zs.map PyData.str)
  | [] => .nil
  | z :: zs => .cons (.str z) (strs_dpAll zs)
end

section
variable {P : Program} {w : World} {K : PySem.W.Frag} {mg : Str → Option Value} {base : Heap}
def isB : PyData → Bool
  | .bool _ => true
  | _ => false
def tyS : PyData → String
  | .none => "NoneType"
  | .bool _ => "bool"
  | .int _ => "int"
  | .str _ => "str"
  | .list _ => "list"
  | .tuple _ => "tuple"
  | .dict _ => "dict"
theorem ty_lst {H : Hp} {a : Addr} {xs : List V} (h : SqL K H a xs) : TyX K H (.ref a) (.type "list") := by
  rcases h with (h | ⟨ob, h⟩) | ⟨o, its, n, hk, hc, _⟩
  · exact .base (.lst h)
  · exact .base (.frz h)
  · exact .kList hk hc
theorem ty_tup {H : Hp} {a : Addr} {xs : List V} (h : SqT K H a xs) : TyX K H (.ref a) (.type "tuple") := by
  rcases h with (h | ⟨ob, h⟩) | ⟨o, its, n, hk, hc, _⟩
  · exact .base (.tup h)
  · exact .fTuple h
  · exact .kTuple hk hc
theorem dp_ty {H : Hp} {v : V} {d : PyData} (h : Dp K H v d) : TyX K H v (.type (tyS d)) := by
  cases h with
  | non => exact .base .non
  | bl b => exact .base (.bl b)
  | int i => exact .base (.int i)
  | str x => exact .base (.str x)
  | lst h _ => exact ty_lst h
  | tup h _ => exact ty_tup h
def isI : PyData → Bool
  | .int _ => true
  | .bool _ => true
  | _ => false
def isT : PyData → Bool
  | .tuple _ => true
  | _ => false
def isS : PyData → Bool
  | .str _ => true
  | _ => false
theorem kit_int : ∀ d : PyData, PySem.W.kitOne K (.type (tyS d)) (.type "int") = some (isI d)
  | .none => kit_ty (a := "NoneType") (b := "int") (r := false) (by decide +kernel)
  | .bool _ => kit_ty (a := "bool") (b := "int") (r := true) (by decide +kernel)
  | .int _ => kit_ty (a := "int") (b := "int") (r := true) (by decide +kernel)
  | .str _ => kit_ty (a := "str") (b := "int") (r := false) (by decide +kernel)
  | .list _ => kit_ty (a := "list") (b := "int") (r := false) (by decide +kernel)
  | .tuple _ => kit_ty (a := "tuple") (b := "int") (r := false) (by decide +kernel)
  | .dict _ => kit_ty (a := "dict") (b := "int") (r := false) (by decide +kernel)
theorem kit_bool : ∀ d : PyData, PySem.W.kitOne K (.type (tyS d)) (.type "bool") = some (isB d)
  | .none => kit_ty (a := "NoneType") (b := "bool") (r := false) (by decide +kernel)
  | .bool _ => kit_ty (a := "bool") (b := "bool") (r := true) (by decide +kernel)
  | .int _ => kit_ty (a := "int") (b := "bool") (r := false) (by decide +kernel)
  | .str _ => kit_ty (a := "str") (b := "bool") (r := false) (by decide +kernel)
  | .list _ => kit_ty (a := "list") (b := "bool") (r := false) (by decide +kernel)
  | .tuple _ => kit_ty (a := "tuple") (b := "bool") (r := false) (by decide +kernel)
  | .dict _ => kit_ty (a := "dict") (b := "bool") (r := false) (by decide +kernel)
theorem kit_tup : ∀ d : PyData, PySem.W.kitOne K (.type (tyS d)) (.type "tuple") = some (isT d)
  | .none => kit_ty (a := "NoneType") (b := "tuple") (r := false) (by decide +kernel)
  | .bool _ => kit_ty (a := "bool") (b := "tuple") (r := false) (by decide +kernel)
  | .int _ => kit_ty (a := "int") (b := "tuple") (r := false) (by decide +kernel)
  | .str _ => kit_ty (a := "str") (b := "tuple") (r := false) (by decide +kernel)
  | .list _ => kit_ty (a := "list") (b := "tuple") (r := false) (by decide +kernel)
  | .tuple _ => kit_ty (a := "tuple") (b := "tuple") (r := true) (by decide +kernel)
  | .dict _ => kit_ty (a := "dict") (b := "tuple") (r := false) (by decide +kernel)
theorem kit_str : ∀ d : PyData, PySem.W.kitOne K (.type (tyS d)) (.type "str") = some (isS d)
  | .none => kit_ty (a := "NoneType") (b := "str") (r := false) (by decide +kernel)
  | .bool _ => kit_ty (a := "bool") (b := "str") (r := false) (by decide +kernel)
  | .int _ => kit_ty (a := "int") (b := "str") (r := false) (by decide +kernel)
  | .str _ => kit_ty (a := "str") (b := "str") (r := true) (by decide +kernel)
  | .list _ => kit_ty (a := "list") (b := "str") (r := false) (by decide +kernel)
  | .tuple _ => kit_ty (a := "tuple") (b := "str") (r := false) (by decide +kernel)
  | .dict _ => kit_ty (a := "dict") (b := "str") (r := false) (by decide +kernel)
mutual
theorem dp_sm {H H' : Hp} (k : Same H H') : ∀ {v : V} {d : PyData}, Dp K H v d → Dp K H' v d
  | _, _, .non => .non
  | _, _, .bl b => .bl b
  | _, _, .int i => .int i
  | _, _, .str x => .str x
  | _, _, .lst h da => .lst (k.seq h) (dpAll_sm k da)
  | _, _, .tup h da => .tup (sqT_kp (Kp.of_same (S := fun _ => False) k) h) (dpAll_sm k da)
theorem dpAll_sm {H H' : Hp} (k : Same H H') : ∀ {vs : List V} {ds : List PyData}, DpAll K H vs ds → DpAll K H' vs ds
  | _, _, .nil => .nil
  | _, _, .cons h r => .cons (dp_sm k h) (dpAll_sm k r)
end
/-- a value != a shallow one -/
def rNeE (K : PySem.W.Frag) : R2 := fun x y H Q => ∃ d e, Dp K H x d ∧ Dp K H y e ∧ d.canLay0 = true ∧ e.canLay0 = true ∧ e.depth ≤ 64 ∧ Q (.bl (!PyData.eqv d e)) H
theorem op_neE {X : Cx} (hu : X.A.units + 64 < cLine) : OpR X (compareOp .NotEq) (rNeE X.K) := by
  intro pins s σ H x y v u Q I rx ry h
  obtain ⟨d, e, hd, he, sd, se, de, q⟩ := h
  obtain ⟨as, r1⟩ := Dp.reads I d x v hd rx
  obtain ⟨bs, r2⟩ := Dp.reads I e y u he ry
  refine SeqAt.compareNe_reads r1 r2 sd se ?_ ⟨.bl _, H, I, rfl, q⟩
  have : min d.depth e.depth ≤ e.depth := Nat.min_le_right _ _
  omega
theorem in_strs {z : Str} {ws : List Str} : inV (.str z) (ws.map V.str) = decide (z ∈ ws) := by
  unfold inV
  rw [List.any_map]
  by_cases h : z ∈ ws
  · rw [decide_eq_true h]
    refine List.any_eq_true.mpr ⟨z, h, ?_⟩
    show (z == z) = true
    exact beq_self_eq_true z
  · rw [decide_eq_false h]
    refine List.any_eq_false.mpr fun x hx e => h ?_
    have e2 : (x == z) = true := e
    rw [← eq_of_beq e2]
    exact hx
theorem ifT {c : Bool} {A B : Prop} (hc : c = true) (h : A) : if c = true then A else B := by rw [if_pos hc]; exact h
theorem ifF {c : Bool} {A B : Prop} (hc : c = false) (h : B) : if c = true then A else B := by rw [if_neg (by rw [hc]; exact Bool.false_ne_true)]; exact h
theorem cd {i j : Int} (h0 : 0 < j) (h1 : j < 2 ^ 64) : CDivW i j := wide_div (b := 64) h0 (by omega) (by decide) (by decide)
theorem at_ints2 {ns : List Int} {i : Int} (h0 : 0 ≤ i) (h1 : i < ns.length) : ∃ z, atI (ns.map V.int) i = some (.int z) := ⟨_, at_ints h0 h1⟩
theorem strs_at {zs : List Str} {i : Int} (h0 : 0 ≤ i) (h1 : i < zs.length) : ∃ z ∈ zs, atI (zs.map V.str) i = some (.str z) := by
  obtain ⟨x, hx, e⟩ := at_list (ns := zs.map V.str) h0 (by rw [List.length_map]; exact h1)
  obtain ⟨z, hz, rfl⟩ := List.mem_map.mp hx
  exact ⟨z, hz, e⟩
def Scp (K : PySem.W.Frag) (H : Hp) (a : Addr) (ns : List Int) : Prop := ns.length ≤ 63 ∧ (∀ z ∈ ns, Builtin.Int.intBits z ≤ 1048576) ∧ SqL K H a (ns.map V.int)
theorem Scp.sm {H H' : Hp} {a : Addr} {ns : List Int} (h : Scp K H a ns) (k : Same H H') : Scp K H' a ns := ⟨h.1, h.2.1, k.seq h.2.2⟩
theorem same_upd {H H' : Hp} {D : Addr} {o : HO} (s : Same H H') (n : H D = none) : Same H (upd H' D o) := fun b x hb => by
  rw [upd_ne (ne_of_none hb n)]
  exact s _ _ hb
theorem tail_no {x : V} {zs : List V} : ¬ (HT.sIx (x :: zs).length 0 (some 1) = 0 ∧ HT.sIx (x :: zs).length (x :: zs).length none = (x :: zs).length) := by
  have e1 : HT.sIx (x :: zs).length 0 (some 1) = 1 := by
    show min 1 (zs.length + 1) = 1
    omega
  rw [e1]
  exact fun z => absurd z.1 (by decide)
theorem cut_tail {x : V} {zs : List V} : cutV (x :: zs) (some 1) none = zs := by
  have e1 : HT.sIx (x :: zs).length 0 (some 1) = 1 := by
    show min 1 (zs.length + 1) = 1
    omega
  have e2 : HT.sIx (x :: zs).length (x :: zs).length none = zs.length + 1 := rfl
  unfold cutV
  rw [e1, e2]
  simp
theorem sqT_sm {H H' : Hp} {a : Addr} {xs : List V} (s : Same H H') (h : SqT K H a xs) : SqT K H' a xs := sqT_kp (Kp.of_same (S := fun _ => False) s) h
end

/-! dict(zip(l, m)), l a list of numbers, m a list: own rule -/
namespace ZipM
open PySem PySem.Spec PyProof.Rows L2
def tDictZipI (K : PySem.W.Frag) (ta : TA) : TE := fun σ H Q => ta σ H fun vs H1 => ∃ (a b : Addr) (kvs : List (Int × V)), vs = [.ref a, .ref b] ∧ SqL K H1 a (kvs.map fun x => V.int x.1) ∧ SqL K H1 b (kvs.map (·.2)) ∧ kvs.length ≤ 1000 ∧ ∀ p, H1 p = none → Q (.ref p) (upd H1 p (.dK (mergeK [] (kvs.map fun x => (Sum.inl x.1, x.2)))))
theorem kv_ints : ∀ {kvs : List (Int × V)} {us ws : List Value}, Vals (kvs.map fun x => V.int x.1) us → Vals (kvs.map (·.2)) ws → ∃ prs : List (Key × Value), prs.length = kvs.length ∧ KV (kvs.map fun x => ((Sum.inl x.1 : Key), x.2)) prs ∧ us.length = kvs.length ∧ ws.length = kvs.length ∧ ∀ (i : Nat) (k v : Value), us[i]? = some k → ws[i]? = some v → ∃ k', prs[i]? = some (k', v) ∧ keyIs k' k = true
  | [], us, ws, h1, h2 => by
    cases h1
    cases h2
    exact ⟨[], rfl, .nil, rfl, rfl, fun i k v h => by cases h⟩
  | x :: r, _, _, .cons (b := u) h1 t1, .cons (b := v) h2 t2 => by
    obtain ⟨prs, l, kv, a1, a2, f⟩ := kv_ints t1 t2
    obtain ⟨t, rfl⟩ := h1
    refine ⟨(.inl x.1, v) :: prs, by rw [List.length_cons, l, List.length_cons], .cons ⟨rfl, h2⟩ kv, by rw [List.length_cons, a1, List.length_cons], by rw [List.length_cons, a2, List.length_cons], fun i k v' hk hv => ?_⟩
    cases i with
    | zero => cases hk; cases hv; exact ⟨_, rfl, keyIs_int _ _⟩
    | succ i => exact f i k v' hk hv
theorem pe_dictzipI {X : Cx} {e e2 : Expr} {ta : TA} {p p2 pos pos2 : Pos} (hc : X.calm = true) (hg : Gl X "dict") (hm : X.mg "dict" = none) (hg2 : Gl X "zip") (hm2 : X.mg "zip" = none) (ha : PA X [e, e2] ta)
    (hs : starEach [e, e2] X.env = (false, eval e X.env) :: starEach [e2] X.env := by rfl) (hpl : (backTo pos2 (starEach [e2] X.env)).any (·.1) = false := by rfl)
    (hs2 : starEach [.Call (.Name "zip" p2) [e, e2] [] pos2] X.env = (false, eval (.Call (.Name "zip" p2) [e, e2] [] pos2) X.env) :: starEach [] X.env := by rfl) :
    PE X (.Call (.Name "dict" p) [.Call (.Name "zip" p2) [e, e2] [] pos2] [] pos) (tDictZipI X.K ta) := by
  refine ⟨fun pins s σ H Q I h => ?_⟩
  refine Call_ (ld_blt I hg hm (PyProof.Rows.boot_dict) (PyProof.Rows.callWith_type1 (args_cons (Call_ (ld_blt I hg2 hm2 PyProof.Rows.boot_zip (PyProof.Rows.callWith_type1 (thn (ha.run pos2 pins s σ H _ I h) fun us s1 ⟨vs, H1, I1, r1, q1⟩ => ?_) hs hpl))) hs2) hs2 rfl))
  obtain ⟨a, b, kvs, ex, hqx, hqy, lz, q⟩ := q1
  subst ex
  cases r1 with
  | cons r rr =>
    cases rr with
    | cons r' rr =>
      cases rr
      cases r
      cases r'
      obtain ⟨its, rv, p1, _⟩ := I1.list hqx
      obtain ⟨its2, rv2, p2', _⟩ := I1.list hqy
      obtain ⟨prs, lp, kv, la, lb, hf⟩ := kv_ints rv rv2
      have lt1 := p1.lt
      have lt2 := p2'.lt
      refine zip_begins2 (begins_list a its.toArray) (begins_list b its2.toArray) p1.isList p2'.isList fun h' hz hTI hTO h1 h2 hsz hk => args_nil ?_
      have I2 : Inv X pins σ H1 { s1 with heap := h' } := I1.kept (t' := s1.toks) hk
      have hm : (h'.objs.size == sysModules) = false := beq_eq_false_iff_ne.mpr (Nat.ne_of_gt I2.big)
      have hn : min its.toArray.size its2.toArray.size = kvs.length := by rw [List.size_toArray, List.size_toArray, la, lb, Nat.min_self]
      refine PySem.call_dict_pairs (knd := mixKind X.prog X.w) (kvs := prs) (PairArg.zip _ _ _ _ _ a b (PySem.W.ktu_apart s1.heap.objs.size a b lt1 lt2) its.toArray its2.toArray) (I.ok.hd hc)
        ⟨hz, hTI, ⟨_, _, hTO⟩, ⟨_, h1, rfl, rfl⟩, ⟨_, h2, rfl, rfl⟩, p1.isList.at fun o e => hk _ o e, p2'.isList.at fun o e => hk _ o e⟩ ⟨by rw [hn, lp], fun i k v z => hf i k v (by simpa using z.1) (by simpa using z.2)⟩ (by rw [hn, sizeLine_eq]; omega) fun h2' tk hd' hk' => ?_
      have fr : ∀ c, c ∈ [s1.heap.objs.size + 4, s1.heap.objs.size + 3, s1.heap.objs.size, s1.heap.objs.size + 1] → s1.heap.objs.size ≤ c := fun c hcm => by
        have e' : c = s1.heap.objs.size + 4 ∨ c = s1.heap.objs.size + 3 ∨ c = s1.heap.objs.size ∨ c = s1.heap.objs.size + 1 := by simpa using hcm
        rcases e' with z | z | z | z
        · rw [z]; exact Nat.le_add_right _ _
        · rw [z]; exact Nat.le_add_right _ _
        · rw [z]; exact Nat.le_refl _
        · rw [z]; exact Nat.le_add_right _ _
      have hk1 : ∀ c o, s1.heap.get? c = some o → h2'.get? c = some o := fun c o e => hk' c o (fun hcm => absurd (Heap.lt_size e) (Nat.not_lt_of_le (fr c hcm))) (hk c o e)
      have sz : s1.heap.objs.size ≤ h'.objs.size := by omega
      have hlen : (mergeK [] (kvs.map fun x => ((Sum.inl x.1 : Key), x.2))).length ≤ sizeLine := by
        have h1 := length_mergeK (kvs.map fun x => ((Sum.inl x.1 : Key), x.2)) []
        rw [List.length_map, List.length_nil] at h1
        rw [sizeLine_eq]
        omega
      exact ⟨.ref h'.objs.size, upd H1 h'.objs.size (.dK (mergeK [] (kvs.map fun x => ((Sum.inl x.1 : Key), x.2)))), I1.laid (t' := tk) hk1 sz (show ObjOk X.prog X.w _ _ _ (.dK _) from ⟨hlen, hm, merged [] prs, KV.merge kv .nil, hd'⟩), rfl, q _ (I1.hok.fresh sz)⟩
end ZipM

/-! zip(t, l), t a tuple, l a list: own rule -/
namespace ZipM
open PySem PySem.Spec PyProof.Rows L2
def ItzM (K : PySem.W.Frag) (a b : Addr) : It :=
  ⟨fun i H => ∃ (xs ys : List V) (x y : V), SqT K H a xs ∧ SqL K H b ys ∧ xs[i]? = some x ∧ ys[i]? = some y,
    fun i H v H' => ∃ T x y, v = .ref T ∧ H T = none ∧ H' = upd H T (.tup [x, y]) ∧ (∀ xs, SqT K H a xs → xs[i]? = some x) ∧ ∀ ys, SqL K H b ys → ys[i]? = some y,
    fun i H => ∃ xs ys : List V, SqT K H a xs ∧ SqL K H b ys ∧ xs.length = i ∧ ys.length = i⟩
theorem sep_of {z TI TO i1 i2 a b : Addr} (D : ZipApart z TI TO i1 i2 a b) : ZipSep2 z TI TO i1 i2 [i1, a] [i2, b] where
  TIz := D.TIz
  TOz := D.TOz
  TITO := D.TITO
  TIi1 := D.TIi1
  mem1 := by simp
  zf1 := by
    intro h
    have h' : z = i1 ∨ z = a := by simpa using h
    rcases h' with e | e
    · exact D.i1z e.symm
    · exact D.l1z e.symm
  Tf1 := by
    intro h
    have h' : TO = i1 ∨ TO = a := by simpa using h
    rcases h' with e | e
    · exact D.TOi1 e
    · exact D.l1TO e.symm
  TIi2 := D.TIi2
  mem2 := by simp
  zf2 := by
    intro h
    have h' : z = i2 ∨ z = b := by simpa using h
    rcases h' with e | e
    · exact D.i2z e.symm
    · exact D.l2z e.symm
  Tf2 := by
    intro h
    have h' : TO = i2 ∨ TO = b := by simpa using h
    rcases h' with e | e
    · exact D.TOi2 e
    · exact D.l2TO e.symm
  sep1_2 := by
    intro h
    have h' : i1 = i2 ∨ i1 = b := by simpa using h
    rcases h' with e | e
    · exact D.i12 e
    · exact D.l2i1 e.symm
  sep2_1 := by
    intro h
    have h' : i2 = i1 ∨ i2 = a := by simpa using h
    rcases h' with e | e
    · exact D.i12 e.symm
    · exact D.l1i2 e.symm
theorem turn {P : Program} {w : World} {K : PySem.W.Frag} {elts : List Expr} {kk : Nat} {tpos : Pos} {a b z TI TO i1 i2 : Addr} (D : ZipApart z TI TO i1 i2 a b) (n1 : a ≠ i1) (n2 : b ≠ i2) :
    Turn P w K (.Tuple elts kk tpos) (ItzM K a b) [z, TI, TO, i1, i2] z (fun i h => IsZip h z TI TO .none ∧ IsPair h TI (.ref i1) (.ref i2) ∧ (∃ x y, IsPair h TO x y) ∧ h.IsTupleIter i1 a i ∧ h.IsListIter i2 b i) where
  mem := by simp
  obj := fun i h st c hc => by
    obtain ⟨hz, hTI, ⟨x, y, hTO⟩, ⟨o1, e1, _, d1⟩, ⟨o2, e2, _, d2⟩⟩ := st
    have e' : c = z ∨ c = TI ∨ c = TO ∨ c = i1 ∨ c = i2 := by simpa using hc
    rcases e' with q | q | q | q | q
    · rw [q]; exact ⟨_, hz, fun v q => nomatch q⟩
    · rw [q]; exact ⟨_, hTI, fun v q => nomatch q⟩
    · rw [q]; exact ⟨_, hTO, fun v q => nomatch q⟩
    · rw [q]; exact ⟨o1, e1, fun v q => by rw [d1] at q; cases q⟩
    · rw [q]; exact ⟨o2, e2, fun v q => by rw [d2] at q; cases q⟩
  keep := fun i h h' st k => by
    obtain ⟨hz, hTI, ⟨x, y, hTO⟩, h1, h2⟩ := st
    exact ⟨k z (by simp) _ hz, k TI (by simp) _ hTI, ⟨x, y, k TO (by simp) _ hTO⟩, h1.at fun o q => k i1 (by simp) o q, h2.at fun o q => k i2 (by simp) o q⟩
  item := by
    intro X hP hw hK hc i pins s σ H E I hf st hg
    subst hP hw hK
    obtain ⟨hz, hTI, ⟨x0, y0, hTO⟩, h1, h2⟩ := st
    obtain ⟨xs, ys, x, y, hqx, hqy, hx, hy⟩ := hg
    obtain ⟨its, rv, p, _⟩ := I.tuple hqx
    obtain ⟨its2, rv2, p2, _⟩ := I.list hqy
    obtain ⟨u, hu, ru⟩ := rv.get hx
    obtain ⟨u2, hu2, ru2⟩ := rv2.get hy
    have hh := I.ok.hd hc
    have hzl : z < s.heap.objs.size := Heap.lt_size hz
    have lt1 : i < its.toArray.size := by
      have := (List.getElem?_eq_some_iff.mp hu).1
      simpa using this
    have lt2 : i < its2.toArray.size := by
      have := (List.getElem?_eq_some_iff.mp hu2).1
      simpa using this
    refine wpAny_pyNext_zipD2_item (sep_of D) (Draws.tuple (A := X.A.in1) hh i1 a n1 its.toArray) (Draws.list (A := X.A.in1) hh i2 b n2 its2.toArray) hz hTI hTO ⟨h1, p⟩ ⟨h2, p2.isList⟩ lt1 lt2 fun x1 x2 h' tk y1 y2 z' TO' d1 d2 hT hsz hk => ?_
    have eu : x1 = u := by
      have q : its.toArray[i]? = some u := by simpa using hu
      rw [q] at y1
      exact (Option.some.inj y1).symm
    have eu2 : x2 = u2 := by
      have q : its2.toArray[i]? = some u2 := by simpa using hu2
      rw [q] at y2
      exact (Option.some.inj y2).symm
    subst eu eu2
    refine ⟨_, rfl, wpAny_letOwnedTupleGo_zip (s := { s with heap := h', toks := tk }) z' fun h'' z'' sb => ?_⟩
    have hT2 : h''.get? s.heap.objs.size = some { cls := .type "tuple", data := .seq #[x1, x2] } := (sb.2 _ (Nat.ne_of_gt hzl)).trans hT
    have new : ObjOk X.prog X.w (upd H s.heap.objs.size (.tup [x, y])) h'' s.heap.objs.size (.tup [x, y]) :=
      ⟨by show 2 ≤ sizeLine; decide, [x1, x2], .cons ru (.cons ru2 .nil), ⟨_, hT2, rfl, _, rfl⟩⟩
    have I1 : Inv X pins σ (upd H s.heap.objs.size (.tup [x, y])) { s with heap := h'', toks := tk } :=
      I.turnedNew (t' := tk) (ch := [z, TI, TO, i1, i2]) (fun c o hb q => (sb.2 c (fun q' => hb (by simp [q']))).trans (hk c o (fun q' => hb (by simp [q'])) (fun q' => hb (by simp [q'])) (fun q' => hb (by simp [q'])) (fun q' => hb (by simp [q'])) q)) hf (Nat.le_refl _) new
    refine ⟨.ref s.heap.objs.size, _, I1, rfl, ⟨_, x, y, rfl, I.hok.fresh (Nat.le_refl _), rfl, fun l hl => by rw [I.tuple_inj hl hqx]; exact hx, fun l hl => by rw [I.list_inj hl hqy]; exact hy⟩, ⟨z'', ?_, ⟨x1, x2, ?_⟩, ?_, ?_⟩, fun c hcm => ?_⟩
    · exact (sb.2 _ D.TIz).trans (hk _ _ D.TIz D.TITO D.TIi1 D.TIi2 hTI)
    · exact (sb.2 _ D.TOz).trans TO'
    · exact d1.1.at fun o q => (sb.2 _ D.i1z).trans q
    · exact d2.1.at fun o q => (sb.2 _ D.i2z).trans q
    · have hlt : c < s.heap.objs.size := by
        have e' : c = z ∨ c = TI ∨ c = TO ∨ c = i1 ∨ c = i2 := by simpa using hcm
        rcases e' with q | q | q | q | q
        · rw [q]; exact hzl
        · rw [q]; exact Heap.lt_size hTI
        · rw [q]; exact Heap.lt_size hTO
        · rw [q]; obtain ⟨_, e1, _⟩ := h1; exact Heap.lt_size e1
        · rw [q]; obtain ⟨_, e2, _⟩ := h2; exact Heap.lt_size e2
      rw [upd_ne (Nat.ne_of_lt hlt)]
      exact (hf c hcm).1
  done := by
    intro X hP hw hK hc i pins s σ H E I hf st hg
    subst hP hw hK
    obtain ⟨hz, hTI, ⟨x0, y0, hTO⟩, h1, h2⟩ := st
    obtain ⟨xs, ys, hqx, hqy, l1, l2⟩ := hg
    obtain ⟨its, rv, p, _⟩ := I.tuple hqx
    obtain ⟨its2, rv2, p2, _⟩ := I.list hqy
    have hh := I.ok.hd hc
    have e1 : i = its.toArray.size := by
      have := rv.length
      rw [List.size_toArray]
      omega
    have e2 : i = its2.toArray.size := by
      have := rv2.length
      rw [List.size_toArray]
      omega
    exact wpAny_pyNext_zipD2_end (sep_of D) (Draws.tuple (A := X.A.in1) hh i1 a n1 its.toArray) (Draws.list (A := X.A.in1) hh i2 b n2 its2.toArray) hz hTI hTO ⟨h1, p⟩ ⟨h2, p2.isList⟩ (Nat.le_of_eq e1) (Nat.le_of_eq e2) (.inl e1) fun h' tk hk => ⟨rfl, I.turnedL (t' := tk) (ch := [z, TI, TO, i1, i2]) (fun c o hb q =>
      hk c o (fun q' => hb (by simp [q'])) (fun q' => hb (by simp [q'])) (fun q' => hb (by simp [q'])) (fun q' => hb (by simp [q'])) q) hf⟩
  self := fun A i s Q E st h => wpAny_pyIter_zip st.1 h
def iZipM (K : PySem.W.Frag) (ta : TA) : TI := fun σ H R => ta σ H fun vs H1 => ∃ a b xs ys, vs = [.ref a, .ref b] ∧ ((SqT K H1 a xs ∧ SqL K H1 b ys ∧ R (ItzM K a b) H1) ∨ (SqT K H1 a xs ∧ SqT K H1 b ys ∧ R (RZ.ItzT K a b) H1))
theorem pi_zipM {X : Cx} {e e2 : Expr} {ta : TA} {p pos tpos : Pos} {elts : List Expr} {kk : Nat} (hg : Gl X "zip") (hm : X.mg "zip" = none) (ha : PA X [e, e2] ta)
    (hs : starEach [e, e2] X.env = (false, eval e X.env) :: starEach [e2] X.env := by rfl) (hpl : (backTo pos (starEach [e2] X.env)).any (·.1) = false := by rfl) :
    PI X (.Tuple elts kk tpos) (.Call (.Name "zip" p) [e, e2] [] pos) (iZipM X.K ta) := by
  refine ⟨fun pins s σ H R I h => ?_⟩
  refine Call_ (ld_blt I hg hm PyProof.Rows.boot_zip (PyProof.Rows.callWith_type1 (thn (ha.run pos pins s σ H _ I h) fun us s1 ⟨vs, H1, I1, r1, q1⟩ => ?_) hs hpl))
  obtain ⟨a, b, xs, ys, ex, q1⟩ := q1
  subst ex
  cases r1 with
  | cons r rr =>
    cases rr with
    | cons r' rr =>
      cases rr
      cases r
      cases r'
      have fresh5 : ∀ c, c ∈ [s1.heap.objs.size + 4, s1.heap.objs.size + 2, s1.heap.objs.size + 3, s1.heap.objs.size, s1.heap.objs.size + 1] → FpOk X pins H1 c := fun c hcm => by
        have e' : c = s1.heap.objs.size + 4 ∨ c = s1.heap.objs.size + 2 ∨ c = s1.heap.objs.size + 3 ∨ c = s1.heap.objs.size ∨ c = s1.heap.objs.size + 1 := by simpa using hcm
        have hle : s1.heap.objs.size ≤ c := by
          rcases e' with z | z | z | z | z
          · rw [z]; exact Nat.le_add_right _ _
          · rw [z]; exact Nat.le_add_right _ _
          · rw [z]; exact Nat.le_add_right _ _
          · rw [z]; exact Nat.le_refl _
          · rw [z]; exact Nat.le_add_right _ _
        exact I1.fpOk hle (I1.hok.fresh hle)
      rcases q1 with ⟨hqx, hqy, q⟩ | ⟨hqx, hqy, q⟩
      · obtain ⟨its, rv, p1, _⟩ := I1.tuple hqx
        obtain ⟨its2, rv2, p2, _⟩ := I1.list hqy
        obtain ⟨o1, ho1, _⟩ := id p1
        have lt1 := Heap.lt_size ho1
        have lt2 := p2.lt
        refine zip_begins2 (begins_tuple a its.toArray) (begins_list b its2.toArray) p1 p2.isList fun h' hz hTI hTO h1 h2 hsz hk => wpAny_pyIter_zip hz ?_
        have I2 : Inv X pins σ H1 { s1 with heap := h' } := I1.kept (t' := s1.toks) hk
        exact ⟨s1.heap.objs.size + 4, [s1.heap.objs.size + 4, s1.heap.objs.size + 2, s1.heap.objs.size + 3, s1.heap.objs.size, s1.heap.objs.size + 1], _, _, H1, rfl, I2, turn (PySem.W.ktu_apart s1.heap.objs.size a b lt1 lt2) (Nat.ne_of_lt lt1) (Nat.ne_of_lt (Nat.lt_succ_of_lt lt2)), ⟨hz, hTI, ⟨_, _, hTO⟩, ⟨_, h1, rfl, rfl⟩, ⟨_, h2, rfl, rfl⟩⟩, fresh5, q⟩
      · obtain ⟨its, rv, p1, _⟩ := I1.tuple hqx
        obtain ⟨its2, rv2, p2, _⟩ := I1.tuple hqy
        obtain ⟨o1, ho1, _⟩ := id p1
        obtain ⟨o2, ho2, _⟩ := id p2
        refine RZ.call_zipT (show s1.heap.IsTuple a its.toArray from p1) (show s1.heap.IsTuple b its2.toArray from p2) fun h' hz hTI hTO h1 h2 hsz hk => wpAny_pyIter_zip hz ?_
        have I2 : Inv X pins σ H1 { s1 with heap := h' } := I1.kept (t' := s1.toks) hk
        exact ⟨s1.heap.objs.size + 4, [s1.heap.objs.size + 4, s1.heap.objs.size + 2, s1.heap.objs.size + 3, s1.heap.objs.size, s1.heap.objs.size + 1], _, _, H1, rfl, I2, RZ.turn_zipT (PySem.W.ktu_apart s1.heap.objs.size a b (Heap.lt_size ho1) (Heap.lt_size ho2)), ⟨hz, hTI, ⟨_, _, hTO⟩, h1, h2⟩, fresh5, q⟩
theorem for_zipM {K : PySem.W.Frag} {a b : Addr} {xs ys : List V} {g : TG} {tb : TS} {D : Ends} {σ : L2.St} {H : Hp} (hl : xs.length = ys.length) (Pv : Nat → L2.St → Hp → Prop) (h0 : Pv 0 σ H) (hq : ∀ i σ H, Pv i σ H → SqT K H a xs ∧ SqL K H b ys)
    (hs : ∀ (i : Nat) (x y : V) (T : Addr) (σ : L2.St) (H : Hp), xs[i]? = some x → ys[i]? = some y → Pv i σ H → H T = none → g (.ref T) σ (upd H T (.tup [x, y])) fun σ2 H2 => tb { D with nx := Pv (i + 1), ct := Pv (i + 1), bk := D.nx } σ2 H2) (hd : ∀ σ H, Pv xs.length σ H → D.nx σ H) :
    ∃ W : Nat → Nat → L2.St → Hp → Prop, (∃ m, W 0 m σ H) ∧ ∀ i m σ H, W i m σ H →
      ((ItzM K a b).stop i H ∧ D.nx σ H) ∨ ((ItzM K a b).go i H ∧ ∃ N : L2.St → Hp → Prop, (∀ σ' H', N σ' H' → ∃ m', m' < m ∧ W (i + 1) m' σ' H') ∧ ∀ v H', (ItzM K a b).yld i H v H' → g v σ H' fun σ2 H2 => tb { D with nx := N, ct := N, bk := D.nx } σ2 H2) := by
  refine ⟨fun i m σ H => m = xs.length - i ∧ i ≤ xs.length ∧ Pv i σ H, ⟨xs.length, rfl, Nat.zero_le _, h0⟩, ?_⟩
  rintro i m σ H ⟨rfl, hi, p⟩
  obtain ⟨qx, qy⟩ := hq i σ H p
  by_cases hlt : i < xs.length
  · have hx : xs[i]? = some xs[i] := List.getElem?_eq_getElem hlt
    have hlt2 : i < ys.length := by omega
    have hy : ys[i]? = some ys[i] := List.getElem?_eq_getElem hlt2
    refine .inr ⟨⟨xs, ys, _, _, qx, qy, hx, hy⟩, Pv (i + 1), fun σ' H' p' => ⟨xs.length - (i + 1), by omega, rfl, hlt, p'⟩, fun v H' y => ?_⟩
    obtain ⟨T, x', y', rfl, hT, rfl, f1, f2⟩ := y
    exact hs i x' y' T σ H (f1 xs qx) (f2 ys qy) p hT
  · have e : i = xs.length := by omega
    subst e
    exact .inl ⟨⟨xs, ys, qx, qy, rfl, hl.symm⟩, hd σ H p⟩
end ZipM

/-! l == [] : own rule -/
namespace LEq
open PySem PySem.Spec PyProof.Rows L2
def rEqNil (K : PySem.W.Frag) : R2 := fun x y H Q => ∃ (a b : Addr) (xs : List V), x = .ref a ∧ y = .ref b ∧ SqL K H a xs ∧ SqL K H b [] ∧ Q (.bl (decide (xs.length = 0))) H
theorem op_eqNil {X : Cx} (hu : X.A.units + 64 < cLine) : OpR X (compareOp .Eq) (rEqNil X.K) := by
  intro pins s σ H x y v u Q I rx ry h
  obtain ⟨a, b, xs, rfl, rfl, ha, hb, q⟩ := h
  cases (show v = Value.ref a from rx)
  cases (show u = Value.ref b from ry)
  obtain ⟨us, r1, p1, _⟩ := I.list ha
  obtain ⟨ws, r2, p2, _⟩ := I.list hb
  have e1 := r1.length
  have e2 := r2.length
  by_cases c : xs.length = 0
  · rw [decide_eq_true c] at q
    have hsz : us.toArray.size = ws.toArray.size := by
      rw [List.size_toArray, List.size_toArray, ← e1, ← e2, c]
      rfl
    refine SeqAt.RcAt.lists (e := fun _ => true) p1.isList p2.isList hsz (by omega) (fun j h1 h2 => ?_) X.prog X.w _ _ ?_
    · rw [List.size_toArray, ← e1] at h1
      omega
    · rw [show ((List.range us.toArray.size).all fun _ => true) = true from List.all_eq_true.mpr fun _ _ => rfl]
      exact ⟨.bl true, H, I, rfl, q⟩
  · rw [decide_eq_false c] at q
    have hsz : (us.toArray.size != ws.toArray.size) = true := by
      rw [List.size_toArray, List.size_toArray, ← e1, ← e2]
      exact bne_iff_ne.mpr fun z => c z
    exact SeqAt.RcAt.lists_lengths p1.isList p2.isList hsz (by omega) X.prog X.w _ _ ⟨.bl false, H, I, rfl, q⟩
end LEq

/-! the drawer's dict, as a list -/
def dkv (dr m st sh : Int) (lb : Addr) (i : Int) (ls : Addr) (g : Int) (t : List (Key × V)) : List (Key × V) := (.inr "draw", .int dr) :: (.inr "many", .int m) :: (.inr "step", .int st) :: (.inr "shift", .int sh) :: (.inr "blocks", .ref lb) :: (.inr "at", .int i) :: (.inr "scope", .ref ls) :: (.inr "digits", .int g) :: t
section
variable {dr m st sh i g : Int} {lb ls : Addr} {t : List (Key × V)}
theorem nk {a b : Str} (h : decide (a = b) = false) : ¬ (Sum.inr a : Key) = Sum.inr b := fun z => of_decide_eq_false h (Sum.inr.inj z)
theorem putK_hd {k : Key} {u v : V} {r : List (Key × V)} (h : ¬ k ∈ r.map (·.1)) : putK ((k, u) :: r) k v = (k, v) :: r := by
  unfold putK
  rw [if_pos (by simp)]
  rw [List.map_cons, if_pos rfl]
  congr 1
  refine (List.map_congr_left fun x hx => ?_).trans (List.map_id _)
  rw [if_neg fun z => h (List.mem_map.mpr ⟨x, hx, z⟩)]
  rfl
theorem putK_tl {k j : Key} {u v : V} {r : List (Key × V)} (h : ¬ j = k) : putK ((j, u) :: r) k v = (j, u) :: putK r k v := by
  unfold putK
  rw [List.any_cons, show decide ((j, u).1 = k) = false from decide_eq_false h, Bool.false_or]
  by_cases a : (r.any fun kv => decide (kv.1 = k)) = true
  · rw [if_pos a, if_pos a, List.map_cons, if_neg h]
  · rw [if_neg a, if_neg a, List.cons_append]
def oth (k : Str) (t : List (Key × V)) : Prop := ¬ (Sum.inr k : Key) ∈ t.map (·.1)
theorem dkv_draw : valV (dkv dr m st sh lb i ls g t) (.inr "draw") = some (.int dr) := by
  unfold dkv
  exact valV_pos rfl
theorem dkv_many : valV (dkv dr m st sh lb i ls g t) (.inr "many") = some (.int m) := by
  unfold dkv
  rw [valV_neg (nk (by decide +kernel))]
  exact valV_pos rfl
theorem dkv_step : valV (dkv dr m st sh lb i ls g t) (.inr "step") = some (.int st) := by
  unfold dkv
  rw [valV_neg (nk (by decide +kernel))]
  rw [valV_neg (nk (by decide +kernel))]
  exact valV_pos rfl
theorem dkv_shift : valV (dkv dr m st sh lb i ls g t) (.inr "shift") = some (.int sh) := by
  unfold dkv
  rw [valV_neg (nk (by decide +kernel))]
  rw [valV_neg (nk (by decide +kernel))]
  rw [valV_neg (nk (by decide +kernel))]
  exact valV_pos rfl
theorem dkv_blocks : valV (dkv dr m st sh lb i ls g t) (.inr "blocks") = some (.ref lb) := by
  unfold dkv
  rw [valV_neg (nk (by decide +kernel))]
  rw [valV_neg (nk (by decide +kernel))]
  rw [valV_neg (nk (by decide +kernel))]
  rw [valV_neg (nk (by decide +kernel))]
  exact valV_pos rfl
theorem dkv_at : valV (dkv dr m st sh lb i ls g t) (.inr "at") = some (.int i) := by
  unfold dkv
  rw [valV_neg (nk (by decide +kernel))]
  rw [valV_neg (nk (by decide +kernel))]
  rw [valV_neg (nk (by decide +kernel))]
  rw [valV_neg (nk (by decide +kernel))]
  rw [valV_neg (nk (by decide +kernel))]
  exact valV_pos rfl
theorem dkv_scope : valV (dkv dr m st sh lb i ls g t) (.inr "scope") = some (.ref ls) := by
  unfold dkv
  rw [valV_neg (nk (by decide +kernel))]
  rw [valV_neg (nk (by decide +kernel))]
  rw [valV_neg (nk (by decide +kernel))]
  rw [valV_neg (nk (by decide +kernel))]
  rw [valV_neg (nk (by decide +kernel))]
  rw [valV_neg (nk (by decide +kernel))]
  exact valV_pos rfl
theorem dkv_digits : valV (dkv dr m st sh lb i ls g t) (.inr "digits") = some (.int g) := by
  unfold dkv
  rw [valV_neg (nk (by decide +kernel))]
  rw [valV_neg (nk (by decide +kernel))]
  rw [valV_neg (nk (by decide +kernel))]
  rw [valV_neg (nk (by decide +kernel))]
  rw [valV_neg (nk (by decide +kernel))]
  rw [valV_neg (nk (by decide +kernel))]
  rw [valV_neg (nk (by decide +kernel))]
  exact valV_pos rfl
theorem dkp_draw {z : Int} (ht : oth "draw" t) : putK (dkv dr m st sh lb i ls g t) (.inr "draw") (.int z) = dkv z m st sh lb i ls g t := by
  unfold dkv
  rw [putK_hd]
  intro z
  simp only [List.map_cons, List.mem_cons] at z
  rcases z with z | z | z | z | z | z | z | z
  · exact nk (by decide +kernel) z
  · exact nk (by decide +kernel) z
  · exact nk (by decide +kernel) z
  · exact nk (by decide +kernel) z
  · exact nk (by decide +kernel) z
  · exact nk (by decide +kernel) z
  · exact nk (by decide +kernel) z
  · exact ht z
theorem dkp_many {z : Int} (ht : oth "many" t) : putK (dkv dr m st sh lb i ls g t) (.inr "many") (.int z) = dkv dr z st sh lb i ls g t := by
  unfold dkv
  rw [putK_tl (nk (by decide +kernel))]
  rw [putK_hd]
  intro z
  simp only [List.map_cons, List.mem_cons] at z
  rcases z with z | z | z | z | z | z | z
  · exact nk (by decide +kernel) z
  · exact nk (by decide +kernel) z
  · exact nk (by decide +kernel) z
  · exact nk (by decide +kernel) z
  · exact nk (by decide +kernel) z
  · exact nk (by decide +kernel) z
  · exact ht z
theorem dkp_step {z : Int} (ht : oth "step" t) : putK (dkv dr m st sh lb i ls g t) (.inr "step") (.int z) = dkv dr m z sh lb i ls g t := by
  unfold dkv
  rw [putK_tl (nk (by decide +kernel))]
  rw [putK_tl (nk (by decide +kernel))]
  rw [putK_hd]
  intro z
  simp only [List.map_cons, List.mem_cons] at z
  rcases z with z | z | z | z | z | z
  · exact nk (by decide +kernel) z
  · exact nk (by decide +kernel) z
  · exact nk (by decide +kernel) z
  · exact nk (by decide +kernel) z
  · exact nk (by decide +kernel) z
  · exact ht z
theorem dkp_shift {z : Int} (ht : oth "shift" t) : putK (dkv dr m st sh lb i ls g t) (.inr "shift") (.int z) = dkv dr m st z lb i ls g t := by
  unfold dkv
  rw [putK_tl (nk (by decide +kernel))]
  rw [putK_tl (nk (by decide +kernel))]
  rw [putK_tl (nk (by decide +kernel))]
  rw [putK_hd]
  intro z
  simp only [List.map_cons, List.mem_cons] at z
  rcases z with z | z | z | z | z
  · exact nk (by decide +kernel) z
  · exact nk (by decide +kernel) z
  · exact nk (by decide +kernel) z
  · exact nk (by decide +kernel) z
  · exact ht z
theorem dkp_blocks {z : Addr} (ht : oth "blocks" t) : putK (dkv dr m st sh lb i ls g t) (.inr "blocks") (.ref z) = dkv dr m st sh z i ls g t := by
  unfold dkv
  rw [putK_tl (nk (by decide +kernel))]
  rw [putK_tl (nk (by decide +kernel))]
  rw [putK_tl (nk (by decide +kernel))]
  rw [putK_tl (nk (by decide +kernel))]
  rw [putK_hd]
  intro z
  simp only [List.map_cons, List.mem_cons] at z
  rcases z with z | z | z | z
  · exact nk (by decide +kernel) z
  · exact nk (by decide +kernel) z
  · exact nk (by decide +kernel) z
  · exact ht z
theorem dkp_at {z : Int} (ht : oth "at" t) : putK (dkv dr m st sh lb i ls g t) (.inr "at") (.int z) = dkv dr m st sh lb z ls g t := by
  unfold dkv
  rw [putK_tl (nk (by decide +kernel))]
  rw [putK_tl (nk (by decide +kernel))]
  rw [putK_tl (nk (by decide +kernel))]
  rw [putK_tl (nk (by decide +kernel))]
  rw [putK_tl (nk (by decide +kernel))]
  rw [putK_hd]
  intro z
  simp only [List.map_cons, List.mem_cons] at z
  rcases z with z | z | z
  · exact nk (by decide +kernel) z
  · exact nk (by decide +kernel) z
  · exact ht z
theorem dkp_scope {z : Addr} (ht : oth "scope" t) : putK (dkv dr m st sh lb i ls g t) (.inr "scope") (.ref z) = dkv dr m st sh lb i z g t := by
  unfold dkv
  rw [putK_tl (nk (by decide +kernel))]
  rw [putK_tl (nk (by decide +kernel))]
  rw [putK_tl (nk (by decide +kernel))]
  rw [putK_tl (nk (by decide +kernel))]
  rw [putK_tl (nk (by decide +kernel))]
  rw [putK_tl (nk (by decide +kernel))]
  rw [putK_hd]
  intro z
  simp only [List.map_cons, List.mem_cons] at z
  rcases z with z | z
  · exact nk (by decide +kernel) z
  · exact ht z
theorem dkp_digits {z : Int} (ht : oth "digits" t) : putK (dkv dr m st sh lb i ls g t) (.inr "digits") (.int z) = dkv dr m st sh lb i ls z t := by
  unfold dkv
  rw [putK_tl (nk (by decide +kernel))]
  rw [putK_tl (nk (by decide +kernel))]
  rw [putK_tl (nk (by decide +kernel))]
  rw [putK_tl (nk (by decide +kernel))]
  rw [putK_tl (nk (by decide +kernel))]
  rw [putK_tl (nk (by decide +kernel))]
  rw [putK_tl (nk (by decide +kernel))]
  rw [putK_hd]
  intro z
  exact ht z
theorem dkv_tl {k : Str} (h : k ∉ (["draw", "many", "step", "shift", "blocks", "at", "scope", "digits"] : List Str)) : valV (dkv dr m st sh lb i ls g t) (.inr k) = valV t (.inr k) := by
  simp only [List.mem_cons, List.not_mem_nil, or_false, not_or] at h
  obtain ⟨h1, h2, h3, h4, h5, h6, h7, h8⟩ := h
  unfold dkv
  rw [valV_neg (fun z => h1 (Sum.inr.inj z).symm), valV_neg (fun z => h2 (Sum.inr.inj z).symm), valV_neg (fun z => h3 (Sum.inr.inj z).symm), valV_neg (fun z => h4 (Sum.inr.inj z).symm), valV_neg (fun z => h5 (Sum.inr.inj z).symm), valV_neg (fun z => h6 (Sum.inr.inj z).symm), valV_neg (fun z => h7 (Sum.inr.inj z).symm), valV_neg (fun z => h8 (Sum.inr.inj z).symm)]
theorem dkp_tl {k : Str} {z : V} (h : k ∉ (["draw", "many", "step", "shift", "blocks", "at", "scope", "digits"] : List Str)) : putK (dkv dr m st sh lb i ls g t) (.inr k) z = dkv dr m st sh lb i ls g (putK t (.inr k) z) := by
  simp only [List.mem_cons, List.not_mem_nil, or_false, not_or] at h
  obtain ⟨h1, h2, h3, h4, h5, h6, h7, h8⟩ := h
  unfold dkv
  rw [putK_tl (fun z => h1 (Sum.inr.inj z).symm), putK_tl (fun z => h2 (Sum.inr.inj z).symm), putK_tl (fun z => h3 (Sum.inr.inj z).symm), putK_tl (fun z => h4 (Sum.inr.inj z).symm), putK_tl (fun z => h5 (Sum.inr.inj z).symm), putK_tl (fun z => h6 (Sum.inr.inj z).symm), putK_tl (fun z => h7 (Sum.inr.inj z).symm), putK_tl (fun z => h8 (Sum.inr.inj z).symm)]
end

/-- a number of 32 bits -/
def In32 (a : Int) : Prop := -2147483648 ≤ a ∧ a ≤ 2147483647

/-! programs, in plain words -/
inductive Ex where
  | num (n : Int)
  | nam (x : Str)
  | at_ (r : Str) (e : Ex)
  | no (e : Ex)
  | op (w : Str) (a b : Ex)
inductive Sm where
  | set (x : Str) (e : Ex)
  | put (r : Str) (e f : Ex)
  | tell (e : Ex)
  | ite (e : Ex) (ys ns : List Sm)
  | loop (e : Ex) (b : List Sm)
  | call (x h : Str) (es : List Ex)
  | fail (n : Int)
  | give (e : Ex)
def Ex.d : Ex → PyData
  | .num n => .tuple [.str "number", .int n]
  | .nam x => .tuple [.str "name", .str x]
  | .at_ r e => .tuple [.str "at", .str r, e.d]
  | .no e => .tuple [.str "not", e.d]
  | .op w a b => .tuple [.str w, a.d, b.d]
mutual
def Sm.d : Sm → PyData
  | .set x e => .tuple [.str "set", .str x, e.d]
  | .put r e f => .tuple [.str "put", .str r, e.d, f.d]
  | .tell e => .tuple [.str "tell", e.d]
  | .ite e ys ns => .tuple [.str "if", e.d, .tuple (Sm.ds ys), .tuple (Sm.ds ns)]
  | .loop e b => .tuple [.str "while", e.d, .tuple (Sm.ds b)]
  | .call x h es => .tuple [.str "call", .str x, .str h, .tuple (es.map Ex.d)]
  | .fail n => .tuple [.str "fail", .int n]
  | .give e => .tuple [.str "give", e.d]
def Sm.ds : List Sm → List PyData
  | [] => []
  | s :: r => s.d :: Sm.ds r
end
theorem Sm.ds_eq : ∀ l : List Sm, Sm.ds l = l.map Sm.d
  | [] => by simp [Sm.ds]
  | s :: r => by rw [Sm.ds, Sm.ds_eq r]; rfl
theorem noLs_all {l : List PyData} (h : ∀ x ∈ l, nLd x = true) : nLs l = true := by
  induction l with
  | nil => rfl
  | cons x r ih =>
    unfold nLs
    rw [h x (List.mem_cons_self ..), ih fun y hy => h y (List.mem_cons_of_mem _ hy)]
    rfl
theorem Ex.noL : ∀ e : Ex, nLd e.d = true
  | .num _ => rfl
  | .nam _ => rfl
  | .at_ r e => by simp [Ex.d, nLd, nLs, Ex.noL e]
  | .no e => by simp [Ex.d, nLd, nLs, Ex.noL e]
  | .op w a b => by simp [Ex.d, nLd, nLs, Ex.noL a, Ex.noL b]
mutual
theorem Sm.noL : ∀ s : Sm, nLd s.d = true
  | .set x e => by simp [Sm.d, nLd, nLs, Ex.noL e]
  | .put r e f => by simp [Sm.d, nLd, nLs, Ex.noL e, Ex.noL f]
  | .tell e => by simp [Sm.d, nLd, nLs, Ex.noL e]
  | .ite e ys ns => by simp [Sm.d, nLd, nLs, Ex.noL e, Sm.noLs ys, Sm.noLs ns]
  | .loop e b => by simp [Sm.d, nLd, nLs, Ex.noL e, Sm.noLs b]
  | .call x h es => by
    have : nLs (es.map Ex.d) = true := noLs_all fun x hx => by
      obtain ⟨e, _, rfl⟩ := List.mem_map.mp hx
      exact Ex.noL e
    simp [Sm.d, nLd, nLs, this]
  | .fail n => rfl
  | .give e => by simp [Sm.d, nLd, nLs, Ex.noL e]
theorem Sm.noLs : ∀ l : List Sm, nLs (Sm.ds l) = true
  | [] => by simp [Sm.ds, nLs]
  | s :: r => by simp [Sm.ds, nLs, Sm.noL s, Sm.noLs r]
end

/-! the drawer of works: its state, plain -/
structure GRow where
  v : Int
  w : Str
  as : List Int
def GRow.d (r : GRow) : PyData := .tuple (.int r.v :: .str r.w :: r.as.map PyData.int)
structure Way where
  t : Nat
  as : List Int
def Way.d (w : Way) : PyData := .tuple [.int w.t, .tuple (w.as.map PyData.int)]
inductive En where
  | fail (n : Int)
  | give (v : Int)
  | jump (w : Way)
  | choose (v : Int) (w1 w2 : Way)
  | call (h : Str) (as : List Int) (w : Way)
def En.d : En → PyData
  | .fail n => .tuple [.str "fail", .int n]
  | .give v => .tuple [.str "give", .int v]
  | .jump w => .tuple [.str "jump", w.d]
  | .choose v w1 w2 => .tuple [.str "choose", .int v, w1.d, w2.d]
  | .call h as w => .tuple [.str "call", .str h, .tuple (as.map PyData.int), w.d]
def pairD (p : Int × Int) : PyData := .tuple [.int p.1, .int p.2]
structure Blk where
  ps : List (Int × Int)
  rs : List GRow
  en : En
structure DSt where
  many : Nat
  step : Int
  shift : Int
  bls : List Blk
  at_ : Nat
  sc : List (Int × Int)
theorem ints_nl : ∀ l : List Int, nLs (l.map PyData.int) = true
  | [] => by simp [nLs]
  | a :: r => by rw [List.map_cons, nLs, ints_nl r]; simp [nLd]
theorem GRow.nl (r : GRow) : nLd r.d = true := by simp [GRow.d, nLd, nLs, ints_nl]
theorem Way.nl (w : Way) : nLd w.d = true := by simp [Way.d, nLd, nLs, ints_nl]
theorem En.nl : ∀ e : En, nLd e.d = true
  | .fail n => by simp [En.d, nLd, nLs]
  | .give v => by simp [En.d, nLd, nLs]
  | .jump w => by simp [En.d, nLd, nLs, w.nl]
  | .choose v w1 w2 => by simp [En.d, nLd, nLs, w1.nl, w2.nl]
  | .call h as w => by simp [En.d, nLd, nLs, w.nl, ints_nl]
theorem pairD_nl (p : Int × Int) : nLd (pairD p) = true := by simp [pairD, nLd, nLs]
theorem pairs_nl (l : List (Int × Int)) : nLs (l.map pairD) = true := noLs_all fun x hx => by
  obtain ⟨q, _, rfl⟩ := List.mem_map.mp hx
  exact pairD_nl q
theorem rows_nl (l : List GRow) : nLs (l.map GRow.d) = true := noLs_all fun x hx => by
  obtain ⟨q, _, rfl⟩ := List.mem_map.mp hx
  exact q.nl
/-- where it lies -/
structure WA where
  d : Addr
  lb : Addr
  ls : Addr
  t : List (Key × V)
  bs : List (Addr × Addr)
def adrs (bs : List (Addr × Addr)) : List Addr := bs.flatMap fun p => [p.1, p.2]
def WA.all (A : WA) : List Addr := A.d :: A.lb :: A.ls :: adrs A.bs
def WA.own (A : WA) (a : Addr) : Prop := a ∈ A.all
theorem adrs_1 {bs : List (Addr × Addr)} {p : Addr × Addr} (h : p ∈ bs) : p.1 ∈ adrs bs := List.mem_flatMap.mpr ⟨p, h, by simp⟩
theorem adrs_2 {bs : List (Addr × Addr)} {p : Addr × Addr} (h : p ∈ bs) : p.2 ∈ adrs bs := List.mem_flatMap.mpr ⟨p, h, by simp⟩
theorem adrs_app (a b : List (Addr × Addr)) : adrs (a ++ b) = adrs a ++ adrs b := by simp [adrs]
theorem own_d (A : WA) : A.own A.d := List.mem_cons_self ..
theorem own_lb (A : WA) : A.own A.lb := List.mem_cons_of_mem _ (List.mem_cons_self ..)
theorem own_ls (A : WA) : A.own A.ls := List.mem_cons_of_mem _ (List.mem_cons_of_mem _ (List.mem_cons_self ..))
theorem own_b {A : WA} {a : Addr} (h : a ∈ adrs A.bs) : A.own a := List.mem_cons_of_mem _ (List.mem_cons_of_mem _ (List.mem_cons_of_mem _ h))
section
variable {K : PySem.W.Frag}
structure BlkAt (K : PySem.W.Frag) (H : Hp) (p : Addr × Addr) (b : Blk) : Prop where
  l : ∃ vp ve rvs, H p.1 = some (.lst [vp, .ref p.2, ve]) ∧ Dp K H vp (.tuple (b.ps.map pairD)) ∧ Dp K H ve b.en.d ∧ H p.2 = some (.lst rvs) ∧ DpAll K H rvs (b.rs.map GRow.d)
theorem BlkAt.kp {S : Addr → Prop} {H H' : Hp} {p : Addr × Addr} {b : Blk} (h : BlkAt K H p b) (k : Kp S H H') (e1 : H' p.1 = H p.1) (e2 : H' p.2 = H p.2) : BlkAt K H' p b := by
  obtain ⟨vp, ve, rvs, h1, h2, h3, h4, h5⟩ := h.l
  exact ⟨vp, ve, rvs, e1.trans h1, dp_kp k _ _ (by unfold nLd; exact pairs_nl _) h2, dp_kp k _ _ b.en.nl h3, e2.trans h4, dpAll_kp k _ _ (rows_nl _) h5⟩
structure BlksAt (K : PySem.W.Frag) (H : Hp) (ps : List (Addr × Addr)) (bs : List Blk) : Prop where
  len : ps.length = bs.length
  at_ : ∀ (i : Nat) (p : Addr × Addr) (b : Blk), ps[i]? = some p → bs[i]? = some b → BlkAt K H p b
def sz8 (l : List (Int × Int)) : Prop := ∀ p ∈ l, (0 ≤ p.2 ∧ p.2 ≤ 8) ∧ 0 ≤ p.1 ∧ p.1 < 9973
structure Bds (s : DSt) (n : Nat) : Prop where
  m : s.many ≤ n
  b : s.bls.length ≤ n
  a : s.at_ ≤ n
  c : s.sc.length ≤ n
  r : ∀ b ∈ s.bls, b.rs.length ≤ n ∧ b.ps.length ≤ 10 ∧ sz8 b.ps
  z : sz8 s.sc
theorem Bds.mono {s : DSt} {n k : Nat} (h : Bds s n) (l : n ≤ k) : Bds s k := ⟨Nat.le_trans h.m l, Nat.le_trans h.b l, Nat.le_trans h.a l, Nat.le_trans h.c l, fun b hb => ⟨Nat.le_trans (h.r b hb).1 l, (h.r b hb).2⟩, h.z⟩
def keys8 : List Str := ["draw", "many", "step", "shift", "blocks", "at", "scope", "digits"]
structure WS (K : PySem.W.Frag) (H : Hp) (A : WA) (s : DSt) (n : Nat) : Prop where
  dk : ∃ g dr : Int, 0 ≤ g ∧ H A.d = some (.dK (dkv dr s.many s.step s.shift A.lb s.at_ A.ls g A.t))
  lb : H A.lb = some (.lst (A.bs.map fun p => V.ref p.1))
  ls : ∃ svs, H A.ls = some (.lst svs) ∧ DpAll K H svs (s.sc.map pairD)
  bl : BlksAt K H A.bs s.bls
  nd : A.all.Nodup
  bd : Bds s n
  n6 : n ≤ 6000
  ot : ∀ k ∈ keys8, oth k A.t
  tl : A.t.length ≤ 1
theorem WS.mono {H : Hp} {A : WA} {s : DSt} {n k : Nat} (h : WS K H A s n) (l : n ≤ k) (k6 : k ≤ 6000) : WS K H A s k := ⟨h.dk, h.lb, h.ls, h.bl, h.nd, h.bd.mono l, k6, h.ot, h.tl⟩
theorem WS.there {H : Hp} {A : WA} {s : DSt} {n : Nat} (h : WS K H A s n) {a : Addr} (o : A.own a) : ∃ x, H a = some x ∧ Mut (some x) := by
  rcases List.mem_cons.mp o with rfl | o
  · obtain ⟨g, dr, _, e⟩ := h.dk
    exact ⟨_, e, trivial⟩
  rcases List.mem_cons.mp o with rfl | o
  · exact ⟨_, h.lb, trivial⟩
  rcases List.mem_cons.mp o with rfl | o
  · obtain ⟨svs, e, _⟩ := h.ls
    exact ⟨_, e, trivial⟩
  obtain ⟨p, hp, q⟩ := List.mem_flatMap.mp o
  obtain ⟨i, hi, e⟩ := List.mem_iff_getElem.mp hp
  have hi2 : i < s.bls.length := by rw [← h.bl.len]; exact hi
  obtain ⟨vp, ve, rvs, h1, _, _, h4, _⟩ := (h.bl.at_ i p s.bls[i] (by rw [List.getElem?_eq_getElem hi, e]) (List.getElem?_eq_getElem hi2)).l
  rcases List.mem_cons.mp q with rfl | q
  · exact ⟨_, h1, trivial⟩
  · rw [List.mem_singleton.mp q]
    exact ⟨_, h4, trivial⟩
/-- from heap to heap -/
structure Ext (H : Hp) (A : WA) (H' : Hp) (A' : WA) : Prop where
  k : Kp A.own H H'
  o : ∀ b, A'.own b → A.own b ∨ H b = none
  d : A'.d = A.d
  t : A'.t = A.t
theorem Ext.refl {H : Hp} {A : WA} : Ext H A H A := ⟨Kp.refl, fun _ h => .inl h, rfl, rfl⟩
theorem kp_none {S : Addr → Prop} {H H' : Hp} (k : Kp S H H') {b : Addr} (n : H' b = none) (m : ¬ S b) : H b = none := by
  cases e : H b with
  | none => rfl
  | some o =>
    rw [k b o e fun z => absurd z m] at n
    cases n
theorem Ext.trans {H H1 H2 : Hp} {A A1 A2 : WA} (a : Ext H A H1 A1) (b : Ext H1 A1 H2 A2) : Ext H A H2 A2 := by
  refine ⟨fun c o e k => ?_, fun c hc => ?_, b.d.trans a.d, b.t.trans a.t⟩
  · refine b.k c o (a.k c o e k) fun z => ?_
    rcases a.o c z with y | y
    · exact k y
    · rw [y] at e
      cases e
  · rcases b.o c hc with y | y
    · exact a.o c y
    · by_cases z : A.own c
      · exact .inl z
      · exact .inr (kp_none a.k y z)
theorem Ext.same {H H' : Hp} {A : WA} (s : Same H H') : Ext H A H' A := ⟨.of_same s, fun _ h => .inl h, rfl, rfl⟩
/-- what the drawer doesn't own stays -/
theorem Ext.keep {H H' : Hp} {A A' : WA} (e : Ext H A H' A') {b : Addr} {o : HO} (h : H b = some o) (n : ¬ A.own b) : H' b = some o := e.k b o h fun z => absurd z n
theorem Ext.off {H H' : Hp} {A A' : WA} (e : Ext H A H' A') {b : Addr} {o : HO} (h : H b = some o) (n : ¬ A.own b) : ¬ A'.own b := fun z => by
  rcases e.o b z with y | y
  · exact n y
  · rw [y] at h
    cases h
theorem Ext.dp {H H' : Hp} {A A' : WA} (e : Ext H A H' A') {v : V} {d : PyData} (n : nLd d = true) (h : Dp K H v d) : Dp K H' v d := dp_kp e.k _ _ n h
theorem Ext.dpAll {H H' : Hp} {A A' : WA} (e : Ext H A H' A') {v : List V} {d : List PyData} (n : nLs d = true) (h : DpAll K H v d) : DpAll K H' v d := dpAll_kp e.k _ _ n h
/-- a state by another heap -/
theorem WS.by {S : Addr → Prop} {H H' : Hp} {A : WA} {s : DSt} {n : Nat} (h : WS K H A s n) (k : Kp S H H') (e : ∀ a, A.own a → H' a = H a) : WS K H' A s n := by
  obtain ⟨⟨g, dr, g0, e1⟩, e2, ⟨svs, e3, e4⟩, b, nd, bd, n6, ot, tl⟩ := h
  exact ⟨⟨g, dr, g0, (e _ (own_d A)).trans e1⟩, (e _ (own_lb A)).trans e2, ⟨svs, (e _ (own_ls A)).trans e3, dpAll_kp k _ _ (pairs_nl _) e4⟩,
    ⟨b.len, fun i p x hp hx => (b.at_ i p x hp hx).kp k (e _ (own_b (adrs_1 (List.mem_of_getElem? hp)))) (e _ (own_b (adrs_2 (List.mem_of_getElem? hp))))⟩, nd, bd, n6, ot, tl⟩
theorem WS.sm {H H' : Hp} {A : WA} {s : DSt} {n : Nat} (h : WS K H A s n) (k : Same H H') : WS K H' A s n := h.by (Kp.of_same (S := fun _ => False) k) fun a o => by
  obtain ⟨x, e, _⟩ := h.there o
  rw [e]
  exact k _ _ e
/-- the dict written -/
theorem WS.put {H : Hp} {A : WA} {s s' : DSt} {n : Nat} {g dr : Int} (h : WS K H A s n) (g0 : 0 ≤ g) (e : s'.bls = s.bls) (e2 : s'.sc = s.sc) (bd : Bds s' n) :
    WS K (upd H A.d (.dK (dkv dr s'.many s'.step s'.shift A.lb s'.at_ A.ls g A.t))) A s' n ∧ Ext H A (upd H A.d (.dK (dkv dr s'.many s'.step s'.shift A.lb s'.at_ A.ls g A.t))) A := by
  obtain ⟨⟨g1, dr1, _, e1⟩, h2, ⟨svs, e3, e4⟩, b, nd, _, n6, ot, tl⟩ := h
  have k : Kp A.own H (upd H A.d (.dK (dkv dr s'.many s'.step s'.shift A.lb s'.at_ A.ls g A.t))) := Kp.upd e1 trivial (own_d A)
  have nd' := List.nodup_cons.mp nd
  have ne : ∀ a, a ∈ A.lb :: A.ls :: adrs A.bs → upd H A.d (.dK (dkv dr s'.many s'.step s'.shift A.lb s'.at_ A.ls g A.t)) a = H a := fun a ha => upd_ne fun z => nd'.1 (z ▸ ha)
  refine ⟨⟨⟨g, dr, g0, upd_same⟩, (ne _ (List.mem_cons_self ..)).trans h2, ⟨svs, (ne _ (List.mem_cons_of_mem _ (List.mem_cons_self ..))).trans e3, ?_⟩, ?_, nd, bd, n6, ot, tl⟩, k, fun _ z => .inl z, rfl, rfl⟩
  · rw [e2]
    exact dpAll_kp k _ _ (pairs_nl _) e4
  · rw [e]
    exact ⟨b.len, fun i p x hp hx => (b.at_ i p x hp hx).kp k (ne _ (List.mem_cons_of_mem _ (List.mem_cons_of_mem _ (adrs_1 (List.mem_of_getElem? hp))))) (ne _ (List.mem_cons_of_mem _ (List.mem_cons_of_mem _ (adrs_2 (List.mem_of_getElem? hp)))))⟩
end

section
variable {P : Program} {w : World} {K : PySem.W.Frag} {mg : Str → Option Value} {base : Heap}
theorem dget_k {H : Hp} {d : Addr} {kvs : List (Key × V)} {k : Str} {v : V} (e : H d = some (.dK kvs)) (l : valV kvs (.inr k) = some v) : DGet H d (.str k) (some v) := by
  have := DGet.k (k := .inr k) e
  rw [l] at this
  exact this
theorem dput_k {H : Hp} {d : Addr} {kvs : List (Key × V)} {k : Str} {v : V} (e : H d = some (.dK kvs)) (l : kvs.length ≤ 100) : DPut H d (.str k) v (upd H d (.dK (putK kvs (.inr k) v))) := DPut.k (k := .inr k) e (by rw [sizeLine_eq]; omega)
theorem dkv_len {dr m st sh i g : Int} {lb ls : Addr} {t : List (Key × V)} (h : t.length ≤ 1) : (dkv dr m st sh lb i ls g t).length ≤ 100 := by
  unfold dkv
  simp only [List.length_cons]
  omega
theorem upd_upd {H : Hp} {a : Addr} {o o2 : HO} : upd (upd H a o) a o2 = upd H a o2 := by
  funext b
  by_cases z : b = a
  · subst z
    rw [upd_same, upd_same]
  · rw [upd_ne z, upd_ne z, upd_ne z]
theorem m8 {k : Str} (h : (keys8.contains k) = true) : k ∈ keys8 := by
  simpa using h
def sp_next (K : PySem.W.Frag) : Sp := fun vs H Q _ => ∃ (A : WA) (s : DSt) (n : Nat) (k : Int), vs = [.ref A.d, .int k] ∧ WS K H A s n ∧ 0 < k ∧ k < 2 ^ 64 ∧ ∀ H' r, Ext H A H' A → WS K H' A s n → 0 ≤ r → r < k → Q (.int r) H'
theorem ok__law_next (T : Top K mg) : FnOk P w K mg base CX0 1 (He.ga K "_law_next") T.fd__law_next ["_law_s", "_law_size"] (sp_next K) := by
  refine T.F__law_next.ok sc__law_next (fun vs H Q E h => ?_) (fun cdv A0 outer s0 H vs Q E hr h => ?_)
  · obtain ⟨A, s, n, k, rfl, _⟩ := h
    rfl
  · obtain ⟨A, s, n, k, rfl, ws, k0, k1, q⟩ := h
    refine ⟨_, PSs.nox (pss_cons (ps_set (i := 2) sc__law_next.nd rfl (Or.inl rfl) (pe_dget (hu_of hr) (pv 0) pe_str (fun _ _ => rfl)))
        (pss_cons (ps_dput (hu_of hr) (pv 0) pe_str (pe_op op_fdivW (pv 2) (pv 1)) (by rfl))
        (pss_cons (ps_dput (hu_of hr) (pv 0) pe_str (pe_op op_mod (pe_op op_add (pe_op op_mul (pe_dget (hu_of hr) (pv 0) pe_str (fun _ _ => rfl)) pe_int) pe_int) pe_int) (by rfl))
        (pss_one (ps_ret (pe_op op_mod (pe_ifExp (pt_cmpR op_gt (pv 2) pe_int (nomark _)) (pv 2) (pe_op op_fdivW (pe_dget (hu_of hr) (pv 0) pe_str (fun _ _ => rfl)) pe_int)) (pv 1))))))), ?_⟩
    obtain ⟨g, dr, g0, e⟩ := ws.dk
    have cdk : ∀ z : Int, CDivW z k := fun z => wide_div (b := 64) k0 (by omega) (by decide) (by decide)
    refine ⟨_, rfl, _, _, rfl, dget_k e dkv_digits, ?_⟩
    refine ⟨_, rfl, _, rfl, _, _, rfl, rfl, cdk _, _, rfl, _, _, rfl, dput_k e (dkv_len ws.tl), ?_⟩
    rw [dkp_digits (ws.ot _ (m8 (by decide +kernel)))]
    have g1 : 0 ≤ g / k := Int.ediv_nonneg g0 (by omega)
    refine ⟨_, rfl, _, _, rfl, dget_k upd_same dkv_draw, _, _, rfl, rfl, .inr ⟨by decide, by decide⟩, _, _, rfl, rfl, _, _, rfl, rfl, (by show (0 : Int) < 2147483647; decide), _, rfl, _, _, rfl, dput_k upd_same (dkv_len ws.tl), ?_⟩
    rw [dkp_draw (ws.ot _ (m8 (by decide +kernel))), upd_upd]
    obtain ⟨w2, x2⟩ := ws.put (s' := s) (dr := (dr * 48271 + 11) % 2147483647) g1 rfl rfl ws.bd
    have fin : ∀ z : Int, Q (.int (z % k)) (upd H A.d (.dK (dkv ((dr * 48271 + 11) % 2147483647) s.many s.step s.shift A.lb s.at_ A.ls (g / k) A.t))) := fun z => q _ _ x2 w2 (Int.emod_nonneg _ (by omega)) (Int.emod_lt_of_pos _ k0)
    refine ⟨_, rfl, _, _, rfl, rfl, _, rfl, ?_⟩
    refine ite2 (fun _ => ?_) (fun _ => ?_)
    · exact ⟨_, rfl, _, rfl, _, _, rfl, rfl, k0, fin _⟩
    · exact ⟨_, rfl, _, _, rfl, dget_k upd_same dkv_draw, _, _, rfl, rfl, cd (by decide) (by decide), _, rfl, _, _, rfl, rfl, k0, fin _⟩
/-- a new value's number -/
def DSt.nv (s : DSt) : Int := (((s.many + 1 : Nat) : Int) * s.step + s.shift) % 9973
def DSt.new (s : DSt) : DSt := { s with many := s.many + 1 }
def Small (s : DSt) : Prop := 0 ≤ s.step ∧ s.step < 10000 ∧ 0 ≤ s.shift ∧ s.shift < 10000
def sp_new (K : PySem.W.Frag) : Sp := fun vs H Q _ => ∃ (A : WA) (s : DSt) (n : Nat), vs = [.ref A.d] ∧ WS K H A s n ∧ n < 6000 ∧ ∀ H', Ext H A H' A → WS K H' A s.new (n + 1) → Q (.int s.nv) H'
theorem ok__law_new (T : Top K mg) : FnOk P w K mg base CX0 1 (He.ga K "_law_new") T.fd__law_new ["_law_s"] (sp_new K) := by
  refine T.F__law_new.ok sc__law_new (fun vs H Q E h => ?_) (fun cdv A0 outer s0 H vs Q E hr h => ?_)
  · obtain ⟨A, s, n, rfl, _⟩ := h
    rfl
  · obtain ⟨A, s, n, rfl, ws, n6, q⟩ := h
    refine ⟨_, PSs.nox (pss_cons (ps_daug (hu_of hr) (pv 0) pe_str pe_int in_add (fun _ _ _ => rfl))
        (pss_one (ps_ret (pe_op op_mod (pe_op op_add (pe_op op_mul (pe_dget (hu_of hr) (pv 0) pe_str (fun _ _ => rfl)) (pe_dget (hu_of hr) (pv 0) pe_str (fun _ _ => rfl))) (pe_dget (hu_of hr) (pv 0) pe_str (fun _ _ => rfl))) pe_int)))), ?_⟩
    obtain ⟨g, dr, g0, e⟩ := ws.dk
    refine ⟨_, rfl, _, _, rfl, dget_k e dkv_many, _, _, rfl, rfl, _, dput_k e (dkv_len ws.tl), ?_⟩
    rw [dkp_many (ws.ot _ (m8 (by decide +kernel)))]
    have bd := ws.bd
    obtain ⟨w2, x2⟩ := (ws.mono (k := n + 1) (by omega) (by omega)).put (s' := s.new) (dr := dr) g0 rfl rfl ⟨Nat.succ_le_succ bd.m, Nat.le_succ_of_le bd.b, Nat.le_succ_of_le bd.a, Nat.le_succ_of_le bd.c, fun b hb => ⟨Nat.le_succ_of_le (bd.r b hb).1, (bd.r b hb).2⟩, bd.z⟩
    have mx := bd.m
    refine ⟨_, rfl, _, _, rfl, dget_k upd_same dkv_many, _, rfl, _, _, rfl, dget_k upd_same dkv_step, _, _, rfl, rfl, .inl ⟨by omega, by omega⟩, _, rfl, _, _, rfl, dget_k upd_same dkv_shift, _, _, rfl, rfl, _, _, rfl, rfl, (by show (0 : Int) < 9973; decide), ?_⟩
    exact q _ x2 w2
end

section
variable {X : Cx} {K : PySem.W.Frag} {pos : Pos}
theorem pg_tupK (h : X.K = K) {es : List Expr} {k : Nat} {t : TGs} {n : Nat} (hc : X.calm = true) (hg : PGs X es t)
    (hn : (assignEach es X.env).length = n := by rfl) (hst : (assignEach es X.env).findIdx? (·.1) = none := by rfl) : PG X (.Tuple es k pos) (gTup K n t) := by
  subst h
  exact pg_tup hc hg hn hst
end

section
variable {P : Program} {w : World} {K : PySem.W.Frag} {mg : Str → Option Value} {base : Heap}
theorem Ext.lay {H H1 : Hp} {A : WA} {L : Addr} {o : HO} (x : Ext H A H1 A) (n : H1 L = none) : Ext H A (upd H1 L o) A := x.trans (.same (same_new n))
theorem WS.lay {H : Hp} {A : WA} {s : DSt} {n : Nat} {L : Addr} {o : HO} (h : WS K H A s n) (z : H L = none) : WS K (upd H L o) A s n := h.sm (same_new z)
theorem WS.off {H : Hp} {A : WA} {s : DSt} {n : Nat} {L : Addr} (h : WS K H A s n) (z : H L = none) : ¬ A.own L := fun y => by
  obtain ⟨x, e, _⟩ := h.there y
  rw [z] at e
  cases e
def sp_number (K : PySem.W.Frag) : Sp := fun vs H Q _ => ∃ (A : WA) (s : DSt) (n : Nat), vs = [.ref A.d] ∧ WS K H A s n ∧ ∀ H' r, Ext H A H' A → WS K H' A s n → In32 r → Q (.int r) H'
theorem ok__law_number (T : Top K mg) : FnOk P w K mg base CX0 2 (He.ga K "_law_number") T.fd__law_number ["_law_s"] (sp_number K) := by
  have G__law_next := ok__law_next (P := P) (w := w) (base := base) T
  refine T.F__law_number.ok sc__law_number (fun vs H Q E h => ?_) (fun cdv A0 outer s0 H vs Q E hr h => ?_)
  · obtain ⟨A, s, n, rfl, _⟩ := h
    rfl
  · obtain ⟨A, s, n, rfl, ws, q⟩ := h
    refine ⟨_, PSs.nox (pss_cons (ps_if (PW.pt (pw_and (pt_cmpR op_gt (pe_dget (hu_of hr) (pv 0) pe_str (fun _ _ => rfl)) pe_int (nomark _)) (pw_and1 (pt_cmpR op_eq (pe_call G__law_next (hr.mono (by omega)) (by rfl) T.g__law_next T.F__law_next.kp T.b__law_next .nil pass0 (pa_cons (pv 0) (pa_cons pe_int pa_nil))) pe_int (nomark _))))) (pss_one (ps_ret (pe_op op_sub (pe_call G__law_next (hr.mono (by omega)) (by rfl) T.g__law_next T.F__law_next.kp T.b__law_next .nil pass0 (pa_cons (pv 0) (pa_cons pe_int pa_nil))) pe_int))) pss_nil)
        (pss_cons (ps_set (i := 1) sc__law_number.nd rfl (Or.inl rfl) (pe_ix ix_list (pe_lst (pa_cons pe_int (pa_cons (pe_un un_neg pe_int) (pa_cons pe_int (pa_cons (pe_un un_neg pe_int) (pa_cons pe_int pa_nil)))))) (pe_call G__law_next (hr.mono (by omega)) (by rfl) T.g__law_next T.F__law_next.kp T.b__law_next .nil pass0 (pa_cons (pv 0) (pa_cons pe_int pa_nil))) (fun _ _ => rfl)))
        (pss_one (ps_ret (pe_ix ix_list (pe_lst (pa_cons (pe_call G__law_next (hr.mono (by omega)) (by rfl) T.g__law_next T.F__law_next.kp T.b__law_next .nil pass0 (pa_cons (pv 0) (pa_cons pe_int pa_nil))) (pa_cons (pe_op op_sub (pe_call G__law_next (hr.mono (by omega)) (by rfl) T.g__law_next T.F__law_next.kp T.b__law_next .nil pass0 (pa_cons (pv 0) (pa_cons pe_int pa_nil))) pe_int) (pa_cons pe_int (pa_cons pe_int (pa_cons (pv 1) (pa_cons (pe_call G__law_next (hr.mono (by omega)) (by rfl) T.g__law_next T.F__law_next.kp T.b__law_next .nil pass0 (pa_cons (pv 0) (pa_cons pe_int pa_nil))) pa_nil))))))) (pe_call G__law_next (hr.mono (by omega)) (by rfl) T.g__law_next T.F__law_next.kp T.b__law_next .nil pass0 (pa_cons (pv 0) (pa_cons pe_int pa_nil))) (fun _ _ => rfl)))))), ?_⟩
    obtain ⟨g, dr, g0, e⟩ := ws.dk
    dsimp only [gName]
    refine ifs_by (fun σ' H' => Ext H A H' A ∧ WS K H' A s n ∧ σ' = [some (.ref A.d), none]) ?_ ?_
    · rintro σ' H0 ⟨x0, w0, rfl⟩
      refine ⟨_, rfl, _, rfl, (by show 5 ≤ sizeLine; rw [sizeLine_eq]; decide), fun L nL => ?_⟩
      have x1 := x0.lay (o := .lst (([2147483647, -2147483648, 65536, -7, 100] : List Int).map V.int)) nL
      have w1 := w0.lay (o := .lst (([2147483647, -2147483648, 65536, -7, 100] : List Int).map V.int)) nL
      have oL := w0.off nL
      refine ⟨_, rfl, A, s, n, 5, rfl, w1, by decide, by decide, fun H2 r2 x2 w2 a2 b2 => ?_⟩
      have eL := x2.keep upd_same oL
      refine ⟨L, _, r2, _, rfl, rfl, .inl (.of eL), at_ints (ns := [2147483647, -2147483648, 65536, -7, 100]) a2 (by show r2 < ((5 : Nat) : Int); omega), ?_⟩
      have far : In32 (([2147483647, -2147483648, 65536, -7, 100] : List Int).getD r2.toNat 0) := getD_all (fun y hy => by
        simp only [List.mem_cons, List.not_mem_nil, or_false] at hy
        unfold In32
        omega) a2 (by show r2 < ((5 : Nat) : Int); omega)
      generalize ([2147483647, -2147483648, 65536, -7, 100] : List Int).getD r2.toNat 0 = fz at far
      have x02 := x1.trans x2
      refine ⟨_, rfl, A, s, n, 4, rfl, w2, by decide, by decide, fun H3 r3 x3 w3 a3 b3 => ?_⟩
      refine ⟨_, rfl, A, s, n, 9, rfl, w3, by decide, by decide, fun H4 r4 x4 w4 a4 b4 => ?_⟩
      refine ⟨_, _, rfl, rfl, _, rfl, _, rfl, A, s, n, 3, rfl, w4, by decide, by decide, fun H5 r5 x5 w5 a5 b5 => ?_⟩
      refine ⟨(by show 6 ≤ sizeLine; rw [sizeLine_eq]; decide), fun M nM => ?_⟩
      have oM := w5.off nM
      refine ⟨_, rfl, A, s, n, 6, rfl, w5.lay (o := .lst (([r3, r4 - 4, 0, 1, fz, r5] : List Int).map V.int)) nM, by decide, by decide, fun H6 r6 x6 w6 a6 b6 => ?_⟩
      have eM := x6.keep upd_same oM
      refine ⟨M, _, r6, _, rfl, rfl, .inl (.of eM), at_ints (ns := [r3, r4 - 4, 0, 1, fz, r5]) a6 (by show r6 < ((6 : Nat) : Int); omega), ?_⟩
      refine q _ _ (((((x02.trans x3).trans x4).trans x5).lay nM).trans x6) w6 (getD_all (fun y hy => ?_) a6 (by show r6 < ((6 : Nat) : Int); omega))
      simp only [List.mem_cons, List.not_mem_nil, or_false] at hy
      obtain ⟨f1, f2⟩ := far
      unfold In32
      omega
    · intro N hN
      refine ⟨_, rfl, _, _, rfl, dget_k e dkv_digits, _, _, rfl, rfl, _, rfl, ite2 (fun _ => ?_) (fun _ => hN _ _ ⟨.refl, ws, rfl⟩)⟩
      refine ⟨_, rfl, A, s, n, 4, rfl, ws, by decide, by decide, fun H1 r1 x1 w1 a1 b1 => ?_⟩
      refine ⟨rfl, _, rfl, ite2 (fun _ => ?_) (fun _ => hN _ _ ⟨x1, w1, rfl⟩)⟩
      refine ⟨_, rfl, A, s, n, 4294967296, rfl, w1, by decide, by decide, fun H2 r2 x2 w2 a2 b2 => ?_⟩
      refine ⟨_, _, rfl, rfl, q _ _ (x1.trans x2) w2 ?_⟩
      unfold In32
      omega
theorem shaped_ints : ∀ xs : List Int, SeqAt.shaped (.list (xs.map PyData.int)) = true := by
  have h1 : ∀ l : List Int, PyData.canLayAll0 (l.map PyData.int) = true := by
    intro l
    induction l with
    | nil => rfl
    | cons x r ih =>
      show PyData.canLayAll0 (PyData.int x :: r.map PyData.int) = true
      unfold PyData.canLayAll0
      rw [ih]
      rfl
  have h2 : ∀ l : List Int, PyData.depthAll (l.map PyData.int) ≤ 1 := by
    intro l
    induction l with
    | nil => decide
    | cons x r ih =>
      show PyData.depthAll (PyData.int x :: r.map PyData.int) ≤ 1
      unfold PyData.depthAll
      have : (PyData.int x).depth ≤ 1 := by unfold PyData.depth; decide
      omega
  intro xs
  unfold SeqAt.shaped
  rw [Bool.and_eq_true]
  refine ⟨?_, decide_eq_true ?_⟩
  · unfold PyData.canLay0
    exact h1 xs
  · have := h2 xs
    unfold PyData.depth
    omega
theorem eqv_ints_nil (xl : List Int) : PyData.eqv (.list (xl.map PyData.int)) (.list []) = xl.isEmpty := by
  cases xl with
  | nil => exact SeqAt.eqv_refl _ rfl
  | cons x r => simp [PyData.eqv, PyData.eqvAll]
theorem ints_dpAll {H : Hp} : ∀ (zs : List Int), DpAll K H (zs.map V.int) (zs.map PyData.int)
  | [] => .nil
  | z :: zs => .cons (.int z) (ints_dpAll zs)
/-- the values of a scope: rows (true) or numbers -/
def kept (b : Bool) (sc : List (Int × Int)) : List Int := (sc.filter fun p => decide (decide (0 < p.2) = b)).map (·.1)
theorem sc_at {H : Hp} {sc : List (Int × Int)} {svs : List V} {i : Nat} {y : V} (d : DpAll K H svs (sc.map pairD)) (h : svs[i]? = some y) : ∃ a b q, sc[i]? = some (a, b) ∧ y = .ref q ∧ SqT K H q [.int a, .int b] := by
  obtain ⟨e, he, hd⟩ := dpAll_getV d h
  rw [List.getElem?_map] at he
  cases hs : sc[i]? with
  | none => rw [hs] at he; cases he
  | some p =>
    rw [hs] at he
    cases he
    obtain ⟨q, xs, rfl, hq, hx⟩ := dp_tup hd
    obtain ⟨v1, r1, rfl, d1, t1⟩ := dpAll_cons hx
    obtain ⟨v2, r2, rfl, d2, t2⟩ := dpAll_cons t1
    rw [dp_int d1, dp_int d2, dpAll_nil t2] at hq
    exact ⟨p.1, p.2, q, rfl, rfl, hq⟩
theorem take_flt {α β : Type} {f : α → Bool} {g : α → β} {l : List α} {i : Nat} {x : α} (h : l[i]? = some x) : ((l.take (i + 1)).filter f).map g = ((l.take i).filter f).map g ++ (if f x = true then [g x] else []) := by
  have hi := (List.getElem?_eq_some_iff.mp h).1
  have e := (List.getElem?_eq_some_iff.mp h).2
  rw [List.take_succ, h, List.filter_append, List.map_append]
  congr 1
  by_cases z : f x = true
  · simp [z]
  · simp [z]
def Picked (sc : List (Int × Int)) (b : Bool) (r : Int) : Prop := (r = -1 ∧ kept b sc = []) ∨ r ∈ kept b sc
theorem kept_mem {b : Bool} {sc : List (Int × Int)} {r : Int} (h : r ∈ kept b sc) : ∃ z, (r, z) ∈ sc ∧ decide (0 < z) = b := by
  obtain ⟨p, hp, rfl⟩ := List.mem_map.mp h
  obtain ⟨h1, h2⟩ := List.mem_filter.mp hp
  exact ⟨p.2, h1, of_decide_eq_true h2⟩
theorem kept_nn {b : Bool} {sc : List (Int × Int)} {r : Int} (z : sz8 sc) (h : r ∈ kept b sc) : 0 ≤ r := by
  obtain ⟨k, hk, _⟩ := kept_mem h
  exact (z _ hk).2.1
def sp_pick (K : PySem.W.Frag) : Sp := fun vs H Q _ => ∃ (A : WA) (s : DSt) (n : Nat) (b : Bool), vs = [.ref A.d, .bl b] ∧ WS K H A s n ∧ ∀ H' r, Ext H A H' A → WS K H' A s n → Picked s.sc b r → Q (.int r) H'
theorem ok__law_pick (T : Top K mg) : FnOk P w K mg base CX0 2 (He.ga K "_law_pick") T.fd__law_pick ["_law_s", "_law_wants_row"] (sp_pick K) := by
  have G__law_next := ok__law_next (P := P) (w := w) (base := base) T
  refine T.F__law_pick.ok sc__law_pick (fun vs H Q E h => ?_) (fun cdv A0 outer s0 H vs Q E hr h => ?_)
  · obtain ⟨A, s, n, b, rfl, _⟩ := h
    rfl
  · obtain ⟨A, s, n, b, rfl, ws, q⟩ := h
    refine ⟨_, PSs.nox (pss_cons (ps_setLc (i := 2) (own := [("_law_value", 3), ("_law_size", 4)]) (by rfl) sc__law_pick.nd rfl rfl (sw_true rfl rfl rfl (by decide +kernel)) (pi_list (pe_dget (hu_of hr) (pv 0) pe_str (fun _ _ => rfl))) (blkOk_by (own := [("_law_value", 3), ("_law_size", 4)]) (N := N__law_pick) (sc := defScope s__law_pick) (by decide +kernel)) (fun _ _ _ _ _ => (pg_tupK (K := K) (n := 2) rfl (by rfl) (pgs_cons (pg_name (i := 3) sc__law_pick.nd rfl (Or.inl rfl)) (pgs_cons (pg_name (i := 4) sc__law_pick.nd rfl (Or.inl rfl)) pgs_nil)))) (fun _ _ _ _ _ => (pts_one (pt_cmpR op_eq (pe_cmpR op_gt (pv 4) pe_int (nomark _)) (pv 1) (nomark _)))) (fun _ _ _ _ _ => (pv 3)))
        (pss_cons (ps_if (pt_cmpR (op_eqD hr.units) (pv 2) (pe_lst pa_nil) (nomark _)) (pss_one (ps_ret (pe_un un_neg pe_int))) pss_nil)
        (pss_one (ps_ret (pe_ix ix_list (pv 2) (pe_callB (call_max2 rfl) (by rfl) T.m_max (by decide +kernel) (pa_cons (pe_call G__law_next (hr.mono (by omega)) (by rfl) T.g__law_next T.F__law_next.kp T.b__law_next .nil pass0 (pa_cons (pv 0) (pa_cons (pe_callB call_len_seq (by rfl) T.m_len (by decide +kernel) (pa_cons (pv 2) pa_nil)) pa_nil))) (pa_cons (pe_call G__law_next (hr.mono (by omega)) (by rfl) T.g__law_next T.F__law_next.kp T.b__law_next .nil pass0 (pa_cons (pv 0) (pa_cons (pe_callB call_len_seq (by rfl) T.m_len (by decide +kernel) (pa_cons (pv 2) pa_nil)) pa_nil))) pa_nil))) (fun _ _ => rfl)))))), ?_⟩
    obtain ⟨g, dr, g0, e⟩ := ws.dk
    obtain ⟨svs, eS, dS⟩ := ws.ls
    have lS := dpAll_len dS
    rw [List.length_map] at lS
    have n6 := ws.n6
    have bs := ws.bd.c
    refine ⟨_, rfl, _, _, rfl, dget_k e dkv_scope, A.ls, rfl, ⟨_, .of eS⟩, fun L nL => ?_⟩
    have oL := ws.off nL
    have kl : ∀ i, (kept b (s.sc.take i)).length ≤ 6000 := fun i => by
      unfold kept
      rw [List.length_map]
      have h1 := List.length_filter_le (fun p : Int × Int => decide (decide (0 < p.2) = b)) (s.sc.take i)
      rw [List.length_take] at h1
      omega
    refine lc_list (K := K) (a := A.ls) (xs := svs) (fun i H' => Same H H' ∧ H' L = some (.lst ((kept b (s.sc.take i)).map V.int))) ?_ ?_ ?_ ?_
    · exact ⟨same_new nL, upd_same⟩
    · rintro i H' _ ⟨s', _⟩
      exact .of (s' _ _ eS)
    · rintro i y H' hy ⟨s', e'⟩
      obtain ⟨a, z, qq, hab, rfl, hq⟩ := sc_at dS hy
      refine ⟨qq, _, rfl, sqT_sm s' hq, rfl, _, _, rfl, _, _, rfl, rfl, rfl, ?_⟩
      refine ⟨_, rfl, _, _, rfl, rfl, _, rfl, rfl, _, rfl, ?_⟩
      have fe : kept b (s.sc.take (i + 1)) = kept b (s.sc.take i) ++ (if decide (decide (0 < z) = b) = true then [a] else []) := take_flt hab
      rw [fe]
      by_cases hb : decide (0 < z) = b
      · refine ifD (show V.bl (decide (0 < z)) = V.bl b by rw [hb]) ?_
        refine ⟨_, rfl, _, e', by rw [List.length_map, sizeLine_eq]; have := kl i; omega, same_upd s' nL, ?_⟩
        rw [upd_same, if_pos (decide_eq_true hb), List.map_append]
        rfl
      · refine ifN (fun y => hb (V.bl.inj y)) ⟨s', ?_⟩
        rw [e', if_neg (by rw [decide_eq_true_eq]; exact hb), List.append_nil]
    · rintro H1 ⟨s1, e1⟩
      rw [lS, List.take_length] at e1
      have w1 := ws.sm s1
      have x1 : Ext H A H1 A := .same s1
      dsimp only [gName]
      have kn := kl s.sc.length
      rw [List.take_length] at kn
      generalize hk : kept b s.sc = ks at e1 kn
      refine ⟨_, rfl, Nat.zero_le _, fun M nM => ?_⟩
      have sM := same_new (o := .lst []) nM
      have eL := sM _ _ e1
      refine ⟨.list (ks.map PyData.int), .list [], .lst (.of eL) (ints_dpAll ks), .lst (.of upd_same) .nil, shaped_ints ks, shaped_ints [], _, rfl, ?_⟩
      rw [eqv_ints_nil]
      have w2 := w1.sm sM
      have x2 := x1.trans (Ext.same sM)
      cases ks with
      | nil => exact ⟨_, rfl, q _ _ x2 w2 (.inl ⟨rfl, hk⟩)⟩
      | cons k0 kr =>
        have cnt : (((k0 :: kr).map V.int).length : Int) = ((k0 :: kr).length : Nat) := by rw [List.length_map]
        have c0 : (0 : Int) < ((k0 :: kr).length : Nat) := by rw [List.length_cons]; omega
        have c1 : (((k0 :: kr).length : Nat) : Int) < 2 ^ 64 := by omega
        refine ⟨_, rfl, _, rfl, _, rfl, L, _, rfl, .inl (.of eL), A, s, n, (k0 :: kr).length, by rw [cnt]; rfl, w2, c0, c1, fun H3 r3 x3 w3 a3 b3 => ?_⟩
        have eL3 := x3.keep eL oL
        refine ⟨_, rfl, _, rfl, L, _, rfl, .inl (.of eL3), A, s, n, (k0 :: kr).length, by rw [cnt]; rfl, w3, c0, c1, fun H4 r4 x4 w4 a4 b4 => ?_⟩
        have eL4 := x4.keep eL3 oL
        have mx : 0 ≤ (if r4 > r3 then r4 else r3) ∧ (if r4 > r3 then r4 else r3) < ((k0 :: kr).length : Nat) := by
          split
          · exact ⟨a4, b4⟩
          · exact ⟨a3, b3⟩
        obtain ⟨z, hz, ez⟩ := at_list (ns := k0 :: kr) mx.1 mx.2
        have ez2 : atI ((k0 :: kr).map V.int) (if r4 > r3 then r4 else r3) = some (.int z) := by
          obtain ⟨j, hj⟩ := Int.eq_ofNat_of_zero_le mx.1
          rw [hj] at ez ⊢
          have hl : j < (k0 :: kr).length := by
            have := mx.2
            omega
          have e1 := atI_nat (xs := k0 :: kr) (j := j) (List.getElem?_eq_getElem hl)
          rw [show ((j : Nat) : Int) = (j : Int) from rfl] at ez
          have e3 : some ((k0 :: kr)[j]'hl) = some z := e1.symm.trans ez
          refine atI_nat ?_
          rw [List.getElem?_map, List.getElem?_eq_getElem hl, e3]
          rfl
        exact ⟨_, _, rfl, L, _, _, _, rfl, rfl, .of eL4, ez2, q _ _ ((x2.trans x3).trans x4) w4 (.inr (by rw [hk]; exact hz))⟩
end

section
variable {P : Program} {w : World} {K : PySem.W.Frag} {mg : Str → Option Value} {base : Heap}
theorem at_intsM {ns : List Int} {i : Int} (h0 : 0 ≤ i) (h1 : i < ns.length) : ∃ z ∈ ns, atI (ns.map V.int) i = some (.int z) := by
  obtain ⟨x, hx, e⟩ := at_list (ns := ns.map V.int) h0 (by rw [List.length_map]; exact h1)
  obtain ⟨z, hz, rfl⟩ := List.mem_map.mp hx
  exact ⟨z, hz, e⟩
theorem adrs_ne : ∀ {bs : List (Addr × Addr)} {i j : Nat} {p q : Addr × Addr}, (adrs bs).Nodup → bs[i]? = some p → bs[j]? = some q → i ≠ j → (p.1 ≠ q.1 ∧ p.1 ≠ q.2) ∧ p.2 ≠ q.1 ∧ p.2 ≠ q.2
  | [], i, j, p, q, _, h, _, _ => by simp at h
  | b :: r, i, j, p, q, nd, hp, hq, hij => by
    have e : adrs (b :: r) = b.1 :: b.2 :: adrs r := rfl
    rw [e] at nd
    have n1 := List.nodup_cons.mp nd
    have n2 := List.nodup_cons.mp n1.2
    have f1 : ∀ {x}, x ∈ adrs r → b.1 ≠ x ∧ b.2 ≠ x := fun hx => ⟨fun z => n1.1 (List.mem_cons_of_mem _ (z ▸ hx)), fun z => n2.1 (z ▸ hx)⟩
    cases i with
    | zero =>
      cases j with
      | zero => exact absurd rfl hij
      | succ j =>
        cases hp
        have hq' : r[j]? = some q := hq
        have m := List.mem_of_getElem? hq'
        exact ⟨⟨(f1 (adrs_1 m)).1, (f1 (adrs_2 m)).1⟩, (f1 (adrs_1 m)).2, (f1 (adrs_2 m)).2⟩
    | succ i =>
      have hp' : r[i]? = some p := hp
      cases j with
      | zero =>
        cases hq
        have m := List.mem_of_getElem? hp'
        exact ⟨⟨(f1 (adrs_1 m)).1.symm, (f1 (adrs_1 m)).2.symm⟩, (f1 (adrs_2 m)).1.symm, (f1 (adrs_2 m)).2.symm⟩
      | succ j => exact adrs_ne n2.2 hp' hq fun z => hij (by rw [z])
theorem adrs_12 {bs : List (Addr × Addr)} (nd : (adrs bs).Nodup) {p : Addr × Addr} (h : p ∈ bs) : p.1 ≠ p.2 := by
  induction bs with
  | nil => cases h
  | cons b r ih =>
    have e : adrs (b :: r) = b.1 :: b.2 :: adrs r := rfl
    rw [e] at nd
    have n1 := List.nodup_cons.mp nd
    rcases List.mem_cons.mp h with rfl | h
    · exact fun z => n1.1 (z ▸ List.mem_cons_self ..)
    · exact ih (List.nodup_cons.mp n1.2).2 h
structure Nd (A : WA) : Prop where
  d : ∀ a, a = A.lb ∨ a = A.ls ∨ a ∈ adrs A.bs → a ≠ A.d
  lb : ∀ a, a = A.ls ∨ a ∈ adrs A.bs → a ≠ A.lb
  ls : ∀ a, a ∈ adrs A.bs → a ≠ A.ls
  bs : (adrs A.bs).Nodup
theorem nd_of {A : WA} (h : A.all.Nodup) : Nd A := by
  have h1 := List.nodup_cons.mp h
  have h2 := List.nodup_cons.mp h1.2
  have h3 := List.nodup_cons.mp h2.2
  refine ⟨fun a ha z => h1.1 ?_, fun a ha z => h2.1 ?_, fun a ha z => h3.1 (z ▸ ha), h3.2⟩
  · rw [← z]
    rcases ha with rfl | rfl | ha
    · exact List.mem_cons_self ..
    · exact List.mem_cons_of_mem _ (List.mem_cons_self ..)
    · exact List.mem_cons_of_mem _ (List.mem_cons_of_mem _ ha)
  · rw [← z]
    rcases ha with rfl | ha
    · exact List.mem_cons_self ..
    · exact List.mem_cons_of_mem _ ha
/-- one block changed -/
def modB (f : Blk → Blk) : Nat → List Blk → List Blk
  | _, [] => []
  | 0, b :: r => f b :: r
  | i + 1, b :: r => b :: modB f i r
theorem modB_len (f : Blk → Blk) : ∀ (i : Nat) (l : List Blk), (modB f i l).length = l.length
  | _, [] => by simp [modB]
  | 0, b :: r => by simp [modB]
  | i + 1, b :: r => by simp [modB, modB_len f i r]
theorem modB_at (f : Blk → Blk) : ∀ (i j : Nat) (l : List Blk), (modB f i l)[j]? = if j = i then l[j]?.map f else l[j]?
  | i, j, [] => by simp [modB]
  | 0, 0, b :: r => by simp [modB]
  | 0, j + 1, b :: r => by simp [modB]
  | i + 1, 0, b :: r => by simp [modB]
  | i + 1, j + 1, b :: r => by
    have := modB_at f i j r
    simp only [modB, List.getElem?_cons_succ, this, Nat.add_right_cancel_iff]
theorem modB_mem {f : Blk → Blk} {i : Nat} {l : List Blk} {b : Blk} (h : b ∈ modB f i l) : b ∈ l ∨ ∃ c, l[i]? = some c ∧ b = f c := by
  obtain ⟨j, hj⟩ := List.getElem?_of_mem h
  rw [modB_at] at hj
  by_cases z : j = i
  · rw [if_pos z] at hj
    subst z
    cases e : l[j]? with
    | none => rw [e] at hj; cases hj
    | some c =>
      rw [e] at hj
      cases hj
      exact .inr ⟨c, rfl, rfl⟩
  · rw [if_neg z] at hj
    exact .inl (List.mem_of_getElem? hj)
theorem BlksAt.mod {S : Addr → Prop} {H H' : Hp} {bs : List (Addr × Addr)} {l : List Blk} {i : Nat} {f : Blk → Blk} (h : BlksAt K H bs l) (k : Kp S H H') (hi : ∀ p b, bs[i]? = some p → l[i]? = some b → BlkAt K H' p (f b))
    (ho : ∀ j p, j ≠ i → bs[j]? = some p → H' p.1 = H p.1 ∧ H' p.2 = H p.2) : BlksAt K H' bs (modB f i l) := by
  refine ⟨by rw [modB_len]; exact h.len, fun j p b hp hb => ?_⟩
  rw [modB_at] at hb
  by_cases z : j = i
  · rw [if_pos z] at hb
    subst z
    cases e : l[j]? with
    | none => rw [e] at hb; cases hb
    | some c =>
      rw [e] at hb
      cases hb
      exact hi p c hp e
  · rw [if_neg z] at hb
    exact (h.at_ j p b hp hb).kp k (ho j p z hp).1 (ho j p z hp).2
/-- a block's parts -/
theorem WS.blk {H : Hp} {A : WA} {s : DSt} {n i : Nat} (h : WS K H A s n) (hi : i < s.bls.length) : ∃ (p : Addr × Addr) (b : Blk) (vp ve : V) (rvs : List V), A.bs[i]? = some p ∧ s.bls[i]? = some b ∧ (A.bs.map fun p => V.ref p.1)[i]? = some (.ref p.1) ∧
    H p.1 = some (.lst [vp, .ref p.2, ve]) ∧ Dp K H vp (.tuple (b.ps.map pairD)) ∧ Dp K H ve b.en.d ∧ H p.2 = some (.lst rvs) ∧ DpAll K H rvs (b.rs.map GRow.d) ∧ rvs.length ≤ n ∧ A.own p.1 ∧ A.own p.2 := by
  have hj : i < A.bs.length := by rw [h.bl.len]; exact hi
  have e1 := List.getElem?_eq_getElem hj
  have e2 := List.getElem?_eq_getElem hi
  obtain ⟨vp, ve, rvs, h1, h2, h3, h4, h5⟩ := (h.bl.at_ i _ _ e1 e2).l
  have l5 := dpAll_len h5
  rw [List.length_map] at l5
  have lb := (h.bd.r _ (List.mem_of_getElem? e2)).1
  exact ⟨_, _, vp, ve, rvs, e1, e2, by rw [List.getElem?_map, e1]; rfl, h1, h2, h3, h4, h5, by omega, own_b (adrs_1 (List.mem_of_getElem? e1)), own_b (adrs_2 (List.mem_of_getElem? e1))⟩
/-- rows of a block changed -/
theorem WS.rows {H : Hp} {A : WA} {s : DSt} {n n' i : Nat} {p : Addr × Addr} {f : Blk → Blk} {rvs rvs' : List V} {b : Blk} (h : WS K H A s n) (hp : A.bs[i]? = some p) (hb : s.bls[i]? = some b) (e : H p.2 = some (.lst rvs)) (d : DpAll K H rvs' ((f b).rs.map GRow.d))
    (fp : (f b).ps = b.ps) (fe : (f b).en = b.en) (ln : n ≤ n') (n6 : n' ≤ 6000) (rl : (f b).rs.length ≤ n') :
    WS K (upd H p.2 (.lst rvs')) A { s with bls := modB f i s.bls } n' ∧ Ext H A (upd H p.2 (.lst rvs')) A := by
  have nd := nd_of h.nd
  have m := List.mem_of_getElem? hp
  have k : Kp A.own H (upd H p.2 (.lst rvs')) := Kp.upd e trivial (own_b (adrs_2 m))
  obtain ⟨⟨g, dr, g0, e1⟩, e2, ⟨svs, e3, e4⟩, bl, nd0, bd, _, ot, tl⟩ := h
  have bd' := bd.mono ln
  refine ⟨⟨⟨g, dr, g0, (upd_ne (nd.d _ (.inr (.inr (adrs_2 m)))).symm).trans e1⟩, (upd_ne (nd.lb _ (.inr (adrs_2 m))).symm).trans e2, ⟨svs, (upd_ne (nd.ls _ (adrs_2 m)).symm).trans e3, dpAll_kp k _ _ (pairs_nl _) e4⟩,
    bl.mod k (fun p2 b2 hp2 hb2 => ?_) (fun j q hj hq => ?_), nd0, ⟨bd'.m, by rw [modB_len]; exact bd'.b, bd'.a, bd'.c, fun c hc => ?_, bd'.z⟩, n6, ot, tl⟩, k, fun _ z => .inl z, rfl, rfl⟩
  · rw [hp] at hp2
    rw [hb] at hb2
    cases hp2
    cases hb2
    obtain ⟨vp, ve, rv, h1, h2, h3, h4, h5⟩ := (bl.at_ i p b hp hb).l
    exact ⟨vp, ve, rvs', (upd_ne (adrs_12 nd.bs m)).trans h1, by rw [fp]; exact dp_kp k _ _ (by unfold nLd; exact pairs_nl _) h2, by rw [fe]; exact dp_kp k _ _ b.en.nl h3, upd_same, dpAll_kp k _ _ (rows_nl _) d⟩
  · have := adrs_ne nd.bs hq hp hj
    exact ⟨upd_ne this.1.2, upd_ne this.2.2⟩
  · rcases modB_mem hc with hc | ⟨c2, hc2, rfl⟩
    · exact bd'.r c hc
    · rw [hb] at hc2
      cases hc2
      have := bd'.r b (List.mem_of_getElem? hb)
      rw [fp]
      exact ⟨rl, this.2⟩
/-- a block's end changed -/
theorem WS.end {H : Hp} {A : WA} {s : DSt} {n i : Nat} {p : Addr × Addr} {vp v0 ve : V} {b : Blk} {en : En} (h : WS K H A s n) (hp : A.bs[i]? = some p) (hb : s.bls[i]? = some b) (e : H p.1 = some (.lst [vp, .ref p.2, v0])) (d : Dp K H ve en.d) :
    WS K (upd H p.1 (.lst [vp, .ref p.2, ve])) A { s with bls := modB (fun b => { b with en := en }) i s.bls } n ∧ Ext H A (upd H p.1 (.lst [vp, .ref p.2, ve])) A := by
  have nd := nd_of h.nd
  have m := List.mem_of_getElem? hp
  have k : Kp A.own H (upd H p.1 (.lst [vp, .ref p.2, ve])) := Kp.upd e trivial (own_b (adrs_1 m))
  obtain ⟨⟨g, dr, g0, e1⟩, e2, ⟨svs, e3, e4⟩, bl, nd0, bd, n6, ot, tl⟩ := h
  refine ⟨⟨⟨g, dr, g0, (upd_ne (nd.d _ (.inr (.inr (adrs_1 m)))).symm).trans e1⟩, (upd_ne (nd.lb _ (.inr (adrs_1 m))).symm).trans e2, ⟨svs, (upd_ne (nd.ls _ (adrs_1 m)).symm).trans e3, dpAll_kp k _ _ (pairs_nl _) e4⟩,
    bl.mod k (fun p2 b2 hp2 hb2 => ?_) (fun j q hj hq => ?_), nd0, ⟨bd.m, by rw [modB_len]; exact bd.b, bd.a, bd.c, fun c hc => ?_, bd.z⟩, n6, ot, tl⟩, k, fun _ z => .inl z, rfl, rfl⟩
  · rw [hp] at hp2
    rw [hb] at hb2
    cases hp2
    cases hb2
    obtain ⟨vp2, ve2, rv, h1, h2, h3, h4, h5⟩ := (bl.at_ i p b hp hb).l
    rw [e] at h1
    cases h1
    exact ⟨vp, ve, rv, upd_same, dp_kp k _ _ (by unfold nLd; exact pairs_nl _) h2, dp_kp k _ _ en.nl d, (upd_ne (adrs_12 nd.bs m).symm).trans h4, dpAll_kp k _ _ (rows_nl _) h5⟩
  · have := adrs_ne nd.bs hq hp hj
    exact ⟨upd_ne this.1.1, upd_ne this.2.1⟩
  · rcases modB_mem hc with hc | ⟨c2, hc2, rfl⟩
    · exact bd.r c hc
    · rw [hb] at hc2
      cases hc2
      exact bd.r b (List.mem_of_getElem? hb)
/-- the scope appended -/
theorem WS.scope {H : Hp} {A : WA} {s : DSt} {n n' : Nat} {svs svs' : List V} {sc : List (Int × Int)} (h : WS K H A s n) (e : H A.ls = some (.lst svs)) (d : DpAll K H svs' (sc.map pairD)) (z : sz8 sc) (l : sc.length ≤ n') (ln : n ≤ n') (n6 : n' ≤ 6000) :
    WS K (upd H A.ls (.lst svs')) A { s with sc := sc } n' ∧ Ext H A (upd H A.ls (.lst svs')) A := by
  have nd := nd_of h.nd
  have k : Kp A.own H (upd H A.ls (.lst svs')) := Kp.upd e trivial (own_ls A)
  obtain ⟨⟨g, dr, g0, e1⟩, e2, _, bl, nd0, bd, _, ot, tl⟩ := h
  have bd' := bd.mono ln
  refine ⟨⟨⟨g, dr, g0, (upd_ne (nd.d _ (.inr (.inl rfl))).symm).trans e1⟩, (upd_ne (nd.lb _ (.inl rfl)).symm).trans e2, ⟨svs', upd_same, dpAll_kp k _ _ (pairs_nl _) d⟩,
    ⟨bl.len, fun j q b hq hb => (bl.at_ j q b hq hb).kp k (upd_ne (nd.ls _ (adrs_1 (List.mem_of_getElem? hq)))) (upd_ne (nd.ls _ (adrs_2 (List.mem_of_getElem? hq))))⟩, nd0, ⟨bd'.m, bd'.b, bd'.a, l, bd'.r, z⟩, n6, ot, tl⟩, k, fun _ z => .inl z, rfl, rfl⟩
end

section
variable {P : Program} {w : World} {K : PySem.W.Frag} {mg : Str → Option Value} {base : Heap}
theorem paired_sc {H : Hp} : ∀ {sc : List (Int × Int)} {svs : List V}, DpAll K H svs (sc.map pairD) → ∃ ps : List Addr, svs = ps.map V.ref ∧ Paired (fun p (kv : Key × V) => SqT K H p [kV kv.1, kv.2]) ps (sc.map fun p => ((.inl p.1 : Key), V.int p.2))
  | [], svs, h => by
    rw [dpAll_nil h]
    exact ⟨[], rfl, .nil⟩
  | p :: r, svs, h => by
    obtain ⟨v, t, rfl, h1, h2⟩ := dpAll_cons h
    obtain ⟨ps, rfl, pr⟩ := paired_sc h2
    obtain ⟨q, xs, rfl, hq, hx⟩ := dp_tup h1
    obtain ⟨v1, r1, rfl, d1, t1⟩ := dpAll_cons hx
    obtain ⟨v2, r2, rfl, d2, t2⟩ := dpAll_cons t1
    rw [dp_int d1, dp_int d2, dpAll_nil t2] at hq
    exact ⟨q :: ps, rfl, .cons hq pr⟩
/-- the size that a scope's dict tells of a value -/
def GSize (sc : List (Int × Int)) (h z : Int) : Prop := (h, z) ∈ sc ∨ (z = 0 ∧ ∀ p ∈ sc, p.1 ≠ h)
theorem merge_val : ∀ (kvs acc : List (Key × V)) (k : Key), (∃ v, valV (mergeK acc kvs) k = some v ∧ ((k, v) ∈ kvs ∨ valV acc k = some v)) ∨ (valV (mergeK acc kvs) k = none ∧ valV acc k = none ∧ ∀ p ∈ kvs, p.1 ≠ k)
  | [], acc, k => by
    show (∃ v, valV acc k = some v ∧ _) ∨ (valV acc k = none ∧ _)
    cases e : valV acc k with
    | none => exact .inr ⟨rfl, rfl, fun p hp => nomatch hp⟩
    | some v => exact .inl ⟨v, rfl, .inr rfl⟩
  | p :: r, acc, k => by
    show (∃ v, valV (mergeK (putK acc p.1 p.2) r) k = some v ∧ _) ∨ (valV (mergeK (putK acc p.1 p.2) r) k = none ∧ _)
    rcases merge_val r (putK acc p.1 p.2) k with ⟨v, e, h | h⟩ | ⟨e, h, f⟩
    · exact .inl ⟨v, e, .inl (List.mem_cons_of_mem _ h)⟩
    · rw [valV_put] at h
      by_cases z : k = p.1
      · rw [if_pos z] at h
        cases h
        exact .inl ⟨_, e, .inl (by rw [z]; exact List.mem_cons_self ..)⟩
      · rw [if_neg z] at h
        exact .inl ⟨v, e, .inr h⟩
    · rw [valV_put] at h
      by_cases z : k = p.1
      · rw [if_pos z] at h
        cases h
      · rw [if_neg z] at h
        exact .inr ⟨e, h, fun q hq => by
          rcases List.mem_cons.mp hq with rfl | hq
          · exact fun y => z y.symm
          · exact f q hq⟩
theorem gsize_of (sc : List (Int × Int)) (h : Int) : ∃ z : Int, (valV (mergeK [] (sc.map fun p => ((.inl p.1 : Key), V.int p.2))) (.inl h)).getD (.int 0) = .int z ∧ GSize sc h z := by
  rcases merge_val (sc.map fun p => ((.inl p.1 : Key), V.int p.2)) [] (.inl h) with ⟨v, e, m | m⟩ | ⟨e, _, f⟩
  · obtain ⟨p, hp, y⟩ := List.mem_map.mp m
    injection y with y1 y2
    injection y1 with y1
    subst y1 y2
    exact ⟨p.2, by rw [e]; rfl, .inl hp⟩
  · cases m
  · refine ⟨0, by rw [e]; rfl, .inr ⟨rfl, fun p hp y => ?_⟩⟩
    exact f _ (List.mem_map.mpr ⟨p, hp, rfl⟩) (by rw [y])
def wds7' : List Str := ["add", "sub", "mul", "div", "rem", "less", "same"]
/-- a row that may be borne -/
inductive RowOk (sc : List (Int × Int)) : Str → List Int → Int → Prop
  | num (x : Int) : In32 x → RowOk sc "number" [x] 0
  | fresh (x : Int) : 1 ≤ x → x ≤ 8 → RowOk sc "fresh" [x] x
  | no (a : Int) : a ∈ kept false sc → RowOk sc "not" [a] 0
  | op (w : Str) (a b : Int) : w ∈ wds7' → a ∈ kept false sc → b ∈ kept false sc → RowOk sc w [a, b] 0
  | get (h a : Int) : h ∈ kept true sc → a ∈ kept false sc → RowOk sc "get" [h, a] 0
  | put (h a x z : Int) : h ∈ kept true sc → a ∈ kept false sc → x ∈ kept false sc → GSize sc h z → RowOk sc "put" [h, a, x] z
theorem RowOk.len {sc : List (Int × Int)} {w : Str} {as : List Int} {k : Int} (h : RowOk sc w as k) : as.length ≤ 3 := by cases h <;> simp
theorem RowOk.size {sc : List (Int × Int)} {w : Str} {as : List Int} {k : Int} (h : RowOk sc w as k) (z : sz8 sc) : 0 ≤ k ∧ k ≤ 8 := by
  cases h with
  | num | no | op | get => omega
  | fresh _ h1 h2 => omega
  | put h a x z2 _ _ _ g =>
    rcases g with g | ⟨g, _⟩
    · exact (z _ g).1
    · omega
theorem DSt.nv_b (s : DSt) : 0 ≤ s.nv ∧ s.nv < 9973 := ⟨Int.emod_nonneg _ (by decide), Int.emod_lt_of_pos _ (by decide)⟩
def addRow (r : GRow) (b : Blk) : Blk := { b with rs := b.rs ++ [r] }
def DSt.bear (s : DSt) (w : Str) (as : List Int) (k : Int) : DSt := { s with many := s.many + 1, bls := modB (addRow ⟨s.nv, w, as⟩) s.at_ s.bls, sc := s.sc ++ [(s.nv, k)] }
def bearW : List Str := ["number", "add", "sub", "mul", "less", "same", "not", "div", "rem", "get", "put", "fresh"]
def RBear (wd : Str) (s s' : DSt) (v : Int) : Prop := ∃ w as k, RowOk s.sc w as k ∧ (wd ≠ "fresh" → wd ≠ "put" → k = 0) ∧ (wd = "number" → w = "number") ∧ v = s.nv ∧ s' = s.bear w as k
def sp_bear (K : PySem.W.Frag) : Sp := fun vs H Q _ => ∃ (A : WA) (s : DSt) (n : Nat) (wd : Str), vs = [.ref A.d, .str wd] ∧ WS K H A s n ∧ wd ∈ bearW ∧ s.at_ < s.bls.length ∧ n < 6000 ∧ ∀ H' s' v, Ext H A H' A → WS K H' A s' (n + 1) → RBear wd s s' v → Q (.int v) H'
theorem ok__law_bear (T : Top K mg) : FnOk P w K mg base CX0 3 (He.ga K "_law_bear") T.fd__law_bear ["_law_s", "_law_word"] (sp_bear K) := by
  have G__law_new := ok__law_new (P := P) (w := w) (base := base) T
  have G__law_next := ok__law_next (P := P) (w := w) (base := base) T
  have G__law_number := ok__law_number (P := P) (w := w) (base := base) T
  have G__law_pick := ok__law_pick (P := P) (w := w) (base := base) T
  refine T.F__law_bear.ok sc__law_bear (fun vs H Q E h => ?_) (fun cdv A0 outer s0 H vs Q E hr h => ?_)
  · obtain ⟨A, s, n, wd, rfl, _⟩ := h
    rfl
  · obtain ⟨A, s, n, wd, rfl, ws, hwd, ha, n6, q⟩ := h
    refine ⟨_, PSs.nox (pss_cons (ps_set (i := 2) sc__law_bear.nd rfl (Or.inl rfl) (pe_call G__law_pick (hr.mono (by omega)) (by rfl) T.g__law_pick T.F__law_pick.kp T.b__law_pick .nil pass0 (pa_cons (pv 0) (pa_cons pe_bl pa_nil))))
        (pss_cons (ps_set (i := 3) sc__law_bear.nd rfl (Or.inl rfl) (pe_call G__law_pick (hr.mono (by omega)) (by rfl) T.g__law_pick T.F__law_pick.kp T.b__law_pick .nil pass0 (pa_cons (pv 0) (pa_cons pe_bl pa_nil))))
        (pss_cons (ps_set (i := 4) sc__law_bear.nd rfl (Or.inl rfl) (pe_dget2 (hu_of hr) (pe_callTy (call_dictP rfl) (by rfl) T.m_dict (by decide +kernel) (pa_cons (pe_dget (hu_of hr) (pv 0) pe_str (fun _ _ => rfl)) pa_nil)) (pv 3) pe_int ⟨rfl, rfl, rfl, rfl⟩))
        (pss_cons (ps_set (i := 5) sc__law_bear.nd rfl (Or.inl rfl) (pe_tup (pa_cons pe_str (pa_cons (pe_call G__law_number (hr.mono (by omega)) (by rfl) T.g__law_number T.F__law_number.kp T.b__law_number .nil pass0 (pa_cons (pv 0) pa_nil)) pa_nil))))
        (pss_cons (ps_if (pt_cmpR op_eq (pv 1) pe_str (nomark _)) (pss_cons (ps_set (i := 4) sc__law_bear.nd rfl (Or.inl rfl) (pe_op op_add pe_int (pe_call G__law_next (hr.mono (by omega)) (by rfl) T.g__law_next T.F__law_next.kp T.b__law_next .nil pass0 (pa_cons (pv 0) (pa_cons pe_int pa_nil)))))
        (pss_one (ps_set (i := 5) sc__law_bear.nd rfl (Or.inl rfl) (pe_tup (pa_cons pe_str (pa_cons (pv 4) pa_nil)))))) (pss_one (ps_if (PW.pt (pw_and (pt_cmpR op_eq (pv 1) pe_str (nomark _)) (pw_and1 (pt_cmpR op_ge (pv 2) pe_int (nomark _))))) (pss_one (ps_set (i := 5) sc__law_bear.nd rfl (Or.inl rfl) (pe_tup (pa_cons pe_str (pa_cons (pv 2) pa_nil))))) (pss_one (ps_if (PW.pt (pw_and (pt_cmpR op_eq (pv 1) pe_str (nomark _)) (pw_and (pt_cmpR op_ge (pv 3) pe_int (nomark _)) (pw_and1 (pt_cmpR op_ge (pv 2) pe_int (nomark _)))))) (pss_one (ps_set (i := 5) sc__law_bear.nd rfl (Or.inl rfl) (pe_tup (pa_cons pe_str (pa_cons (pv 3) (pa_cons (pv 2) pa_nil)))))) (pss_one (ps_if (PW.pt (pw_and (pt_cmpR op_eq (pv 1) pe_str (nomark _)) (pw_and (pt_cmpR op_ge (pv 3) pe_int (nomark _)) (pw_and1 (pt_cmpR op_ge (pv 2) pe_int (nomark _)))))) (pss_one (ps_set (i := 5) sc__law_bear.nd rfl (Or.inl rfl) (pe_tup (pa_cons pe_str (pa_cons (pv 3) (pa_cons (pv 2) (pa_cons (pe_call G__law_pick (hr.mono (by omega)) (by rfl) T.g__law_pick T.F__law_pick.kp T.b__law_pick .nil pass0 (pa_cons (pv 0) (pa_cons pe_bl pa_nil))) pa_nil))))))) (pss_one (ps_if (PW.pt (pw_and (pt_cmpR op_notIn_seq (pv 1) (pe_lst (pa_cons pe_str (pa_cons pe_str (pa_cons pe_str (pa_cons pe_str (pa_cons pe_str pa_nil)))))) (by rfl)) (pw_and1 (pt_cmpR op_ge (pv 2) pe_int (nomark _))))) (pss_one (ps_set (i := 5) sc__law_bear.nd rfl (Or.inl rfl) (pe_tup (pa_cons (pv 1) (pa_cons (pv 2) (pa_cons (pe_call G__law_pick (hr.mono (by omega)) (by rfl) T.g__law_pick T.F__law_pick.kp T.b__law_pick .nil pass0 (pa_cons (pv 0) (pa_cons pe_bl pa_nil))) pa_nil)))))) pss_nil)))))))))
        (pss_cons (ps_if (pt_cmpR op_notIn_seq (pe_ix ix_tup (pv 5) pe_int (fun _ _ => rfl)) (pe_lst (pa_cons pe_str (pa_cons pe_str pa_nil))) (by rfl)) (pss_one (ps_set (i := 4) sc__law_bear.nd rfl (Or.inl rfl) pe_int)) pss_nil)
        (pss_cons (ps_set (i := 6) sc__law_bear.nd rfl (Or.inl rfl) (pe_call G__law_new (hr.mono (by omega)) (by rfl) T.g__law_new T.F__law_new.kp T.b__law_new .nil pass0 (pa_cons (pv 0) pa_nil)))
        (pss_cons (ps_expr (pe_bm PySem.F.plainAttrs_list PySem.F.slot_list_append PySem.F.type_list_append mt_append (pe_ix ix_list (pe_ix ix_list (pe_dget (hu_of hr) (pv 0) pe_str (fun _ _ => rfl)) (pe_dget (hu_of hr) (pv 0) pe_str (fun _ _ => rfl)) (fun _ _ => rfl)) pe_int (fun _ _ => rfl)) (pa_cons (pe_op op_catA (pe_tup (pa_cons (pv 6) pa_nil)) (pv 5)) pa_nil)))
        (pss_cons (ps_expr (pe_bm PySem.F.plainAttrs_list PySem.F.slot_list_append PySem.F.type_list_append mt_append (pe_dget (hu_of hr) (pv 0) pe_str (fun _ _ => rfl)) (pa_cons (pe_tup (pa_cons (pv 6) (pa_cons (pv 4) pa_nil))) pa_nil)))
        (pss_one (ps_ret (pv 6)))))))))))), ?_⟩
    refine ⟨_, rfl, A, s, n, false, rfl, ws, fun H1 one x1 w1 p1 => ?_⟩
    refine ⟨_, rfl, A, s, n, true, rfl, w1, fun H2 held x2 w2 p2 => ?_⟩
    have x02 := x1.trans x2
    obtain ⟨g, dr, g0, e⟩ := w2.dk
    obtain ⟨svs, eS, dS⟩ := w2.ls
    obtain ⟨ps, rfl, pr⟩ := paired_sc dS
    refine ⟨_, rfl, _, _, rfl, dget_k e dkv_scope, A.ls, ps, _, rfl, .of eS, pr, fun D nD => ?_⟩
    obtain ⟨z, ez, gz⟩ := gsize_of s.sc held
    have w3 := w2.lay (o := .dK (mergeK [] (s.sc.map fun p => ((.inl p.1 : Key), V.int p.2)))) nD
    have x03 := x02.lay (o := .dK (mergeK [] (s.sc.map fun p => ((.inl p.1 : Key), V.int p.2)))) nD
    refine ⟨D, rfl, .inl ⟨_, .of upd_same⟩, _, rfl, _, DGet.k (k := .inl held) upd_same, ?_⟩
    rw [ez]
    refine ⟨_, rfl, A, s, n, rfl, w3, fun H4 x x4 w4 ix => ?_⟩
    have x04 := x03.trans x4
    refine ⟨(by show 2 ≤ sizeLine; rw [sizeLine_eq]; decide), fun p4 n4 => ?_⟩
    have w5 := w4.lay (o := .tup [.str "number", .int x]) n4
    have x05 := x04.lay (o := .tup [.str "number", .int x]) n4
    have e5 : SqT K (upd H4 p4 (.tup [.str "number", .int x])) p4 [.str "number", .int x] := .inl (.of upd_same)
    dsimp only [gName]
    have one_ok : ¬ one < 0 → one ∈ kept false s.sc := fun h => by
      rcases p1 with ⟨rfl, _⟩ | p1
      · exact absurd (by decide) h
      · exact p1
    have held_ok : ¬ held < 0 → held ∈ kept true s.sc := fun h => by
      rcases p2 with ⟨rfl, _⟩ | p2
      · exact absurd (by decide) h
      · exact p2
    have again : ∀ r, one ∈ kept false s.sc → Picked s.sc false r → r ∈ kept false s.sc := fun r h p => by
      rcases p with ⟨_, e⟩ | p
      · rw [e] at h
        cases h
      · exact p
    refine ifs_by (fun σ' H' => ∃ (q : Addr) (w : Str) (as : List Int) (z : Int), σ' = [some (.ref A.d), some (.str wd), some (.int one), some (.int held), some (.int z), some (.ref q), none] ∧ Ext H A H' A ∧ WS K H' A s n ∧ SqT K H' q (.str w :: as.map V.int) ∧
      ((w = "fresh" ∨ w = "put") ∧ RowOk s.sc w as z ∨ (w ≠ "fresh" ∧ w ≠ "put") ∧ RowOk s.sc w as 0) ∧ (wd ≠ "fresh" → wd ≠ "put" → w ≠ "fresh" ∧ w ≠ "put") ∧ (wd = "number" → w = "number")) ?_ ?_
    rotate_left
    · intro N hN
      have lay : ∀ (H' : Hp) (w : Str) (as : List Int) (z : Int), Ext H A H' A → WS K H' A s n → ((w = "fresh" ∨ w = "put") ∧ RowOk s.sc w as z ∨ (w ≠ "fresh" ∧ w ≠ "put") ∧ RowOk s.sc w as 0) → (wd ≠ "fresh" → wd ≠ "put" → w ≠ "fresh" ∧ w ≠ "put") → (wd = "number" → w = "number") → as.length ≤ 3 →
          (V.str w :: as.map V.int).length ≤ sizeLine ∧ ∀ p, H' p = none → N [some (.ref A.d), some (.str wd), some (.int one), some (.int held), some (.int z), some (.ref p), none] (upd H' p (.tup (V.str w :: as.map V.int))) := fun H' w as z x' w' h1 h2 h3 hl =>
        ⟨by rw [List.length_cons, List.length_map, sizeLine_eq]; omega, fun p hp => hN _ _ ⟨p, w, as, z, rfl, x'.lay hp, w'.lay hp, .inl (.of upd_same), h1, h2, h3⟩⟩
      refine ⟨_, rfl, rfl, _, rfl, ite2 (fun e1 => ?_) (fun e1 => ?_)⟩
      · have e1' : wd = "fresh" := V.str.inj (of_decide_eq_true e1)
        refine ⟨_, rfl, A, s, n, 8, rfl, w5, by decide, by decide, fun H6 r6 x6 w6 a6 b6 => ?_⟩
        refine ⟨_, _, rfl, rfl, _, rfl, ?_⟩
        exact lay H6 "fresh" [1 + r6] (1 + r6) (x05.trans x6) w6 (.inl ⟨.inl rfl, .fresh _ (by omega) (by omega)⟩) (fun y => absurd e1' y) (fun y => by rw [e1'] at y; exact absurd y (by decide +kernel)) (by simp)
      have ge : ∀ {x : Int}, decide (0 ≤ x) = true → ¬ x < 0 := fun h => by
        have := of_decide_eq_true h
        omega
      refine ⟨_, rfl, rfl, _, rfl, ite_else ?_ fun e2 leaf => ⟨_, rfl, _, _, rfl, rfl, _, rfl, ite2 (fun e3 => ?_) (fun _ => leaf)⟩⟩
      rotate_left
      · have e2' : wd = "not" := V.str.inj (of_decide_eq_true e2)
        refine ⟨_, rfl, ?_⟩
        exact lay _ "not" [one] z x05 w5 (.inr ⟨⟨by decide +kernel, by decide +kernel⟩, .no _ (one_ok (ge e3))⟩) (fun _ _ => ⟨by decide +kernel, by decide +kernel⟩) (fun y => by rw [e2'] at y; exact absurd y (by decide +kernel)) (by simp)
      refine ⟨_, rfl, rfl, _, rfl, ite_else ?_ fun e2 leaf => ⟨_, rfl, _, _, rfl, rfl, _, rfl, ite2 (fun e3 => ⟨_, rfl, _, _, rfl, rfl, _, rfl, ite2 (fun e4 => ?_) (fun _ => leaf)⟩) (fun _ => leaf)⟩⟩
      rotate_left
      · have e2' : wd = "get" := V.str.inj (of_decide_eq_true e2)
        refine ⟨_, rfl, _, rfl, ?_⟩
        exact lay _ "get" [held, one] z x05 w5 (.inr ⟨⟨by decide +kernel, by decide +kernel⟩, .get _ _ (held_ok (ge e3)) (one_ok (ge e4))⟩) (fun _ _ => ⟨by decide +kernel, by decide +kernel⟩) (fun y => by rw [e2'] at y; exact absurd y (by decide +kernel)) (by simp)
      refine ⟨_, rfl, rfl, _, rfl, ite_else ?_ fun e2 leaf => ⟨_, rfl, _, _, rfl, rfl, _, rfl, ite2 (fun e3 => ⟨_, rfl, _, _, rfl, rfl, _, rfl, ite2 (fun e4 => ?_) (fun _ => leaf)⟩) (fun _ => leaf)⟩⟩
      rotate_left
      · have e2' : wd = "put" := V.str.inj (of_decide_eq_true e2)
        refine ⟨_, rfl, _, rfl, _, rfl, A, s, n, false, rfl, w5, fun H6 r6 x6 w6 p6 => ?_⟩
        exact lay H6 "put" [held, one, r6] z (x05.trans x6) w6 (.inl ⟨.inr rfl, .put _ _ _ _ (held_ok (ge e3)) (one_ok (ge e4)) (again _ (one_ok (ge e4)) p6) gz⟩) (fun _ y => absurd e2' y) (fun y => by rw [e2'] at y; exact absurd y (by decide +kernel)) (by simp)
      refine ⟨_, rfl, (by show 5 ≤ sizeLine; rw [sizeLine_eq]; decide), fun M nM => ?_⟩
      have w6 := w5.lay (o := .lst ((["fresh", "not", "get", "put", "number"] : List Str).map V.str)) nM
      have x06 := x05.lay (o := .lst ((["fresh", "not", "get", "put", "number"] : List Str).map V.str)) nM
      have num : N [some (.ref A.d), some (.str wd), some (.int one), some (.int held), some (.int z), some (.ref p4), none] (upd (upd H4 p4 (.tup [.str "number", .int x])) M (.lst ((["fresh", "not", "get", "put", "number"] : List Str).map V.str))) :=
        hN _ _ ⟨p4, "number", [x], z, rfl, x06, w6, sqT_sm (same_new nM) e5, .inr ⟨⟨by decide +kernel, by decide +kernel⟩, .num _ ix⟩, fun _ _ => ⟨by decide +kernel, by decide +kernel⟩, fun _ => rfl⟩
      refine ⟨M, _, rfl, .inl (.of upd_same), rfl, rfl, _, rfl, ?_⟩
      rw [show ([V.str "fresh", .str "not", .str "get", .str "put", .str "number"] : List V) = (["fresh", "not", "get", "put", "number"] : List Str).map V.str from rfl, in_strs]
      by_cases hin : wd ∈ (["fresh", "not", "get", "put", "number"] : List Str)
      · refine ifNF hin ?_
        exact num
      refine ifNT hin ?_
      refine ⟨_, rfl, _, _, rfl, rfl, _, rfl, ite2 (fun e3 => ?_) (fun _ => num)⟩
      have hw7 : wd ∈ wds7' := by
        simp only [bearW, List.mem_cons, List.not_mem_nil, or_false] at hwd
        simp only [List.mem_cons, List.not_mem_nil, or_false, not_or] at hin
        simp only [wds7', List.mem_cons, List.not_mem_nil, or_false]
        obtain ⟨h1, h2, h3, h4, h5⟩ := hin
        rcases hwd with h | h | h | h | h | h | h | h | h | h | h | h <;> simp_all
      refine ⟨_, rfl, _, rfl, _, rfl, A, s, n, false, rfl, w6, fun H7 r7 x7 w7 p7 => ?_⟩
      have nf : wd ≠ "fresh" := fun y => hin (by rw [y]; simp)
      have np : wd ≠ "put" := fun y => hin (by rw [y]; simp)
      exact lay H7 wd [one, r7] z (x06.trans x7) w7 (.inr ⟨⟨nf, np⟩, .op _ _ _ hw7 (one_ok (ge e3)) (again _ (one_ok (ge e3)) p7)⟩) (fun _ _ => ⟨nf, np⟩) (fun y => absurd (by rw [y]; simp) hin) (by simp)
    · rintro σ' H6 ⟨q5, w, as, z, rfl, x6, w6, eq5, hok, hw1, hw2⟩
      refine ifs_by (fun σ' H' => ∃ k : Int, RowOk s.sc w as k ∧ (wd ≠ "fresh" → wd ≠ "put" → k = 0) ∧ (wd = "number" → w = "number") ∧ σ' = [some (.ref A.d), some (.str wd), some (.int one), some (.int held), some (.int k), some (.ref q5), none] ∧ Ext H A H' A ∧ WS K H' A s n ∧ SqT K H' q5 (.str w :: as.map V.int)) ?_ ?_
      rotate_left
      · intro N hN
        refine ⟨_, rfl, q5, _, 0, _, rfl, rfl, eq5, atI_nat (j := 0) rfl, (by show 2 ≤ sizeLine; rw [sizeLine_eq]; decide), fun M nM => ?_⟩
        have w7 := w6.lay (o := .lst ((["fresh", "put"] : List Str).map V.str)) nM
        have x7 := x6.lay (o := .lst ((["fresh", "put"] : List Str).map V.str)) nM
        have e7 := sqT_sm (same_new (o := .lst ((["fresh", "put"] : List Str).map V.str)) nM) eq5
        refine ⟨M, _, rfl, .inl (.of upd_same), rfl, rfl, _, rfl, ?_⟩
        rw [show ([V.str "fresh", .str "put"] : List V) = (["fresh", "put"] : List Str).map V.str from rfl, in_strs]
        by_cases hin : w ∈ (["fresh", "put"] : List Str)
        · refine ifNF hin ?_
          have hin' : w = "fresh" ∨ w = "put" := by simpa using hin
          rcases hok with ⟨_, hok⟩ | ⟨⟨h1, h2⟩, _⟩
          · exact hN _ _ ⟨z, hok, fun f p => by
              have := hw1 f p
              rcases hin' with h | h
              · exact absurd h this.1
              · exact absurd h this.2, hw2, rfl, x7, w7, e7⟩
          · rcases hin' with h | h
            · exact absurd h h1
            · exact absurd h h2
        · refine ifNT hin ?_
          rcases hok with ⟨h, _⟩ | ⟨_, hok⟩
          · exact absurd (by rcases h with h | h <;> (rw [h]; simp)) hin
          · exact hN _ _ ⟨0, hok, fun _ _ => rfl, hw2, rfl, x7, w7, e7⟩
      · rintro σ' H7 ⟨k, rok, kz, hw3, rfl, x7, w7, e7⟩
        refine ⟨_, rfl, A, s, n, rfl, w7, n6, fun H8 x8 w8 => ?_⟩
        have x08 := x7.trans x8
        have e8 : SqT K H8 q5 (.str w :: as.map V.int) := sqT_kp x8.k e7
        obtain ⟨g2, dr2, g20, ed⟩ := w8.dk
        obtain ⟨p, b, vp, ve, rvs, hp, hb, hpv, h1, h2, h3, h4, h5, h6, o1, o2⟩ := w8.blk (i := s.at_) ha
        refine ⟨_, rfl, _, _, rfl, dget_k ed dkv_blocks, _, rfl, _, _, rfl, dget_k ed dkv_at, A.lb, _, (s.at_ : Int), _, rfl, rfl, .of w8.lb, atI_nat hpv, p.1, _, 1, _, rfl, rfl, .of h1, atI_nat (j := 1) rfl, ?_⟩
        refine ⟨.inl ⟨rfl, _, .of h4⟩, _, rfl, (by show 1 ≤ sizeLine; rw [sizeLine_eq]; decide), fun tp ntp => ?_⟩
        have s9 := same_new (o := .tup [.int s.nv]) ntp
        have e9 := sqT_sm s9 e8
        have al : as.length ≤ 3 := rok.len
        refine ⟨_, rfl, tp, q5, _, _, rfl, rfl, .inl (.of upd_same), e9, by rw [List.length_cons, List.length_cons, List.length_map, List.length_nil, sizeLine_eq]; omega, (fun y => nomatch y), (fun _ y => nomatch y), fun _ _ cp ncp => ?_⟩
        have s10 := same_new (o := .tup ([.int s.nv] ++ V.str w :: as.map V.int)) ncp
        have s910 := s9.trans s10
        have w10 := w8.sm s910
        have x10 := x08.trans (.same s910)
        refine ⟨p.2, rvs, _, rfl, rfl, s910 _ _ h4, by rw [sizeLine_eq]; omega, ?_⟩
        have d10 : DpAll K (upd (upd H8 tp (.tup [.int s.nv])) cp (.tup ([.int s.nv] ++ V.str w :: as.map V.int))) (rvs ++ [.ref cp]) ((addRow ⟨s.nv, w, as⟩ b).rs.map GRow.d) := by
          unfold addRow
          rw [List.map_append]
          exact dpAll_app (dpAll_sm s910 h5) (.cons (.tup (.inl (.of upd_same)) (.cons (.int _) (.cons (.str _) (ints_dpAll as)))) .nil)
        have rl : (addRow ⟨s.nv, w, as⟩ b).rs.length ≤ n + 1 := by
          have := dpAll_len d10
          rw [List.length_append, List.length_map, List.length_singleton] at this
          have h7 := dpAll_len h5
          rw [List.length_map] at h7
          have h8 := (w7.bd.r b (List.mem_of_getElem? hb)).1
          omega
        obtain ⟨w11, x11⟩ := w10.rows (f := addRow ⟨s.nv, w, as⟩) hp hb (s910 _ _ h4) d10 rfl rfl (Nat.le_refl _) (by omega) rl
        have x011 := x10.trans x11
        obtain ⟨g3, dr3, g30, ed3⟩ := w11.dk
        obtain ⟨sv3, eS3, dS3⟩ := w11.ls
        refine ⟨_, rfl, _, _, rfl, dget_k ed3 dkv_scope, .inl ⟨rfl, _, .of eS3⟩, _, rfl, _, rfl, (by show 2 ≤ sizeLine; rw [sizeLine_eq]; decide), fun tp2 ntp2 => ?_⟩
        have s12 := same_new (o := .tup [.int s.nv, .int k]) ntp2
        have w12 := w11.sm s12
        have l3 := dpAll_len dS3
        rw [List.length_map] at l3
        have lc := w11.bd.c
        have kb := rok.size w7.bd.z
        have nvb := s.nv_b
        refine ⟨A.ls, sv3, _, rfl, rfl, s12 _ _ eS3, by rw [sizeLine_eq, l3]; have : s.sc.length ≤ n := w7.bd.c; show s.sc.length < _; omega, ?_⟩
        obtain ⟨w13, x13⟩ := w12.scope (svs' := sv3 ++ [.ref tp2]) (sc := s.sc ++ [(s.nv, k)]) (n' := n + 1) (s12 _ _ eS3) (by
          rw [List.map_append]
          exact dpAll_app (dpAll_sm s12 dS3) (.cons (.tup (.inl (.of upd_same)) (.cons (.int _) (.cons (.int _) .nil))) .nil)) (fun q hq => by
            rcases List.mem_append.mp hq with hq | hq
            · exact w7.bd.z q hq
            · rw [List.mem_singleton.mp hq]
              exact ⟨kb, nvb⟩) (by rw [List.length_append, List.length_singleton]; have := w7.bd.c; omega) (Nat.le_refl _) (by omega)
        exact ⟨_, rfl, q _ _ _ ((x011.trans (.same s12)).trans x13) w13 ⟨w, as, k, rok, kz, hw3, rfl, rfl⟩⟩
end

section
variable {P : Program} {w : World} {K : PySem.W.Frag} {mg : Str → Option Value} {base : Heap}
/-- k steps, one behind the other -/
def Steps (R : DSt → DSt → Prop) : Nat → DSt → DSt → Prop
  | 0, s, s' => s' = s
  | k + 1, s, s' => ∃ s1, Steps R k s s1 ∧ R s1 s'
def RRow (s s' : DSt) : Prop := s' = s ∨ (∃ a ∈ kept false s.sc, s' = { s with bls := modB (addRow ⟨-1, "tell", [a]⟩) s.at_ s.bls }) ∨ ∃ wd v, wd ∈ bearW ∧ RBear wd s s' v
theorem RBear.at {wd : Str} {s s' : DSt} {v : Int} (h : RBear wd s s' v) : s'.at_ = s.at_ ∧ s'.bls.length = s.bls.length := by
  obtain ⟨w, as, k, _, _, _, _, rfl⟩ := h
  exact ⟨rfl, modB_len ..⟩
theorem RRow.at {s s' : DSt} (h : RRow s s') : s'.at_ = s.at_ ∧ s'.bls.length = s.bls.length := by
  rcases h with rfl | ⟨a, _, rfl⟩ | ⟨wd, v, _, h⟩
  · exact ⟨rfl, rfl⟩
  · exact ⟨rfl, modB_len ..⟩
  · exact h.at
theorem Steps.at {R : DSt → DSt → Prop} (f : ∀ s s', R s s' → s'.at_ = s.at_ ∧ s'.bls.length = s.bls.length) : ∀ {k : Nat} {s s' : DSt}, Steps R k s s' → s'.at_ = s.at_ ∧ s'.bls.length = s.bls.length
  | 0, s, s', h => by
    rw [show s' = s from h]
    exact ⟨rfl, rfl⟩
  | k + 1, s, s', ⟨s1, h1, h2⟩ => by
    have a := Steps.at f h1
    have b := f _ _ h2
    exact ⟨b.1.trans a.1, b.2.trans a.2⟩
def RRows (m : Nat) (s s' : DSt) : Prop := ∃ k ≤ m, Steps RRow k s s'
theorem RRows.at {m : Nat} {s s' : DSt} (h : RRows m s s') : s'.at_ = s.at_ ∧ s'.bls.length = s.bls.length := by
  obtain ⟨k, _, h⟩ := h
  exact Steps.at (fun _ _ => RRow.at) h
def sp_rows (K : PySem.W.Frag) : Sp := fun vs H Q _ => ∃ (A : WA) (s : DSt) (n m : Nat), vs = [.ref A.d, .int m] ∧ WS K H A s n ∧ s.at_ < s.bls.length ∧ n + m ≤ 6000 ∧ m ≤ 100 ∧ ∀ H' s', Ext H A H' A → WS K H' A s' (n + m) → RRows m s s' → Q .non H'
def words14 : List Str := ["number", "add", "sub", "mul", "less", "same", "not", "div", "rem", "get", "put", "tell", "fresh", "add"]
theorem words14_in {z : Str} (h : z ∈ words14) (n : z ≠ "tell") : z ∈ bearW := by
  simp only [words14, List.mem_cons, List.not_mem_nil, or_false] at h
  simp only [bearW, List.mem_cons, List.not_mem_nil, or_false]
  rcases h with h | h | h | h | h | h | h | h | h | h | h | h | h | h <;> simp_all
theorem ok__law_rows (T : Top K mg) : FnOk P w K mg base CX0 4 (He.ga K "_law_rows") T.fd__law_rows ["_law_s", "_law_most"] (sp_rows K) := by
  have G__law_next := ok__law_next (P := P) (w := w) (base := base) T
  have G__law_bear := ok__law_bear (P := P) (w := w) (base := base) T
  have G__law_pick := ok__law_pick (P := P) (w := w) (base := base) T
  refine T.F__law_rows.ok sc__law_rows (fun vs H Q E h => ?_) (fun cdv A0 outer s0 H vs Q E hr h => ?_)
  · obtain ⟨A, s, n, m, rfl, _⟩ := h
    rfl
  · obtain ⟨A, s, n, m, rfl, ws, ha, nm, m1, q⟩ := h
    refine ⟨_, PSs.nox (pss_cons (ps_set (i := 2) sc__law_rows.nd rfl (Or.inl rfl) (pe_lst (pa_cons pe_str (pa_cons pe_str (pa_cons pe_str (pa_cons pe_str (pa_cons pe_str (pa_cons pe_str (pa_cons pe_str (pa_cons pe_str (pa_cons pe_str (pa_cons pe_str (pa_cons pe_str (pa_cons pe_str (pa_cons pe_str (pa_cons pe_str pa_nil))))))))))))))))
        (pss_one (ps_for PassesOwn.never (by rfl) (pi_range1 (by rfl) T.m_range (pa_cons (pe_call G__law_next (hr.mono (by omega)) (by rfl) T.g__law_next T.F__law_next.kp T.b__law_next .nil pass0 (pa_cons (pv 0) (pa_cons (pe_op op_add (pv 1) pe_int) pa_nil))) pa_nil)) (pg_name (i := 3) sc__law_rows.nd rfl (Or.inl rfl)) (pss_cons (ps_set (i := 4) sc__law_rows.nd rfl (Or.inl rfl) (pe_ix ix_list (pv 2) (pe_call G__law_next (hr.mono (by omega)) (by rfl) T.g__law_next T.F__law_next.kp T.b__law_next .nil pass0 (pa_cons (pv 0) (pa_cons (pe_callB call_len_seq (by rfl) T.m_len (by decide +kernel) (pa_cons (pv 2) pa_nil)) pa_nil))) (fun _ _ => rfl)))
        (pss_cons (ps_set (i := 5) sc__law_rows.nd rfl (Or.inl rfl) (pe_call G__law_pick (hr.mono (by omega)) (by rfl) T.g__law_pick T.F__law_pick.kp T.b__law_pick .nil pass0 (pa_cons (pv 0) (pa_cons pe_bl pa_nil))))
        (pss_one (ps_if (PW.pt (pw_and (pt_cmpR op_eq (pv 4) pe_str (nomark _)) (pw_and1 (pt_cmpR op_ge (pv 5) pe_int (nomark _))))) (pss_one (ps_expr (pe_bm PySem.F.plainAttrs_list PySem.F.slot_list_append PySem.F.type_list_append mt_append (pe_ix ix_list (pe_ix ix_list (pe_dget (hu_of hr) (pv 0) pe_str (fun _ _ => rfl)) (pe_dget (hu_of hr) (pv 0) pe_str (fun _ _ => rfl)) (fun _ _ => rfl)) pe_int (fun _ _ => rfl)) (pa_cons (pe_tup (pa_cons (pe_un un_neg pe_int) (pa_cons pe_str (pa_cons (pv 5) pa_nil)))) pa_nil)))) (pss_one (ps_if (pt_cmpR op_ne (pv 4) pe_str (nomark _)) (pss_one (ps_expr (pe_call G__law_bear (hr.mono (by omega)) (by rfl) T.g__law_bear T.F__law_bear.kp T.b__law_bear .nil pass0 (pa_cons (pv 0) (pa_cons (pv 4) pa_nil))))) pss_nil))))))))), ?_⟩
    refine ⟨(by show 14 ≤ sizeLine; rw [sizeLine_eq]; decide), fun L nL => ?_⟩
    have w1 := ws.lay (o := .lst (words14.map V.str)) nL
    have x1 : Ext H A _ A := (Ext.refl).lay (o := .lst (words14.map V.str)) nL
    have oL := ws.off nL
    refine ⟨_, rfl, _, rfl, _, _, rfl, rfl, A, s, n, (m : Int) + 1, rfl, w1, by omega, by omega, fun H2 r2 x2 w2 a2 b2 => ?_⟩
    have eL2 := x2.keep upd_same oL
    obtain ⟨c, rfl⟩ := Int.eq_ofNat_of_zero_le a2
    have x02 := x1.trans x2
    have cm : c ≤ m := by omega
    refine ⟨_, rfl, by omega, by omega, ?_⟩
    refine for_range (lo := 0) (n := c) (fun i σ' H' => ∃ s1 x3 x4 x5, Ext H A H' A ∧ WS K H' A s1 (n + i) ∧ H' L = some (.lst (words14.map V.str)) ∧ Steps RRow i s s1 ∧ σ' = [some (.ref A.d), some (.int m), some (.ref L), x3, x4, x5]) ?_ ?_ ?_
    · exact ⟨s, none, none, none, x02, w2, eL2, rfl, rfl⟩
    · rintro i σ' H3 hi ⟨s1, y3, y4, y5, x3, w3, eL3, st, rfl⟩
      have at1 := Steps.at (fun _ _ => RRow.at) st
      refine ⟨_, rfl, _, rfl, _, rfl, L, _, rfl, .inl (.of eL3), A, s1, n + i, 14, rfl, w3, by decide, by decide, fun H4 r4 x4 w4 a4 b4 => ?_⟩
      have eL4 := x4.keep eL3 oL
      obtain ⟨wd, hwd, ew⟩ := strs_at (zs := words14) a4 b4
      refine ⟨L, _, _, _, rfl, rfl, .of eL4, ew, ?_⟩
      refine ⟨_, rfl, A, s1, n + i, false, rfl, w4, fun H5 one x5 w5 p5 => ?_⟩
      have eL5 := x5.keep eL4 oL
      have x05 := (x3.trans x4).trans x5
      have none_ : ∃ s1' y3 y4 y5, Ext H A H5 A ∧ WS K H5 A s1' (n + (i + 1)) ∧ H5 L = some (.lst (words14.map V.str)) ∧ Steps RRow (i + 1) s s1' ∧ [some (V.ref A.d), some (.int m), some (.ref L), some (.int (0 + i)), some (.str wd), some (.int one)] = [some (.ref A.d), some (.int m), some (.ref L), y3, y4, y5] :=
        ⟨s1, _, _, _, x05, w5.mono (by omega) (by omega), eL5, ⟨s1, st, .inl rfl⟩, rfl⟩
      dsimp only [gName]
      refine ⟨_, rfl, rfl, _, rfl, ite_else ?_ fun e1 leaf => ⟨_, rfl, _, _, rfl, rfl, _, rfl, ite2 (fun e2 => ?_) (fun _ => leaf)⟩⟩
      · refine ⟨_, rfl, rfl, _, rfl, ite2 (fun e3 => ?_) (fun _ => none_)⟩
        have e3' : wd ≠ "tell" := fun y => by
          rw [y, decide_eq_true rfl] at e3
          cases e3
        refine ⟨_, rfl, _, rfl, A, s1, n + i, wd, rfl, w5, words14_in hwd e3', by rw [at1.1, at1.2]; exact ha, by omega, fun H6 s6 v x6 w6 b6 => ?_⟩
        exact ⟨s6, _, _, _, x05.trans x6, w6, x6.keep eL5 oL, ⟨s1, st, .inr (.inr ⟨wd, v, words14_in hwd e3', b6⟩)⟩, rfl⟩
      · have one_ok : one ∈ kept false s1.sc := by
          have h1 := of_decide_eq_true e2
          rcases p5 with ⟨rfl, _⟩ | p5
          · exact absurd h1 (by decide)
          · exact p5
        obtain ⟨g2, dr2, g20, ed⟩ := w5.dk
        obtain ⟨p, b, vp, ve, rvs, hp, hb, hpv, h1, h2, h3, h4, h5, h6, o1, o2⟩ := w5.blk (i := s1.at_) (by rw [at1.1, at1.2]; exact ha)
        refine ⟨_, rfl, _, _, rfl, dget_k ed dkv_blocks, _, rfl, _, _, rfl, dget_k ed dkv_at, A.lb, _, (s1.at_ : Int), _, rfl, rfl, .of w5.lb, atI_nat hpv, p.1, _, 1, _, rfl, rfl, .of h1, atI_nat (j := 1) rfl, ?_⟩
        refine ⟨.inl ⟨rfl, _, .of h4⟩, _, rfl, _, rfl, (by show 3 ≤ sizeLine; rw [sizeLine_eq]; decide), fun tp ntp => ?_⟩
        have s6 := same_new (o := .tup [.int (-1), .str "tell", .int one]) ntp
        have w6 := w5.sm s6
        refine ⟨p.2, rvs, _, rfl, rfl, s6 _ _ h4, by rw [sizeLine_eq]; omega, ?_⟩
        have d6 : DpAll K (upd H5 tp (.tup [.int (-1), .str "tell", .int one])) (rvs ++ [.ref tp]) ((addRow ⟨-1, "tell", [one]⟩ b).rs.map GRow.d) := by
          unfold addRow
          rw [List.map_append]
          exact dpAll_app (dpAll_sm s6 h5) (.cons (.tup (.inl (.of upd_same)) (.cons (.int _) (.cons (.str _) (.cons (.int _) .nil)))) .nil)
        have rl : (addRow ⟨-1, "tell", [one]⟩ b).rs.length ≤ n + (i + 1) := by
          have := dpAll_len d6
          rw [List.length_append, List.length_map, List.length_singleton] at this
          omega
        obtain ⟨w7, x7⟩ := w6.rows (f := addRow ⟨-1, "tell", [one]⟩) hp hb (s6 _ _ h4) d6 rfl rfl (by omega) (by omega) rl
        exact ⟨_, _, _, _, (x05.trans (.same s6)).trans x7, w7, x7.keep (s6 _ _ eL5) oL, ⟨s1, st, .inr (.inl ⟨one, one_ok, rfl⟩)⟩, rfl⟩
    · rintro σ' H3 ⟨s1, y3, y4, y5, x3, w3, eL3, st, rfl⟩
      exact q _ _ x3 (w3.mono (by omega) nm) ⟨c, cm, st⟩
/-- a number of the scope, or a new one -/
def RSure (s s' : DSt) (v : Int) : Prop := (s' = s ∧ v ∈ kept false s.sc) ∨ (kept false s.sc = [] ∧ RBear "number" s s' v)
theorem RSure.at {s s' : DSt} {v : Int} (h : RSure s s' v) : s'.at_ = s.at_ ∧ s'.bls.length = s.bls.length := by
  rcases h with ⟨rfl, _⟩ | ⟨_, h⟩
  · exact ⟨rfl, rfl⟩
  · exact h.at
def sp_sure (K : PySem.W.Frag) : Sp := fun vs H Q _ => ∃ (A : WA) (s : DSt) (n : Nat), vs = [.ref A.d] ∧ WS K H A s n ∧ s.at_ < s.bls.length ∧ n < 6000 ∧ ∀ H' s' v, Ext H A H' A → WS K H' A s' (n + 1) → RSure s s' v → Q (.int v) H'
theorem ok__law_sure (T : Top K mg) : FnOk P w K mg base CX0 4 (He.ga K "_law_sure") T.fd__law_sure ["_law_s"] (sp_sure K) := by
  have G__law_bear := ok__law_bear (P := P) (w := w) (base := base) T
  have G__law_pick := ok__law_pick (P := P) (w := w) (base := base) T
  refine T.F__law_sure.ok sc__law_sure (fun vs H Q E h => ?_) (fun cdv A0 outer s0 H vs Q E hr h => ?_)
  · obtain ⟨A, s, n, rfl, _⟩ := h
    rfl
  · obtain ⟨A, s, n, rfl, ws, ha, n6, q⟩ := h
    refine ⟨_, PSs.nox (pss_cons (ps_set (i := 1) sc__law_sure.nd rfl (Or.inl rfl) (pe_call G__law_pick (hr.mono (by omega)) (by rfl) T.g__law_pick T.F__law_pick.kp T.b__law_pick .nil pass0 (pa_cons (pv 0) (pa_cons pe_bl pa_nil))))
        (pss_cons (ps_if (pt_cmpR op_lt (pv 1) pe_int (nomark _)) (pss_one (ps_set (i := 1) sc__law_sure.nd rfl (Or.inl rfl) (pe_call G__law_bear (hr.mono (by omega)) (by rfl) T.g__law_bear T.F__law_bear.kp T.b__law_bear .nil pass0 (pa_cons (pv 0) (pa_cons pe_str pa_nil))))) pss_nil)
        (pss_one (ps_ret (pv 1))))), ?_⟩
    refine ⟨_, rfl, A, s, n, false, rfl, ws, fun H1 one x1 w1 p1 => ?_⟩
    dsimp only [gName]
    refine ifs_by (fun σ' H' => ∃ s' v, σ' = [some (.ref A.d), some (.int v)] ∧ Ext H A H' A ∧ WS K H' A s' (n + 1) ∧ RSure s s' v) ?_ ?_
    · rintro σ' H2 ⟨s', v, rfl, x2, w2, r2⟩
      exact ⟨_, rfl, q _ _ _ x2 w2 r2⟩
    · intro N hN
      refine ⟨_, rfl, _, _, rfl, rfl, _, rfl, ite2 (fun e => ?_) (fun e => ?_)⟩
      · have e0 := of_decide_eq_true e
        have hk : kept false s.sc = [] := by
          rcases p1 with ⟨_, h⟩ | h
          · exact h
          · have := kept_nn ws.bd.z h
            omega
        refine ⟨_, rfl, A, s, n, "number", rfl, w1, by simp [bearW], ha, n6, fun H2 s2 v x2 w2 b2 => ?_⟩
        exact hN _ _ ⟨s2, v, rfl, x1.trans x2, w2, .inr ⟨hk, b2⟩⟩
      · have e0 : ¬ one < 0 := fun y => e (decide_eq_true y)
        rcases p1 with ⟨h, _⟩ | h
        · omega
        · exact hN _ _ ⟨s, one, rfl, x1, w1.mono (by omega) (by omega), .inl ⟨rfl, h⟩⟩
end

section
variable {P : Program} {w : World} {K : PySem.W.Frag} {mg : Str → Option Value} {base : Heap}
/-- a thing of one's own changed: the drawer's stay -/
theorem WS.mine {H : Hp} {A : WA} {s : DSt} {n : Nat} {D : Addr} {o u : HO} (h : WS K H A s n) (e : H D = some o) (m : Mut (some o)) (nD : ¬ A.own D) : WS K (upd H D u) A s n :=
  h.by (S := fun b => b = D) (Kp.upd e m rfl) fun a ha => upd_ne fun z => nD (z ▸ ha)
theorem Ext.mine {H H1 : Hp} {A A1 : WA} {D : Addr} {u : HO} (x : Ext H A H1 A1) (n : H D = none) : Ext H A (upd H1 D u) A1 :=
  ⟨fun b o e k => by rw [upd_ne fun z => by rw [z, n] at e; cases e]; exact x.k b o e k, x.o, x.d, x.t⟩
theorem dpAll_mine {H : Hp} {D : Addr} {o u : HO} {vs : List V} {ds : List PyData} (d : DpAll K H vs ds) (n : nLs ds = true) (e : H D = some o) (m : Mut (some o)) : DpAll K (upd H D u) vs ds := dpAll_kp (S := fun b => b = D) (Kp.upd e m rfl) _ _ n d
theorem dp_mine {H : Hp} {D : Addr} {o u : HO} {v : V} {d : PyData} (h : Dp K H v d) (n : nLd d = true) (e : H D = some o) (m : Mut (some o)) : Dp K (upd H D u) v d := dp_kp (S := fun b => b = D) (Kp.upd e m rfl) _ _ n h
def nvAt (s : DSt) (j : Nat) : Int := (((s.many + j + 1 : Nat) : Int) * s.step + s.shift) % 9973
def psOf (s : DSt) : Nat → List Int → List (Int × Int)
  | _, [] => []
  | j, z :: r => (nvAt s j, z) :: psOf s (j + 1) r
theorem psOf_app (s : DSt) : ∀ (j : Nat) (a b : List Int), psOf s j (a ++ b) = psOf s j a ++ psOf s (j + a.length) b
  | j, [], b => rfl
  | j, z :: r, b => by
    show (nvAt s j, z) :: psOf s (j + 1) (r ++ b) = (nvAt s j, z) :: psOf s (j + 1) r ++ psOf s (j + (r.length + 1)) b
    rw [psOf_app s (j + 1) r b, List.cons_append, show j + 1 + r.length = j + (r.length + 1) by omega]
theorem psOf_len (s : DSt) : ∀ (j : Nat) (a : List Int), (psOf s j a).length = a.length
  | _, [] => rfl
  | j, z :: r => by show (psOf s (j + 1) r).length + 1 = r.length + 1; rw [psOf_len s (j + 1) r]
theorem psOf_take {s : DSt} {zs : List Int} {i : Nat} {z : Int} (h : zs[i]? = some z) : psOf s 0 (zs.take (i + 1)) = psOf s 0 (zs.take i) ++ [(nvAt s i, z)] := by
  have hi := (List.getElem?_eq_some_iff.mp h).1
  rw [List.take_succ, h, psOf_app, List.length_take, Nat.min_eq_left (by omega), Nat.zero_add]
  rfl
theorem psOf_mem {s : DSt} : ∀ {j : Nat} {zs : List Int} {p : Int × Int}, p ∈ psOf s j zs → ∃ k, k < zs.length ∧ p.1 = nvAt s (j + k) ∧ zs[k]? = some p.2
  | j, [], p, h => by cases h
  | j, z :: r, p, h => by
    rcases List.mem_cons.mp h with rfl | h
    · exact ⟨0, Nat.succ_pos _, rfl, rfl⟩
    · obtain ⟨k, h1, h2, h3⟩ := psOf_mem h
      exact ⟨k + 1, Nat.succ_lt_succ h1, by rw [h2, show j + 1 + k = j + (k + 1) by omega], h3⟩
theorem psOf_sz {s : DSt} {j : Nat} {zs : List Int} (h : ∀ z ∈ zs, 0 ≤ z ∧ z ≤ 8) : sz8 (psOf s j zs) := fun p hp => by
  obtain ⟨k, _, h2, h3⟩ := psOf_mem hp
  refine ⟨h _ (List.mem_of_getElem? h3), ?_⟩
  rw [h2]
  exact ⟨Int.emod_nonneg _ (by decide), Int.emod_lt_of_pos _ (by decide)⟩
def DSt.adv (s : DSt) (i : Nat) : DSt := { s with many := s.many + i }
def DSt.block (s : DSt) (zs : List Int) : DSt := { s with many := s.many + zs.length, bls := s.bls ++ [⟨psOf s 0 zs, [], .fail 0⟩] }
/-- a block more -/
theorem WS.addB {H : Hp} {A : WA} {s : DSt} {n n' : Nat} {q R : Addr} {vp ve : V} {b : Blk} (h : WS K H A s n) (eq : H q = some (.lst [vp, .ref R, ve])) (eR : H R = some (.lst [])) (nq : ¬ A.own q) (nR : ¬ A.own R) (hqR : q ≠ R) (br : b.rs = []) (bp : b.ps.length ≤ 10) (b8 : sz8 b.ps)
    (dp : Dp K H vp (.tuple (b.ps.map pairD))) (de : Dp K H ve b.en.d) (ln : n < n') (n6 : n' ≤ 6000) :
    WS K (upd H A.lb (.lst ((A.bs.map fun p => V.ref p.1) ++ [.ref q]))) { A with bs := A.bs ++ [(q, R)] } { s with bls := s.bls ++ [b] } n' := by
  have nd := nd_of h.nd
  have k : Kp A.own H (upd H A.lb (.lst ((A.bs.map fun p => V.ref p.1) ++ [.ref q]))) := Kp.upd h.lb trivial (own_lb A)
  obtain ⟨⟨g, dr, g0, e1⟩, e2, ⟨svs, e3, e4⟩, bl, nd0, bd, _, ot, tl⟩ := h
  have bd' := bd.mono (Nat.le_of_lt ln)
  have nqe : ∀ {a}, A.own a → a ≠ q ∧ a ≠ R := fun ha => ⟨fun z => nq (z ▸ ha), fun z => nR (z ▸ ha)⟩
  refine ⟨⟨g, dr, g0, (upd_ne (nd.d _ (.inl rfl)).symm).trans e1⟩, by rw [upd_same, List.map_append]; rfl, ⟨svs, (upd_ne (nd.lb _ (.inl rfl))).trans e3, dpAll_kp k _ _ (pairs_nl _) e4⟩, ?_, ?_, ⟨bd'.m, ?_, bd'.a, bd'.c, fun c hc => ?_, bd'.z⟩, n6, ot, tl⟩
  · refine ⟨by rw [List.length_append, List.length_append, bl.len]; rfl, fun i p x hp hx => ?_⟩
    by_cases hi : i < A.bs.length
    · rw [List.getElem?_append_left hi] at hp
      rw [List.getElem?_append_left (by rw [← bl.len]; exact hi)] at hx
      have m := List.mem_of_getElem? hp
      exact (bl.at_ i p x hp hx).kp k (upd_ne (nd.lb _ (.inr (adrs_1 m)))) (upd_ne (nd.lb _ (.inr (adrs_2 m))))
    · have hl := (List.getElem?_eq_some_iff.mp hp).1
      have hie : i = A.bs.length := by
        have := hl
        rw [List.length_append, List.length_singleton] at this
        omega
      subst hie
      rw [List.getElem?_append_right (Nat.le_refl _), Nat.sub_self] at hp
      rw [List.getElem?_append_right (by rw [bl.len]; exact Nat.le_refl _), bl.len, Nat.sub_self] at hx
      cases hp
      cases hx
      refine ⟨vp, ve, [], (upd_ne (show q ≠ A.lb from fun z => nq (z ▸ own_lb A))).trans eq, dp_kp k _ _ (by unfold nLd; exact pairs_nl _) dp, dp_kp k _ _ b.en.nl de, (upd_ne (show R ≠ A.lb from fun z => nR (z ▸ own_lb A))).trans eR, ?_⟩
      rw [br]
      exact .nil
  · have e : ({ A with bs := A.bs ++ [(q, R)] } : WA).all = A.all ++ [q, R] := by
      show A.d :: A.lb :: A.ls :: adrs (A.bs ++ [(q, R)]) = (A.d :: A.lb :: A.ls :: adrs A.bs) ++ [q, R]
      rw [adrs_app]
      rfl
    rw [e]
    refine List.nodup_append.mpr ⟨nd0, ?_, ?_⟩
    · exact List.nodup_cons.mpr ⟨by rw [List.mem_singleton]; exact hqR, List.nodup_cons.mpr ⟨by simp, List.nodup_nil⟩⟩
    · intro a ha c hc
      have := nqe (a := a) ha
      rcases List.mem_cons.mp hc with rfl | hc
      · exact this.1
      · rw [List.mem_singleton.mp hc]
        exact this.2
  · rw [List.length_append, List.length_singleton]
    have := bd.b
    omega
  · rcases List.mem_append.mp hc with hc | hc
    · exact bd'.r c hc
    · rw [List.mem_singleton.mp hc]
      exact ⟨by rw [br]; exact Nat.zero_le _, bp, b8⟩
def sp_block (K : PySem.W.Frag) : Sp := fun vs H Q _ => ∃ (A : WA) (s : DSt) (n : Nat) (Z : Addr) (zs : List Int), vs = [.ref A.d, .ref Z] ∧ WS K H A s n ∧ H Z = some (.lst (zs.map V.int)) ∧ ¬ A.own Z ∧ (∀ z ∈ zs, 0 ≤ z ∧ z ≤ 8) ∧ zs.length ≤ 10 ∧ n + (zs.length + 1) ≤ 6000 ∧
  ∀ H' A', Ext H A H' A' → WS K H' A' (s.block zs) (n + (zs.length + 1)) → Q (.int s.bls.length) H'
theorem ok__law_block (T : Top K mg) : FnOk P w K mg base CX0 2 (He.ga K "_law_block") T.fd__law_block ["_law_s", "_law_sizes_here"] (sp_block K) := by
  have G__law_new := ok__law_new (P := P) (w := w) (base := base) T
  refine T.F__law_block.ok sc__law_block (fun vs H Q E h => ?_) (fun cdv A0 outer s0 H vs Q E hr h => ?_)
  · obtain ⟨A, s, n, Z, zs, rfl, _⟩ := h
    rfl
  · obtain ⟨A, s, n, Z, zs, rfl, ws, eZ, oZ, z8, zl, n6, q⟩ := h
    refine ⟨_, PSs.nox (pss_cons (ps_set (i := 2) sc__law_block.nd rfl (Or.inl rfl) (pe_callTy call_tuple_of (by rfl) T.m_tuple (by decide +kernel) (pa_cons (pe_lc (own := [("_law_size", 3)]) (by rfl) sc__law_block.nd (pi_list (pv 1)) (blkOk_by (own := [("_law_size", 3)]) (N := N__law_block) (sc := defScope s__law_block) (by decide +kernel)) (fun _ _ _ _ _ => (pg_name (i := 3) sc__law_block.nd rfl (Or.inl rfl))) (fun _ _ _ _ _ => pts_nil) (fun _ _ _ _ _ => (pe_tup (pa_cons (pe_call G__law_new (hr.mono (by omega)) (by rfl) T.g__law_new T.F__law_new.kp T.b__law_new .nil pass0 (pa_cons (pv 0) pa_nil)) (pa_cons (pv 3) pa_nil))))) pa_nil)))
        (pss_cons (ps_expr (pe_bm PySem.F.plainAttrs_list PySem.F.slot_list_append PySem.F.type_list_append mt_append (pe_dget (hu_of hr) (pv 0) pe_str (fun _ _ => rfl)) (pa_cons (pe_lst (pa_cons (pv 2) (pa_cons (pe_lst pa_nil) (pa_cons (pe_tup (pa_cons pe_str (pa_cons pe_int pa_nil))) pa_nil)))) pa_nil)))
        (pss_one (ps_ret (pe_op op_sub (pe_callB call_len_seq (by rfl) T.m_len (by decide +kernel) (pa_cons (pe_dget (hu_of hr) (pv 0) pe_str (fun _ _ => rfl)) pa_nil)) pe_int))))), ?_⟩
    refine ⟨_, rfl, Z, rfl, ⟨_, .of eZ⟩, fun D nD => ?_⟩
    have oD := ws.off nD
    refine lc_list (K := K) (a := Z) (xs := zs.map V.int) (fun i H' => Ext H A H' A ∧ WS K H' A (s.adv i) (n + i) ∧ ∃ acc, H' D = some (.lst acc) ∧ DpAll K H' acc ((psOf s 0 (zs.take i)).map pairD)) ?_ ?_ ?_ ?_
    · exact ⟨(Ext.refl).lay nD, ws.lay nD, [], upd_same, .nil⟩
    · rintro i H' _ ⟨x', w', _⟩
      exact .of (x'.keep eZ oZ)
    · rintro i y H1 hy ⟨x1, w1, acc, eD, dA⟩
      rw [List.getElem?_map] at hy
      cases hz : zs[i]? with
      | none => rw [hz] at hy; cases hy
      | some z =>
        rw [hz] at hy
        cases hy
        have hi := (List.getElem?_eq_some_iff.mp hz).1
        have la := dpAll_len dA
        rw [List.length_map, psOf_len, List.length_take] at la
        refine ⟨rfl, _, rfl, A, s.adv i, n + i, rfl, w1, by omega, fun H2 x2 w2 => ⟨_, rfl, (by show 2 ≤ sizeLine; rw [sizeLine_eq]; decide), fun tp ntp => ?_⟩⟩
        have s3 := same_new (o := .tup [.int (s.adv i).nv, .int z]) ntp
        have eD2 := s3 _ _ (x2.keep eD oD)
        refine ⟨acc, eD2, by rw [sizeLine_eq]; omega, ((x1.trans x2).trans (.same s3)).mine nD, (w2.sm s3).mine eD2 trivial oD, _, upd_same, ?_⟩
        rw [psOf_take hz, List.map_append]
        refine dpAll_mine (dpAll_app (dpAll_sm s3 (x2.dpAll (pairs_nl _) dA)) (.cons ?_ .nil)) ?_ eD2 trivial
        · have e : (s.adv i).nv = nvAt s i := rfl
          rw [← e]
          exact .tup (.inl (.of upd_same)) (.cons (.int _) (.cons (.int _) .nil))
        · rw [← List.map_append]
          exact pairs_nl _
    · rintro H1 ⟨x1, w1, acc, eD, dA⟩
      rw [List.length_map, List.take_length] at dA
      rw [List.length_map] at w1
      refine ⟨D, acc, rfl, .inl ⟨.of eD, fun pp npp => ?_⟩⟩
      have s2 := same_new (o := .tup acc) npp
      have w2 := w1.sm s2
      have x2 := x1.trans (.same s2)
      have dpp : Dp K (upd H1 pp (.tup acc)) (.ref pp) (.tuple ((psOf s 0 zs).map pairD)) := .tup (.inl (.of upd_same)) (dpAll_sm s2 dA)
      obtain ⟨g, dr, g0, ed⟩ := w2.dk
      refine ⟨_, rfl, _, _, rfl, dget_k ed dkv_blocks, .inl ⟨rfl, _, .of w2.lb⟩, _, rfl, Nat.zero_le _, fun R nR => ?_⟩
      have s3 := same_new (o := .lst []) nR
      have w3 := w2.sm s3
      have oR := w2.off nR
      refine ⟨(by show 2 ≤ sizeLine; rw [sizeLine_eq]; decide), fun F nF => ?_⟩
      have s4 := same_new (o := .tup [.str "fail", .int 0]) nF
      have w4 := w3.sm s4
      refine ⟨(by show 3 ≤ sizeLine; rw [sizeLine_eq]; decide), fun q1 nq1 => ?_⟩
      have s5 := same_new (o := .lst [.ref pp, .ref R, .ref F]) nq1
      have w5 := w4.sm s5
      have oq := w4.off nq1
      have s25 := (s3.trans s4).trans s5
      have lbl : (A.bs.map fun p => V.ref p.1).length ≤ n := by
        rw [List.length_map, w1.bl.len]
        exact ws.bd.b
      refine ⟨A.lb, _, _, rfl, rfl, w5.lb, by rw [sizeLine_eq]; omega, ?_⟩
      have eR5 := (s4.trans s5) _ _ (upd_same (H := upd H1 pp (.tup acc)) (a := R) (o := .lst []))
      have w6 := w5.addB (n' := n + (zs.length + 1)) (b := ⟨psOf s 0 zs, [], .fail 0⟩) upd_same eR5 oq oR (fun z => by
        rw [z] at nq1
        have := s4 _ _ (upd_same (H := upd H1 pp (.tup acc)) (a := R) (o := .lst []))
        rw [nq1] at this
        cases this) rfl (by rw [psOf_len]; exact zl) (psOf_sz z8) (dp_sm s25 dpp) (dp_sm s5 (.tup (.inl (.of upd_same)) (.cons (.str _) (.cons (.int _) .nil)))) (by omega) n6
      have x5 := x2.trans (.same s25)
      have hR : H R = none := kp_none x2.k nR oR
      have hq : H q1 = none := kp_none (x2.trans (.same (s3.trans s4))).k nq1 oq
      have x6 : Ext H A (upd (upd (upd (upd (upd H1 pp (.tup acc)) R (.lst [])) F (.tup [.str "fail", .int 0])) q1 (.lst [.ref pp, .ref R, .ref F])) A.lb (.lst ((A.bs.map fun p => V.ref p.1) ++ [.ref q1]))) { A with bs := A.bs ++ [(q1, R)] } := by
        refine ⟨x5.k.trans (Kp.upd w5.lb trivial (own_lb A)), fun b hb => ?_, rfl, rfl⟩
        have hb' : b ∈ A.d :: A.lb :: A.ls :: adrs (A.bs ++ [(q1, R)]) := hb
        rw [adrs_app] at hb'
        have e : A.d :: A.lb :: A.ls :: (adrs A.bs ++ adrs [(q1, R)]) = A.all ++ [q1, R] := rfl
        rw [e] at hb'
        rcases List.mem_append.mp hb' with h | h
        · exact .inl h
        · rcases List.mem_cons.mp h with rfl | h
          · exact .inr hq
          · rw [List.mem_singleton.mp h]
            exact .inr hR
      obtain ⟨g6, dr6, _, ed6⟩ := w6.dk
      refine ⟨_, rfl, _, _, rfl, dget_k ed6 dkv_blocks, A.lb, _, rfl, .inl (.of w6.lb), _, _, rfl, rfl, ?_⟩
      have el : (((A.bs ++ [(q1, R)]).map fun p => V.ref p.1).length : Int) - 1 = s.bls.length := by
        rw [List.length_map, List.length_append, List.length_singleton, ws.bl.len]
        omega
      have := q _ _ x6 w6
      rw [← el] at this
      exact this
end

section
variable {P : Program} {w : World} {K : PySem.W.Frag} {mg : Str → Option Value} {base : Heap}
def psAt (s : DSt) (i : Nat) : List (Int × Int) := match s.bls[i]? with
  | some b => b.ps
  | none => []
def DSt.stand (s : DSt) (i : Nat) (ksc : List (Int × Int)) : DSt := { s with at_ := i, sc := ksc ++ psAt s i }
/-- another list for the scope -/
theorem WS.newScope {H : Hp} {A : WA} {s : DSt} {n n' : Nat} {p : Addr} {svs : List V} {sc : List (Int × Int)} {g dr : Int} (h : WS K H A s n) (e : H p = some (.lst svs)) (d : DpAll K H svs (sc.map pairD)) (np : ¬ A.own p) (z : sz8 sc) (l : sc.length ≤ n') (ln : n ≤ n') (n6 : n' ≤ 6000) (g0 : 0 ≤ g) :
    WS K (upd H A.d (.dK (dkv dr s.many s.step s.shift A.lb s.at_ p g A.t))) { A with ls := p } { s with sc := sc } n' ∧ Kp A.own H (upd H A.d (.dK (dkv dr s.many s.step s.shift A.lb s.at_ p g A.t))) := by
  have nd := nd_of h.nd
  obtain ⟨⟨g1, dr1, _, e1⟩, e2, _, bl, nd0, bd, _, ot, tl⟩ := h
  have k : Kp A.own H (upd H A.d (.dK (dkv dr s.many s.step s.shift A.lb s.at_ p g A.t))) := Kp.upd e1 trivial (own_d A)
  have bd' := bd.mono ln
  have npe : ∀ {a}, A.own a → p ≠ a := fun ha z => np (z ▸ ha)
  refine ⟨⟨⟨g, dr, g0, upd_same⟩, (upd_ne (nd.d _ (.inl rfl))).trans e2, ⟨svs, (upd_ne (npe (own_d A))).trans e, dpAll_kp k _ _ (pairs_nl _) d⟩, ⟨bl.len, fun j q b hq hb => (bl.at_ j q b hq hb).kp k (upd_ne (nd.d _ (.inr (.inr (adrs_1 (List.mem_of_getElem? hq)))))) (upd_ne (nd.d _ (.inr (.inr (adrs_2 (List.mem_of_getElem? hq))))))⟩, ?_, ⟨bd'.m, bd'.b, bd'.a, l, bd'.r, z⟩, n6, ot, tl⟩, k⟩
  have h1 := List.nodup_cons.mp nd0
  have h2 := List.nodup_cons.mp h1.2
  have h3 := List.nodup_cons.mp h2.2
  refine List.nodup_cons.mpr ⟨fun y => ?_, List.nodup_cons.mpr ⟨fun y => ?_, List.nodup_cons.mpr ⟨fun y => np (own_b y), h3.2⟩⟩⟩
  · rcases List.mem_cons.mp y with y | y
    · exact h1.1 (by rw [show A.d = A.lb from y]; exact List.mem_cons_self ..)
    rcases List.mem_cons.mp y with y | y
    · exact npe (own_d A) (show A.d = p from y).symm
    · exact h1.1 (List.mem_cons_of_mem _ (List.mem_cons_of_mem _ y))
  · rcases List.mem_cons.mp y with y | y
    · exact npe (own_lb A) (show A.lb = p from y).symm
    · exact h2.1 (List.mem_cons_of_mem _ y)
def sp_stand (K : PySem.W.Frag) : Sp := fun vs H Q _ => ∃ (A : WA) (s : DSt) (n i : Nat) (M : Addr) (kv : List V) (ksc : List (Int × Int)), vs = [.ref A.d, .int i, .ref M] ∧ WS K H A s n ∧ i < s.bls.length ∧ H M = some (.lst kv) ∧ DpAll K H kv (ksc.map pairD) ∧ ¬ A.own M ∧ sz8 ksc ∧ ksc.length ≤ n ∧ n + 10 ≤ 6000 ∧
  ∀ H' A', Ext H A H' A' → WS K H' A' (s.stand i ksc) (n + 10) → Q .non H'
theorem ok__law_stand (T : Top K mg) : FnOk P w K mg base CX0 1 (He.ga K "_law_stand") T.fd__law_stand ["_law_s", "_law_block_here", "_law_kept"] (sp_stand K) := by
  refine T.F__law_stand.ok sc__law_stand (fun vs H Q E h => ?_) (fun cdv A0 outer s0 H vs Q E hr h => ?_)
  · obtain ⟨A, s, n, i, M, kv, ksc, rfl, _⟩ := h
    rfl
  · obtain ⟨A, s, n, i, M, kv, ksc, rfl, ws, hi, eM, dM, oM, z8, kl, n6, q⟩ := h
    refine ⟨_, PSs.nox (pss_cons (ps_dput (hu_of hr) (pv 0) pe_str (pv 1) (by rfl))
        (pss_one (ps_dput (hu_of hr) (pv 0) pe_str (pe_op op_cat (pe_callTy call_list_of (by rfl) T.m_list (by decide +kernel) (pa_cons (pv 2) pa_nil)) (pe_callTy call_list_of (by rfl) T.m_list (by decide +kernel) (pa_cons (pe_ix ix_list (pe_ix ix_list (pe_dget (hu_of hr) (pv 0) pe_str (fun _ _ => rfl)) (pv 1) (fun _ _ => rfl)) pe_int (fun _ _ => rfl)) pa_nil))) (by rfl)))), ?_⟩
    obtain ⟨g, dr, g0, e⟩ := ws.dk
    refine ⟨_, rfl, _, rfl, _, _, rfl, dput_k e (dkv_len ws.tl), ?_⟩
    rw [dkp_at (ws.ot _ (m8 (by decide +kernel)))]
    have bd := ws.bd
    obtain ⟨w2, x2⟩ := ws.put (s' := { s with at_ := i }) (dr := dr) g0 rfl rfl ⟨bd.m, bd.b, by have := bd.b; show i ≤ n; omega, bd.c, bd.r, bd.z⟩
    have eM2 := x2.keep eM oM
    have dM2 := x2.dpAll (pairs_nl _) dM
    refine ⟨_, rfl, M, _, rfl, .inl (.of eM2), fun L1 nL1 => ?_⟩
    have s3 := same_new (o := .lst kv) nL1
    have w3 := w2.sm s3
    obtain ⟨p, b, vp, ve, rvs, hp, hb, hpv, h1, h2, h3, h4, h5, h6, o1, o2⟩ := w3.blk (i := i) hi
    obtain ⟨pa, ps, rfl, hpa, dpa⟩ := dp_tup h2
    obtain ⟨g3, dr3, g30, e3⟩ := w3.dk
    refine ⟨_, rfl, _, _, rfl, dget_k e3 dkv_blocks, _, rfl, A.lb, _, _, _, rfl, rfl, .of w3.lb, atI_nat hpv, p.1, _, 0, _, rfl, rfl, .of h1, atI_nat (j := 0) rfl, ?_⟩
    refine ⟨pa, _, rfl, .inr hpa, fun L2 nL2 => ?_⟩
    have s4 := same_new (o := .lst ps) nL2
    have s34 := s3.trans s4
    have lp := dpAll_len dpa
    have lk := dpAll_len dM
    rw [List.length_map] at lp lk
    have bp := (bd.r b (List.mem_of_getElem? hb)).2
    refine ⟨L1, L2, _, _, rfl, rfl, s4 _ _ upd_same, upd_same, by rw [sizeLine_eq]; omega, fun p1 np1 => ?_⟩
    have s5 := same_new (o := .lst (kv ++ ps)) np1
    have w5 := w3.sm (s4.trans s5)
    have x5 : Ext H A _ A := x2.trans (.same (s34.trans s5))
    have o5 := (w3.sm s4).off np1
    obtain ⟨g5, dr5, g50, e5⟩ := w5.dk
    refine ⟨_, rfl, _, _, rfl, dput_k e5 (dkv_len w5.tl), ?_⟩
    rw [dkp_scope (w5.ot _ (m8 (by decide +kernel)))]
    have d5 : DpAll K (upd (upd (upd (upd H A.d (.dK (dkv dr s.many s.step s.shift A.lb (i : Int) A.ls g A.t))) L1 (.lst kv)) L2 (.lst ps)) p1 (.lst (kv ++ ps))) (kv ++ ps) ((ksc ++ b.ps).map pairD) := by
      rw [List.map_append]
      exact dpAll_app (dpAll_sm (s34.trans s5) dM2) (dpAll_sm (s4.trans s5) dpa)
    obtain ⟨w6, k6⟩ := w5.newScope (n' := n + 10) (dr := dr5) upd_same d5 o5 (fun z hz => by
      rcases List.mem_append.mp hz with hz | hz
      · exact z8 z hz
      · exact bp.2 z hz) (by rw [List.length_append]; omega) (by omega) n6 g50
    have ep : psAt s i = b.ps := by
      unfold psAt
      rw [show s.bls[i]? = some b from hb]
    have hp1 : H p1 = none := kp_none (x2.trans (.same s34)).k np1 o5
    refine q _ { A with ls := p1 } ⟨x5.k.trans k6, fun c hc => ?_, rfl, rfl⟩ (by unfold DSt.stand; rw [ep]; exact w6)
    rcases List.mem_cons.mp hc with rfl | hc
    · exact .inl (own_d A)
    rcases List.mem_cons.mp hc with rfl | hc
    · exact .inl (own_lb A)
    rcases List.mem_cons.mp hc with rfl | hc
    · exact .inr hp1
    · exact .inl (own_b hc)
/-- sizes that are drawn -/
def SizesOk (sc : List (Int × Int)) (zs : List Int) : Prop := ∃ k ≤ 2, zs = List.replicate k 0 ∨ ∃ v z, (v, z) ∈ sc ∧ 0 < z ∧ zs = List.replicate k 0 ++ [z]
def sp_sizes (K : PySem.W.Frag) : Sp := fun vs H Q _ => ∃ (A : WA) (s : DSt) (n : Nat), vs = [.ref A.d] ∧ WS K H A s n ∧ ∀ H' L zs, Ext H A H' A → WS K H' A s n → H' L = some (.lst (zs.map V.int)) → H L = none → ¬ A.own L → SizesOk s.sc zs → Q (.ref L) H'
def bigs (sc : List (Int × Int)) : List Int := (sc.filter fun p => decide (0 < p.2)).map (·.2)
theorem bigs_mem {sc : List (Int × Int)} {z : Int} (h : z ∈ bigs sc) : ∃ v, (v, z) ∈ sc ∧ 0 < z := by
  obtain ⟨p, hp, rfl⟩ := List.mem_map.mp h
  obtain ⟨h1, h2⟩ := List.mem_filter.mp hp
  exact ⟨p.1, h1, of_decide_eq_true h2⟩
theorem ok__law_sizes (T : Top K mg) : FnOk P w K mg base CX0 2 (He.ga K "_law_sizes") T.fd__law_sizes ["_law_s"] (sp_sizes K) := by
  have G__law_next := ok__law_next (P := P) (w := w) (base := base) T
  refine T.F__law_sizes.ok sc__law_sizes (fun vs H Q E h => ?_) (fun cdv A0 outer s0 H vs Q E hr h => ?_)
  · obtain ⟨A, s, n, rfl, _⟩ := h
    rfl
  · obtain ⟨A, s, n, rfl, ws, q⟩ := h
    refine ⟨_, PSs.nox (pss_cons (ps_setLc (i := 1) (own := [("_law_value", 3), ("_law_size", 4)]) (by rfl) sc__law_sizes.nd rfl rfl (sw_true rfl rfl rfl (by decide +kernel)) (pi_list (pe_dget (hu_of hr) (pv 0) pe_str (fun _ _ => rfl))) (blkOk_by (own := [("_law_value", 3), ("_law_size", 4)]) (N := N__law_sizes) (sc := defScope s__law_sizes) (by decide +kernel)) (fun _ _ _ _ _ => (pg_tupK (K := K) (n := 2) rfl (by rfl) (pgs_cons (pg_name (i := 3) sc__law_sizes.nd rfl (Or.inl rfl)) (pgs_cons (pg_name (i := 4) sc__law_sizes.nd rfl (Or.inl rfl)) pgs_nil)))) (fun _ _ _ _ _ => (pts_one (pt_cmpR op_gt (pv 4) pe_int (nomark _)))) (fun _ _ _ _ _ => (pv 4)))
        (pss_cons (ps_set (i := 2) sc__law_sizes.nd rfl (Or.inl rfl) (pe_op op_rep (pe_lst (pa_cons pe_int pa_nil)) (pe_call G__law_next (hr.mono (by omega)) (by rfl) T.g__law_next T.F__law_next.kp T.b__law_next .nil pass0 (pa_cons (pv 0) (pa_cons pe_int pa_nil)))))
        (pss_cons (ps_if (PW.pt (pw_and (pt_cmpR (op_neD hr.units) (pv 1) (pe_lst pa_nil) (nomark _)) (pw_and1 (pt_cmpR op_eq (pe_call G__law_next (hr.mono (by omega)) (by rfl) T.g__law_next T.F__law_next.kp T.b__law_next .nil pass0 (pa_cons (pv 0) (pa_cons pe_int pa_nil))) pe_int (nomark _))))) (pss_one (ps_expr (pe_bm PySem.F.plainAttrs_list PySem.F.slot_list_append PySem.F.type_list_append mt_append (pv 2) (pa_cons (pe_ix ix_list (pv 1) (pe_call G__law_next (hr.mono (by omega)) (by rfl) T.g__law_next T.F__law_next.kp T.b__law_next .nil pass0 (pa_cons (pv 0) (pa_cons (pe_callB call_len_seq (by rfl) T.m_len (by decide +kernel) (pa_cons (pv 1) pa_nil)) pa_nil))) (fun _ _ => rfl)) pa_nil)))) pss_nil)
        (pss_one (ps_ret (pv 2)))))), ?_⟩
    obtain ⟨g, dr, g0, e⟩ := ws.dk
    obtain ⟨svs, eS, dS⟩ := ws.ls
    have lS := dpAll_len dS
    rw [List.length_map] at lS
    have n6 := ws.n6
    have bs := ws.bd.c
    refine ⟨_, rfl, _, _, rfl, dget_k e dkv_scope, A.ls, rfl, ⟨_, .of eS⟩, fun L nL => ?_⟩
    have oL := ws.off nL
    have kl : ∀ i, (bigs (s.sc.take i)).length ≤ 6000 := fun i => by
      unfold bigs
      rw [List.length_map]
      have h1 := List.length_filter_le (fun p : Int × Int => decide (0 < p.2)) (s.sc.take i)
      rw [List.length_take] at h1
      omega
    refine lc_list (K := K) (a := A.ls) (xs := svs) (fun i H' => Same H H' ∧ H' L = some (.lst ((bigs (s.sc.take i)).map V.int))) ?_ ?_ ?_ ?_
    · exact ⟨same_new nL, upd_same⟩
    · rintro i H' _ ⟨s', _⟩
      exact .of (s' _ _ eS)
    · rintro i y H' hy ⟨s', e'⟩
      obtain ⟨a, z, qq, hab, rfl, hq⟩ := sc_at dS hy
      refine ⟨qq, _, rfl, sqT_sm s' hq, rfl, _, _, rfl, _, _, rfl, rfl, rfl, ?_⟩
      refine ⟨_, rfl, _, _, rfl, rfl, _, rfl, ?_⟩
      have fe : bigs (s.sc.take (i + 1)) = bigs (s.sc.take i) ++ (if decide (0 < z) = true then [z] else []) := take_flt hab
      rw [fe]
      by_cases hb : 0 < z
      · refine ifD hb ?_
        refine ⟨_, rfl, _, e', by rw [List.length_map, sizeLine_eq]; have := kl i; omega, same_upd s' nL, ?_⟩
        rw [upd_same, if_pos (decide_eq_true hb), List.map_append]
        rfl
      · refine ifN hb ⟨s', ?_⟩
        rw [e', if_neg (by rw [decide_eq_true_eq]; exact hb), List.append_nil]
    · rintro H1 ⟨s1, e1⟩
      rw [lS, List.take_length] at e1
      have w1 := ws.sm s1
      have x1 : Ext H A H1 A := .same s1
      have kn := kl s.sc.length
      rw [List.take_length] at kn
      refine ⟨(by show 1 ≤ sizeLine; rw [sizeLine_eq]; decide), fun Z0 nZ0 => ?_⟩
      have w2 := w1.lay (o := .lst [.int 0]) nZ0
      have x2 := x1.lay (o := .lst [.int 0]) nZ0
      have oZ0 := w1.off nZ0
      refine ⟨_, rfl, A, s, n, 3, rfl, w2, by decide, by decide, fun H3 r3 x3 w3 a3 b3 => ?_⟩
      have eZ := x3.keep upd_same oZ0
      have e3 := x3.keep (same_new nZ0 _ _ e1) oL
      obtain ⟨c, rfl⟩ := Int.eq_ofNat_of_zero_le a3
      have cc : c ≤ 2 := by omega
      refine ⟨Z0, c, _, rfl, rfl, eZ, by omega, by omega, by rw [sizeLine_eq, Int.toNat_natCast]; show 1 * c ≤ _; omega, fun F nF => ?_⟩
      have fl : (List.replicate (c : Int).toNat [V.int 0]).flatten = (List.replicate c 0).map V.int := by
        rw [Int.toNat_natCast]
        clear cc b3 a3
        induction c with
        | zero => rfl
        | succ c ih => rw [List.replicate_succ, List.replicate_succ, List.flatten_cons, ih, List.map_cons]; rfl
      rw [fl]
      have s4 := same_new (o := .lst ((List.replicate c 0).map V.int)) nF
      have w4 := w3.sm s4
      have x4 := ((x2.trans x3).trans (.same s4))
      have oF := w3.off nF
      have e4 := s4 _ _ e3
      have hF : H F = none := kp_none (x2.trans x3).k nF oF
      dsimp only [gName]
      refine ifs_by (fun σ' H' => ∃ zs, σ' = [some (.ref A.d), some (.ref L), some (.ref F), none, none] ∧ Ext H A H' A ∧ WS K H' A s n ∧ H' F = some (.lst (zs.map V.int)) ∧ SizesOk s.sc zs) ?_ ?_
      · rintro σ' H5 ⟨zs, rfl, x5, w5, e5, z5⟩
        exact ⟨_, rfl, q _ F zs x5 w5 e5 hF oF z5⟩
      · intro N hN
        have leaf : ∀ H', Ext H A H' A → WS K H' A s n → H' F = some (.lst ((List.replicate c 0).map V.int)) → N [some (.ref A.d), some (.ref L), some (.ref F), none, none] H' := fun H' x' w' e' => hN _ _ ⟨_, rfl, x', w', e', c, cc, .inl rfl⟩
        generalize hk : bigs s.sc = ks at e4 kn
        refine ⟨_, rfl, Nat.zero_le _, fun M nM => ?_⟩
        have sM := same_new (o := .lst []) nM
        have w5 := w4.sm sM
        have x5 := x4.trans (.same sM)
        have e5 := sM _ _ e4
        have f5 := sM _ _ (upd_same (H := H3) (a := F) (o := .lst ((List.replicate c 0).map V.int)))
        refine ⟨.list (ks.map PyData.int), .list [], .lst (.of e5) (ints_dpAll ks), .lst (.of upd_same) .nil, shaped_ints ks, shaped_ints [], _, rfl, ?_⟩
        rw [eqv_ints_nil]
        cases ks with
        | nil => exact leaf _ x5 w5 f5
        | cons k0 kr =>
          have cnt : (((k0 :: kr).map V.int).length : Int) = ((k0 :: kr).length : Nat) := by rw [List.length_map]
          have c0 : (0 : Int) < ((k0 :: kr).length : Nat) := by rw [List.length_cons]; omega
          refine ⟨_, rfl, A, s, n, 2, rfl, w5, by decide, by decide, fun H6 r6 x6 w6 a6 b6 => ?_⟩
          have e6 := x6.keep e5 oL
          have f6 := x6.keep f5 oF
          refine ⟨rfl, _, rfl, ite2 (fun _ => ?_) (fun _ => leaf _ (x5.trans x6) w6 f6)⟩
          refine ⟨_, rfl, .inl ⟨rfl, _, .of f6⟩, _, rfl, _, rfl, _, rfl, L, _, rfl, .inl (.of e6), A, s, n, ((k0 :: kr).length : Nat), by rw [cnt]; rfl, w6, c0, by omega, fun H7 r7 x7 w7 a7 b7 => ?_⟩
          have e7 := x7.keep e6 oL
          have f7 := x7.keep f6 oF
          obtain ⟨z, hz, ez⟩ := at_intsM a7 b7
          obtain ⟨v, hv, z0⟩ := bigs_mem (hk ▸ hz)
          refine ⟨L, _, _, _, rfl, rfl, .of e7, ez, F, _, _, rfl, rfl, f7, by rw [List.length_map, List.length_replicate, sizeLine_eq]; omega, ?_⟩
          refine hN _ _ ⟨List.replicate c 0 ++ [z], rfl, ((x5.trans x6).trans x7).mine hF, w7.mine f7 trivial oF, by rw [upd_same, List.map_append]; rfl, c, cc, .inr ⟨v, z, hv, z0, rfl⟩⟩
end

section
variable {P : Program} {w : World} {K : PySem.W.Frag} {mg : Str → Option Value} {base : Heap}
def RArg (z : Int) (s s' : DSt) (a : Int) : Prop := (s' = s ∧ (a, z) ∈ s.sc) ∨ ((∀ p ∈ s.sc, p.2 ≠ z) ∧ a = s.nv ∧ s' = s.bear (if 0 < z then "fresh" else "number") [z] z)
inductive RArgs : List Int → DSt → DSt → List Int → Prop
  | nil (s : DSt) : RArgs [] s s []
  | snoc {zs : List Int} {z : Int} {s s1 s' : DSt} {as : List Int} {a : Int} : RArgs zs s s1 as → RArg z s1 s' a → RArgs (zs ++ [z]) s s' (as ++ [a])
theorem RArg.at {z : Int} {s s' : DSt} {a : Int} (h : RArg z s s' a) : s'.at_ = s.at_ ∧ s'.bls.length = s.bls.length := by
  rcases h with ⟨rfl, _⟩ | ⟨_, _, rfl⟩
  · exact ⟨rfl, rfl⟩
  · exact ⟨rfl, modB_len ..⟩
theorem RArgs.at {zs : List Int} {s s' : DSt} {as : List Int} (h : RArgs zs s s' as) : s'.at_ = s.at_ ∧ s'.bls.length = s.bls.length := by
  induction h with
  | nil s => exact ⟨rfl, rfl⟩
  | snoc _ r ih => exact ⟨r.at.1.trans ih.1, r.at.2.trans ih.2⟩
theorem RArgs.len {zs : List Int} {s s' : DSt} {as : List Int} (h : RArgs zs s s' as) : as.length = zs.length := by
  induction h with
  | nil s => rfl
  | snoc _ r ih => rw [List.length_append, List.length_append, ih]; rfl
def withs (z : Int) (sc : List (Int × Int)) : List Int := (sc.filter fun p => decide (p.2 = z)).map (·.1)
theorem withs_mem {z : Int} {sc : List (Int × Int)} {a : Int} (h : a ∈ withs z sc) : (a, z) ∈ sc := by
  obtain ⟨p, hp, rfl⟩ := List.mem_map.mp h
  obtain ⟨h1, h2⟩ := List.mem_filter.mp hp
  have h3 : p.2 = z := of_decide_eq_true h2
  rw [← h3]
  exact h1
theorem withs_nil {z : Int} {sc : List (Int × Int)} (h : withs z sc = []) : ∀ p ∈ sc, p.2 ≠ z := fun p hp e => by
  have : p.1 ∈ withs z sc := List.mem_map.mpr ⟨p, List.mem_filter.mpr ⟨hp, decide_eq_true e⟩, rfl⟩
  rw [h] at this
  cases this
def sp_args (K : PySem.W.Frag) : Sp := fun vs H Q _ => ∃ (A : WA) (s : DSt) (n : Nat) (Z : Addr) (zs : List Int), vs = [.ref A.d, .ref Z] ∧ WS K H A s n ∧ s.at_ < s.bls.length ∧ H Z = some (.lst (zs.map V.int)) ∧ ¬ A.own Z ∧ (∀ z ∈ zs, 0 ≤ z ∧ z ≤ 8) ∧ zs.length ≤ 10 ∧ n + zs.length ≤ 6000 ∧
  ∀ H' s' v as, Ext H A H' A → WS K H' A s' (n + zs.length) → RArgs zs s s' as → Dp K H' v (.tuple (as.map PyData.int)) → Q v H'
theorem ok__law_args (T : Top K mg) : FnOk P w K mg base CX0 2 (He.ga K "_law_args") T.fd__law_args ["_law_s", "_law_sizes_here"] (sp_args K) := by
  have G__law_new := ok__law_new (P := P) (w := w) (base := base) T
  have G__law_next := ok__law_next (P := P) (w := w) (base := base) T
  refine T.F__law_args.ok sc__law_args (fun vs H Q E h => ?_) (fun cdv A0 outer s0 H vs Q E hr h => ?_)
  · obtain ⟨A, s, n, Z, zs, rfl, _⟩ := h
    rfl
  · obtain ⟨A, s, n, Z, zs, rfl, ws, ha, eZ, oZ, z8, zl, n6, q⟩ := h
    refine ⟨_, PSs.nox (pss_cons (ps_set (i := 2) sc__law_args.nd rfl (Or.inl rfl) (pe_lst pa_nil))
        (pss_cons (ps_for PassesOwn.never (by rfl) (pi_list (pv 1)) (pg_name (i := 3) sc__law_args.nd rfl (Or.inr rfl)) (pss_cons (ps_setLc (i := 4) (own := [("_law_value", 6), ("_law_own", 7)]) (by rfl) sc__law_args.nd rfl rfl (sw_true rfl rfl rfl (by decide +kernel)) (pi_list (pe_dget (hu_of hr) (pv 0) pe_str (fun _ _ => rfl))) (blkOk_by (own := [("_law_value", 6), ("_law_own", 7)]) (N := N__law_args) (sc := defScope s__law_args) (by decide +kernel)) (fun _ _ _ _ _ => (pg_tupK (K := K) (n := 2) rfl (by rfl) (pgs_cons (pg_name (i := 6) sc__law_args.nd rfl (Or.inl rfl)) (pgs_cons (pg_name (i := 7) sc__law_args.nd rfl (Or.inl rfl)) pgs_nil)))) (fun _ _ _ _ _ => (pts_one (pt_cmpR op_eq (pv 7) (pv 3) (nomark _)))) (fun _ _ _ _ _ => (pv 6)))
        (pss_cons (ps_if (pt_cmpR (op_eqD hr.units) (pv 4) (pe_lst pa_nil) (nomark _)) (pss_cons (ps_set (i := 5) sc__law_args.nd rfl (Or.inl rfl) (pe_ix ix_list (pe_lst (pa_cons pe_str (pa_cons pe_str pa_nil))) (pe_callTy call_int1 (by rfl) T.m_int (by decide +kernel) (pa_cons (pe_cmpR op_gt (pv 3) pe_int (nomark _)) pa_nil)) (fun _ _ => rfl)))
        (pss_cons (ps_set (i := 6) sc__law_args.nd rfl (Or.inl rfl) (pe_call G__law_new (hr.mono (by omega)) (by rfl) T.g__law_new T.F__law_new.kp T.b__law_new .nil pass0 (pa_cons (pv 0) pa_nil)))
        (pss_cons (ps_expr (pe_bm PySem.F.plainAttrs_list PySem.F.slot_list_append PySem.F.type_list_append mt_append (pe_ix ix_list (pe_ix ix_list (pe_dget (hu_of hr) (pv 0) pe_str (fun _ _ => rfl)) (pe_dget (hu_of hr) (pv 0) pe_str (fun _ _ => rfl)) (fun _ _ => rfl)) pe_int (fun _ _ => rfl)) (pa_cons (pe_tup (pa_cons (pv 6) (pa_cons (pv 5) (pa_cons (pv 3) pa_nil)))) pa_nil)))
        (pss_cons (ps_expr (pe_bm PySem.F.plainAttrs_list PySem.F.slot_list_append PySem.F.type_list_append mt_append (pe_dget (hu_of hr) (pv 0) pe_str (fun _ _ => rfl)) (pa_cons (pe_tup (pa_cons (pv 6) (pa_cons (pv 3) pa_nil))) pa_nil)))
        (pss_one (ps_set (i := 4) sc__law_args.nd rfl (Or.inl rfl) (pe_lst (pa_cons (pv 6) pa_nil)))))))) pss_nil)
        (pss_one (ps_expr (pe_bm PySem.F.plainAttrs_list PySem.F.slot_list_append PySem.F.type_list_append mt_append (pv 2) (pa_cons (pe_ix ix_list (pv 4) (pe_call G__law_next (hr.mono (by omega)) (by rfl) T.g__law_next T.F__law_next.kp T.b__law_next .nil pass0 (pa_cons (pv 0) (pa_cons (pe_callB call_len_seq (by rfl) T.m_len (by decide +kernel) (pa_cons (pv 4) pa_nil)) pa_nil))) (fun _ _ => rfl)) pa_nil)))))))
        (pss_one (ps_ret (pe_callTy call_tuple_of (by rfl) T.m_tuple (by decide +kernel) (pa_cons (pv 2) pa_nil)))))), ?_⟩
    refine ⟨Nat.zero_le _, fun F nF => ?_⟩
    have oF := ws.off nF
    have s0' := same_new (o := .lst []) nF
    refine ⟨_, rfl, Z, rfl, ⟨_, .of (s0' _ _ eZ)⟩, ?_⟩
    refine for_list (K := K) (a := Z) (xs := zs.map V.int) (fun i σ' H' => ∃ s1 as x3 x4 x5 x6 x7, Ext H A H' A ∧ WS K H' A s1 (n + i) ∧ H' F = some (.lst (as.map V.int)) ∧ RArgs (zs.take i) s s1 as ∧ σ' = [some (.ref A.d), some (.ref Z), some (.ref F), x3, x4, x5, x6, x7]) ?_ ?_ ?_ ?_
    · exact ⟨s, [], none, none, none, none, none, .same s0', ws.sm s0', upd_same, .nil s, rfl⟩
    · rintro i σ' H' _ ⟨s1, as, y3, y4, y5, y6, y7, x1, w1, f1, r1, rfl⟩
      exact .of (x1.keep eZ oZ)
    · rintro i y σ' H1 hy ⟨s1, as, y3, y4, y5, y6, y7, x1, w1, f1, r1, rfl⟩
      rw [List.getElem?_map] at hy
      cases hz : zs[i]? with
      | none => rw [hz] at hy; cases hy
      | some z =>
        rw [hz] at hy
        cases hy
        have hi := (List.getElem?_eq_some_iff.mp hz).1
        have z0 := z8 z (List.mem_of_getElem? hz)
        have at1 := r1.at
        have tk : zs.take (i + 1) = zs.take i ++ [z] := by rw [List.take_succ, hz]; rfl
        have las := r1.len
        rw [List.length_take] at las
        obtain ⟨g, dr, g0, e⟩ := w1.dk
        obtain ⟨svs, eS, dS⟩ := w1.ls
        have lS := dpAll_len dS
        rw [List.length_map] at lS
        have bs := w1.bd.c
        refine ⟨_, rfl, _, _, rfl, dget_k e dkv_scope, A.ls, rfl, ⟨_, .of eS⟩, fun L nL => ?_⟩
        have oL := w1.off nL
        have kl : ∀ i, (withs z (s1.sc.take i)).length ≤ 6000 := fun i => by
          unfold withs
          rw [List.length_map]
          have h1 := List.length_filter_le (fun p : Int × Int => decide (p.2 = z)) (s1.sc.take i)
          rw [List.length_take] at h1
          omega
        refine lc_list (K := K) (a := A.ls) (xs := svs) (fun i H' => Same H1 H' ∧ H' L = some (.lst ((withs z (s1.sc.take i)).map V.int))) ?_ ?_ ?_ ?_
        · exact ⟨same_new nL, upd_same⟩
        · rintro i H' _ ⟨s', _⟩
          exact .of (s' _ _ eS)
        · rintro j y H' hy ⟨s', e'⟩
          obtain ⟨a, z2, qq, hab, rfl, hq⟩ := sc_at dS hy
          refine ⟨qq, _, rfl, sqT_sm s' hq, rfl, _, _, rfl, _, _, rfl, rfl, rfl, ?_⟩
          refine ⟨_, rfl, _, rfl, rfl, _, rfl, ?_⟩
          have fe : withs z (s1.sc.take (j + 1)) = withs z (s1.sc.take j) ++ (if decide (z2 = z) = true then [a] else []) := take_flt hab
          rw [fe]
          by_cases hb : z2 = z
          · refine ifD (by rw [hb]) ?_
            refine ⟨_, rfl, _, e', by rw [List.length_map, sizeLine_eq]; have := kl j; omega, same_upd s' nL, ?_⟩
            rw [upd_same, if_pos (decide_eq_true hb), List.map_append]
            rfl
          · refine ifN (fun y => hb (V.int.inj y)) ⟨s', ?_⟩
            rw [e', if_neg (by rw [decide_eq_true_eq]; exact hb), List.append_nil]
        · rintro H2 ⟨s2, e2⟩
          rw [lS, List.take_length] at e2
          have w2 := w1.sm s2
          have x2 : Ext H A H2 A := x1.trans (.same s2)
          have f2 := s2 _ _ f1
          have kn := kl s1.sc.length
          rw [List.take_length] at kn
          dsimp only [gName, List.set]
          have hF : H F = none := nF
          refine ifs_by (fun σ' H' => ∃ (s3 : DSt) (ks : List Int) (x5 x6 x7 : Option V) (Lk : Addr), Ext H A H' A ∧ WS K H' A s3 (n + (i + 1)) ∧ H' F = some (.lst (as.map V.int)) ∧ H' Lk = some (.lst (ks.map V.int)) ∧ ¬ A.own Lk ∧ Lk ≠ F ∧ 0 < ks.length ∧ ks.length ≤ 6000 ∧ (∀ a ∈ ks, RArg z s1 s3 a) ∧
            σ' = [some (.ref A.d), some (.ref Z), some (.ref F), some (.int z), some (.ref Lk), x5, x6, x7]) ?_ ?_
          · rintro σ' H5 ⟨s3, ks, x5, x6, x7, Lk, xx, w5, f5, k5, ok5, ne5, k0, k1, hk, rfl⟩
            refine ⟨_, rfl, .inl ⟨rfl, _, .of f5⟩, _, rfl, _, rfl, _, rfl, Lk, _, rfl, .inl (.of k5), A, s3, n + (i + 1), (ks.length : Nat), by rw [List.length_map]; rfl, w5, by omega, by omega, fun H6 r6 x6' w6 a6 b6 => ?_⟩
            obtain ⟨a, hka, ea⟩ := at_intsM a6 b6
            have f6 := x6'.keep f5 oF
            refine ⟨Lk, _, _, _, rfl, rfl, .of (x6'.keep k5 ok5), ea, F, _, _, rfl, rfl, f6, by rw [List.length_map, las, sizeLine_eq]; omega, ?_⟩
            refine ⟨s3, as ++ [a], _, _, _, _, _, (xx.trans x6').mine hF, w6.mine f6 trivial oF, by rw [upd_same, List.map_append]; rfl, by rw [tk]; exact .snoc r1 (hk a hka), rfl⟩
          · intro N hN
            generalize hk : withs z s1.sc = ks at e2 kn
            refine ⟨_, rfl, Nat.zero_le _, fun M nM => ?_⟩
            have sM := same_new (o := .lst []) nM
            have w3 := w2.sm sM
            have x3 := x2.trans (.same sM)
            have e3 := sM _ _ e2
            have f3 := sM _ _ f2
            refine ⟨.list (ks.map PyData.int), .list [], .lst (.of e3) (ints_dpAll ks), .lst (.of upd_same) .nil, shaped_ints ks, shaped_ints [], _, rfl, ?_⟩
            rw [eqv_ints_nil]
            have nLF : L ≠ F := fun y => by
              rw [y, f1] at nL
              cases nL
            cases ks with
            | cons k0 kr => exact hN _ _ ⟨s1, k0 :: kr, y5, y6, y7, L, x3, w3.mono (by omega) (by omega), f3, e3, oL, nLF, Nat.succ_pos _, kn, fun a h => .inl ⟨rfl, withs_mem (hk ▸ h)⟩, rfl⟩
            | nil =>
              have hno := withs_nil hk
              refine ⟨(by show 2 ≤ sizeLine; rw [sizeLine_eq]; decide), fun W nW => ?_⟩
              have sW := same_new (o := .lst ((["number", "fresh"] : List Str).map V.str)) nW
              have w4 := w3.sm sW
              have x4 := x3.trans (.same sW)
              have f4 := sW _ _ f3
              have ew : atI ((["number", "fresh"] : List Str).map V.str) (if decide (0 < z) = true then 1 else 0) = some (.str (if 0 < z then "fresh" else "number")) := by
                by_cases h : 0 < z
                · rw [if_pos (decide_eq_true h), if_pos h]
                  rfl
                · rw [if_neg (by rw [decide_eq_true_eq]; exact h), if_neg h]
                  rfl
              refine ⟨_, rfl, _, _, rfl, rfl, .inr ⟨_, rfl, W, _, _, _, rfl, rfl, .of upd_same, ew, ?_⟩⟩
              generalize hw : (if 0 < z then ("fresh" : Str) else "number") = wd at ew
              refine ⟨_, rfl, A, s1, n + i, rfl, w4, by omega, fun H8 x8 w8 => ?_⟩
              have x08 := x4.trans x8
              have f8 := x8.keep f4 oF
              obtain ⟨g2, dr2, g20, ed⟩ := w8.dk
              obtain ⟨p, b, vp, ve, rvs, hp, hb, hpv, h1, h2, h3, h4, h5, h6, o1, o2⟩ := w8.blk (i := s1.at_) (by show s1.at_ < s1.bls.length; rw [at1.1, at1.2]; exact ha)
              refine ⟨_, rfl, _, _, rfl, dget_k ed dkv_blocks, _, rfl, _, _, rfl, dget_k ed dkv_at, A.lb, _, (s1.at_ : Int), _, rfl, rfl, .of w8.lb, atI_nat hpv, p.1, _, 1, _, rfl, rfl, .of h1, atI_nat (j := 1) rfl, ?_⟩
              refine ⟨.inl ⟨rfl, _, .of h4⟩, _, rfl, _, rfl, _, rfl, (by show 3 ≤ sizeLine; rw [sizeLine_eq]; decide), fun tp ntp => ?_⟩
              have s9 := same_new (o := .tup [.int s1.nv, .str wd, .int z]) ntp
              have w9 := w8.sm s9
              refine ⟨p.2, rvs, _, rfl, rfl, s9 _ _ h4, by rw [sizeLine_eq]; omega, ?_⟩
              have d9 : DpAll K (upd H8 tp (.tup [.int s1.nv, .str wd, .int z])) (rvs ++ [.ref tp]) ((addRow ⟨s1.nv, wd, [z]⟩ b).rs.map GRow.d) := by
                unfold addRow
                rw [List.map_append]
                exact dpAll_app (dpAll_sm s9 h5) (.cons (.tup (.inl (.of upd_same)) (.cons (.int _) (.cons (.str _) (.cons (.int _) .nil)))) .nil)
              have rl : (addRow ⟨s1.nv, wd, [z]⟩ b).rs.length ≤ n + (i + 1) := by
                have := dpAll_len d9
                rw [List.length_append, List.length_map, List.length_singleton] at this
                have h7 := dpAll_len h5
                rw [List.length_map] at h7
                have h8 := (w1.bd.r b (List.mem_of_getElem? hb)).1
                omega
              obtain ⟨w11, x11⟩ := w9.rows (f := addRow ⟨s1.nv, wd, [z]⟩) hp hb (s9 _ _ h4) d9 rfl rfl (n' := n + (i + 1)) (by omega) (by omega) rl
              have x011 := (x08.trans (.same s9)).trans x11
              have f11 := x11.keep (s9 _ _ f8) oF
              obtain ⟨g3, dr3, g30, ed3⟩ := w11.dk
              obtain ⟨sv3, eS3, dS3⟩ := w11.ls
              refine ⟨_, rfl, _, _, rfl, dget_k ed3 dkv_scope, .inl ⟨rfl, _, .of eS3⟩, _, rfl, _, rfl, (by show 2 ≤ sizeLine; rw [sizeLine_eq]; decide), fun tp2 ntp2 => ?_⟩
              have s12 := same_new (o := .tup [.int s1.nv, .int z]) ntp2
              have w12 := w11.sm s12
              have l3 := dpAll_len dS3
              rw [List.length_map] at l3
              refine ⟨A.ls, sv3, _, rfl, rfl, s12 _ _ eS3, by rw [sizeLine_eq, l3]; show s1.sc.length < _; omega, ?_⟩
              obtain ⟨w13, x13⟩ := w12.scope (svs' := sv3 ++ [.ref tp2]) (sc := s1.sc ++ [(s1.nv, z)]) (n' := n + (i + 1)) (s12 _ _ eS3) (by
                rw [List.map_append]
                exact dpAll_app (dpAll_sm s12 dS3) (.cons (.tup (.inl (.of upd_same)) (.cons (.int _) (.cons (.int _) .nil))) .nil)) (fun q hq => by
                  rcases List.mem_append.mp hq with hq | hq
                  · exact w1.bd.z q hq
                  · rw [List.mem_singleton.mp hq]
                    exact ⟨z0, s1.nv_b⟩) (by rw [List.length_append, List.length_singleton]; omega) (Nat.le_refl _) (by omega)
              have x013 := (x011.trans (.same s12)).trans x13
              have f13 := x13.keep (s12 _ _ f11) oF
              refine ⟨_, rfl, (by show 1 ≤ sizeLine; rw [sizeLine_eq]; decide), fun L2 nL2 => ?_⟩
              have s14 := same_new (o := .lst [.int s1.nv]) nL2
              have nL2F : L2 ≠ F := fun y => by
                rw [y, f13] at nL2
                cases nL2
              exact hN _ _ ⟨s1.bear wd [z] z, [s1.nv], _, _, _, L2, x013.trans (.same s14), w13.sm s14, s14 _ _ f13, upd_same, w13.off nL2, nL2F, Nat.succ_pos _, by show 1 ≤ 6000; decide, fun a h => .inr ⟨hno, List.mem_singleton.mp h, by rw [hw]⟩, rfl⟩
    · rintro σ' H1 ⟨s1, as, y3, y4, y5, y6, y7, x1, w1, f1, r1, rfl⟩
      rw [List.length_map] at w1 r1
      rw [List.take_length] at r1
      refine ⟨_, rfl, F, _, rfl, .inl ⟨.of f1, fun tp ntp => ?_⟩⟩
      have s2 := same_new (o := .tup (as.map V.int)) ntp
      exact q _ _ _ _ (x1.trans (.same s2)) (w1.sm s2) r1 (.tup (.inl (.of upd_same)) (ints_dpAll as))
end

/-! a dict that is not empty: own rule -/
theorem op_neD0 {X : Cx} (hu : X.A.units < cLine) : OpR X (compareOp .NotEq) (fun x y H Q => ∃ (a b : Addr) (ks : List (Key × V)), x = .ref a ∧ y = .ref b ∧ H a = some (.dK ks) ∧ H b = some (.dK []) ∧ Q (.bl (!ks.isEmpty)) H) := by
  intro pins s σ H x y v u Q I rx ry h
  obtain ⟨a, b, ks, rfl, rfl, ea, eb, q⟩ := h
  obtain rfl : v = Value.ref a := rx
  obtain rfl : u = Value.ref b := ry
  obtain ⟨_, ya, va, ra, da⟩ := (show ObjOk X.prog X.w H s.heap a (.dK ks) from I.hok a _ ea)
  obtain ⟨_, yb, vb, rb, db⟩ := (show ObjOk X.prog X.w H s.heap b (.dK []) from I.hok b _ eb)
  have la := ra.length
  have lb := rb.length
  cases ks with
  | nil =>
    have hl : va.length = vb.length := by rw [← la, ← lb]
    exact PySem.W.keq_ne (knd := mixKind X.prog X.w) (r := true) ya yb da db hu (fun _ => hits_all rb ra fun p hp => nomatch hp) (fin_bl I q (by simp [hl]))
  | cons k r =>
    have hl : va.length ≠ vb.length := by rw [← la, ← lb]; simp
    exact PySem.W.keq_ne (knd := mixKind X.prog X.w) (r := true) ya yb da db hu (fun e => absurd e hl) (fin_bl I q (by simp [hl]))
/-! what the parts of a graph do, plain -/
def DSt.setEnd (s : DSt) (i : Nat) (e : En) : DSt := { s with bls := modB (fun b => { b with en := e }) i s.bls }
def setLast (r : GRow) (b : Blk) : Blk := { b with rs := b.rs.dropLast ++ [r] }
def DSt.last (s : DSt) (i : Nat) (r : GRow) : DSt := { s with bls := modB (setLast r) i s.bls }
def RSide (P : DSt → DSt → Prop) (kept : List (Int × Int)) (b join : Nat) (zs : List Int) (leave k : Int) (s s' : DSt) : Prop :=
  ∃ s1 s2 as, P (s.stand b kept) s1 ∧ RArgs zs s1 s2 as ∧ ((leave ≠ k ∧ s' = s2.setEnd s2.at_ (.jump ⟨join, as⟩)) ∨
    leave = k ∧ ∃ s3 one n, RSure s2 s3 one ∧ 0 ≤ n ∧ n < 100 ∧ (s' = s3.setEnd s3.at_ (.fail n) ∨ s' = s3.setEnd s3.at_ (.give one)))
def RChoice (P : DSt → DSt → Prop) (s s' : DSt) : Prop :=
  ∃ s1 one zs leave s4 s5, RSure s s1 one ∧ SizesOk s1.sc zs ∧
    RSide P s1.sc s1.bls.length (s1.bls.length + 2) zs leave 0 ((((s1.block []).block []).block zs).setEnd s1.at_ (.choose one ⟨s1.bls.length, []⟩ ⟨s1.bls.length + 1, []⟩)) s4 ∧
    RSide P s1.sc (s1.bls.length + 1) (s1.bls.length + 2) zs leave 1 s4 s5 ∧ s' = s5.stand (s1.bls.length + 2) s1.sc
def RBound (head : Nat) (counter : Int) (s s' : DSt) (one one' : Int) : Prop :=
  (s' = s ∧ one' = one) ∨ ∃ s1 s2 bound, RBear "number" s s1 bound ∧ RBear "less" s1 s2 one' ∧ s' = s2.last head ⟨one', "less", [counter, bound]⟩
def DSt.tell (s : DSt) (a : Int) : DSt := { s with bls := modB (addRow ⟨-1, "tell", [a]⟩) s.at_ s.bls }
/-- what goes back: as it is, or the first two exchanged and told -/
def RBack (zs : List Int) (p1 p2 : Int) (s : DSt) (as : List Int) (s' : DSt) (as' : List Int) : Prop := (s' = s ∧ as' = as) ∨ ∃ zt, zs = 0 :: 0 :: zt ∧ s' = (s.tell p1).tell p2 ∧ as' = p2 :: p1 :: as.drop 2
theorem RBack.at {zs as as' : List Int} {p1 p2 : Int} {s s' : DSt} (h : RBack zs p1 p2 s as s' as') : s'.at_ = s.at_ ∧ s'.bls.length = s.bls.length := by
  rcases h with ⟨rfl, _⟩ | ⟨_, _, rfl, _⟩
  · exact ⟨rfl, rfl⟩
  · exact ⟨rfl, by show (modB _ _ (modB _ _ _)).length = _; rw [modB_len, modB_len]⟩
def RLoop (P : DSt → DSt → Prop) (s s' : DSt) : Prop :=
  ∃ zs s1 as s4 s5 one s6 one' s9 s10 step r s12 later s14 as2 s15 back, SizesOk s.sc zs ∧ RArgs (0 :: zs) s s1 as ∧
    RRows 2 (((s1.block (0 :: zs)).setEnd s1.at_ (.jump ⟨s1.bls.length, as⟩)).stand s1.bls.length s1.sc) s4 ∧ RSure s4 s5 one ∧ RBound s1.bls.length (nvAt s1 0) s5 s6 one one' ∧
    P ((((s6.block []).block []).setEnd s1.bls.length (.choose one' ⟨s6.bls.length, []⟩ ⟨s6.bls.length + 1, []⟩)).stand s6.bls.length s6.sc) s9 ∧
    RBear "number" s9 s10 step ∧ 0 ≤ r ∧ r < 2 ∧ RBear "add" (s10.last s10.at_ ⟨step, "number", [1 + r]⟩) s12 later ∧
    RArgs zs (s12.last s12.at_ ⟨later, "add", [nvAt s1 0, step]⟩) s14 as2 ∧ RBack zs (nvAt s1 1) (nvAt s1 2) s14 as2 s15 back ∧ s' = (s15.setEnd s15.at_ (.jump ⟨s1.bls.length, later :: back⟩)).stand (s6.bls.length + 1) s6.sc
def RCall (hl : List (Str × Nat)) (s s' : DSt) : Prop :=
  ∃ h m s1 as zs s2 more, (h, m) ∈ hl ∧ RArgs (List.replicate m 0) s s1 as ∧ SizesOk s1.sc zs ∧ RArgs zs s1 s2 more ∧
    s' = ((s2.block (0 :: zs)).setEnd s2.at_ (.call h as ⟨s2.bls.length, more⟩)).stand s2.bls.length s2.sc
def RTurn (P : DSt → DSt → Prop) (hl : List (Str × Nat)) (s s' : DSt) : Prop := ∃ s1, (s1 = s ∨ RChoice P s s1 ∨ RLoop P s s1 ∨ RCall hl s s1) ∧ RRows 2 s1 s'
def RParts (hl : List (Str × Nat)) : Nat → Nat → DSt → DSt → Prop
  | 0, m, s, s' => ∃ s1 k, RRows 3 s s1 ∧ k < m ∧ Steps (RTurn (fun _ _ => False) hl) k s1 s'
  | d + 1, m, s, s' => ∃ s1 k, RRows 3 s s1 ∧ k < m ∧ Steps (RTurn (RParts hl d 2) hl) k s1 s'
/-- what is known of a step: blocks don't get fewer, the place is there -/
structure Grow (s s' : DSt) : Prop where
  len : s.bls.length ≤ s'.bls.length
  at_ : s.at_ < s.bls.length → s'.at_ < s'.bls.length
theorem Grow.refl (s : DSt) : Grow s s := ⟨Nat.le_refl _, id⟩
theorem Grow.trans {a b c : DSt} (h : Grow a b) (k : Grow b c) : Grow a c := ⟨Nat.le_trans h.len k.len, fun z => k.at_ (h.at_ z)⟩
theorem grow_of {s s' : DSt} (h : s'.at_ = s.at_ ∧ s'.bls.length = s.bls.length) : Grow s s' := ⟨by rw [h.2]; exact Nat.le_refl _, fun z => by rw [h.1, h.2]; exact z⟩
theorem setEnd_len (s : DSt) (i : Nat) (e : En) : (s.setEnd i e).bls.length = s.bls.length := modB_len ..
theorem last_len (s : DSt) (i : Nat) (r : GRow) : (s.last i r).bls.length = s.bls.length := modB_len ..
theorem block_len (s : DSt) (zs : List Int) : (s.block zs).bls.length = s.bls.length + 1 := by
  show (s.bls ++ _).length = _
  rw [List.length_append, List.length_singleton]
theorem SizesOk.b {sc : List (Int × Int)} {zs : List Int} (h : SizesOk sc zs) (z : sz8 sc) : (∀ x ∈ zs, 0 ≤ x ∧ x ≤ 8) ∧ zs.length ≤ 3 := by
  obtain ⟨k, hk, h⟩ := h
  rcases h with rfl | ⟨v, y, hv, hy, rfl⟩
  · exact ⟨fun x hx => by rw [List.eq_of_mem_replicate hx]; decide, by rw [List.length_replicate]; omega⟩
  · refine ⟨fun x hx => ?_, by rw [List.length_append, List.length_replicate, List.length_singleton]; omega⟩
    rcases List.mem_append.mp hx with hx | hx
    · rw [List.eq_of_mem_replicate hx]
      decide
    · rw [List.mem_singleton.mp hx]
      exact (z _ hv).1

/-! what each step of the drawer keeps, or makes more: plain, once for all -/
structure Pre (Q : DSt → DSt → Prop) : Prop where
  refl : ∀ s, Q s s
  trans : ∀ {a b c}, Q a b → Q b c → Q a c
  bear : ∀ s w as k, Q s (s.bear w as k)
  tell : ∀ s a, Q s (s.tell a)
  en : ∀ s i e, Q s (s.setEnd i e)
  st : ∀ s i k, Q s (s.stand i k)
  bl : ∀ s zs, Q s (s.block zs)
  la : ∀ s i r, Q s (s.last i r)
section
variable {Q : DSt → DSt → Prop} (p : Pre Q)
include p
theorem Pre.rbear {wd : Str} {s s' : DSt} {v : Int} (h : RBear wd s s' v) : Q s s' := by
  obtain ⟨w, as, k, _, _, _, _, rfl⟩ := h
  exact p.bear ..
theorem Pre.rrow {s s' : DSt} (h : RRow s s') : Q s s' := by
  rcases h with rfl | ⟨a, _, rfl⟩ | ⟨wd, v, _, h⟩
  · exact p.refl _
  · exact p.tell ..
  · exact p.rbear h
theorem Pre.steps {R : DSt → DSt → Prop} (f : ∀ s s', R s s' → Q s s') : ∀ {k : Nat} {s s' : DSt}, Steps R k s s' → Q s s'
  | 0, s, s', h => by
    rw [show s' = s from h]
    exact p.refl _
  | k + 1, s, s', ⟨s1, h1, h2⟩ => p.trans (Pre.steps f h1) (f _ _ h2)
theorem Pre.rrows {m : Nat} {s s' : DSt} (h : RRows m s s') : Q s s' := by
  obtain ⟨k, _, st⟩ := h
  exact p.steps (fun _ _ => p.rrow) st
theorem Pre.rsure {s s' : DSt} {v : Int} (h : RSure s s' v) : Q s s' := by
  rcases h with ⟨rfl, _⟩ | ⟨_, h⟩
  · exact p.refl _
  · exact p.rbear h
theorem Pre.rargs {zs : List Int} {s s' : DSt} {as : List Int} (h : RArgs zs s s' as) : Q s s' := by
  induction h with
  | nil s => exact p.refl _
  | snoc _ r ih =>
    refine p.trans ih ?_
    rcases r with ⟨rfl, _⟩ | ⟨_, _, rfl⟩
    · exact p.refl _
    · exact p.bear ..
theorem Pre.rside {P : DSt → DSt → Prop} (hP : ∀ s s', P s s' → Q s s') {kept : List (Int × Int)} {b join : Nat} {zs : List Int} {leave k : Int} {s s' : DSt} (r : RSide P kept b join zs leave k s s') : Q s s' := by
  obtain ⟨s1, s2, as, h, ra, e⟩ := r
  have h2 : Q s s2 := p.trans (p.trans (p.st ..) (hP _ _ h)) (p.rargs ra)
  rcases e with ⟨_, rfl⟩ | ⟨_, s3, one, n, r3, _, _, e⟩
  · exact p.trans h2 (p.en ..)
  · have h3 := p.trans h2 (p.rsure r3)
    rcases e with rfl | rfl
    · exact p.trans h3 (p.en ..)
    · exact p.trans h3 (p.en ..)
theorem Pre.rbound {head : Nat} {counter : Int} {s s' : DSt} {one one' : Int} (r : RBound head counter s s' one one') : Q s s' := by
  rcases r with ⟨rfl, _⟩ | ⟨t1, t2, bound, q1, q2, rfl⟩
  · exact p.refl _
  · exact p.trans (p.trans (p.rbear q1) (p.rbear q2)) (p.la ..)
theorem Pre.rback {zs as as' : List Int} {p1 p2 : Int} {s s' : DSt} (h : RBack zs p1 p2 s as s' as') : Q s s' := by
  rcases h with ⟨rfl, _⟩ | ⟨_, _, rfl, _⟩
  · exact p.refl _
  · exact p.trans (p.tell ..) (p.tell ..)
theorem Pre.rturn {P : DSt → DSt → Prop} (hP : ∀ s s', P s s' → Q s s') {hl : List (Str × Nat)} {s s' : DSt} (h : RTurn P hl s s') : Q s s' := by
  obtain ⟨s1, r, rr⟩ := h
  refine p.trans ?_ (p.rrows rr)
  rcases r with rfl | r | r | r
  · exact p.refl _
  · obtain ⟨s1, one, zs, leave, s4, s5, rs, hz, r1, r2, rfl⟩ := r
    exact p.trans (p.trans (p.trans (p.rsure rs) (p.trans (p.bl ..) (p.trans (p.bl ..) (p.trans (p.bl ..) (p.trans (p.en ..) (p.rside hP r1)))))) (p.rside hP r2)) (p.st ..)
  · obtain ⟨zs, s1, as, s4, s5, one, s6, one', s9, s10, step, r, s12, later, s14, as2, s15, back, hz, r1, r4, r5, r6, r9, r10, r0, rl2, r12, r14, r15, rfl⟩ := r
    have h4 : Q s s4 := p.trans (p.rargs r1) (p.trans (p.bl ..) (p.trans (p.en ..) (p.trans (p.st ..) (p.rrows r4))))
    have h6 : Q s s6 := p.trans (p.trans h4 (p.rsure r5)) (p.rbound r6)
    have h9 : Q s s9 := p.trans h6 (p.trans (p.bl ..) (p.trans (p.bl ..) (p.trans (p.en ..) (p.trans (p.st ..) (hP _ _ r9)))))
    have h12 : Q s s12 := p.trans (p.trans h9 (p.rbear r10)) (p.trans (p.la ..) (p.rbear r12))
    exact p.trans h12 (p.trans (p.la ..) (p.trans (p.rargs r14) (p.trans (p.rback r15) (p.trans (p.en ..) (p.st ..)))))
  · obtain ⟨g, m, s1, as, zs, s2, more, hg, r1, hz, r2, rfl⟩ := r
    exact p.trans (p.trans (p.rargs r1) (p.rargs r2)) (p.trans (p.bl ..) (p.trans (p.en ..) (p.st ..)))
theorem Pre.parts {hl : List (Str × Nat)} : ∀ (d m : Nat) (s s' : DSt), RParts hl d m s s' → Q s s'
  | 0, m, s, s', ⟨s1, k, r, _, st⟩ => p.trans (p.rrows r) (p.steps (fun _ _ h => p.rturn (P := fun _ _ => False) (fun _ _ z => z.elim) h) st)
  | d + 1, m, s, s', ⟨s1, k, r, _, st⟩ => p.trans (p.rrows r) (p.steps (fun _ _ h => p.rturn (Pre.parts d 2) h) st)
end
/-- params of blocks stay -/
theorem pre_ps : Pre fun s s' => ∀ (i : Nat) (b : Blk), s.bls[i]? = some b → ∃ b', s'.bls[i]? = some b' ∧ b'.ps = b.ps := by
  have md : ∀ {f : Blk → Blk} {i : Nat} {l : List Blk}, (∀ b, (f b).ps = b.ps) → ∀ (j : Nat) (b : Blk), l[j]? = some b → ∃ b', (modB f i l)[j]? = some b' ∧ b'.ps = b.ps := fun {f i l} hf j b hb => by
    rw [modB_at]
    by_cases z : j = i
    · subst z
      rw [if_pos rfl, hb]
      exact ⟨f b, rfl, hf b⟩
    · rw [if_neg z]
      exact ⟨b, hb, rfl⟩
  refine ⟨fun s i b h => ⟨b, h, rfl⟩, fun f g i b h => ?_, fun s w as k => md fun _ => rfl, fun s a => md fun _ => rfl, fun s i e => md fun _ => rfl, fun s i k j b h => ⟨b, h, rfl⟩, fun s zs i b h => ⟨b, ?_, rfl⟩, fun s i r => md fun _ => rfl⟩
  · obtain ⟨b1, h1, e1⟩ := f i b h
    obtain ⟨b2, h2, e2⟩ := g i b1 h1
    exact ⟨b2, h2, e2.trans e1⟩
  · show (s.bls ++ [_])[i]? = _
    rw [List.getElem?_append_left (List.getElem?_eq_some_iff.mp h).1]
    exact h

section
variable {P : Program} {w : World} {K : PySem.W.Frag} {mg : Str → Option Value} {base : Heap}
/-- a copy of the scope, held by the walk -/
def KeptAt (K : PySem.W.Frag) (H : Hp) (A : WA) (M : Addr) (ksc : List (Int × Int)) : Prop := ∃ kv, H M = some (.lst kv) ∧ DpAll K H kv (ksc.map pairD) ∧ ¬ A.own M
theorem KeptAt.ext {H H' : Hp} {A A' : WA} {M : Addr} {ksc : List (Int × Int)} (h : KeptAt K H A M ksc) (x : Ext H A H' A') : KeptAt K H' A' M ksc := by
  obtain ⟨kv, e, d, o⟩ := h
  exact ⟨kv, x.keep e o, x.dpAll (pairs_nl _) d, x.off e o⟩
def IntsAt (H : Hp) (A : WA) (M : Addr) (zs : List Int) : Prop := H M = some (.lst (zs.map V.int)) ∧ ¬ A.own M
theorem IntsAt.ext {H H' : Hp} {A A' : WA} {M : Addr} {zs : List Int} (h : IntsAt H A M zs) (x : Ext H A H' A') : IntsAt H' A' M zs := ⟨x.keep h.1 h.2, x.off h.1 h.2⟩
/-- the helpers that may be called -/
structure Hlp (H : Hp) (A : WA) (hl : List (Str × Nat)) : Prop where
  at_ : ∃ hd, A.t = [(.inr "helpers", .ref hd)] ∧ H hd = some (.dK (hl.map fun p => ((.inr p.1 : Key), V.int (p.2 : Nat)))) ∧ ¬ A.own hd
  nd : (hl.map (·.1)).Nodup
  le : ∀ p ∈ hl, p.2 ≤ 4
  ln : hl.length ≤ 4
theorem Hlp.ext {H H' : Hp} {A A' : WA} {hl : List (Str × Nat)} (h : Hlp H A hl) (x : Ext H A H' A') : Hlp H' A' hl := by
  obtain ⟨hd, e1, e2, o⟩ := h.at_
  exact ⟨⟨hd, x.t.trans e1, x.keep e2 o, x.off e2 o⟩, h.nd, h.le, h.ln⟩
def cT : Nat → Nat
  | 0 => 22
  | d + 1 => 60 + 2 * (3 + (cT d + 2))
def cP (d m : Nat) : Nat := 3 + m * (cT d + 2)
def sp_parts (K : PySem.W.Frag) (hl : List (Str × Nat)) (d : Nat) : Sp := fun vs H Q _ => ∃ (A : WA) (s : DSt) (n m : Nat), vs = [.ref A.d, .int d, .int ((m + 1 : Nat) : Int)] ∧ WS K H A s n ∧ Hlp H A hl ∧ s.at_ < s.bls.length ∧ m ≤ 3 ∧ n + cP d m ≤ 6000 ∧
  ∀ H' A' s', Ext H A H' A' → WS K H' A' s' (n + cP d m) → RParts hl d (m + 1) s s' → Grow s s' → Q .non H'
def sp_choice (K : PySem.W.Frag) (hl : List (Str × Nat)) (d : Nat) : Sp := fun vs H Q _ => ∃ (A : WA) (s : DSt) (n : Nat), vs = [.ref A.d, .int ((d + 1 : Nat) : Int)] ∧ WS K H A s n ∧ Hlp H A hl ∧ s.at_ < s.bls.length ∧ n + cT (d + 1) ≤ 6000 ∧
  ∀ H' A' s', Ext H A H' A' → WS K H' A' s' (n + cT (d + 1)) → RChoice (RParts hl d 2) s s' → Grow s s' → Q .non H'
def RS (P : DSt → DSt → Prop) (kept : List (Int × Int)) (b join : Nat) (zs : List Int) (leave : Int) : Nat → DSt → DSt → Prop
  | 0, s, s' => s' = s
  | i + 1, s, s' => ∃ s1, RS P kept b join zs leave i s s1 ∧ RSide P kept (b + i) join zs leave (i : Nat) s1 s'
/-- the end of the block at i, written -/
theorem WS.end_at {H : Hp} {A : WA} {s : DSt} {n i : Nat} (h : WS K H A s n) (hi : i < s.bls.length) : ∃ (p : Addr) (vp vr v0 : V), (A.bs.map fun p => V.ref p.1)[i]? = some (.ref p) ∧ H p = some (.lst [vp, vr, v0]) ∧
    ∀ (ve : V) (en : En), Dp K H ve en.d → WS K (upd H p (.lst [vp, vr, ve])) A (s.setEnd i en) n ∧ Ext H A (upd H p (.lst [vp, vr, ve])) A := by
  obtain ⟨p, b, vp, ve, rvs, hp, hb, hpv, h1, h2, h3, h4, h5, h6, o1, o2⟩ := h.blk hi
  exact ⟨p.1, vp, .ref p.2, ve, hpv, h1, fun ve en d => h.end hp hb h1 d⟩
theorem ok__law_choice_of (T : Top K mg) (hl : List (Str × Nat)) (d l : Nat) (l4 : 4 ≤ l) (G__law_parts : FnOk P w K mg base CX0 l (He.ga K "_law_parts") T.fd__law_parts ["_law_s", "_law_deep", "_law_most"] (sp_parts K hl d)) :
    FnOk P w K mg base CX0 (l + 1) (He.ga K "_law_choice") T.fd__law_choice ["_law_s", "_law_deep"] (sp_choice K hl d) := by
  have G__law_next := ok__law_next (P := P) (w := w) (base := base) T
  have G__law_sure := ok__law_sure (P := P) (w := w) (base := base) T
  have G__law_sizes := ok__law_sizes (P := P) (w := w) (base := base) T
  have G__law_block := ok__law_block (P := P) (w := w) (base := base) T
  have G__law_stand := ok__law_stand (P := P) (w := w) (base := base) T
  have G__law_args := ok__law_args (P := P) (w := w) (base := base) T
  refine T.F__law_choice.ok sc__law_choice (fun vs H Q E h => ?_) (fun cdv A0 outer s0 H vs Q E hr h => ?_)
  · obtain ⟨A, s, n, rfl, _⟩ := h
    rfl
  · obtain ⟨A, s, n, rfl, ws, hlp, ha, n6, q⟩ := h
    refine ⟨_, PSs.nox (pss_cons (ps_set (i := 2) sc__law_choice.nd rfl (Or.inl rfl) (pe_call G__law_sure (hr.mono (by omega)) (by rfl) T.g__law_sure T.F__law_sure.kp T.b__law_sure .nil pass0 (pa_cons (pv 0) pa_nil)))
        (pss_cons (ps_set (i := 3) sc__law_choice.nd rfl (Or.inl rfl) (pe_callTy call_list_of (by rfl) T.m_list (by decide +kernel) (pa_cons (pe_dget (hu_of hr) (pv 0) pe_str (fun _ _ => rfl)) pa_nil)))
        (pss_cons (ps_set (i := 4) sc__law_choice.nd rfl (Or.inl rfl) (pe_dget (hu_of hr) (pv 0) pe_str (fun _ _ => rfl)))
        (pss_cons (ps_set (i := 5) sc__law_choice.nd rfl (Or.inl rfl) (pe_call G__law_sizes (hr.mono (by omega)) (by rfl) T.g__law_sizes T.F__law_sizes.kp T.b__law_sizes .nil pass0 (pa_cons (pv 0) pa_nil)))
        (pss_cons (ps_set (i := 6) sc__law_choice.nd rfl (Or.inl rfl) (pe_lst (pa_cons (pe_call G__law_block (hr.mono (by omega)) (by rfl) T.g__law_block T.F__law_block.kp T.b__law_block .nil pass0 (pa_cons (pv 0) (pa_cons (pe_lst pa_nil) pa_nil))) (pa_cons (pe_call G__law_block (hr.mono (by omega)) (by rfl) T.g__law_block T.F__law_block.kp T.b__law_block .nil pass0 (pa_cons (pv 0) (pa_cons (pe_lst pa_nil) pa_nil))) pa_nil))))
        (pss_cons (ps_set (i := 7) sc__law_choice.nd rfl (Or.inl rfl) (pe_call G__law_block (hr.mono (by omega)) (by rfl) T.g__law_block T.F__law_block.kp T.b__law_block .nil pass0 (pa_cons (pv 0) (pa_cons (pv 5) pa_nil))))
        (pss_cons (ps_asg (pe_tup (pa_cons pe_str (pa_cons (pv 2) (pa_cons (pe_tup (pa_cons (pe_ix ix_list (pv 6) pe_int (fun _ _ => rfl)) (pa_cons (pe_tup pa_nil) pa_nil))) (pa_cons (pe_tup (pa_cons (pe_ix ix_list (pv 6) pe_int (fun _ _ => rfl)) (pa_cons (pe_tup pa_nil) pa_nil))) pa_nil))))) (pg_sub (pe_ix ix_list (pe_dget (hu_of hr) (pv 0) pe_str (fun _ _ => rfl)) (pv 4) (fun _ _ => rfl)) pe_int set_list))
        (pss_cons (ps_set (i := 8) sc__law_choice.nd rfl (Or.inl rfl) (pe_call G__law_next (hr.mono (by omega)) (by rfl) T.g__law_next T.F__law_next.kp T.b__law_next .nil pass0 (pa_cons (pv 0) (pa_cons pe_int pa_nil))))
        (pss_cons (ps_for PassesOwn.never (by rfl) (pi_range1 (by rfl) T.m_range (pa_cons pe_int pa_nil)) (pg_name (i := 9) sc__law_choice.nd rfl (Or.inl rfl)) (pss_cons (ps_expr (pe_call G__law_stand (hr.mono (by omega)) (by rfl) T.g__law_stand T.F__law_stand.kp T.b__law_stand .nil pass0 (pa_cons (pv 0) (pa_cons (pe_ix ix_list (pv 6) (pv 9) (fun _ _ => rfl)) (pa_cons (pv 3) pa_nil)))))
        (pss_cons (ps_expr (pe_call G__law_parts (hr.mono (by omega)) (by rfl) T.g__law_parts T.F__law_parts.kp T.b__law_parts .nil pass0 (pa_cons (pv 0) (pa_cons (pe_op op_sub (pv 1) pe_int) (pa_cons pe_int pa_nil)))))
        (pss_cons (ps_set (i := 10) sc__law_choice.nd rfl (Or.inl rfl) (pe_tup (pa_cons pe_str (pa_cons (pe_tup (pa_cons (pv 7) (pa_cons (pe_call G__law_args (hr.mono (by omega)) (by rfl) T.g__law_args T.F__law_args.kp T.b__law_args .nil pass0 (pa_cons (pv 0) (pa_cons (pv 5) pa_nil))) pa_nil))) pa_nil))))
        (pss_cons (ps_if (pt_cmpR op_eq (pv 8) (pv 9) (nomark _)) (pss_one (ps_set (i := 10) sc__law_choice.nd rfl (Or.inl rfl) (pe_ix ix_list (pe_lst (pa_cons (pe_tup (pa_cons pe_str (pa_cons (pe_call G__law_next (hr.mono (by omega)) (by rfl) T.g__law_next T.F__law_next.kp T.b__law_next .nil pass0 (pa_cons (pv 0) (pa_cons pe_int pa_nil))) pa_nil))) (pa_cons (pe_tup (pa_cons pe_str (pa_cons (pe_call G__law_sure (hr.mono (by omega)) (by rfl) T.g__law_sure T.F__law_sure.kp T.b__law_sure .nil pass0 (pa_cons (pv 0) pa_nil)) pa_nil))) pa_nil))) (pe_call G__law_next (hr.mono (by omega)) (by rfl) T.g__law_next T.F__law_next.kp T.b__law_next .nil pass0 (pa_cons (pv 0) (pa_cons pe_int pa_nil))) (fun _ _ => rfl)))) pss_nil)
        (pss_one (ps_asg (pv 10) (pg_sub (pe_ix ix_list (pe_dget (hu_of hr) (pv 0) pe_str (fun _ _ => rfl)) (pe_dget (hu_of hr) (pv 0) pe_str (fun _ _ => rfl)) (fun _ _ => rfl)) pe_int set_list))))))))
        (pss_one (ps_expr (pe_call G__law_stand (hr.mono (by omega)) (by rfl) T.g__law_stand T.F__law_stand.kp T.b__law_stand .nil pass0 (pa_cons (pv 0) (pa_cons (pv 7) (pa_cons (pv 3) pa_nil))))))))))))))), ?_⟩
    have ec : cT (d + 1) = 60 + 2 * (3 + (cT d + 2)) := rfl
    rw [ec] at n6
    refine ⟨_, rfl, A, s, n, rfl, ws, ha, by omega, fun H1 s1 one x1 w1 r1 => ?_⟩
    have at1 := r1.at
    obtain ⟨g1, dr1, _, e1⟩ := w1.dk
    obtain ⟨kv, eS, dS⟩ := w1.ls
    refine ⟨_, rfl, _, _, rfl, dget_k e1 dkv_scope, A.ls, _, rfl, .inl (.of eS), fun M nM => ?_⟩
    have sM := same_new (o := .lst kv) nM
    have w2 := w1.sm sM
    have x2 := x1.trans (.same sM)
    have kM : KeptAt K (upd H1 M (.lst kv)) A M s1.sc := ⟨kv, upd_same, dpAll_sm sM dS, w1.off nM⟩
    obtain ⟨g2, dr2, _, e2⟩ := w2.dk
    refine ⟨_, rfl, _, _, rfl, dget_k e2 dkv_at, ?_⟩
    refine ⟨_, rfl, A, s1, n + 1, rfl, w2, fun H3 Z zs x3 w3 eZ nZ oZ hz => ?_⟩
    have iZ : IntsAt H3 A Z zs := ⟨eZ, oZ⟩
    have k3 := kM.ext x3
    have zb := hz.b w1.bd.z
    have x03 := x2.trans x3
    refine ⟨_, rfl, Nat.zero_le _, fun Z1 nZ1 => ?_⟩
    have s4 := same_new (o := .lst []) nZ1
    refine ⟨A, s1, n + 1, Z1, [], rfl, w3.sm s4, upd_same, w3.off nZ1, (fun z h => nomatch h), Nat.zero_le _, by show n + 1 + (0 + 1) ≤ 6000; omega, fun H5 A5 x5 w5 => ?_⟩
    have x35 := (Ext.same (A := A) s4).trans x5
    have k5 := k3.ext x35
    have i5 := iZ.ext x35
    have x05 := x03.trans x35
    refine ⟨_, rfl, Nat.zero_le _, fun Z2 nZ2 => ?_⟩
    have s6 := same_new (o := .lst []) nZ2
    refine ⟨A5, s1.block [], n + 1 + 1, Z2, [], by rw [x5.d]; rfl, w5.sm s6, upd_same, w5.off nZ2, (fun z h => nomatch h), Nat.zero_le _, by show n + 1 + 1 + (0 + 1) ≤ 6000; omega, fun H7 A7 x7 w7 => ?_⟩
    have x57 := (Ext.same (A := A5) s6).trans x7
    have k7 := k5.ext x57
    have i7 := i5.ext x57
    have x07 := x05.trans x57
    refine ⟨(by show 2 ≤ sizeLine; rw [sizeLine_eq]; decide), fun S nS => ?_⟩
    have s8 := same_new (o := .lst [.int (s1.bls.length : Nat), .int ((s1.block []).bls.length : Nat)]) nS
    have k8 := k7.ext (.same s8)
    have i8 := i7.ext (.same s8)
    have w8 := w7.sm s8
    have oS := w7.off nS
    have x08 := x07.trans (.same s8)
    refine ⟨_, rfl, _, rfl, A7, (s1.block []).block [], n + 1 + 1 + 1, Z, zs, by rw [x07.d]; rfl, w8, i8.1, i8.2, zb.1, by omega, by have := zb.2; omega, fun H9 A9 x9 w9 => ?_⟩
    have x09 := x08.trans x9
    have k9 := k8.ext x9
    have i9 := i8.ext x9
    have eS9 := x9.keep upd_same oS
    have oS9 := x9.off upd_same oS
    have lb : (s1.block []).bls.length = s1.bls.length + 1 := block_len ..
    have lj : ((s1.block []).block []).bls.length = s1.bls.length + 2 := by rw [block_len, lb]
    have le : (((s1.block []).block []).block zs).bls.length = s1.bls.length + 3 := by rw [block_len, lj]
    rw [lb] at eS9
    rw [lj]
    dsimp only [gName, List.set]
    -- the end of the block here
    refine ⟨_, rfl, _, rfl, S, _, 0, _, rfl, rfl, .of eS9, atI_nat (j := 0) rfl, Nat.zero_le _, fun t1 nt1 => ?_⟩
    have q1 := same_new (o := .tup []) nt1
    refine ⟨(by show 2 ≤ sizeLine; rw [sizeLine_eq]; decide), fun t2 nt2 => ?_⟩
    have q2 := same_new (o := .tup [.int (s1.bls.length : Nat), .ref t1]) nt2
    refine ⟨_, rfl, S, _, 1, _, rfl, rfl, .of (q2 _ _ (q1 _ _ eS9)), atI_nat (j := 1) rfl, Nat.zero_le _, fun t3 nt3 => ?_⟩
    have q3 := same_new (o := .tup []) nt3
    refine ⟨(by show 2 ≤ sizeLine; rw [sizeLine_eq]; decide), fun t4 nt4 => ?_⟩
    have q4 := same_new (o := .tup [.int ((s1.bls.length + 1 : Nat) : Int), .ref t3]) nt4
    refine ⟨(by show 4 ≤ sizeLine; rw [sizeLine_eq]; decide), fun t5 nt5 => ?_⟩
    have q5 := same_new (o := .tup [.str "choose", .int one, .ref t2, .ref t4]) nt5
    have q15 := (((q1.trans q2).trans q3).trans q4).trans q5
    have d5 : Dp K (upd (upd (upd (upd (upd H9 t1 (.tup [])) t2 (.tup [.int (s1.bls.length : Nat), .ref t1])) t3 (.tup [])) t4 (.tup [.int ((s1.bls.length + 1 : Nat) : Int), .ref t3])) t5 (.tup [.str "choose", .int one, .ref t2, .ref t4])) (.ref t5)
        (En.choose one ⟨s1.bls.length, []⟩ ⟨s1.bls.length + 1, []⟩).d := by
      refine .tup (.inl (.of upd_same)) (.cons (.str _) (.cons (.int _) (.cons ?_ (.cons ?_ .nil))))
      · exact .tup (.inl (.of ((q3.trans q4).trans q5 _ _ upd_same))) (.cons (.int _) (.cons (.tup (.inl (.of (((q2.trans q3).trans q4).trans q5 _ _ upd_same))) .nil) .nil))
      · exact .tup (.inl (.of (q5 _ _ upd_same))) (.cons (.int _) (.cons (.tup (.inl (.of ((q4.trans q5) _ _ upd_same))) .nil) .nil))
    have w10 := w9.sm q15
    obtain ⟨g10, dr10, _, e10⟩ := w10.dk
    obtain ⟨p, vp, vr, v0, hpv, hpe, hend⟩ := w10.end_at (i := s1.at_) (by rw [le, at1.1, at1.2]; omega)
    have x010 := x09.trans (.same q15)
    obtain ⟨w11, x11⟩ := hend _ _ d5
    refine ⟨_, rfl, _, _, by rw [x010.d], dget_k e10 dkv_blocks, _, rfl, A9.lb, _, (s1.at_ : Int), _, rfl, rfl, .of w10.lb, atI_nat hpv, p, _, 2, 2, rfl, rfl, hpe, rfl, ?_⟩
    have x011 := x010.trans x11
    have k11 := k9.ext ((Ext.same (A := A9) q15).trans x11)
    have i11 := i9.ext ((Ext.same (A := A9) q15).trans x11)
    have eS11 := x11.keep (q15 _ _ eS9) oS9
    refine ⟨_, rfl, A9, _, n + 1 + 1 + 1 + (zs.length + 1), 8, by rw [x010.d]; rfl, w11, by decide, by decide, fun H12 leave x12 w12 a12 b12 => ?_⟩
    have x012 := x011.trans x12
    have k12 := k11.ext x12
    have i12 := i11.ext x12
    have iS : IntsAt H12 A9 S [(s1.bls.length : Nat), ((s1.bls.length + 1 : Nat) : Int)] := ⟨x12.keep eS11 oS9, oS9⟩
    have hl12 := hlp.ext x012
    generalize hst : (((s1.block []).block []).block zs).setEnd s1.at_ (.choose one ⟨s1.bls.length, []⟩ ⟨s1.bls.length + 1, []⟩) = st at w12
    have lst : st.bls.length = s1.bls.length + 3 := by rw [← hst, setEnd_len, le]
    have zl := zb.2
    have ePe : cP d 1 = 3 + 1 * (cT d + 2) := rfl
    refine ⟨_, rfl, by decide, by decide, ?_⟩
    refine for_range (lo := 0) (n := 2) (fun i σ' H' => ∃ (A' : WA) (s' : DSt) (x9 x10 : Option V), Ext H A H' A' ∧ WS K H' A' s' (n + 7 + i * (14 + cP d 1)) ∧ KeptAt K H' A' M s1.sc ∧ IntsAt H' A' Z zs ∧ IntsAt H' A' S [(s1.bls.length : Nat), ((s1.bls.length + 1 : Nat) : Int)] ∧ Hlp H' A' hl ∧
      RS (RParts hl d 2) s1.sc s1.bls.length (s1.bls.length + 2) zs leave i st s' ∧ s1.bls.length + 3 ≤ s'.bls.length ∧ (i = 0 → s1.at_ < s'.bls.length) ∧
      σ' = [some (.ref A.d), some (.int ((d + 1 : Nat) : Int)), some (.int one), some (.ref M), some (.int (s1.at_ : Nat)), some (.ref Z), some (.ref S), some (.int ((s1.bls.length + 2 : Nat) : Int)), some (.int leave), x9, x10]) ?_ ?_ ?_
    · exact ⟨A9, st, none, none, x012, w12.mono (by omega) (by omega), k12, i12, iS, hl12, rfl, by omega, fun _ => by rw [lst, at1.1, at1.2]; omega, rfl⟩
    · rintro i σ' H13 hi ⟨A', s', y9, y10, x13, w13, k13, i13, iS13, hl13, rs13, l13, _, rfl⟩
      have hb : s1.bls.length + i < s'.bls.length := by omega
      obtain ⟨kv13, eM13, dM13, oM13⟩ := k13
      have eb : atI (([(s1.bls.length : Nat), ((s1.bls.length + 1 : Nat) : Int)] : List Int).map V.int) (0 + (i : Int)) = some (.int ((s1.bls.length + i : Nat) : Int)) := by
        have : i = 0 ∨ i = 1 := by omega
        rcases this with rfl | rfl <;> rfl
      refine ⟨_, rfl, _, rfl, _, rfl, S, _, _, _, rfl, rfl, .of iS13.1, eb, _, rfl, A', s', n + 7 + i * (14 + cP d 1), s1.bls.length + i, M, kv13, s1.sc, by rw [x13.d]; rfl, w13, hb, eM13, dM13, oM13, w1.bd.z, by have := w1.bd.c; omega, ?_, fun H14 A14 x14 w14 => ?_⟩
      · have : i * (14 + cP d 1) ≤ 1 * (14 + cP d 1) := Nat.mul_le_mul_right _ (by omega)
        omega
      have x014 := x13.trans x14
      have i14 := i13.ext x14
      have k14 := KeptAt.ext (K := K) ⟨kv13, eM13, dM13, oM13⟩ x14
      have iS14 := iS13.ext x14
      have hl14 := hl13.ext x14
      have ei : i * (14 + cP d 1) ≤ 1 * (14 + cP d 1) := Nat.mul_le_mul_right _ (by omega)
      generalize hN : n + 7 + i * (14 + cP d 1) = N0 at w13 w14
      have l14 : (s'.stand (s1.bls.length + i) s1.sc).bls.length = s'.bls.length := rfl
      refine ⟨_, rfl, _, rfl, _, _, rfl, rfl, A14, _, N0 + 10, 1, by rw [x014.d]; show [V.ref A.d, V.int (((d + 1 : Nat) : Int) - 1), V.int 2] = _; rw [show (((d + 1 : Nat) : Int) - 1) = (d : Nat) by omega]; rfl, w14, hl14, hb, by omega, by omega, fun H15 A15 s15 x15 w15 r15 g15 => ?_⟩
      have x015 := x014.trans x15
      have i15 := i14.ext x15
      have k15 := k14.ext x15
      have iS15 := iS14.ext x15
      have hl15 := hl14.ext x15
      have a15 := g15.at_ hb
      have l15 := g15.len
      rw [l14] at l15
      refine ⟨_, rfl, _, rfl, _, rfl, A15, s15, N0 + 10 + cP d 1, Z, zs, by rw [x015.d]; rfl, w15, a15, i15.1, i15.2, zb.1, by omega, by omega, fun H16 s16 vA as x16 w16 rA dA => ?_⟩
      have at16 := rA.at
      have x016 := x015.trans x16
      have i16 := i15.ext x16
      have k16 := k15.ext x16
      have iS16 := iS15.ext x16
      have hl16 := hl15.ext x16
      refine ⟨(by show 2 ≤ sizeLine; rw [sizeLine_eq]; decide), fun t1 nt1 => ?_⟩
      have q1 := same_new (o := .tup [.int ((s1.bls.length + 2 : Nat) : Int), vA]) nt1
      refine ⟨(by show 2 ≤ sizeLine; rw [sizeLine_eq]; decide), fun t2 nt2 => ?_⟩
      have q2 := same_new (o := .tup [.str "jump", .ref t1]) nt2
      have q12 := q1.trans q2
      have dJ : Dp K (upd (upd H16 t1 (.tup [.int ((s1.bls.length + 2 : Nat) : Int), vA])) t2 (.tup [.str "jump", .ref t1])) (.ref t2) (En.jump ⟨s1.bls.length + 2, as⟩).d :=
        .tup (.inl (.of upd_same)) (.cons (.str _) (.cons (.tup (.inl (.of (q2 _ _ upd_same))) (.cons (.int _) (.cons (dp_sm q12 dA) .nil))) .nil))
      have w17 := w16.sm q12
      have x17 := (Ext.same (A := A15) q12)
      dsimp only [gName, List.set]
      refine ifs_by (fun σ' H' => ∃ (s17 : DSt) (en : En) (t : Addr), Ext H16 A15 H' A15 ∧ WS K H' A15 s17 (N0 + 14 + cP d 1) ∧ Dp K H' (.ref t) en.d ∧ s17.at_ = s16.at_ ∧ s17.bls.length = s16.bls.length ∧
        ((leave ≠ (i : Nat) ∧ s17 = s16 ∧ en = .jump ⟨s1.bls.length + 2, as⟩) ∨ leave = (i : Nat) ∧ ∃ one m, RSure s16 s17 one ∧ 0 ≤ m ∧ m < 100 ∧ (en = .fail m ∨ en = .give one)) ∧
        σ' = [some (.ref A.d), some (.int ((d + 1 : Nat) : Int)), some (.int one), some (.ref M), some (.int (s1.at_ : Nat)), some (.ref Z), some (.ref S), some (.int ((s1.bls.length + 2 : Nat) : Int)), some (.int leave), some (.int (0 + (i : Int))), some (.ref t)]) ?_ ?_
      · rintro σ' H18 ⟨s17, en, t, x18, w18, d18, e1, e2, hen, rfl⟩
        have x018 := x016.trans x18
        obtain ⟨g18, dr18, _, e18⟩ := w18.dk
        obtain ⟨p18, vp18, vr18, v018, hpv18, hpe18, hend18⟩ := w18.end_at (i := s17.at_) (by rw [e1, e2, at16.1, at16.2]; exact a15)
        obtain ⟨w19, x19⟩ := hend18 _ _ d18
        refine ⟨_, rfl, _, rfl, _, _, by rw [x018.d], dget_k e18 dkv_blocks, _, rfl, _, _, by rw [x018.d], dget_k e18 dkv_at, A15.lb, _, (s17.at_ : Int), _, rfl, rfl, .of w18.lb, atI_nat hpv18, p18, _, 2, 2, rfl, rfl, hpe18, rfl, ?_⟩
        have x1619 := x18.trans x19
        refine ⟨A15, s17.setEnd s17.at_ en, _, _, x018.trans x19, w19.mono (by rw [Nat.add_mul]; omega) (by rw [Nat.add_mul]; omega), k16.ext x1619, i16.ext x1619, iS16.ext x1619, hl16.ext x1619, ⟨s', rs13, s15, s16, as, r15, rA, ?_⟩, ?_, fun h => by omega, rfl⟩
        · rcases hen with ⟨h1, rfl, rfl⟩ | ⟨h1, one2, m, h2, h3, h4, h5⟩
          · exact .inl ⟨h1, rfl⟩
          · refine .inr ⟨h1, s17, one2, m, h2, h3, h4, ?_⟩
            rcases h5 with rfl | rfl
            · exact .inl rfl
            · exact .inr rfl
        · rw [setEnd_len, e2, at16.2]
          omega
      · intro N hN
        refine ⟨_, rfl, _, rfl, rfl, _, rfl, ite2 (fun e => ?_) (fun e => ?_)⟩
        · have hle : leave = (i : Nat) := by
            have := V.int.inj (of_decide_eq_true e)
            omega
          have w17' := w17
          refine ⟨_, rfl, A15, s16, _, 100, by rw [x016.d]; rfl, w17, by decide, by decide, fun H18 m x18 w18 a18 b18 => ?_⟩
          refine ⟨(by show 2 ≤ sizeLine; rw [sizeLine_eq]; decide), fun t3 nt3 => ?_⟩
          have q3 := same_new (o := .tup [.str "fail", .int m]) nt3
          have w19 := w18.sm q3
          refine ⟨_, rfl, A15, s16, _, by rw [x016.d]; rfl, w19, by rw [at16.1, at16.2]; exact a15, by omega, fun H20 s20 one2 x20 w20 r20 => ?_⟩
          refine ⟨(by show 2 ≤ sizeLine; rw [sizeLine_eq]; decide), fun t4 nt4 => ?_⟩
          have q4 := same_new (o := .tup [.str "give", .int one2]) nt4
          refine ⟨(by show 2 ≤ sizeLine; rw [sizeLine_eq]; decide), fun L nL => ?_⟩
          have q5 := same_new (o := .lst [.ref t3, .ref t4]) nL
          have w21 := w20.sm (q4.trans q5)
          have oL := (w20.sm q4).off nL
          refine ⟨_, rfl, A15, s20, _, 2, by rw [x016.d]; rfl, w21, by decide, by decide, fun H22 r22 x22 w22 a22 b22 => ?_⟩
          have x1822 : Ext H16 A15 H22 A15 := ((((x17.trans x18).trans (.same q3)).trans x20).trans (.same (q4.trans q5))).trans x22
          have d3 : Dp K H22 (.ref t3) (En.fail m).d := x22.dp (En.nl _) (dp_sm (q4.trans q5) (x20.dp (En.nl _) (.tup (.inl (.of upd_same)) (.cons (.str _) (.cons (.int _) .nil)))))
          have d4 : Dp K H22 (.ref t4) (En.give one2).d := x22.dp (En.nl _) (dp_sm q5 (.tup (.inl (.of upd_same)) (.cons (.str _) (.cons (.int _) .nil))))
          have e22 := x22.keep upd_same oL
          have sat := r20.at
          have hr : r22 = 0 ∨ r22 = 1 := by omega
          rcases hr with rfl | rfl
          · refine ⟨L, _, _, _, rfl, rfl, .of e22, atI_nat (j := 0) rfl, ?_⟩
            exact hN _ _ ⟨s20, .fail m, t3, x1822, w22.mono (by omega) (by omega), d3, sat.1, sat.2, .inr ⟨hle, one2, m, r20, a18, b18, .inl rfl⟩, rfl⟩
          · refine ⟨L, _, _, _, rfl, rfl, .of e22, atI_nat (j := 1) rfl, ?_⟩
            exact hN _ _ ⟨s20, .give one2, t4, x1822, w22.mono (by omega) (by omega), d4, sat.1, sat.2, .inr ⟨hle, one2, m, r20, a18, b18, .inr rfl⟩, rfl⟩
        · have hne : leave ≠ (i : Nat) := fun y => e (decide_eq_true (by rw [y]; show V.int (i : Nat) = V.int (0 + (i : Int)); rw [Int.zero_add]))
          exact hN _ _ ⟨s16, _, t2, x17, w17.mono (by omega) (by omega), dJ, rfl, rfl, .inl ⟨hne, rfl, rfl⟩, rfl⟩
    · rintro σ' H13 ⟨A', s', y9, y10, x13, w13, k13, i13, iS13, hl13, rs13, l13, _, rfl⟩
      obtain ⟨kv13, eM13, dM13, oM13⟩ := k13
      refine ⟨_, rfl, _, rfl, _, rfl, A', s', n + 7 + 2 * (14 + cP d 1), s1.bls.length + 2, M, kv13, s1.sc, by rw [x13.d]; rfl, w13, by omega, eM13, dM13, oM13, w1.bd.z, by have := w1.bd.c; omega, by omega, fun H14 A14 x14 w14 => ?_⟩
      obtain ⟨s3, ⟨s2, h2, h3⟩, h4⟩ := rs13
      rw [show s2 = st from h2, ← hst] at h3
      refine q _ _ _ (x13.trans x14) (w14.mono (by omega) (by omega)) ⟨s1, one, zs, leave, s3, s', r1, hz, h3, h4, rfl⟩ ⟨by show s.bls.length ≤ s'.bls.length; omega, fun _ => by show s1.bls.length + 2 < s'.bls.length; omega⟩
end

section
variable {P : Program} {w : World} {K : PySem.W.Frag} {mg : Str → Option Value} {base : Heap}
theorem hlp_val : ∀ {hl : List (Str × Nat)} {h : Str} {m : Nat}, (hl.map (·.1)).Nodup → (h, m) ∈ hl → valV (hl.map fun p => ((.inr p.1 : Key), V.int (p.2 : Nat))) (.inr h) = some (.int (m : Nat))
  | [], _, _, _, h => nomatch h
  | p :: r, h, m, nd, hm => by
    rw [List.map_cons] at nd
    have n1 := List.nodup_cons.mp nd
    rcases List.mem_cons.mp hm with e | hm
    · rw [← e]
      exact valV_pos rfl
    · rw [List.map_cons, valV_neg (fun z => n1.1 (by rw [show p.1 = h from Sum.inr.inj z]; exact List.mem_map.mpr ⟨_, hm, rfl⟩))]
      exact hlp_val n1.2 hm
theorem repl_flat (m : Nat) : (List.replicate m [V.int 0]).flatten = (List.replicate m (0 : Int)).map V.int := by
  induction m with
  | zero => rfl
  | succ c ih => rw [List.replicate_succ, List.replicate_succ, List.flatten_cons, ih, List.map_cons]; rfl
theorem Hlp.get {H : Hp} {A : WA} {s : DSt} {n : Nat} {hl : List (Str × Nat)} (h : Hlp H A hl) (ws : WS K H A s n) : ∃ hd, DGet H A.d (.str "helpers") (some (.ref hd)) ∧ H hd = some (.dK (hl.map fun p => ((.inr p.1 : Key), V.int (p.2 : Nat)))) := by
  obtain ⟨hd, e1, e2, _⟩ := h.at_
  obtain ⟨g, dr, _, e⟩ := ws.dk
  refine ⟨hd, dget_k e ?_, e2⟩
  rw [dkv_tl (by decide +kernel), e1]
  rfl
def sp_call (K : PySem.W.Frag) (hl : List (Str × Nat)) : Sp := fun vs H Q _ => ∃ (A : WA) (s : DSt) (n : Nat), vs = [.ref A.d] ∧ WS K H A s n ∧ Hlp H A hl ∧ hl ≠ [] ∧ s.at_ < s.bls.length ∧ n + 22 ≤ 6000 ∧
  ∀ H' A' s', Ext H A H' A' → WS K H' A' s' (n + 22) → RCall hl s s' → Grow s s' → Q .non H'
theorem ok__law_call (T : Top K mg) (hl : List (Str × Nat)) : FnOk P w K mg base CX0 3 (He.ga K "_law_call") T.fd__law_call ["_law_s"] (sp_call K hl) := by
  have G__law_next := ok__law_next (P := P) (w := w) (base := base) T
  have G__law_sizes := ok__law_sizes (P := P) (w := w) (base := base) T
  have G__law_block := ok__law_block (P := P) (w := w) (base := base) T
  have G__law_stand := ok__law_stand (P := P) (w := w) (base := base) T
  have G__law_args := ok__law_args (P := P) (w := w) (base := base) T
  refine T.F__law_call.ok sc__law_call (fun vs H Q E h => ?_) (fun cdv A0 outer s0 H vs Q E hr h => ?_)
  · obtain ⟨A, s, n, rfl, _⟩ := h
    rfl
  · obtain ⟨A, s, n, rfl, ws, hlp, hne, ha, n6, q⟩ := h
    refine ⟨_, PSs.nox (pss_cons (ps_set (i := 1) sc__law_call.nd rfl (Or.inl rfl) (pe_callTy (call_listD rfl) (by rfl) T.m_list (by decide +kernel) (pa_cons (pe_dget (hu_of hr) (pv 0) pe_str (fun _ _ => rfl)) pa_nil)))
        (pss_cons (ps_set (i := 2) sc__law_call.nd rfl (Or.inl rfl) (pe_ix ix_list (pv 1) (pe_call G__law_next (hr.mono (by omega)) (by rfl) T.g__law_next T.F__law_next.kp T.b__law_next .nil pass0 (pa_cons (pv 0) (pa_cons (pe_callB call_len_seq (by rfl) T.m_len (by decide +kernel) (pa_cons (pv 1) pa_nil)) pa_nil))) (fun _ _ => rfl)))
        (pss_cons (ps_set (i := 3) sc__law_call.nd rfl (Or.inl rfl) (pe_call G__law_args (hr.mono (by omega)) (by rfl) T.g__law_args T.F__law_args.kp T.b__law_args .nil pass0 (pa_cons (pv 0) (pa_cons (pe_op op_rep (pe_lst (pa_cons pe_int pa_nil)) (pe_dget (hu_of hr) (pe_dget (hu_of hr) (pv 0) pe_str (fun _ _ => rfl)) (pv 2) (fun _ _ => rfl))) pa_nil))))
        (pss_cons (ps_set (i := 4) sc__law_call.nd rfl (Or.inl rfl) (pe_call G__law_sizes (hr.mono (by omega)) (by rfl) T.g__law_sizes T.F__law_sizes.kp T.b__law_sizes .nil pass0 (pa_cons (pv 0) pa_nil)))
        (pss_cons (ps_set (i := 5) sc__law_call.nd rfl (Or.inl rfl) (pe_call G__law_args (hr.mono (by omega)) (by rfl) T.g__law_args T.F__law_args.kp T.b__law_args .nil pass0 (pa_cons (pv 0) (pa_cons (pv 4) pa_nil))))
        (pss_cons (ps_set (i := 6) sc__law_call.nd rfl (Or.inl rfl) (pe_callTy call_list_of (by rfl) T.m_list (by decide +kernel) (pa_cons (pe_dget (hu_of hr) (pv 0) pe_str (fun _ _ => rfl)) pa_nil)))
        (pss_cons (ps_set (i := 7) sc__law_call.nd rfl (Or.inl rfl) (pe_call G__law_block (hr.mono (by omega)) (by rfl) T.g__law_block T.F__law_block.kp T.b__law_block .nil pass0 (pa_cons (pv 0) (pa_cons (pe_op op_cat (pe_lst (pa_cons pe_int pa_nil)) (pv 4)) pa_nil))))
        (pss_cons (ps_asg (pe_tup (pa_cons pe_str (pa_cons (pv 2) (pa_cons (pv 3) (pa_cons (pe_tup (pa_cons (pv 7) (pa_cons (pv 5) pa_nil))) pa_nil))))) (pg_sub (pe_ix ix_list (pe_dget (hu_of hr) (pv 0) pe_str (fun _ _ => rfl)) (pe_dget (hu_of hr) (pv 0) pe_str (fun _ _ => rfl)) (fun _ _ => rfl)) pe_int set_list))
        (pss_one (ps_expr (pe_call G__law_stand (hr.mono (by omega)) (by rfl) T.g__law_stand T.F__law_stand.kp T.b__law_stand .nil pass0 (pa_cons (pv 0) (pa_cons (pv 7) (pa_cons (pv 6) pa_nil)))))))))))))), ?_⟩
    obtain ⟨hd, dg, ehd⟩ := hlp.get ws
    refine ⟨_, rfl, _, _, rfl, dg, hd, _, rfl, .of ehd, fun L nL => ?_⟩
    rw [List.map_map, show ((fun kv : Key × V => kV kv.1) ∘ fun p : Str × Nat => ((.inr p.1 : Key), V.int (p.2 : Nat))) = fun p : Str × Nat => V.str p.1 from rfl]
    have eL0 : (hl.map fun p => V.str p.1) = (hl.map (·.1)).map V.str := by rw [List.map_map]; rfl
    rw [eL0]
    have s1' := same_new (o := .lst ((hl.map (·.1)).map V.str)) nL
    have w1 := ws.sm s1'
    have oL := ws.off nL
    have x1 : Ext H A _ A := .same s1'
    have hl1 := hlp.ext x1
    have hpos : 0 < hl.length := List.length_pos_iff.mpr hne
    have cnt : ((((hl.map (·.1)).map V.str).length : Nat) : Int) = (hl.length : Nat) := by rw [List.length_map, List.length_map]
    refine ⟨_, rfl, _, rfl, _, rfl, L, _, rfl, .inl (.of upd_same), A, s, n, (hl.length : Nat), by rw [cnt]; rfl, w1, by omega, by have := hlp.ln; omega, fun H2 r2 x2 w2 a2 b2 => ?_⟩
    obtain ⟨nm, hnm, enm⟩ := strs_at (zs := hl.map (·.1)) a2 (by rw [List.length_map]; exact b2)
    have eL2 := x2.keep upd_same oL
    refine ⟨L, _, _, _, rfl, rfl, .of eL2, enm, ?_⟩
    obtain ⟨pm, hpm, rfl⟩ := List.mem_map.mp hnm
    have hl2 := hl1.ext x2
    have x02 := x1.trans x2
    have m4 := hlp.le pm hpm
    refine ⟨_, rfl, (by show 1 ≤ sizeLine; rw [sizeLine_eq]; decide), fun Z0 nZ0 => ?_⟩
    have s3 := same_new (o := .lst [.int 0]) nZ0
    have w3 := w2.sm s3
    have hl3 := hl2.ext (.same s3)
    obtain ⟨hd3, dg3, ehd3⟩ := hl3.get w3
    refine ⟨_, rfl, _, _, rfl, dg3, _, rfl, hd3, _, rfl, dget_k ehd3 (hlp_val hlp.nd hpm), ?_⟩
    refine ⟨Z0, (pm.2 : Nat), _, rfl, rfl, upd_same, by omega, by omega, by rw [sizeLine_eq, Int.toNat_natCast]; show 1 * pm.2 ≤ _; omega, fun F nF => ?_⟩
    rw [Int.toNat_natCast, repl_flat]
    have s4 := same_new (o := .lst ((List.replicate pm.2 (0 : Int)).map V.int)) nF
    have w4 := w3.sm s4
    have oF := w3.off nF
    have rl : (List.replicate pm.2 (0 : Int)).length = pm.2 := List.length_replicate
    refine ⟨A, s, n, F, List.replicate pm.2 0, rfl, w4, ha, upd_same, oF, fun z h => by rw [List.eq_of_mem_replicate h]; decide, by omega, by omega, fun H5 s5 v5 as x5 w5 rA dA => ?_⟩
    rw [rl] at w5
    have x05 := ((x02.trans (.same s3)).trans (.same s4)).trans x5
    have at5 := rA.at
    refine ⟨_, rfl, A, s5, n + pm.2, rfl, w5, fun H6 Z zs x6 w6 eZ nZ oZ hz => ?_⟩
    have zb := hz.b w5.bd.z
    have d6 := x6.dp (by simp [nLd, ints_nl]) dA
    have iZ : IntsAt H6 A Z zs := ⟨eZ, oZ⟩
    refine ⟨_, rfl, _, rfl, A, s5, n + pm.2, Z, zs, rfl, w6, by rw [at5.1, at5.2]; exact ha, eZ, oZ, zb.1, by omega, by have := zb.2; omega, fun H7 s7 v7 more x7 w7 rM dM => ?_⟩
    have at7 := rM.at
    have i7 := iZ.ext x7
    have d7 := x7.dp (by simp [nLd, ints_nl]) d6
    have x07 := (x05.trans x6).trans x7
    obtain ⟨g7, dr7, _, e7⟩ := w7.dk
    obtain ⟨kv, eS, dS⟩ := w7.ls
    refine ⟨_, rfl, _, _, rfl, dget_k e7 dkv_scope, A.ls, _, rfl, .inl (.of eS), fun M nM => ?_⟩
    have sM := same_new (o := .lst kv) nM
    have w8 := w7.sm sM
    have i8 := i7.ext (.same sM)
    have k8 : KeptAt K (upd H7 M (.lst kv)) A M s7.sc := ⟨kv, upd_same, dpAll_sm sM dS, w7.off nM⟩
    refine ⟨_, rfl, (by show 1 ≤ sizeLine; rw [sizeLine_eq]; decide), fun O nO => ?_⟩
    have sO := same_new (o := .lst [.int 0]) nO
    have w9 := w8.sm sO
    have i9 := i8.ext (.same sO)
    refine ⟨_, rfl, O, Z, _, _, rfl, rfl, upd_same, i9.1, by rw [List.length_map, sizeLine_eq]; show 1 + zs.length ≤ _; have := zb.2; omega, fun Y nY => ?_⟩
    have sY := same_new (o := .lst ([.int 0] ++ zs.map V.int)) nY
    have w10 := w9.sm sY
    have sMOY := (sM.trans sO).trans sY
    refine ⟨A, s7, n + pm.2 + zs.length, Y, 0 :: zs, rfl, w10, upd_same, w9.off nY, fun z h => ?_, by rw [List.length_cons]; have := zb.2; omega, by rw [List.length_cons]; have := zb.2; omega, fun H11 A11 x11 w11 => ?_⟩
    · rcases List.mem_cons.mp h with rfl | h
      · decide
      · exact zb.1 z h
    have x711 := (Ext.same (A := A) sMOY).trans x11
    have x011 := x07.trans x711
    have k11 := k8.ext (((Ext.same (A := A) sO).trans (.same sY)).trans x11)
    have d11a := x11.dp (by simp [nLd, ints_nl]) (dp_sm sMOY d7)
    have d11b := x11.dp (by simp [nLd, ints_nl]) (dp_sm sMOY dM)
    dsimp only [gName, List.set]
    refine ⟨_, rfl, _, rfl, _, rfl, _, rfl, (by show 2 ≤ sizeLine; rw [sizeLine_eq]; decide), fun t1 nt1 => ?_⟩
    have q1 := same_new (o := .tup [.int (s7.bls.length : Nat), v7]) nt1
    refine ⟨(by show 4 ≤ sizeLine; rw [sizeLine_eq]; decide), fun t2 nt2 => ?_⟩
    have q2 := same_new (o := .tup [.str "call", .str pm.1, v5, .ref t1]) nt2
    have q12 := q1.trans q2
    have w12 := w11.sm q12
    have dE : Dp K (upd (upd H11 t1 (.tup [.int (s7.bls.length : Nat), v7])) t2 (.tup [.str "call", .str pm.1, v5, .ref t1])) (.ref t2) (En.call pm.1 as ⟨s7.bls.length, more⟩).d :=
      .tup (.inl (.of upd_same)) (.cons (.str _) (.cons (.str _) (.cons (dp_sm q12 d11a) (.cons (.tup (.inl (.of (q2 _ _ upd_same))) (.cons (.int _) (.cons (dp_sm q12 d11b) .nil))) .nil))))
    have x012 := x011.trans (.same q12)
    have lb : (s7.block (0 :: zs)).bls.length = s7.bls.length + 1 := block_len ..
    have a7 : s7.at_ < s7.bls.length := by rw [at7.1, at7.2, at5.1, at5.2]; exact ha
    obtain ⟨g12, dr12, _, e12⟩ := w12.dk
    obtain ⟨p, vp, vr, v0, hpv, hpe, hend⟩ := w12.end_at (i := s7.at_) (by rw [lb]; omega)
    obtain ⟨w13, x13⟩ := hend _ _ dE
    refine ⟨_, rfl, _, _, by rw [x012.d], dget_k e12 dkv_blocks, _, rfl, _, _, by rw [x012.d], dget_k e12 dkv_at, A11.lb, _, (s7.at_ : Int), _, rfl, rfl, .of w12.lb, atI_nat hpv, p, _, 2, 2, rfl, rfl, hpe, rfl, ?_⟩
    obtain ⟨kv2, eM, dM2, oM⟩ := (k11.ext (.same q12)).ext x13
    have l0 := ws.bd.c
    have lk := w7.bd.c
    refine ⟨_, rfl, _, rfl, _, rfl, A11, _, _, s7.bls.length, M, kv2, s7.sc, by rw [x012.d]; rfl, w13, by rw [setEnd_len, lb]; omega, eM, dM2, oM, w7.bd.z, by omega, by rw [List.length_cons]; have := zb.2; omega, fun H14 A14 x14 w14 => ?_⟩
    have lz := zb.2
    refine q _ _ _ ((x012.trans x13).trans x14) (w14.mono (by rw [List.length_cons]; omega) n6) ⟨pm.1, pm.2, s5, as, zs, s7, more, hpm, rA, hz, rM, rfl⟩ ⟨?_, fun _ => ?_⟩
    · show s.bls.length ≤ ((s7.block (0 :: zs)).setEnd s7.at_ _).bls.length
      rw [setEnd_len, lb, at7.2, at5.2]
      omega
    · show s7.bls.length < ((s7.block (0 :: zs)).setEnd s7.at_ _).bls.length
      rw [setEnd_len, lb]
      omega
end

section
variable {P : Program} {w : World} {K : PySem.W.Frag} {mg : Str → Option Value} {base : Heap}
theorem set_lastV {α : Type} : ∀ (xs : List α) (v : α), xs ≠ [] → xs.set (xs.length - 1) v = xs.dropLast ++ [v]
  | [], _, h => absurd rfl h
  | [x], v, _ => rfl
  | x :: y :: r, v, _ => by
    have := set_lastV (y :: r) v (by simp)
    show (x :: y :: r).set ((y :: r).length) v = x :: ((y :: r).dropLast ++ [v])
    rw [← this]
    rfl
theorem dpAll_dropLast {H : Hp} : ∀ {vs : List V} {ds : List PyData}, DpAll K H vs ds → DpAll K H vs.dropLast ds.dropLast
  | _, _, .nil => .nil
  | _, _, .cons h .nil => .nil
  | _, _, .cons h (.cons h2 t) => .cons h (dpAll_dropLast (.cons h2 t))
/-- the last row of the block at i, written -/
theorem WS.last_at {H : Hp} {A : WA} {s : DSt} {n i : Nat} {b : Blk} (h : WS K H A s n) (hb : s.bls[i]? = some b) (hne : b.rs ≠ []) : ∃ (p : Addr) (vp ve : V) (pr : Addr) (rvs : List V), (A.bs.map fun p => V.ref p.1)[i]? = some (.ref p) ∧ H p = some (.lst [vp, .ref pr, ve]) ∧ H pr = some (.lst rvs) ∧
    ixN rvs.length (-1) = some (rvs.length - 1) ∧ ∀ (v : V) (r : GRow), Dp K H v r.d → WS K (upd H pr (.lst (rvs.set (rvs.length - 1) v))) A (s.last i r) n ∧ Ext H A (upd H pr (.lst (rvs.set (rvs.length - 1) v))) A := by
  have hi := (List.getElem?_eq_some_iff.mp hb).1
  obtain ⟨p, b2, vp, ve, rvs, hp, hb2, hpv, h1, h2, h3, h4, h5, h6, o1, o2⟩ := h.blk hi
  rw [hb] at hb2
  cases hb2
  have l5 := dpAll_len h5
  rw [List.length_map] at l5
  have lp : 0 < b.rs.length := List.length_pos_iff.mpr hne
  refine ⟨p.1, vp, ve, p.2, rvs, hpv, h1, h4, ?_, fun v r d => ?_⟩
  · have l0 : 0 < rvs.length := by omega
    cases rvs with
    | nil => cases l0
    | cons x t =>
      unfold ixN
      simp
      omega
  · have rne : rvs ≠ [] := fun z => by
      rw [z] at l5
      simp at l5
      omega
    rw [set_lastV rvs v rne]
    have dd : DpAll K H (rvs.dropLast ++ [v]) ((setLast r b).rs.map GRow.d) := by
      unfold setLast
      rw [List.map_append, List.map_dropLast]
      exact dpAll_app (dpAll_dropLast h5) (.cons d .nil)
    have rl : (setLast r b).rs.length ≤ n := by
      have := dpAll_len dd
      rw [List.length_append, List.length_dropLast, List.length_map, List.length_singleton] at this
      omega
    exact h.rows (f := setLast r) hp hb h4 dd rfl rfl (Nat.le_refl _) h.n6 rl
theorem RBear.row {wd : Str} {s s' : DSt} {v : Int} (h : RBear wd s s' v) (ha : s.at_ < s.bls.length) : ∃ b, s'.bls[s.at_]? = some b ∧ b.rs ≠ [] := by
  obtain ⟨w, as, k, _, _, _, _, rfl⟩ := h
  refine ⟨addRow ⟨s.nv, w, as⟩ s.bls[s.at_], ?_, by unfold addRow; simp⟩
  show (modB _ s.at_ s.bls)[s.at_]? = _
  rw [modB_at, if_pos rfl, List.getElem?_eq_getElem ha]
  rfl
end

theorem cutV_to (xs : List V) (j : Nat) : cutV xs none (some (j : Int)) = xs.take j := by
  unfold cutV
  rw [HT.sIx_none, HT.sIx_nat, List.drop_zero, Nat.sub_zero, ← List.take_take, List.take_length]
theorem cutV_from (xs : List V) (j : Nat) : cutV xs (some (j : Int)) none = xs.drop j := by
  unfold cutV
  rw [HT.sIx_none, HT.sIx_nat]
  rcases Nat.le_total j xs.length with h | h
  · rw [Nat.min_eq_left h, List.take_of_length_le (by rw [List.length_drop]; omega)]
  · rw [Nat.min_eq_right h, List.drop_length, List.drop_of_length_le h, List.take_nil]

theorem cut_13 {x : V} {xs : List V} : cutV (x :: xs) (some 1) (some 3) = xs.take 2 := by
  unfold cutV
  rw [show (1 : Int) = ((1 : Nat) : Int) from rfl, show (3 : Int) = ((3 : Nat) : Int) from rfl, HT.sIx_nat, HT.sIx_nat]
  have h1 : min 1 (x :: xs).length = 1 := by rw [List.length_cons]; omega
  rw [h1, List.drop_succ_cons, List.drop_zero, List.length_cons]
  by_cases h : 2 ≤ xs.length
  · rw [Nat.min_eq_left (by omega)]
  · rw [Nat.min_eq_right (by omega), Nat.add_sub_cancel, List.take_length, List.take_of_length_le (by omega)]
theorem eqv_ints (l m : List Int) : PyData.eqv (.list (l.map PyData.int)) (.list (m.map PyData.int)) = decide (l = m) := by
  unfold PyData.eqv
  induction l generalizing m with
  | nil => cases m <;> simp [PyData.eqvAll]
  | cons a r ih =>
    cases m with
    | nil => simp [PyData.eqvAll]
    | cons b t =>
      rw [List.map_cons, List.map_cons, PyData.eqvAll, ih t]
      have e : (a == b) = decide (a = b) := by by_cases h : a = b <;> simp [h]
      simp [PyData.eqv, e]
theorem slA_by {K : PySem.W.Frag} {H : Hp} {a : Addr} {xs : List V} {lo hi : Option Int} {Q : VK} (h : SqT K H a xs) (q : ∀ t H', Same H H' → SqT K H' t (cutV xs lo hi) → Q (.ref t) H') : rSlA K (.ref a) lo hi H Q := by
  refine ⟨a, xs, rfl, h, fun e => ?_, fun _ p np => q p _ (same_new np) (.inl (.of upd_same))⟩
  refine q a _ (Same.refl _) ?_
  have : cutV xs lo hi = xs := by
    unfold cutV
    rw [e.1, e.2]
    simp
  rw [this]
  exact h
theorem catA_by {K : PySem.W.Frag} {H : Hp} {a b : Addr} {xs ys : List V} {Q : VK} (h : SqT K H a xs) (h2 : SqT K H b ys) (l : xs.length + ys.length ≤ sizeLine) (q : ∀ t H', Same H H' → SqT K H' t (xs ++ ys) → Q (.ref t) H') : rCatA K (.ref a) (.ref b) H Q := by
  refine ⟨a, b, xs, ys, rfl, rfl, h, h2, l, fun e => ?_, fun _ e => ?_, fun _ _ p np => q p _ (same_new np) (.inl (.of upd_same))⟩
  · refine q b _ (Same.refl _) ?_
    rw [e]
    exact h2
  · refine q a _ (Same.refl _) ?_
    rw [e, List.append_nil]
    exact h
theorem modB_modB (f g : Blk → Blk) : ∀ (i : Nat) (l : List Blk), modB g i (modB f i l) = modB (fun b => g (f b)) i l
  | _, [] => by simp [modB]
  | 0, b :: r => by simp [modB]
  | i + 1, b :: r => by simp [modB, modB_modB f g i r]
section
variable {P : Program} {w : World} {K : PySem.W.Frag} {mg : Str → Option Value} {base : Heap}
def sp_loop (K : PySem.W.Frag) (hl : List (Str × Nat)) (d : Nat) : Sp := fun vs H Q _ => ∃ (A : WA) (s : DSt) (n : Nat), vs = [.ref A.d, .int ((d + 1 : Nat) : Int)] ∧ WS K H A s n ∧ Hlp H A hl ∧ s.at_ < s.bls.length ∧ n + cT (d + 1) ≤ 6000 ∧
  ∀ H' A' s', Ext H A H' A' → WS K H' A' s' (n + cT (d + 1)) → RLoop (RParts hl d 2) s s' → Grow s s' → Q .non H'
theorem ok__law_loop_of (T : Top K mg) (hl : List (Str × Nat)) (d l : Nat) (l4 : 4 ≤ l) (G__law_parts : FnOk P w K mg base CX0 l (He.ga K "_law_parts") T.fd__law_parts ["_law_s", "_law_deep", "_law_most"] (sp_parts K hl d)) :
    FnOk P w K mg base CX0 (l + 1) (He.ga K "_law_loop") T.fd__law_loop ["_law_s", "_law_deep"] (sp_loop K hl d) := by
  have G__law_next := ok__law_next (P := P) (w := w) (base := base) T
  have G__law_bear := ok__law_bear (P := P) (w := w) (base := base) T
  have G__law_rows := ok__law_rows (P := P) (w := w) (base := base) T
  have G__law_sure := ok__law_sure (P := P) (w := w) (base := base) T
  have G__law_sizes := ok__law_sizes (P := P) (w := w) (base := base) T
  have G__law_block := ok__law_block (P := P) (w := w) (base := base) T
  have G__law_stand := ok__law_stand (P := P) (w := w) (base := base) T
  have G__law_args := ok__law_args (P := P) (w := w) (base := base) T
  refine T.F__law_loop.ok sc__law_loop (fun vs H Q E h => ?_) (fun cdv A0 outer s0 H vs Q E hr h => ?_)
  · obtain ⟨A, s, n, rfl, _⟩ := h
    rfl
  · obtain ⟨A, s, n, rfl, ws, hlp, ha, n6, q⟩ := h
    refine ⟨_, PSs.nox (pss_cons (ps_set (i := 2) sc__law_loop.nd rfl (Or.inl rfl) (pe_op op_cat (pe_lst (pa_cons pe_int pa_nil)) (pe_call G__law_sizes (hr.mono (by omega)) (by rfl) T.g__law_sizes T.F__law_sizes.kp T.b__law_sizes .nil pass0 (pa_cons (pv 0) pa_nil))))
        (pss_cons (ps_set (i := 3) sc__law_loop.nd rfl (Or.inl rfl) (pe_call G__law_args (hr.mono (by omega)) (by rfl) T.g__law_args T.F__law_args.kp T.b__law_args .nil pass0 (pa_cons (pv 0) (pa_cons (pv 2) pa_nil))))
        (pss_cons (ps_set (i := 4) sc__law_loop.nd rfl (Or.inl rfl) (pe_callTy call_list_of (by rfl) T.m_list (by decide +kernel) (pa_cons (pe_dget (hu_of hr) (pv 0) pe_str (fun _ _ => rfl)) pa_nil)))
        (pss_cons (ps_set (i := 5) sc__law_loop.nd rfl (Or.inl rfl) (pe_call G__law_block (hr.mono (by omega)) (by rfl) T.g__law_block T.F__law_block.kp T.b__law_block .nil pass0 (pa_cons (pv 0) (pa_cons (pv 2) pa_nil))))
        (pss_cons (ps_asg (pe_tup (pa_cons pe_str (pa_cons (pe_tup (pa_cons (pv 5) (pa_cons (pv 3) pa_nil))) pa_nil))) (pg_sub (pe_ix ix_list (pe_dget (hu_of hr) (pv 0) pe_str (fun _ _ => rfl)) (pe_dget (hu_of hr) (pv 0) pe_str (fun _ _ => rfl)) (fun _ _ => rfl)) pe_int set_list))
        (pss_cons (ps_expr (pe_call G__law_stand (hr.mono (by omega)) (by rfl) T.g__law_stand T.F__law_stand.kp T.b__law_stand .nil pass0 (pa_cons (pv 0) (pa_cons (pv 5) (pa_cons (pv 4) pa_nil)))))
        (pss_cons (ps_set (i := 6) sc__law_loop.nd rfl (Or.inl rfl) (pe_ix ix_tup (pe_ix ix_tup (pe_ix ix_list (pe_ix ix_list (pe_dget (hu_of hr) (pv 0) pe_str (fun _ _ => rfl)) (pv 5) (fun _ _ => rfl)) pe_int (fun _ _ => rfl)) pe_int (fun _ _ => rfl)) pe_int (fun _ _ => rfl)))
        (pss_cons (ps_expr (pe_call G__law_rows (hr.mono (by omega)) (by rfl) T.g__law_rows T.F__law_rows.kp T.b__law_rows .nil pass0 (pa_cons (pv 0) (pa_cons pe_int pa_nil))))
        (pss_cons (ps_set (i := 7) sc__law_loop.nd rfl (Or.inl rfl) (pe_call G__law_sure (hr.mono (by omega)) (by rfl) T.g__law_sure T.F__law_sure.kp T.b__law_sure .nil pass0 (pa_cons (pv 0) pa_nil)))
        (pss_cons (ps_if (pt_cmpR op_gt (pe_call G__law_next (hr.mono (by omega)) (by rfl) T.g__law_next T.F__law_next.kp T.b__law_next .nil pass0 (pa_cons (pv 0) (pa_cons pe_int pa_nil))) pe_int (nomark _)) (pss_cons (ps_set (i := 8) sc__law_loop.nd rfl (Or.inl rfl) (pe_call G__law_bear (hr.mono (by omega)) (by rfl) T.g__law_bear T.F__law_bear.kp T.b__law_bear .nil pass0 (pa_cons (pv 0) (pa_cons pe_str pa_nil))))
        (pss_cons (ps_set (i := 7) sc__law_loop.nd rfl (Or.inl rfl) (pe_call G__law_bear (hr.mono (by omega)) (by rfl) T.g__law_bear T.F__law_bear.kp T.b__law_bear .nil pass0 (pa_cons (pv 0) (pa_cons pe_str pa_nil))))
        (pss_one (ps_asg (pe_tup (pa_cons (pv 7) (pa_cons pe_str (pa_cons (pv 6) (pa_cons (pv 8) pa_nil))))) (pg_sub (pe_ix ix_list (pe_ix ix_list (pe_dget (hu_of hr) (pv 0) pe_str (fun _ _ => rfl)) (pv 5) (fun _ _ => rfl)) pe_int (fun _ _ => rfl)) (pe_un un_neg pe_int) set_list))))) pss_nil)
        (pss_cons (ps_set (i := 4) sc__law_loop.nd rfl (Or.inl rfl) (pe_callTy call_list_of (by rfl) T.m_list (by decide +kernel) (pa_cons (pe_dget (hu_of hr) (pv 0) pe_str (fun _ _ => rfl)) pa_nil)))
        (pss_cons (ps_set (i := 9) sc__law_loop.nd rfl (Or.inl rfl) (pe_lst (pa_cons (pe_call G__law_block (hr.mono (by omega)) (by rfl) T.g__law_block T.F__law_block.kp T.b__law_block .nil pass0 (pa_cons (pv 0) (pa_cons (pe_lst pa_nil) pa_nil))) (pa_cons (pe_call G__law_block (hr.mono (by omega)) (by rfl) T.g__law_block T.F__law_block.kp T.b__law_block .nil pass0 (pa_cons (pv 0) (pa_cons (pe_lst pa_nil) pa_nil))) pa_nil))))
        (pss_cons (ps_asg (pe_tup (pa_cons pe_str (pa_cons (pv 7) (pa_cons (pe_tup (pa_cons (pe_ix ix_list (pv 9) pe_int (fun _ _ => rfl)) (pa_cons (pe_tup pa_nil) pa_nil))) (pa_cons (pe_tup (pa_cons (pe_ix ix_list (pv 9) pe_int (fun _ _ => rfl)) (pa_cons (pe_tup pa_nil) pa_nil))) pa_nil))))) (pg_sub (pe_ix ix_list (pe_dget (hu_of hr) (pv 0) pe_str (fun _ _ => rfl)) (pv 5) (fun _ _ => rfl)) pe_int set_list))
        (pss_cons (ps_expr (pe_call G__law_stand (hr.mono (by omega)) (by rfl) T.g__law_stand T.F__law_stand.kp T.b__law_stand .nil pass0 (pa_cons (pv 0) (pa_cons (pe_ix ix_list (pv 9) pe_int (fun _ _ => rfl)) (pa_cons (pv 4) pa_nil)))))
        (pss_cons (ps_expr (pe_call G__law_parts (hr.mono (by omega)) (by rfl) T.g__law_parts T.F__law_parts.kp T.b__law_parts .nil pass0 (pa_cons (pv 0) (pa_cons (pe_op op_sub (pv 1) pe_int) (pa_cons pe_int pa_nil)))))
        (pss_cons (ps_set (i := 10) sc__law_loop.nd rfl (Or.inl rfl) (pe_call G__law_bear (hr.mono (by omega)) (by rfl) T.g__law_bear T.F__law_bear.kp T.b__law_bear .nil pass0 (pa_cons (pv 0) (pa_cons pe_str pa_nil))))
        (pss_cons (ps_asg (pe_tup (pa_cons (pv 10) (pa_cons pe_str (pa_cons (pe_op op_add pe_int (pe_call G__law_next (hr.mono (by omega)) (by rfl) T.g__law_next T.F__law_next.kp T.b__law_next .nil pass0 (pa_cons (pv 0) (pa_cons pe_int pa_nil)))) pa_nil)))) (pg_sub (pe_ix ix_list (pe_ix ix_list (pe_dget (hu_of hr) (pv 0) pe_str (fun _ _ => rfl)) (pe_dget (hu_of hr) (pv 0) pe_str (fun _ _ => rfl)) (fun _ _ => rfl)) pe_int (fun _ _ => rfl)) (pe_un un_neg pe_int) set_list))
        (pss_cons (ps_set (i := 11) sc__law_loop.nd rfl (Or.inl rfl) (pe_call G__law_bear (hr.mono (by omega)) (by rfl) T.g__law_bear T.F__law_bear.kp T.b__law_bear .nil pass0 (pa_cons (pv 0) (pa_cons pe_str pa_nil))))
        (pss_cons (ps_asg (pe_tup (pa_cons (pv 11) (pa_cons pe_str (pa_cons (pv 6) (pa_cons (pv 10) pa_nil))))) (pg_sub (pe_ix ix_list (pe_ix ix_list (pe_dget (hu_of hr) (pv 0) pe_str (fun _ _ => rfl)) (pe_dget (hu_of hr) (pv 0) pe_str (fun _ _ => rfl)) (fun _ _ => rfl)) pe_int (fun _ _ => rfl)) (pe_un un_neg pe_int) set_list))
        (pss_cons (ps_set (i := 12) sc__law_loop.nd rfl (Or.inl rfl) (pe_call G__law_args (hr.mono (by omega)) (by rfl) T.g__law_args T.F__law_args.kp T.b__law_args .nil pass0 (pa_cons (pv 0) (pa_cons (pe_slice sl_list (pv 2) (po_some pe_int) po_none) pa_nil))))
        (pss_cons (ps_if (PW.pt (pw_and (pt_cmpR (op_eqD hr.units) (pe_slice sl_list (pv 2) (po_some pe_int) (po_some pe_int)) (pe_lst (pa_cons pe_int (pa_cons pe_int pa_nil))) (nomark _)) (pw_and1 (pt_cmpR op_gt (pe_call G__law_next (hr.mono (by omega)) (by rfl) T.g__law_next T.F__law_next.kp T.b__law_next .nil pass0 (pa_cons (pv 0) (pa_cons pe_int pa_nil))) pe_int (nomark _))))) (pss_cons (ps_set (i := 13) sc__law_loop.nd rfl (Or.inl rfl) (pe_ix ix_list (pe_ix ix_list (pe_dget (hu_of hr) (pv 0) pe_str (fun _ _ => rfl)) (pv 5) (fun _ _ => rfl)) pe_int (fun _ _ => rfl)))
        (pss_cons (ps_set (i := 12) sc__law_loop.nd rfl (Or.inl rfl) (pe_op op_catA (pe_tup (pa_cons (pe_ix ix_seq (pe_ix ix_tup (pv 13) pe_int (fun _ _ => rfl)) pe_int (fun _ _ => rfl)) (pa_cons (pe_ix ix_seq (pe_ix ix_tup (pv 13) pe_int (fun _ _ => rfl)) pe_int (fun _ _ => rfl)) pa_nil))) (pe_slice sl_tupA (pv 12) (po_some pe_int) po_none)))
        (pss_one (ps_expr (pe_bm PySem.F.plainAttrs_list PySem.F.slot_list_extend PySem.F.type_list_extend mt_extend (pe_ix ix_list (pe_ix ix_list (pe_dget (hu_of hr) (pv 0) pe_str (fun _ _ => rfl)) (pe_dget (hu_of hr) (pv 0) pe_str (fun _ _ => rfl)) (fun _ _ => rfl)) pe_int (fun _ _ => rfl)) (pa_cons (pe_lst (pa_cons (pe_tup (pa_cons (pe_un un_neg pe_int) (pa_cons pe_str (pa_cons (pe_ix ix_seq (pe_ix ix_tup (pv 13) pe_int (fun _ _ => rfl)) pe_int (fun _ _ => rfl)) pa_nil)))) (pa_cons (pe_tup (pa_cons (pe_un un_neg pe_int) (pa_cons pe_str (pa_cons (pe_ix ix_seq (pe_ix ix_tup (pv 13) pe_int (fun _ _ => rfl)) pe_int (fun _ _ => rfl)) pa_nil)))) pa_nil))) pa_nil)))))) pss_nil)
        (pss_cons (ps_asg (pe_tup (pa_cons pe_str (pa_cons (pe_tup (pa_cons (pv 5) (pa_cons (pe_op op_catA (pe_tup (pa_cons (pv 11) pa_nil)) (pv 12)) pa_nil))) pa_nil))) (pg_sub (pe_ix ix_list (pe_dget (hu_of hr) (pv 0) pe_str (fun _ _ => rfl)) (pe_dget (hu_of hr) (pv 0) pe_str (fun _ _ => rfl)) (fun _ _ => rfl)) pe_int set_list))
        (pss_one (ps_expr (pe_call G__law_stand (hr.mono (by omega)) (by rfl) T.g__law_stand T.F__law_stand.kp T.b__law_stand .nil pass0 (pa_cons (pv 0) (pa_cons (pe_ix ix_list (pv 9) pe_int (fun _ _ => rfl)) (pa_cons (pv 4) pa_nil)))))))))))))))))))))))))))), ?_⟩
    have ec : cT (d + 1) = 60 + 2 * (3 + (cT d + 2)) := rfl
    rw [ec] at n6
    have ePe : cP d 1 = 3 + 1 * (cT d + 2) := rfl
    refine ⟨(by show 1 ≤ sizeLine; rw [sizeLine_eq]; decide), fun O nO => ?_⟩
    have sO := same_new (o := .lst [.int 0]) nO
    have w1 := ws.sm sO
    have oO := ws.off nO
    refine ⟨_, rfl, A, s, n, rfl, w1, fun H2 Z0 zs x2 w2 eZ0 nZ0 oZ0 hz => ?_⟩
    have zb := hz.b ws.bd.z
    have zl := zb.2
    have eO2 := x2.keep upd_same oO
    refine ⟨O, Z0, _, _, rfl, rfl, eO2, eZ0, by rw [List.length_map, sizeLine_eq]; show 1 + zs.length ≤ _; omega, fun Z nZ => ?_⟩
    have sZ := same_new (o := .lst ([.int 0] ++ zs.map V.int)) nZ
    have w3 := w2.sm sZ
    have x03 : Ext H A _ A := ((Ext.same sO).trans x2).trans (.same sZ)
    have iZ3 : IntsAt (upd H2 Z (.lst ([.int 0] ++ zs.map V.int))) A Z (0 :: zs) := ⟨upd_same, w2.off nZ⟩
    have z8 : ∀ z ∈ (0 :: zs), 0 ≤ z ∧ z ≤ 8 := fun z h => by
      rcases List.mem_cons.mp h with rfl | h
      · decide
      · exact zb.1 z h
    have zl1 : (0 :: zs).length ≤ 4 := by rw [List.length_cons]; omega
    refine ⟨_, rfl, _, rfl, A, s, n, Z, 0 :: zs, rfl, w3, ha, iZ3.1, iZ3.2, z8, by omega, by omega, fun H4 s1 vA as x4 w4 rA dA => ?_⟩
    have at1 := rA.at
    have x04 := x03.trans x4
    have iZ4 := iZ3.ext x4
    obtain ⟨g4, dr4, _, e4⟩ := w4.dk
    obtain ⟨kv, eS, dS⟩ := w4.ls
    refine ⟨_, rfl, _, _, rfl, dget_k e4 dkv_scope, A.ls, _, rfl, .inl (.of eS), fun M nM => ?_⟩
    have sM := same_new (o := .lst kv) nM
    have w5 := w4.sm sM
    have iZ5 := iZ4.ext (.same sM)
    have k5 : KeptAt K (upd H4 M (.lst kv)) A M s1.sc := ⟨kv, upd_same, dpAll_sm sM dS, w4.off nM⟩
    have dA5 := dp_sm sM dA
    refine ⟨_, rfl, _, rfl, A, s1, n + (0 :: zs).length, Z, 0 :: zs, rfl, w5, iZ5.1, iZ5.2, z8, by omega, by omega, fun H6 A6 x6 w6 => ?_⟩
    have x06 := (x04.trans (.same sM)).trans x6
    have iZ6 := iZ5.ext x6
    have k6 := k5.ext x6
    have dA6 := x6.dp (by simp [nLd, ints_nl]) dA5
    have l6 : (s1.block (0 :: zs)).bls.length = s1.bls.length + 1 := block_len ..
    dsimp only [gName, List.set]
    -- jump to the head
    refine ⟨_, rfl, _, rfl, (by show 2 ≤ sizeLine; rw [sizeLine_eq]; decide), fun t1 nt1 => ?_⟩
    have q1 := same_new (o := .tup [.int (s1.bls.length : Nat), vA]) nt1
    refine ⟨(by show 2 ≤ sizeLine; rw [sizeLine_eq]; decide), fun t2 nt2 => ?_⟩
    have q2 := same_new (o := .tup [.str "jump", .ref t1]) nt2
    have q12 := q1.trans q2
    have dJ : Dp K (upd (upd H6 t1 (.tup [.int (s1.bls.length : Nat), vA])) t2 (.tup [.str "jump", .ref t1])) (.ref t2) (En.jump ⟨s1.bls.length, as⟩).d :=
      .tup (.inl (.of upd_same)) (.cons (.str _) (.cons (.tup (.inl (.of (q2 _ _ upd_same))) (.cons (.int _) (.cons (dp_sm q12 dA6) .nil))) .nil))
    have w7 := w6.sm q12
    have x07 := x06.trans (.same q12)
    obtain ⟨g7, dr7, _, e7⟩ := w7.dk
    obtain ⟨p7, vp7, vr7, v07, hpv7, hpe7, hend7⟩ := w7.end_at (i := s1.at_) (by rw [l6, at1.1, at1.2]; omega)
    obtain ⟨w8, x8⟩ := hend7 _ _ dJ
    refine ⟨_, rfl, _, _, by rw [x07.d], dget_k e7 dkv_blocks, _, rfl, _, _, by rw [x07.d], dget_k e7 dkv_at, A6.lb, _, (s1.at_ : Int), _, rfl, rfl, .of w7.lb, atI_nat hpv7, p7, _, 2, 2, rfl, rfl, hpe7, rfl, ?_⟩
    have x68 := (Ext.same (A := A6) q12).trans x8
    have x08 := x06.trans x68
    have iZ8 := iZ6.ext x68
    obtain ⟨kv8, eM8, dM8, oM8⟩ := k6.ext x68
    generalize hst : (s1.block (0 :: zs)).setEnd s1.at_ (.jump ⟨s1.bls.length, as⟩) = st at w8
    have lst : st.bls.length = s1.bls.length + 1 := by rw [← hst, setEnd_len, l6]
    refine ⟨_, rfl, _, rfl, _, rfl, A6, st, _, s1.bls.length, M, kv8, s1.sc, by rw [x08.d]; rfl, w8, by omega, eM8, dM8, oM8, w4.bd.z, by have := w4.bd.c; omega, by omega, fun H9 A9 x9 w9 => ?_⟩
    have x09 := x08.trans x9
    have iZ9 := iZ8.ext x9
    have hb9 : (st.stand s1.bls.length s1.sc).bls[s1.bls.length]? = some ⟨psOf s1 0 (0 :: zs), [], .fail 0⟩ := by
      show st.bls[s1.bls.length]? = _
      rw [← hst]
      show (modB _ s1.at_ (s1.bls ++ [_]))[s1.bls.length]? = _
      rw [modB_at, if_neg (by rw [at1.1, at1.2]; omega), List.getElem?_append_right (Nat.le_refl _), Nat.sub_self]
      rfl
    obtain ⟨p9, b9, vp9, ve9, rvs9, hp9, hb9', hpv9, h91, h92, h93, h94, h95, h96, o91, o92⟩ := w9.blk (i := s1.bls.length) (by show s1.bls.length < st.bls.length; omega)
    rw [hb9] at hb9'
    cases hb9'
    obtain ⟨pa, xa, rfl, hpa, dpa⟩ := dp_tup h92
    obtain ⟨va, ra, rfl, da, _⟩ := dpAll_cons dpa
    obtain ⟨pb, xb, rfl, hpb, dpb⟩ := dp_tup da
    obtain ⟨vc, rc, rfl, dc, _⟩ := dpAll_cons dpb
    rw [dp_int dc] at hpb
    obtain ⟨g9, dr9, _, e9⟩ := w9.dk
    refine ⟨_, rfl, _, _, by rw [x09.d], dget_k e9 dkv_blocks, _, rfl, A9.lb, _, _, _, rfl, rfl, .of w9.lb, atI_nat hpv9, p9.1, _, 0, _, rfl, rfl, .of h91, atI_nat (j := 0) rfl, pa, _, 0, _, rfl, rfl, hpa, atI_nat (j := 0) rfl, pb, _, 0, _, rfl, rfl, hpb, atI_nat (j := 0) rfl, ?_⟩
    have a9 : (st.stand s1.bls.length s1.sc).at_ < (st.stand s1.bls.length s1.sc).bls.length := by show s1.bls.length < st.bls.length; omega
    generalize hN9 : n + (0 :: zs).length + ((0 :: zs).length + 1) + 10 = N9 at w9
    have n9 : N9 ≤ n + 19 := by omega
    refine ⟨_, rfl, A9, _, N9, 2, by rw [x09.d]; rfl, w9, a9, by omega, by omega, fun H10 s4 x10 w10 r10 => ?_⟩
    have at10 := r10.at
    have x010 := x09.trans x10
    have iZ10 := iZ9.ext x10
    refine ⟨_, rfl, A9, s4, N9 + 2, by rw [x09.d]; rfl, w10, by rw [at10.1, at10.2]; exact a9, by omega, fun H11 s5 one x11 w11 r11 => ?_⟩
    have at11 := r11.at
    have x011 := x010.trans x11
    have iZ11 := iZ10.ext x11
    have hat5 : s5.at_ = s1.bls.length := at11.1.trans at10.1
    have hln5 : s5.bls.length = s1.bls.length + 1 := at11.2.trans (at10.2.trans lst)
    -- the bound
    dsimp only [gName, List.set]
    refine ifs_by (fun σ' H' => ∃ (s6 : DSt) (one' : Int) (x8 : Option V), Ext H11 A9 H' A9 ∧ WS K H' A9 s6 (N9 + 5) ∧ RBound s1.bls.length (nvAt s1 0) s5 s6 one one' ∧ s6.at_ = s5.at_ ∧ s6.bls.length = s5.bls.length ∧
      σ' = [some (.ref A.d), some (.int ((d + 1 : Nat) : Int)), some (.ref Z), some vA, some (.ref M), some (.int (s1.bls.length : Nat)), some (.int (nvAt s1 0)), some (.int one'), x8, none, none, none, none, none]) ?_ ?_
    rotate_left
    · intro N hN
      refine ⟨_, rfl, A9, s5, N9 + 2 + 1, 4, by rw [x011.d]; rfl, w11, by decide, by decide, fun H12 r12 x12 w12 a12 b12 => ?_⟩
      refine ⟨_, _, rfl, rfl, _, rfl, ite2 (fun e => ?_) (fun e => hN _ _ ⟨s5, one, none, x12, w12.mono (by omega) (by omega), .inl ⟨rfl, rfl⟩, rfl, rfl, rfl⟩)⟩
      refine ⟨_, rfl, A9, s5, N9 + 2 + 1, "number", by rw [x011.d]; rfl, w12, by simp [bearW], by rw [hat5, hln5]; omega, by omega, fun H13 s13 bound x13 w13 r13 => ?_⟩
      have at13 := r13.at
      refine ⟨_, rfl, A9, s13, N9 + 2 + 1 + 1, "less", by rw [x011.d]; rfl, w13, by simp [bearW], by rw [at13.1, at13.2, hat5, hln5]; omega, by omega, fun H14 s14 one' x14 w14 r14 => ?_⟩
      have at14 := r14.at
      have hat : s13.at_ = s1.bls.length := at13.1.trans hat5
      obtain ⟨b14, hb14, ne14⟩ := r14.row (by rw [at13.1, at13.2, hat5, hln5]; omega)
      rw [hat] at hb14
      refine ⟨_, rfl, _, rfl, _, rfl, (by show 4 ≤ sizeLine; rw [sizeLine_eq]; decide), fun t3 nt3 => ?_⟩
      have q3 := same_new (o := .tup [.int one', .str "less", .int (nvAt s1 0), .int bound]) nt3
      have w15 := w14.sm q3
      obtain ⟨p, vp, ve, pr, rvs, hpv, hp1, hp2, hix, hset⟩ := w15.last_at hb14 ne14
      obtain ⟨g15, dr15, _, e15⟩ := w15.dk
      obtain ⟨w16, x16⟩ := hset (.ref t3) ⟨one', "less", [nvAt s1 0, bound]⟩ (.tup (.inl (.of upd_same)) (.cons (.int _) (.cons (.str _) (.cons (.int _) (.cons (.int _) .nil)))))
      refine ⟨_, rfl, _, _, by rw [x011.d], dget_k e15 dkv_blocks, _, rfl, A9.lb, _, _, _, rfl, rfl, .of w15.lb, atI_nat hpv, p, _, 1, _, rfl, rfl, .of hp1, atI_nat (j := 1) rfl, ?_⟩
      refine ⟨_, rfl, pr, rvs, _, _, rfl, rfl, hp2, hix, ?_⟩
      refine hN _ _ ⟨s14.last s1.bls.length ⟨one', "less", [nvAt s1 0, bound]⟩, one', _, (((x12.trans x13).trans x14).trans (.same q3)).trans x16, w16.mono (by omega) (by omega), .inr ⟨s13, s14, bound, r13, r14, rfl⟩, at14.1.trans at13.1, ?_, rfl⟩
      rw [last_len]
      exact at14.2.trans at13.2
    rintro σ' H12 ⟨s6, one', y8, x12, w12, r12, at6, ln6, rfl⟩
    have x012 := x011.trans x12
    have iZ12 := iZ11.ext x12
    have hl12 := hlp.ext x012
    have ln6' : s6.bls.length = s1.bls.length + 1 := ln6.trans hln5
    obtain ⟨g12, dr12, _, e12⟩ := w12.dk
    obtain ⟨kv2, eS2, dS2⟩ := w12.ls
    refine ⟨_, rfl, _, _, by rw [x012.d], dget_k e12 dkv_scope, A9.ls, _, rfl, .inl (.of eS2), fun M2 nM2 => ?_⟩
    have sM2 := same_new (o := .lst kv2) nM2
    have w13 := w12.sm sM2
    have k13 : KeptAt K (upd H12 M2 (.lst kv2)) A9 M2 s6.sc := ⟨kv2, upd_same, dpAll_sm sM2 dS2, w12.off nM2⟩
    have x013 := x012.trans (.same sM2)
    have iZ13 := iZ12.ext (.same sM2)
    refine ⟨_, rfl, Nat.zero_le _, fun Z1 nZ1 => ?_⟩
    have s14 := same_new (o := .lst []) nZ1
    refine ⟨A9, s6, N9 + 5, Z1, [], by rw [x013.d]; rfl, w13.sm s14, upd_same, w13.off nZ1, (fun z h => nomatch h), Nat.zero_le _, by show N9 + 5 + (0 + 1) ≤ 6000; omega, fun H15 A15 x15 w15 => ?_⟩
    have x1315 := (Ext.same (A := A9) s14).trans x15
    have k15 := k13.ext x1315
    have iZ15 := iZ13.ext x1315
    have x015 := x013.trans x1315
    refine ⟨_, rfl, Nat.zero_le _, fun Z2 nZ2 => ?_⟩
    have s16 := same_new (o := .lst []) nZ2
    refine ⟨A15, s6.block [], N9 + 5 + 1, Z2, [], by rw [x015.d]; rfl, w15.sm s16, upd_same, w15.off nZ2, (fun z h => nomatch h), Nat.zero_le _, by show N9 + 5 + 1 + (0 + 1) ≤ 6000; omega, fun H17 A17 x17 w17 => ?_⟩
    have x1517 := (Ext.same (A := A15) s16).trans x17
    have k17 := k15.ext x1517
    have iZ17 := iZ15.ext x1517
    have x017 := x015.trans x1517
    have lb : (s6.block []).bls.length = s6.bls.length + 1 := block_len ..
    have le : ((s6.block []).block []).bls.length = s6.bls.length + 2 := by rw [block_len, lb]
    refine ⟨(by show 2 ≤ sizeLine; rw [sizeLine_eq]; decide), fun S nS => ?_⟩
    have s18 := same_new (o := .lst [.int (s6.bls.length : Nat), .int ((s6.block []).bls.length : Nat)]) nS
    have eS18 : upd H17 S (.lst [.int (s6.bls.length : Nat), .int ((s6.block []).bls.length : Nat)]) S = some (.lst (([(s6.bls.length : Nat), ((s6.bls.length + 1 : Nat) : Int)] : List Int).map V.int)) := by rw [upd_same, lb]; rfl
    have w18 := w17.sm s18
    have k18 := k17.ext (.same s18)
    have iZ18 := iZ17.ext (.same s18)
    have x018 := x017.trans (.same s18)
    have oS := w17.off nS
    dsimp only [gName, List.set]
    refine ⟨_, rfl, _, rfl, S, _, 0, _, rfl, rfl, .of eS18, atI_nat (j := 0) rfl, Nat.zero_le _, fun u1 nu1 => ?_⟩
    have c1 := same_new (o := .tup []) nu1
    refine ⟨(by show 2 ≤ sizeLine; rw [sizeLine_eq]; decide), fun u2 nu2 => ?_⟩
    have c2 := same_new (o := .tup [.int (s6.bls.length : Nat), .ref u1]) nu2
    refine ⟨_, rfl, S, _, 1, _, rfl, rfl, .of (c2 _ _ (c1 _ _ eS18)), atI_nat (j := 1) rfl, Nat.zero_le _, fun u3 nu3 => ?_⟩
    have c3 := same_new (o := .tup []) nu3
    refine ⟨(by show 2 ≤ sizeLine; rw [sizeLine_eq]; decide), fun u4 nu4 => ?_⟩
    have c4 := same_new (o := .tup [.int ((s6.bls.length + 1 : Nat) : Int), .ref u3]) nu4
    refine ⟨(by show 4 ≤ sizeLine; rw [sizeLine_eq]; decide), fun u5 nu5 => ?_⟩
    have c5 := same_new (o := .tup [.str "choose", .int one', .ref u2, .ref u4]) nu5
    have c15 := (((c1.trans c2).trans c3).trans c4).trans c5
    have dC := (show Dp K _ (.ref u5) (En.choose one' ⟨s6.bls.length, []⟩ ⟨s6.bls.length + 1, []⟩).d from
      .tup (.inl (.of (upd_same (a := u5) (o := .tup [.str "choose", .int one', .ref u2, .ref u4])))) (.cons (.str _) (.cons (.int _) (.cons
        (.tup (.inl (.of ((c3.trans c4).trans c5 _ _ upd_same))) (.cons (.int _) (.cons (.tup (.inl (.of (((c2.trans c3).trans c4).trans c5 _ _ upd_same))) .nil) .nil))) (.cons
        (.tup (.inl (.of (c5 _ _ upd_same))) (.cons (.int _) (.cons (.tup (.inl (.of ((c4.trans c5) _ _ upd_same))) .nil) .nil))) .nil)))))
    have w19 := w18.sm c15
    obtain ⟨g19, dr19, _, e19⟩ := w19.dk
    obtain ⟨p19, vp19, vr19, v019, hpv19, hpe19, hend19⟩ := w19.end_at (i := s1.bls.length) (by rw [le]; omega)
    have x019 := x018.trans (.same c15)
    obtain ⟨w20, x20⟩ := hend19 _ _ dC
    refine ⟨_, rfl, _, _, by rw [x019.d], dget_k e19 dkv_blocks, _, rfl, A17.lb, _, _, _, rfl, rfl, .of w19.lb, atI_nat hpv19, p19, _, 2, 2, rfl, rfl, hpe19, rfl, ?_⟩
    have x1820 := (Ext.same (A := A17) c15).trans x20
    have x020 := x018.trans x1820
    have iZ20 := iZ18.ext x1820
    have k20 := k18.ext x1820
    have iS20 : IntsAt _ A17 S [(s6.bls.length : Nat), ((s6.bls.length + 1 : Nat) : Int)] := IntsAt.ext ⟨eS18, oS⟩ x1820
    generalize hst2 : ((s6.block []).block []).setEnd s1.bls.length (.choose one' ⟨s6.bls.length, []⟩ ⟨s6.bls.length + 1, []⟩) = st2 at w20
    have lst2 : st2.bls.length = s6.bls.length + 2 := by rw [← hst2, setEnd_len, le]
    have z6 := w12.bd.z
    have lk6 := w12.bd.c
    obtain ⟨kv20, eM20, dM20, oM20⟩ := id k20
    refine ⟨_, rfl, _, rfl, S, _, _, _, rfl, rfl, .of iS20.1, atI_nat (j := 0) rfl, _, rfl, A17, st2, _, s6.bls.length, M2, kv20, s6.sc, by rw [x020.d]; rfl, w20, by omega, eM20, dM20, oM20, z6, by omega, by show N9 + 5 + 1 + 1 + 10 ≤ 6000; omega, fun H21 A21 x21 w21 => ?_⟩
    have x021 := x020.trans x21
    have iZ21 := iZ20.ext x21
    have k21 := k20.ext x21
    have iS21 := iS20.ext x21
    have hl21 := hl12.ext ((((Ext.same (A := A9) sM2).trans x1315).trans x1517).trans ((Ext.same (A := A17) s18).trans (x1820.trans x21)))
    have l21 : (st2.stand s6.bls.length s6.sc).bls.length = st2.bls.length := rfl
    refine ⟨_, rfl, _, rfl, _, _, rfl, rfl, A21, _, N9 + 17, 1, by rw [x021.d]; show [V.ref A.d, V.int (((d + 1 : Nat) : Int) - 1), V.int 2] = _; rw [show (((d + 1 : Nat) : Int) - 1) = (d : Nat) by omega]; rfl, w21, hl21, by show s6.bls.length < st2.bls.length; omega, by omega, by omega, fun H22 A22 s22 x22 w22 r22 g22 => ?_⟩
    have x022 := x021.trans x22
    have iZ22 := iZ21.ext x22
    have k22 := k21.ext x22
    have iS22 := iS21.ext x22
    have a22 := g22.at_ (show s6.bls.length < st2.bls.length by omega)
    have l22 := g22.len
    rw [l21, lst2, ln6'] at l22
    refine ⟨_, rfl, A22, s22, N9 + 17 + cP d 1, "number", by rw [x022.d]; rfl, w22, by simp [bearW], a22, by omega, fun H23 s23 step x23 w23 r23 => ?_⟩
    have at23 := r23.at
    obtain ⟨b23, hb23, ne23⟩ := r23.row a22
    have x023 := x022.trans x23
    refine ⟨_, rfl, _, rfl, A22, s23, _, 2, by rw [x022.d]; rfl, w23, by decide, by decide, fun H24 r24 x24 w24 a24 b24 => ?_⟩
    refine ⟨_, _, rfl, rfl, (by show 3 ≤ sizeLine; rw [sizeLine_eq]; decide), fun u6 nu6 => ?_⟩
    have c6 := same_new (o := .tup [.int step, .str "number", .int (1 + r24)]) nu6
    have w25 := w24.sm c6
    obtain ⟨p25, vp25, ve25, pr25, rvs25, hpv25, hp125, hp225, hix25, hset25⟩ := w25.last_at (i := s22.at_) hb23 ne23
    obtain ⟨g25, dr25, _, e25⟩ := w25.dk
    obtain ⟨w26, x26⟩ := hset25 (.ref u6) ⟨step, "number", [1 + r24]⟩ (.tup (.inl (.of upd_same)) (.cons (.int _) (.cons (.str _) (.cons (.int _) .nil))))
    have ea23 : ((s23.at_ : Nat) : Int) = (s22.at_ : Nat) := by rw [at23.1]
    rw [show s22.at_ = s23.at_ from at23.1.symm] at hpv25 w26
    refine ⟨_, rfl, _, _, by rw [x022.d], dget_k e25 dkv_blocks, _, rfl, _, _, by rw [x022.d], dget_k e25 dkv_at, A22.lb, _, _, _, rfl, rfl, .of w25.lb, atI_nat hpv25, p25, _, 1, _, rfl, rfl, .of hp125, atI_nat (j := 1) rfl, ?_⟩
    refine ⟨_, rfl, pr25, rvs25, _, _, rfl, rfl, hp225, hix25, ?_⟩
    have x2226 : Ext H22 A22 _ A22 := ((x23.trans x24).trans (.same c6)).trans x26
    have x026 := x022.trans x2226
    generalize hs26 : s23.last s23.at_ ⟨step, "number", [1 + r24]⟩ = s26 at w26
    have at26 : s26.at_ = s22.at_ ∧ s26.bls.length = s22.bls.length := by
      rw [← hs26]
      exact ⟨at23.1, by rw [last_len]; exact at23.2⟩
    refine ⟨_, rfl, A22, s26, _, "add", by rw [x022.d]; rfl, w26, by simp [bearW], by rw [at26.1, at26.2]; exact a22, by omega, fun H27 s27 later x27 w27 r27 => ?_⟩
    have at27 := r27.at
    obtain ⟨b27, hb27, ne27⟩ := r27.row (by rw [at26.1, at26.2]; exact a22)
    refine ⟨_, rfl, _, rfl, _, rfl, (by show 4 ≤ sizeLine; rw [sizeLine_eq]; decide), fun u7 nu7 => ?_⟩
    have c7 := same_new (o := .tup [.int later, .str "add", .int (nvAt s1 0), .int step]) nu7
    have w28 := w27.sm c7
    rw [show s26.at_ = s27.at_ from at27.1.symm] at hb27
    obtain ⟨p28, vp28, ve28, pr28, rvs28, hpv28, hp128, hp228, hix28, hset28⟩ := w28.last_at hb27 ne27
    obtain ⟨g28, dr28, _, e28⟩ := w28.dk
    obtain ⟨w29, x29⟩ := hset28 (.ref u7) ⟨later, "add", [nvAt s1 0, step]⟩ (.tup (.inl (.of upd_same)) (.cons (.int _) (.cons (.str _) (.cons (.int _) (.cons (.int _) .nil)))))
    refine ⟨_, rfl, _, _, by rw [x022.d], dget_k e28 dkv_blocks, _, rfl, _, _, by rw [x022.d], dget_k e28 dkv_at, A22.lb, _, _, _, rfl, rfl, .of w28.lb, atI_nat hpv28, p28, _, 1, _, rfl, rfl, .of hp128, atI_nat (j := 1) rfl, ?_⟩
    refine ⟨_, rfl, pr28, rvs28, _, _, rfl, rfl, hp228, hix28, ?_⟩
    have x2629 : Ext _ A22 _ A22 := (x27.trans (.same c7)).trans x29
    have x2229 := x2226.trans x2629
    have x029 := x022.trans x2229
    have iZ29 := iZ22.ext x2229
    have k29 := k22.ext x2229
    have iS29 := iS22.ext x2229
    generalize hs29 : s27.last s27.at_ ⟨later, "add", [nvAt s1 0, step]⟩ = s29 at w29
    have at29 : s29.at_ = s22.at_ ∧ s29.bls.length = s22.bls.length := by
      rw [← hs29]
      exact ⟨at27.1.trans at26.1, by rw [last_len]; exact at27.2.trans at26.2⟩
    -- the way back
    dsimp only [gName, List.set]
    refine ⟨_, rfl, _, rfl, _, rfl, Z, _, rfl, .of iZ29.1, fun Y nY => ?_⟩
    rw [List.map_cons, cut_tail]
    have c9 := same_new (o := .lst (zs.map V.int)) nY
    have w31 := w29.sm c9
    refine ⟨A22, s29, _, Y, zs, by rw [x022.d]; rfl, w31, by rw [at29.1, at29.2]; exact a22, upd_same, w29.off nY, zb.1, by omega, by omega, fun H32 s32 v32 as2 x32 w32 r32 d32 => ?_⟩
    have at32 := r32.at
    have x2932 : Ext _ A22 H32 A22 := (Ext.same c9).trans x32
    have x032 := x029.trans x2932
    have k32 := k29.ext x2932
    have iS32 := iS29.ext x2932
    have iZ32 := iZ29.ext x2932
    have psH : ∃ b, s32.bls[s1.bls.length]? = some b ∧ b.ps = psOf s1 0 (0 :: zs) := by
      obtain ⟨b4, h4, e4⟩ := pre_ps.rrows r10 _ _ (by show st.bls[s1.bls.length]? = _; exact hb9)
      obtain ⟨b5, h5, e5⟩ := pre_ps.rsure r11 _ _ h4
      obtain ⟨b6, h6, e6⟩ := pre_ps.rbound r12 _ _ h5
      obtain ⟨b7, h7, e7⟩ := pre_ps.bl s6 [] _ _ h6
      obtain ⟨b8, h8, e8⟩ := pre_ps.bl (s6.block []) [] _ _ h7
      obtain ⟨b9', h9, e9⟩ := pre_ps.en ((s6.block []).block []) s1.bls.length (.choose one' ⟨s6.bls.length, []⟩ ⟨s6.bls.length + 1, []⟩) _ _ h8
      rw [hst2] at h9
      obtain ⟨b10, h10, e10⟩ := pre_ps.parts _ _ _ _ r22 _ _ (by show st2.bls[s1.bls.length]? = _; exact h9)
      obtain ⟨b11, h11, e11⟩ := pre_ps.rbear r23 _ _ h10
      obtain ⟨b12, h12, e12⟩ := pre_ps.la s23 s23.at_ ⟨step, "number", [1 + r24]⟩ _ _ h11
      rw [hs26] at h12
      obtain ⟨b13, h13, e13⟩ := pre_ps.rbear r27 _ _ h12
      obtain ⟨b14, h14, e14⟩ := pre_ps.la s27 s27.at_ ⟨later, "add", [nvAt s1 0, step]⟩ _ _ h13
      rw [hs29] at h14
      obtain ⟨b15, h15, e15⟩ := pre_ps.rargs r32 _ _ h14
      exact ⟨b15, h15, by rw [e15, e14, e13, e12, e11, e10, e9, e8, e7, e6, e5, e4]⟩
    generalize hN32 : N9 + 17 + cP d 1 + 1 + 1 + zs.length = N32 at w32
    have n32 : N32 + 2 ≤ 6000 := by have := zb.2; omega
    dsimp only [gName, List.set]
    refine ifs_by (fun σ' H' => ∃ (s33 : DSt) (back : List Int) (vb : V) (x13 : Option V), Ext H32 A22 H' A22 ∧ WS K H' A22 s33 (N32 + 2) ∧ RBack zs (nvAt s1 1) (nvAt s1 2) s32 as2 s33 back ∧ Dp K H' vb (.tuple (back.map PyData.int)) ∧ back.length = zs.length ∧
      σ' = [some (.ref A.d), some (.int ((d + 1 : Nat) : Int)), some (.ref Z), some vA, some (.ref M2), some (.int (s1.bls.length : Nat)), some (.int (nvAt s1 0)), some (.int one'), y8, some (.ref S), some (.int step), some (.int later), some vb, x13]) ?_ ?_
    rotate_left
    · intro N hN
      have l32 := r32.len
      have no : ∀ H', Ext H32 A22 H' A22 → WS K H' A22 s32 N32 → N [some (.ref A.d), some (.int ((d + 1 : Nat) : Int)), some (.ref Z), some vA, some (.ref M2), some (.int (s1.bls.length : Nat)), some (.int (nvAt s1 0)), some (.int one'), y8, some (.ref S), some (.int step), some (.int later), some v32, none] H' := fun H' x' w' =>
        hN _ _ ⟨s32, as2, v32, none, x', w'.mono (by omega) n32, .inl ⟨rfl, rfl⟩, x'.dp (by simp [nLd, ints_nl]) d32, l32, rfl⟩
      refine ⟨_, rfl, _, rfl, _, rfl, Z, _, rfl, .of iZ32.1, fun Y1 nY1 => ?_⟩
      rw [List.map_cons, cut_13, ← List.map_take]
      have c1 := same_new (o := .lst ((zs.take 2).map V.int)) nY1
      refine ⟨(by show 2 ≤ sizeLine; rw [sizeLine_eq]; decide), fun Y2 nY2 => ?_⟩
      have c2 := same_new (o := .lst [V.int 0, .int 0]) nY2
      have c12 := c1.trans c2
      have w33 := w32.sm c12
      refine ⟨.list ((zs.take 2).map PyData.int), .list (([0, 0] : List Int).map PyData.int), .lst (.of (c2 _ _ upd_same)) (ints_dpAll _), .lst (.of upd_same) (ints_dpAll [0, 0]), shaped_ints _, shaped_ints [0, 0], _, rfl, ?_⟩
      rw [eqv_ints]
      by_cases hz2 : zs.take 2 = [0, 0]
      · refine ifD hz2 ?_
        obtain ⟨zt, ez⟩ : ∃ zt, zs = 0 :: 0 :: zt := by
          match zs, hz2 with
          | [], h => simp at h
          | [_], h => simp at h
          | a :: b :: r, h =>
            simp at h
            exact ⟨r, by rw [h.1, h.2]⟩
        refine ⟨_, rfl, A22, s32, N32, 3, by rw [x032.d]; rfl, w33, by decide, by decide, fun H34 r34 x34 w34 a34 b34 => ?_⟩
        have x3234 := (Ext.same (A := A22) c12).trans x34
        refine ⟨_, _, rfl, rfl, _, rfl, ite2 (fun _ => ?_) (fun _ => no _ x3234 w34)⟩
        -- the head's params
        obtain ⟨bH, hbH, ebH⟩ := psH
        have iH := (List.getElem?_eq_some_iff.mp hbH).1
        obtain ⟨pq, bq, vpq, veq, rvq, hpq, hbq, hpvq, hq1, hq2, hq3, hq4, hq5, hq6, oq1, oq2⟩ := w34.blk (i := s1.bls.length) iH
        rw [hbH] at hbq
        cases hbq
        rw [ebH, ez] at hq2
        obtain ⟨pa, xa, rfl, hpa, dpa⟩ := dp_tup hq2
        obtain ⟨q0, l0, rfl, _, f0⟩ := dpAll_cons dpa
        obtain ⟨q1, l1, rfl, g1, f1⟩ := dpAll_cons f0
        obtain ⟨q2, l2, rfl, g2, f2⟩ := dpAll_cons f1
        obtain ⟨p1, y1, rfl, hp1, dp1⟩ := dp_tup g1
        obtain ⟨u1, m1, rfl, du1, _⟩ := dpAll_cons dp1
        obtain ⟨p2, y2, rfl, hp2, dp2⟩ := dp_tup g2
        obtain ⟨u2, m2, rfl, du2, _⟩ := dpAll_cons dp2
        rw [dp_int du1] at hp1
        rw [dp_int du2] at hp2
        obtain ⟨g34, dr34, _, e34⟩ := w34.dk
        refine ⟨_, rfl, _, _, by rw [x032.d], dget_k e34 dkv_blocks, _, rfl, A22.lb, _, _, _, rfl, rfl, .of w34.lb, atI_nat hpvq, pq.1, _, 0, _, rfl, rfl, .of hq1, atI_nat (j := 0) rfl, ?_⟩
        dsimp only [gName, List.set]
        refine ⟨_, rfl, pa, _, 2, _, rfl, rfl, hpa, atI_nat (j := 2) rfl, .inr (.inl ⟨p2, _, 0, _, rfl, rfl, hp2, atI_nat (j := 0) rfl, ?_⟩)⟩
        refine ⟨_, rfl, pa, _, 1, _, rfl, rfl, hpa, atI_nat (j := 1) rfl, .inr (.inl ⟨p1, _, 0, _, rfl, rfl, hp1, atI_nat (j := 0) rfl, ?_⟩)⟩
        refine ⟨(by show 2 ≤ sizeLine; rw [sizeLine_eq]; decide), fun t1 nt1 => ?_⟩
        have c3 := same_new (o := .tup [V.int (nvAt s1 2), .int (nvAt s1 1)]) nt1
        have d34 := x3234.dp (by simp [nLd, ints_nl]) d32
        obtain ⟨pb2, xb2, rfl, hpb2, dpb2⟩ := dp_tup (dp_sm c3 d34)
        have lb2 := dpAll_len dpb2
        rw [List.length_map] at lb2
        have zl2 := zb.2
        refine ⟨_, rfl, _, rfl, ?_⟩
        dsimp only [tNoPart]
        refine slA_by hpb2 fun t2 H35 c4 h35 => ?_
        rw [show (2 : Int) = ((2 : Nat) : Int) from rfl, cutV_from] at h35
        have dD : DpAll K H35 (xb2.drop 2) ((as2.drop 2).map PyData.int) := by
          rw [List.map_drop]
          exact dpAll_drop 2 (dpAll_sm c4 dpb2)
        refine catA_by (.inl (.of (c4 _ _ upd_same))) h35 (by rw [List.length_drop, sizeLine_eq]; show 2 + _ ≤ _; omega) fun t3 H36 c5 h36 => ?_
        have dBk : Dp K H36 (.ref t3) (.tuple ((nvAt s1 2 :: nvAt s1 1 :: as2.drop 2).map PyData.int)) := .tup h36 (.cons (.int _) (.cons (.int _) (dpAll_sm c5 dD)))
        dsimp only [gName, List.set]
        have c36 := (c3.trans c4).trans c5
        have w36 := w34.sm c36
        have hpa36 := sqT_sm c36 hpa
        have hp136 := sqT_sm c36 hp1
        have hp236 := sqT_sm c36 hp2
        have aA : s32.at_ < s32.bls.length := by rw [at32.1, at32.2, at29.1, at29.2]; exact a22
        obtain ⟨pw_, bw, vpw, vew, rvw, hpw, hbw, hpvw, hw1, hw2, hw3, hw4, hw5, hw6, ow1, ow2⟩ := w36.blk (i := s32.at_) aA
        obtain ⟨g36, dr36, _, e36⟩ := w36.dk
        refine ⟨_, rfl, _, _, by rw [x032.d], dget_k e36 dkv_blocks, _, rfl, _, _, by rw [x032.d], dget_k e36 dkv_at, A22.lb, _, _, _, rfl, rfl, .of w36.lb, atI_nat hpvw, pw_.1, _, 1, _, rfl, rfl, .of hw1, atI_nat (j := 1) rfl, .inl ⟨rfl, _, .of hw4⟩, ?_⟩
        refine ⟨_, rfl, _, rfl, pa, _, 1, _, rfl, rfl, hpa36, atI_nat (j := 1) rfl, .inr (.inl ⟨p1, _, 0, _, rfl, rfl, hp136, atI_nat (j := 0) rfl, ?_⟩)⟩
        refine ⟨(by show 3 ≤ sizeLine; rw [sizeLine_eq]; decide), fun t4 nt4 => ?_⟩
        have c6 := same_new (o := .tup [V.int (-1), .str "tell", .int (nvAt s1 1)]) nt4
        refine ⟨_, rfl, _, rfl, pa, _, 2, _, rfl, rfl, sqT_sm c6 hpa36, atI_nat (j := 2) rfl, .inr (.inl ⟨p2, _, 0, _, rfl, rfl, sqT_sm c6 hp236, atI_nat (j := 0) rfl, ?_⟩)⟩
        refine ⟨(by show 3 ≤ sizeLine; rw [sizeLine_eq]; decide), fun t5 nt5 => ?_⟩
        have c7 := same_new (o := .tup [V.int (-1), .str "tell", .int (nvAt s1 2)]) nt5
        refine ⟨(by show 2 ≤ sizeLine; rw [sizeLine_eq]; decide), fun t6 nt6 => ?_⟩
        have c8 := same_new (o := .lst [V.ref t4, .ref t5]) nt6
        have c68 := (c6.trans c7).trans c8
        have w37 := w36.sm c68
        refine ⟨pw_.2, t6, _, _, rfl, rfl, c68 _ _ hw4, upd_same, by rw [sizeLine_eq]; show rvw.length + 2 ≤ _; omega, ?_⟩
        have lr := dpAll_len hw5
        rw [List.length_map] at lr
        obtain ⟨w38, x38⟩ := w37.rows (n' := N32 + 2) (f := fun b => addRow ⟨-1, "tell", [nvAt s1 2]⟩ (addRow ⟨-1, "tell", [nvAt s1 1]⟩ b)) (rvs' := rvw ++ [.ref t4, .ref t5]) hpw hbw (c68 _ _ hw4) (by
          show DpAll K _ _ (((bw.rs ++ [_]) ++ [_]).map GRow.d)
          rw [List.append_assoc, List.map_append]
          exact dpAll_app (dpAll_sm c68 hw5) (.cons (.tup (.inl (.of ((c7.trans c8) _ _ upd_same))) (.cons (.int _) (.cons (.str _) (.cons (.int _) .nil)))) (.cons (.tup (.inl (.of (c8 _ _ upd_same))) (.cons (.int _) (.cons (.str _) (.cons (.int _) .nil)))) .nil))) rfl rfl (by omega) n32 (by
          show ((bw.rs ++ [_]) ++ [_]).length ≤ _
          rw [List.length_append, List.length_append, List.length_singleton, List.length_singleton]
          omega)
        refine hN _ _ ⟨(s32.tell (nvAt s1 1)).tell (nvAt s1 2), nvAt s1 2 :: nvAt s1 1 :: as2.drop 2, .ref t3, _, (x3234.trans (.same (c36.trans c68))).trans x38, ?_, .inr ⟨zt, ez, rfl, rfl⟩, x38.dp (by unfold nLd; exact ints_nl _) (dp_sm c68 dBk), ?_, rfl⟩
        · have eB : (s32.tell (nvAt s1 1)).tell (nvAt s1 2) = { s32 with bls := modB (fun b => addRow ⟨-1, "tell", [nvAt s1 2]⟩ (addRow ⟨-1, "tell", [nvAt s1 1]⟩ b)) s32.at_ s32.bls } := by
            unfold DSt.tell
            simp only [modB_modB]
          rw [eB]
          exact w38
        · rw [List.length_cons, List.length_cons, List.length_drop, l32, ez]
          simp
      · exact ifN hz2 (ifF rfl (no _ (.same c12) w33))
    rintro σ' H33 ⟨s33, back, vb, x13, x3233, w33, rB, dVb, lbk, rfl⟩
    have at33 := rB.at
    have x033 := x032.trans x3233
    have k33 := k32.ext x3233
    have iS33 := iS32.ext x3233
    refine ⟨_, rfl, _, rfl, (by show 1 ≤ sizeLine; rw [sizeLine_eq]; decide), fun u8 nu8 => ?_⟩
    have c8 := same_new (o := .tup [.int later]) nu8
    obtain ⟨pa2, xa2, rfl, hpa2, dpa2⟩ := dp_tup (dp_sm c8 dVb)
    have l32 := dpAll_len dpa2
    rw [List.length_map, lbk] at l32
    refine ⟨_, rfl, catA_by (.inl (.of upd_same)) hpa2 (by rw [l32, sizeLine_eq]; show 1 + zs.length ≤ _; omega) fun u9 H34 s34 h34 => ?_⟩
    have w33b := w33.sm (c8.trans s34)
    refine ⟨(by show 2 ≤ sizeLine; rw [sizeLine_eq]; decide), fun u10 nu10 => ?_⟩
    have c10 := same_new (o := .tup [.int (s1.bls.length : Nat), .ref u9]) nu10
    refine ⟨(by show 2 ≤ sizeLine; rw [sizeLine_eq]; decide), fun u11 nu11 => ?_⟩
    have c11 := same_new (o := .tup [.str "jump", .ref u10]) nu11
    have c1011 := c10.trans c11
    have dB : Dp K _ (.ref u11) (En.jump ⟨s1.bls.length, later :: back⟩).d :=
      .tup (.inl (.of (upd_same (H := upd H34 u10 (.tup [.int (s1.bls.length : Nat), .ref u9])) (a := u11) (o := .tup [.str "jump", .ref u10])))) (.cons (.str _) (.cons (.tup (.inl (.of (c11 _ _ upd_same))) (.cons (.int _) (.cons (.tup (sqT_sm c1011 h34) (.cons (.int _) (dpAll_sm (s34.trans c1011) dpa2))) .nil))) .nil))
    have s3311 := (c8.trans s34).trans c1011
    have w34 := w33.sm s3311
    have x034 := x033.trans (.same s3311)
    obtain ⟨g34, dr34, _, e34⟩ := w34.dk
    obtain ⟨p34, vp34, vr34, v034, hpv34, hpe34, hend34⟩ := w34.end_at (i := s33.at_) (by rw [at33.1, at33.2, at32.1, at32.2, at29.1, at29.2]; exact a22)
    obtain ⟨w35, x35⟩ := hend34 _ _ dB
    refine ⟨_, rfl, _, _, by rw [x034.d], dget_k e34 dkv_blocks, _, rfl, _, _, by rw [x034.d], dget_k e34 dkv_at, A22.lb, _, (s33.at_ : Int), _, rfl, rfl, .of w34.lb, atI_nat hpv34, p34, _, 2, 2, rfl, rfl, hpe34, rfl, ?_⟩
    have x3235 := (Ext.same (A := A22) s3311).trans x35
    obtain ⟨kv35, eM35, dM35, oM35⟩ := k33.ext x3235
    have iS35 := iS33.ext x3235
    have x035 := x034.trans x35
    have lenE : (s33.setEnd s33.at_ (.jump ⟨s1.bls.length, later :: back⟩)).bls.length = s22.bls.length := by rw [setEnd_len, at33.2, at32.2, at29.2]
    refine ⟨_, rfl, _, rfl, S, _, _, _, rfl, rfl, .of iS35.1, atI_nat (j := 1) rfl, _, rfl, A22, _, _, s6.bls.length + 1, M2, kv35, s6.sc, by rw [x034.d]; rfl, w35, by rw [lenE]; omega, eM35, dM35, oM35, z6, by omega, by omega, fun H36 A36 x36 w36 => ?_⟩
    refine q _ _ _ (x035.trans x36) (w36.mono (by omega) (by omega)) ⟨zs, s1, as, s4, s5, one, s6, one', s22, s23, step, r24, s27, later, s32, as2, s33, back, hz, rA, ?_, r11, r12, ?_, r23, a24, b24, ?_, ?_, rB, rfl⟩ ⟨?_, fun _ => ?_⟩
    · rw [hst]
      exact r10
    · rw [hst2]
      exact r22
    · rw [hs26]
      exact r27
    · rw [hs29]
      exact r32
    · show s.bls.length ≤ (s33.setEnd s33.at_ _).bls.length
      rw [lenE]
      omega
    · show s6.bls.length + 1 < (s33.setEnd s33.at_ _).bls.length
      rw [lenE]
      omega
end

section
variable {P : Program} {w : World} {K : PySem.W.Frag} {mg : Str → Option Value} {base : Heap}
theorem RRows.grow {m : Nat} {s s' : DSt} (h : RRows m s s') : Grow s s' := grow_of h.at
def RPartsP (P : DSt → DSt → Prop) (hl : List (Str × Nat)) (m : Nat) (s s' : DSt) : Prop := ∃ s1 k, RRows 3 s s1 ∧ k < m ∧ Steps (RTurn P hl) k s1 s'
theorem ok__law_parts_of (T : Top K mg) (hl : List (Str × Nat)) (d l : Nat) (l4 : 4 ≤ l) (P0 : DSt → DSt → Prop) (spC spL : Sp)
    (G__law_choice : FnOk P w K mg base CX0 l (He.ga K "_law_choice") T.fd__law_choice ["_law_s", "_law_deep"] spC)
    (G__law_loop : FnOk P w K mg base CX0 l (He.ga K "_law_loop") T.fd__law_loop ["_law_s", "_law_deep"] spL)
    (hC : ∀ (A : WA) (s : DSt) (n : Nat) (H : Hp) (Q : VK) (E : XK), 0 < d → WS K H A s n → Hlp H A hl → s.at_ < s.bls.length → n + cT d ≤ 6000 → (∀ H' A' s', Ext H A H' A' → WS K H' A' s' (n + cT d) → RChoice P0 s s' → Grow s s' → Q .non H') → spC [.ref A.d, .int (d : Nat)] H Q E)
    (hL : ∀ (A : WA) (s : DSt) (n : Nat) (H : Hp) (Q : VK) (E : XK), 0 < d → WS K H A s n → Hlp H A hl → s.at_ < s.bls.length → n + cT d ≤ 6000 → (∀ H' A' s', Ext H A H' A' → WS K H' A' s' (n + cT d) → RLoop P0 s s' → Grow s s' → Q .non H') → spL [.ref A.d, .int (d : Nat)] H Q E)
    (hP : ∀ m s s', RPartsP P0 hl m s s' → RParts hl d m s s') :
    FnOk P w K mg base CX0 (l + 1) (He.ga K "_law_parts") T.fd__law_parts ["_law_s", "_law_deep", "_law_most"] (sp_parts K hl d) := by
  have G__law_next := ok__law_next (P := P) (w := w) (base := base) T
  have G__law_rows := ok__law_rows (P := P) (w := w) (base := base) T
  have G__law_call := ok__law_call (P := P) (w := w) (base := base) T hl
  refine T.F__law_parts.ok sc__law_parts (fun vs H Q E h => ?_) (fun cdv A0 outer s0 H vs Q E hr h => ?_)
  · obtain ⟨A, s, n, m, rfl, _⟩ := h
    rfl
  · obtain ⟨A, s, n, m, rfl, ws, hlp, ha, m3, n6, q⟩ := h
    refine ⟨_, PSs.nox (pss_cons (ps_expr (pe_call G__law_rows (hr.mono (by omega)) (by rfl) T.g__law_rows T.F__law_rows.kp T.b__law_rows .nil pass0 (pa_cons (pv 0) (pa_cons pe_int pa_nil))))
        (pss_one (ps_for PassesOwn.never (by rfl) (pi_range1 (by rfl) T.m_range (pa_cons (pe_call G__law_next (hr.mono (by omega)) (by rfl) T.g__law_next T.F__law_next.kp T.b__law_next .nil pass0 (pa_cons (pv 0) (pa_cons (pv 2) pa_nil))) pa_nil)) (pg_name (i := 3) sc__law_parts.nd rfl (Or.inl rfl)) (pss_cons (ps_set (i := 4) sc__law_parts.nd rfl (Or.inl rfl) (pe_call G__law_next (hr.mono (by omega)) (by rfl) T.g__law_next T.F__law_next.kp T.b__law_next .nil pass0 (pa_cons (pv 0) (pa_cons pe_int pa_nil))))
        (pss_cons (ps_if (PW.pt (pw_and (pt_cmpR op_lt (pv 4) pe_int (nomark _)) (pw_and1 (pt_cmpR op_gt (pv 1) pe_int (nomark _))))) (pss_one (ps_expr (pe_call G__law_choice (hr.mono (by omega)) (by rfl) T.g__law_choice T.F__law_choice.kp T.b__law_choice .nil pass0 (pa_cons (pv 0) (pa_cons (pv 1) pa_nil))))) (pss_one (ps_if (PW.pt (pw_and (pt_cmpR op_lt (pv 4) pe_int (nomark _)) (pw_and1 (pt_cmpR op_gt (pv 1) pe_int (nomark _))))) (pss_one (ps_expr (pe_call G__law_loop (hr.mono (by omega)) (by rfl) T.g__law_loop T.F__law_loop.kp T.b__law_loop .nil pass0 (pa_cons (pv 0) (pa_cons (pv 1) pa_nil))))) (pss_one (ps_if (pt_cmpR (op_neD0 (Nat.lt_of_le_of_lt (Nat.le_add_right _ _) hr.units)) (pe_dget (hu_of hr) (pv 0) pe_str (fun _ _ => rfl)) pe_dnewK (nomark _)) (pss_one (ps_expr (pe_call G__law_call (hr.mono (by omega)) (by rfl) T.g__law_call T.F__law_call.kp T.b__law_call .nil pass0 (pa_cons (pv 0) pa_nil)))) pss_nil)))))
        (pss_one (ps_expr (pe_call G__law_rows (hr.mono (by omega)) (by rfl) T.g__law_rows T.F__law_rows.kp T.b__law_rows .nil pass0 (pa_cons (pv 0) (pa_cons pe_int pa_nil)))))))))), ?_⟩
    have eP : cP d m = 3 + m * (cT d + 2) := rfl
    rw [eP] at n6
    have c22 : 22 ≤ cT d := by cases d with
      | zero => exact Nat.le_refl _
      | succ d => show 22 ≤ 60 + 2 * (3 + (cT d + 2)); omega
    refine ⟨_, rfl, A, s, n, 3, rfl, ws, ha, by omega, by omega, fun H1 s1 x1 w1 r1 => ?_⟩
    have g1 := r1.grow
    refine ⟨_, rfl, _, rfl, A, s1, n + 3, ((m + 1 : Nat) : Int), rfl, w1, by omega, by omega, fun H2 c2 x2 w2 a2 b2 => ?_⟩
    obtain ⟨c, rfl⟩ := Int.eq_ofNat_of_zero_le a2
    have cm : c ≤ m := by omega
    have x02 := x1.trans x2
    refine ⟨_, rfl, by omega, by omega, ?_⟩
    refine for_range (lo := 0) (n := c) (fun i σ' H' => ∃ (A' : WA) (s' : DSt) (x3 x4 : Option V), Ext H A H' A' ∧ WS K H' A' s' (n + 3 + i * (cT d + 2)) ∧ Hlp H' A' hl ∧ Steps (RTurn P0 hl) i s1 s' ∧ Grow s s' ∧ σ' = [some (.ref A.d), some (.int (d : Nat)), some (.int ((m + 1 : Nat) : Int)), x3, x4]) ?_ ?_ ?_
    · exact ⟨A, s1, none, none, x02, w2.mono (by omega) (by omega), hlp.ext x02, rfl, g1, rfl⟩
    · rintro i σ' H3 hi ⟨A', s', y3, y4, x3, w3, hl3, st3, g3, rfl⟩
      have im : (i + 1) * (cT d + 2) ≤ m * (cT d + 2) := Nat.mul_le_mul_right _ (by omega)
      rw [Nat.add_mul] at im
      generalize hN3 : n + 3 + i * (cT d + 2) = N3 at w3
      refine ⟨_, rfl, A', s', N3, 5, by rw [x3.d]; rfl, w3, by decide, by decide, fun H4 kd x4 w4 a4 b4 => ?_⟩
      have hl4 := hl3.ext x4
      have x04 := x3.trans x4
      have a3 := g3.at_ ha
      dsimp only [gName, List.set]
      refine ifs_by (fun σ' H' => ∃ (A5 : WA) (s5 : DSt), Ext H A H' A5 ∧ WS K H' A5 s5 (N3 + cT d) ∧ Hlp H' A5 hl ∧ (s5 = s' ∨ RChoice P0 s' s5 ∨ RLoop P0 s' s5 ∨ RCall hl s' s5) ∧ Grow s' s5 ∧ σ' = [some (.ref A.d), some (.int (d : Nat)), some (.int ((m + 1 : Nat) : Int)), some (.int (0 + (i : Int))), some (.int kd)]) ?_ ?_
      · rintro σ' H5 ⟨A5, s5, x5, w5, hl5, r5, g5, rfl⟩
        have a5 := g5.at_ a3
        refine ⟨_, rfl, A5, s5, N3 + cT d, 2, by rw [x5.d]; rfl, w5, a5, by omega, by omega, fun H6 s6 x6 w6 r6 => ?_⟩
        exact ⟨A5, s6, _, _, x5.trans x6, w6.mono (by rw [Nat.add_mul]; omega) (by rw [Nat.add_mul]; omega), hl5.ext x6, ⟨s', st3, s5, r5, r6⟩, (g3.trans g5).trans r6.grow, rfl⟩
      · intro N hN
        have eA : A'.d = A.d := x3.d
        refine ⟨_, rfl, _, _, rfl, rfl, _, rfl, ite_else ?_ fun e1 leaf => ⟨_, rfl, _, _, rfl, rfl, _, rfl, ite2 (fun e2 => ?_) (fun _ => leaf)⟩⟩
        rotate_left
        · have d0 : 0 < d := by
            have := of_decide_eq_true e2
            omega
          refine ⟨_, rfl, _, rfl, ?_⟩
          have h := hC A' s' N3 H4 (fun x H' => N [some (.ref A.d), some (.int (d : Nat)), some (.int ((m + 1 : Nat) : Int)), some (.int (0 + (i : Int))), some (.int kd)] H') E0 d0 w4 hl4 a3 (by omega) fun H5 A5 s5 x5 w5 r5 g5 => hN _ _ ⟨A5, s5, x04.trans x5, w5, hl4.ext x5, .inr (.inl r5), g5, rfl⟩
          rw [eA] at h
          exact h
        refine ⟨_, rfl, _, _, rfl, rfl, _, rfl, ite_else ?_ fun e1 leaf => ⟨_, rfl, _, _, rfl, rfl, _, rfl, ite2 (fun e2 => ?_) (fun _ => leaf)⟩⟩
        rotate_left
        · have d0 : 0 < d := by
            have := of_decide_eq_true e2
            omega
          refine ⟨_, rfl, _, rfl, ?_⟩
          have h := hL A' s' N3 H4 (fun x H' => N [some (.ref A.d), some (.int (d : Nat)), some (.int ((m + 1 : Nat) : Int)), some (.int (0 + (i : Int))), some (.int kd)] H') E0 d0 w4 hl4 a3 (by omega) fun H5 A5 s5 x5 w5 r5 g5 => hN _ _ ⟨A5, s5, x04.trans x5, w5, hl4.ext x5, .inr (.inr (.inl r5)), g5, rfl⟩
          rw [eA] at h
          exact h
        obtain ⟨hd, dg, ehd⟩ := hl4.get w4
        refine ⟨_, rfl, _, _, rfl, by rw [← eA]; exact dg, fun D nD => ?_⟩
        have sD := same_new (o := .dK []) nD
        have w5 := w4.sm sD
        have hl5 := hl4.ext (.same sD)
        refine ⟨hd, D, _, rfl, rfl, sD _ _ ehd, upd_same, _, rfl, ?_⟩
        by_cases hne : hl = []
        · subst hne
          exact hN _ _ ⟨A', s', x04.trans (.same sD), w5.mono (by omega) (by omega), hl5, .inl rfl, .refl _, rfl⟩
        · have hb : (!(hl.map fun p => ((.inr p.1 : Key), V.int (p.2 : Nat))).isEmpty) = true := by
            cases hl with
            | nil => exact absurd rfl hne
            | cons a r => rfl
          refine ifT hb ?_
          refine ⟨_, rfl, A', s', N3, by rw [eA]; rfl, w5, hl5, hne, a3, by omega, fun H6 A6 s6 x6 w6 r6 g6 => ?_⟩
          exact hN _ _ ⟨A6, s6, (x04.trans (.same sD)).trans x6, w6.mono (by omega) (by omega), hl5.ext x6, .inr (.inr (.inr r6)), g6, rfl⟩
    · rintro σ' H3 ⟨A', s', y3, y4, x3, w3, hl3, st3, g3, rfl⟩
      have im : c * (cT d + 2) ≤ m * (cT d + 2) := Nat.mul_le_mul_right _ cm
      exact q _ _ _ x3 (w3.mono (by omega) (by omega)) (hP _ _ _ ⟨s1, c, r1, by omega, st3⟩) g3
/-- no promise: never called -/
theorem fn_no {f : Addr} {fd : FuncData} {ps : List Str} {k : Nat} : FnOk P w K mg base CX0 k f fd ps (fun _ _ _ _ => False) := ⟨fun _ _ _ _ h => h.elim, fun _ _ _ _ _ _ _ _ _ _ _ _ _ h => h.elim⟩
theorem ok__law_parts (T : Top K mg) (hl : List (Str × Nat)) : ∀ d : Nat, FnOk P w K mg base CX0 (6 + 2 * d) (He.ga K "_law_parts") T.fd__law_parts ["_law_s", "_law_deep", "_law_most"] (sp_parts K hl d)
  | 0 => ok__law_parts_of T hl 0 5 (by omega) (fun _ _ => False) _ _ fn_no fn_no (fun _ _ _ _ _ _ h => absurd h (Nat.lt_irrefl _)) (fun _ _ _ _ _ _ h => absurd h (Nat.lt_irrefl _)) (fun _ _ _ h => h)
  | d + 1 => by
    have F := ok__law_parts T hl d
    have C := ok__law_choice_of T hl d (6 + 2 * d) (by omega) F
    have L := ok__law_loop_of T hl d (6 + 2 * d) (by omega) F
    exact ok__law_parts_of T hl (d + 1) (6 + 2 * d + 1) (by omega) (RParts hl d 2) _ _ C L (fun A s n H Q E _ w1 h1 a1 b1 q => ⟨A, s, n, rfl, w1, h1, a1, b1, q⟩) (fun A s n H Q E _ w1 h1 a1 b1 q => ⟨A, s, n, rfl, w1, h1, a1, b1, q⟩) (fun _ _ _ h => h)
end

section
variable {P : Program} {w : World} {K : PySem.W.Frag} {mg : Str → Option Value} {base : Heap}
def En.ways : En → List Way
  | .fail _ => []
  | .give _ => []
  | .jump w => [w]
  | .choose _ w1 w2 => [w1, w2]
  | .call _ _ w => [w]
/-- a thing of an end that leads somewhere -/
def wayB : PyData → Bool
  | .tuple [_, .tuple _] => true
  | _ => false
theorem wayB_args (as : List Int) : wayB (.tuple (as.map PyData.int)) = false := by
  match as with
  | [] => rfl
  | [_] => rfl
  | [_, _] => rfl
  | _ :: _ :: _ :: _ => rfl
def En.ts : En → List PyData
  | .fail n => [.str "fail", .int n]
  | .give v => [.str "give", .int v]
  | .jump w => [.str "jump", w.d]
  | .choose v w1 w2 => [.str "choose", .int v, w1.d, w2.d]
  | .call h as w => [.str "call", .str h, .tuple (as.map PyData.int), w.d]
theorem En.d_ts (e : En) : e.d = .tuple e.ts := by cases e <;> rfl
theorem En.ways_eq (e : En) : e.ts.filter wayB = e.ways.map Way.d := by
  cases e with
  | fail n => rfl
  | give v => rfl
  | jump w => rfl
  | choose v w1 w2 => rfl
  | call h as w =>
    show ([PyData.str "call", .str h, .tuple (as.map PyData.int), w.d].filter wayB) = [w.d]
    simp only [List.filter, wayB_args]
    rfl
theorem En.ts_ok (e : En) : ∀ d ∈ e.ts, (∃ x, d = .str x) ∨ (∃ n, d = .int n) ∨ (∃ as : List Int, d = .tuple (as.map PyData.int)) ∨ ∃ w : Way, d = w.d := by
  intro d hd
  cases e with
  | fail n =>
    simp only [En.ts, List.mem_cons, List.not_mem_nil, or_false] at hd
    rcases hd with rfl | rfl
    · exact .inl ⟨_, rfl⟩
    · exact .inr (.inl ⟨_, rfl⟩)
  | give n =>
    simp only [En.ts, List.mem_cons, List.not_mem_nil, or_false] at hd
    rcases hd with rfl | rfl
    · exact .inl ⟨_, rfl⟩
    · exact .inr (.inl ⟨_, rfl⟩)
  | jump w =>
    simp only [En.ts, List.mem_cons, List.not_mem_nil, or_false] at hd
    rcases hd with rfl | rfl
    · exact .inl ⟨_, rfl⟩
    · exact .inr (.inr (.inr ⟨_, rfl⟩))
  | choose v w1 w2 =>
    simp only [En.ts, List.mem_cons, List.not_mem_nil, or_false] at hd
    rcases hd with rfl | rfl | rfl | rfl
    · exact .inl ⟨_, rfl⟩
    · exact .inr (.inl ⟨_, rfl⟩)
    · exact .inr (.inr (.inr ⟨_, rfl⟩))
    · exact .inr (.inr (.inr ⟨_, rfl⟩))
  | call h as w =>
    simp only [En.ts, List.mem_cons, List.not_mem_nil, or_false] at hd
    rcases hd with rfl | rfl | rfl | rfl
    · exact .inl ⟨_, rfl⟩
    · exact .inl ⟨_, rfl⟩
    · exact .inr (.inr (.inl ⟨_, rfl⟩))
    · exact .inr (.inr (.inr ⟨_, rfl⟩))
theorem En.ts_len (e : En) : e.ts.length ≤ 4 := by cases e <;> simp [En.ts]
def sp_ways (K : PySem.W.Frag) : Sp := fun vs H Q _ => ∃ (v : V) (e : En), vs = [v] ∧ Dp K H v e.d ∧ ∀ H' L ws, Same H H' → H L = none → H' L = some (.lst ws) → DpAll K H' ws (e.ways.map Way.d) → Q (.ref L) H'
theorem ok__law_ways (T : Top K mg) : FnOk P w K mg base CX0 1 (He.ga K "_law_ways") T.fd__law_ways ["_law_end"] (sp_ways K) := by
  refine T.F__law_ways.ok sc__law_ways (fun vs H Q E h => ?_) (fun cdv A0 outer s0 H vs Q E hr h => ?_)
  · obtain ⟨v, e, rfl, _⟩ := h
    rfl
  · obtain ⟨v, e, rfl, dv, q⟩ := h
    refine ⟨_, PSs.nox (pss_one (ps_ret (pe_lc (own := [("_law_thing", 1)]) (by rfl) sc__law_ways.nd (pi_tup (pv 0)) (blkOk_by (own := [("_law_thing", 1)]) (N := N__law_ways) (sc := defScope s__law_ways) (by decide +kernel)) (fun _ _ _ _ _ => (pg_name (i := 1) sc__law_ways.nd rfl (Or.inl rfl))) (fun _ _ _ _ _ => (pts_one (PW.pt (pw_and (pt_val (pe_callB (call_isiK (K := K) rfl) (by rfl) T.m_isinstance (by decide +kernel) (pa_cons (pv 1) (pa_cons (pe_bltn (v := .ty "tuple") (by rfl) T.m_tuple (by decide +kernel) rfl) pa_nil)))) (pw_and (pt_cmpR op_eq (pe_callB (call_len_seqK (K := K) rfl) (by rfl) T.m_len (by decide +kernel) (pa_cons (pv 1) pa_nil)) pe_int (nomark _)) (pw_and1 (pt_val (pe_callB (call_isiK (K := K) rfl) (by rfl) T.m_isinstance (by decide +kernel) (pa_cons (pe_ix (ix_tupK (K := K) rfl) (pv 1) pe_int (fun _ _ => rfl)) (pa_cons (pe_bltn (v := .ty "tuple") (by rfl) T.m_tuple (by decide +kernel) rfl) pa_nil)))))))))) (fun _ _ _ _ _ => (pv 1))))), ?_⟩
    rw [e.d_ts] at dv
    obtain ⟨p, xs, rfl, hp, dx⟩ := dp_tup dv
    have lx := dpAll_len dx
    have l4 := e.ts_len
    refine ⟨_, rfl, p, rfl, ⟨_, hp⟩, fun D nD => ?_⟩
    refine lc_tup (K := K) (a := p) (xs := xs) (fun i H' => Same H H' ∧ ∃ acc, H' D = some (.lst acc) ∧ DpAll K H acc ((e.ts.take i).filter wayB)) ?_ ?_ ?_ ?_
    · exact ⟨same_new nD, [], upd_same, .nil⟩
    · rintro i H' _ ⟨s', _⟩
      exact sqT_sm s' hp
    · rintro i y H' hy ⟨s', acc, eD, dA⟩
      obtain ⟨d, hd, dy⟩ := dpAll_getV dx hy
      have hi := (List.getElem?_eq_some_iff.mp hd).1
      have tk : (e.ts.take (i + 1)).filter wayB = (e.ts.take i).filter wayB ++ (if wayB d = true then [d] else []) := by
        rw [List.take_succ, hd, List.filter_append]
        congr 1
        by_cases z : wayB d = true <;> simp [z]
      have la := dpAll_len dA
      have lf := List.length_filter_le wayB (e.ts.take i)
      rw [List.length_take] at lf
      rw [tk]
      have no : wayB d = false → Same H H' ∧ ∃ acc, H' D = some (.lst acc) ∧ DpAll K H acc ((e.ts.take i).filter wayB ++ (if wayB d = true then [d] else [])) := fun h => ⟨s', acc, eD, by rw [h, if_neg (by decide), List.append_nil]; exact dA⟩
      refine ⟨rfl, ?_⟩
      rcases e.ts_ok d (List.mem_of_getElem? hd) with ⟨x, rfl⟩ | ⟨n, rfl⟩ | ⟨as, rfl⟩ | ⟨w, rfl⟩
      · have ey := dp_str dy
        subst ey
        exact ⟨_, rfl, _, _, _, _, false, rfl, .ty _, dp_ty (.str x), kit_tup (.str x), _, rfl, no rfl⟩
      · have ey := dp_int dy
        subst ey
        exact ⟨_, rfl, _, _, _, _, false, rfl, .ty _, dp_ty (.int n), kit_tup (.int n), _, rfl, no rfl⟩
      · obtain ⟨pt, xt, rfl, hpt, dxt⟩ := dp_tup dy
        have hpt' := sqT_sm s' hpt
        have lt := dpAll_len dxt
        rw [List.length_map] at lt
        refine ⟨_, rfl, _, _, _, _, true, rfl, .ty _, ty_tup hpt', kit_tup (.tuple []), _, rfl, ?_⟩
        refine ⟨_, rfl, pt, _, rfl, .inr hpt', rfl, _, rfl, ite2 (fun e2 => ?_) (fun _ => no (wayB_args as))⟩
        have e2' : xt.length = 2 := by
          have h := V.int.inj (of_decide_eq_true e2)
          omega
        match as, lt, dxt with
        | [a, b], _, dxt =>
          obtain ⟨v1, r1, rfl, d1, t1⟩ := dpAll_cons dxt
          obtain ⟨v2, r2, rfl, d2, t2⟩ := dpAll_cons t1
          refine ⟨_, rfl, pt, _, 1, _, rfl, rfl, hpt', atI_nat (j := 1) rfl, _, _, _, _, false, rfl, .ty _, dp_ty (dp_sm s' d2), kit_tup (.int b), _, rfl, no rfl⟩
        | [], lt, _ => exact absurd (lt.symm.trans e2') (by decide)
        | [_], lt, _ => exact absurd (lt.symm.trans e2') (by simp)
        | _ :: _ :: _ :: _, lt, _ => rw [e2'] at lt; simp at lt
      · obtain ⟨pt, xt, rfl, hpt, dxt⟩ := dp_tup dy
        have hpt' := sqT_sm s' hpt
        obtain ⟨v1, r1, rfl, d1, t1⟩ := dpAll_cons dxt
        obtain ⟨v2, r2, rfl, d2, t2⟩ := dpAll_cons t1
        have e0 := dpAll_nil t2
        subst e0
        refine ⟨_, rfl, _, _, _, _, true, rfl, .ty _, ty_tup hpt', kit_tup (.tuple []), _, rfl, ?_⟩
        refine ⟨_, rfl, pt, _, rfl, .inr hpt', rfl, _, rfl, ite2 (fun _ => ?_) (fun z => absurd rfl z)⟩
        refine ⟨_, rfl, pt, _, 1, _, rfl, rfl, hpt', atI_nat (j := 1) rfl, _, _, _, _, true, rfl, .ty _, dp_ty (dp_sm s' d2), kit_tup (.tuple []), _, rfl, ?_⟩
        exact ⟨_, rfl, acc, eD, by rw [sizeLine_eq]; omega, same_upd s' nD, _, upd_same, dpAll_app dA (.cons dy .nil)⟩
    · rintro H1 ⟨s1, acc, eD, dA⟩
      rw [lx, List.take_length, En.ways_eq] at dA
      exact q _ _ _ s1 nD eD (dpAll_sm s1 dA)
end

/-! methods within a comprehension -/
section
variable {X : Cx} {K : PySem.W.Frag} {o e : Expr} {es : List Expr} {to : TE} {t : TA} {name : Str} {apos cpos : Pos} {T id : String} {r : V → List V → Hp → VK → Prop}
theorem mt_indexK (h : X.K = K) : MtR X "list.index" (rIndex K) := by subst h; exact mt_index
theorem pe_bmK (h : X.K = K) (pa : PlainAttrs T) (slot : Slot T name id) (hty : typeOf (.builtin id) = pure (.type "method_descriptor")) (hm : MtR X id r) (ho : PE X o to) (ha : PA X (e :: es) t)
    (hbase : attributeBase o name X.env (eval o X.env) = eval o X.env := by rfl)
    (hfew : ((backTo cpos (starEach (e :: es) X.env)).all (fun x => !x.1) && (backToKw cpos (keywordEach [] X.env)).all (fun x => x.1.isSome)
      && decide ((e :: es).length + ([] : List Keyword).length + (if ([] : List Keyword).isEmpty then 0 else 1) < 30)) = true := by rfl)
    (hline : (apos.endLine == cpos.line) = true := by rfl) (hs : starEach (e :: es) X.env = (false, eval e X.env) :: starEach es X.env := by rfl) (hplain : (backTo cpos (starEach es X.env)).any (·.1) = false := by rfl) :
    PE X (.Call (.Attribute o name apos) (e :: es) [] cpos) (tBM K T r to t) := by
  subst h
  exact pe_bm pa slot hty hm ho ha hbase hfew hline hs hplain
end
section
variable {P : Program} {w : World} {K : PySem.W.Frag} {mg : Str → Option Value} {base : Heap}
def blkD (b : Blk) : PyData := .tuple [.tuple (b.ps.map pairD), .tuple (b.rs.map GRow.d), b.en.d]
theorem blkD_nl (b : Blk) : nLd (blkD b) = true := by simp [blkD, nLd, nLs, pairs_nl, rows_nl, b.en.nl]
theorem blks_nl (l : List Blk) : nLs (l.map blkD) = true := noLs_all fun x hx => by
  obtain ⟨b, _, rfl⟩ := List.mem_map.mp hx
  exact blkD_nl b
/-- ways renumbered -/
def Way.turn (f : Nat → Nat) (w : Way) : Way := ⟨f w.t, w.as⟩
def En.turn (f : Nat → Nat) : En → En
  | .fail n => .fail n
  | .give v => .give v
  | .jump w => .jump (w.turn f)
  | .choose v a b => .choose v (a.turn f) (b.turn f)
  | .call h as w => .call h as (w.turn f)
def En.pre : En → List PyData
  | .fail n => [.str "fail", .int n]
  | .give v => [.str "give", .int v]
  | .jump _ => [.str "jump"]
  | .choose v _ _ => [.str "choose", .int v]
  | .call h as _ => [.str "call", .str h, .tuple (as.map PyData.int)]
theorem En.ts_pre (e : En) : e.ts = e.pre ++ e.ways.map Way.d := by cases e <;> rfl
theorem En.turn_ts (e : En) (f : Nat → Nat) : (e.turn f).ts = e.pre ++ (e.ways.map (Way.turn f)).map Way.d := by cases e <;> rfl
theorem En.pre_ne (e : En) : 0 < e.pre.length := by cases e <;> simp [En.pre]
def Blk.turn (f : Nat → Nat) (b : Blk) : Blk := { b with en := b.en.turn f }
def blkAt (bls : List Blk) (i : Nat) : Blk := bls.getD i ⟨[], [], .fail 0⟩
/-- the graph that is told: its blocks by an order -/
def turned (bls : List Blk) (order : List Nat) : List Blk := order.map fun i => (blkAt bls i).turn fun t => order.idxOf t
structure OrdOk (bls : List Blk) (order : List Nat) : Prop where
  lt : ∀ i ∈ order, i < bls.length
  cl : ∀ i ∈ order, ∀ w ∈ (blkAt bls i).en.ways, w.t ∈ order
def sp_turned (K : PySem.W.Frag) : Sp := fun vs H Q _ => ∃ (B O : Addr) (bv : List V) (bls : List Blk) (order : List Nat), vs = [.ref B, .ref O] ∧ H B = some (.lst bv) ∧ DpAll K H bv (bls.map blkD) ∧ H O = some (.lst (order.map fun i => V.int (i : Nat))) ∧ OrdOk bls order ∧ order.length ≤ 6000 ∧
  ∀ H' v, Same H H' → Dp K H' v (.tuple ((turned bls order).map blkD)) → Q v H'
theorem idx_first : ∀ {l : List Nat} {m t : Nat}, m < l.idxOf t → l[m]? ≠ some t
  | [], m, t, h => by simp
  | a :: l, m, t, h => by
    rw [List.idxOf_cons] at h
    by_cases z : a = t
    · rw [beq_iff_eq.mpr z] at h
      exact absurd h (Nat.not_lt_zero _)
    · rw [beq_eq_false_iff_ne.mpr z] at h
      cases m with
      | zero => exact fun y => z (Option.some.inj y)
      | succ m => exact fun y => idx_first (Nat.lt_of_succ_lt_succ h) y
theorem idx_facts {order : List Nat} {t : Nat} (h : t ∈ order) : (order.map fun i => V.int (i : Nat))[order.idxOf t]? = some (.int (t : Nat)) ∧ ∀ (m : Nat) (z : V), m < order.idxOf t → (order.map fun i => V.int (i : Nat))[m]? = some z → eqV z (.int (t : Nat)) = false := by
  have hl := List.idxOf_lt_length_iff.mpr h
  refine ⟨by rw [List.getElem?_map, List.getElem?_eq_getElem hl, List.getElem_idxOf hl]; rfl, fun m z hm hz => ?_⟩
  rw [List.getElem?_map] at hz
  cases e : order[m]? with
  | none => rw [e] at hz; cases hz
  | some y =>
    rw [e] at hz
    cases hz
    have hne : y ≠ t := fun x => idx_first hm (x ▸ e)
    show (((y : Nat) : Int) == ((t : Nat) : Int)) = false
    exact beq_eq_false_iff_ne.mpr fun x => hne (by omega)
theorem ok__law_turned (T : Top K mg) : FnOk P w K mg base CX0 2 (He.ga K "_law_turned") T.fd__law_turned ["_law_blocks", "_law_order"] (sp_turned K) := by
  have G__law_ways := ok__law_ways (P := P) (w := w) (base := base) T
  refine T.F__law_turned.ok sc__law_turned (fun vs H Q E h => ?_) (fun cdv A0 outer s0 H vs Q E hr h => ?_)
  · obtain ⟨B, O, bv, bls, order, rfl, _⟩ := h
    rfl
  · obtain ⟨B, O, bv, bls, order, rfl, eB, dB, eO, ok, lo, q⟩ := h
    refine ⟨_, PSs.nox (pss_cons (ps_set (i := 2) sc__law_turned.nd rfl (Or.inl rfl) (pe_lst pa_nil))
        (pss_cons (ps_for PassesOwn.never (by rfl) (pi_list (pv 1)) (pg_name (i := 3) sc__law_turned.nd rfl (Or.inl rfl)) (pss_cons (ps_asg (pe_ix ix_list (pv 0) (pv 3) (fun _ _ => rfl)) (pg_tup (n := 3) (by rfl) (pgs_cons (pg_name (i := 4) sc__law_turned.nd rfl (Or.inl rfl)) (pgs_cons (pg_name (i := 5) sc__law_turned.nd rfl (Or.inl rfl)) (pgs_cons (pg_name (i := 6) sc__law_turned.nd rfl (Or.inl rfl)) pgs_nil)))))
        (pss_cons (ps_set (i := 7) sc__law_turned.nd rfl (Or.inl rfl) (pe_call G__law_ways (hr.mono (by omega)) (by rfl) T.g__law_ways T.F__law_ways.kp T.b__law_ways .nil pass0 (pa_cons (pv 6) pa_nil)))
        (pss_cons (ps_setLc (i := 8) (own := [("_law_way", 9)]) (by rfl) sc__law_turned.nd rfl rfl (sw_true rfl rfl rfl (by decide +kernel)) (pi_list (pv 7)) (blkOk_by (own := [("_law_way", 9)]) (N := N__law_turned) (sc := defScope s__law_turned) (by decide +kernel)) (fun _ _ _ _ _ => (pg_name (i := 9) sc__law_turned.nd rfl (Or.inl rfl))) (fun _ _ _ _ _ => pts_nil) (fun _ _ _ _ _ => (pe_tup (pa_cons (pe_bmK (K := K) rfl PySem.F.plainAttrs_list PySem.F.slot_list_index PySem.F.type_list_index (mt_indexK (K := K) rfl) (pv 1) (pa_cons (pe_ix (ix_tupK (K := K) rfl) (pv 9) pe_int (fun _ _ => rfl)) pa_nil)) (pa_cons (pe_ix (ix_tupK (K := K) rfl) (pv 9) pe_int (fun _ _ => rfl)) pa_nil)))))
        (pss_one (ps_expr (pe_bm PySem.F.plainAttrs_list PySem.F.slot_list_append PySem.F.type_list_append mt_append (pv 2) (pa_cons (pe_tup (pa_cons (pv 4) (pa_cons (pv 5) (pa_cons (pe_op op_catA (pe_slice sl_tupA (pv 6) po_none (po_some (pe_op op_sub (pe_callB call_len_seq (by rfl) T.m_len (by decide +kernel) (pa_cons (pv 6) pa_nil)) (pe_callB call_len_seq (by rfl) T.m_len (by decide +kernel) (pa_cons (pv 7) pa_nil))))) (pe_callTy call_tuple_of (by rfl) T.m_tuple (by decide +kernel) (pa_cons (pv 8) pa_nil))) pa_nil)))) pa_nil))))))))
        (pss_one (ps_ret (pe_callTy call_tuple_of (by rfl) T.m_tuple (by decide +kernel) (pa_cons (pv 2) pa_nil)))))), ?_⟩
    refine ⟨Nat.zero_le _, fun G nG => ?_⟩
    have sG := same_new (o := .lst []) nG
    refine ⟨_, rfl, O, rfl, ⟨_, .of (sG _ _ eO)⟩, ?_⟩
    refine for_list (K := K) (a := O) (xs := order.map fun i => V.int (i : Nat)) (fun i σ' H' => ∃ (acc : List V) (x3 x4 x5 x6 x7 x8 x9 : Option V), Same H H' ∧ H' G = some (.lst acc) ∧ DpAll K H' acc ((turned bls order |>.take i).map blkD) ∧ σ' = [some (.ref B), some (.ref O), some (.ref G), x3, x4, x5, x6, x7, x8, x9]) ?_ ?_ ?_ ?_
    · exact ⟨[], none, none, none, none, none, none, none, sG, upd_same, .nil, rfl⟩
    · rintro i σ' H' _ ⟨acc, y3, y4, y5, y6, y7, y8, y9, s', _, _, rfl⟩
      exact .of (s' _ _ eO)
    · rintro i y σ' H1 hy ⟨acc, y3, y4, y5, y6, y7, y8, y9, s1, eG, dG, rfl⟩
      rw [List.getElem?_map] at hy
      cases hk : order[i]? with
      | none => rw [hk] at hy; cases hy
      | some k =>
        rw [hk] at hy
        cases hy
        have mk := List.mem_of_getElem? hk
        have hkl := ok.lt k mk
        have lb := dpAll_len dB
        rw [List.length_map] at lb
        obtain ⟨bk, hbk, dbk⟩ := dpAll_get (dpAll_sm s1 dB) (i := k) (d := blkD (blkAt bls k)) (by rw [List.getElem?_map, List.getElem?_eq_getElem hkl]; unfold blkAt; simp [List.getD, hkl])
        obtain ⟨pb, xb, rfl, hpb, dpb⟩ := dp_tup dbk
        obtain ⟨v1, r1, rfl, d1, t1⟩ := dpAll_cons dpb
        obtain ⟨v2, r2, rfl, d2, t2⟩ := dpAll_cons t1
        obtain ⟨v3, r3, rfl, d3, t3⟩ := dpAll_cons t2
        have e0 := dpAll_nil t3
        subst e0
        refine ⟨_, rfl, _, rfl, B, _, _, _, rfl, rfl, .of (s1 _ _ eB), atI_nat hbk, pb, _, rfl, hpb, rfl, ?_⟩
        refine ⟨_, _, rfl, _, _, rfl, _, _, rfl, rfl, ?_⟩
        dsimp only [gName, List.set]
        generalize hen : (blkAt bls k).en = en at d3
        refine ⟨_, rfl, v3, en, rfl, d3, fun H2 W wv s2 nW eW dW => ?_⟩
        refine ⟨_, rfl, W, rfl, ⟨_, .of eW⟩, fun D nD => ?_⟩
        have lw := dpAll_len dW
        rw [List.length_map] at lw
        have lw4 : en.ways.length ≤ 2 := by cases en <;> simp [En.ways]
        have s12 := s1.trans s2
        refine lc_list (K := K) (a := W) (xs := wv) (fun j H' => Same H2 H' ∧ ∃ acc, H' D = some (.lst acc) ∧ DpAll K H' acc (((en.ways.take j).map (Way.turn fun t => order.idxOf t)).map Way.d)) ?_ ?_ ?_ ?_
        · exact ⟨same_new nD, [], upd_same, .nil⟩
        · rintro j H' _ ⟨s', _⟩
          exact .of (s' _ _ eW)
        · rintro j y H3 hy ⟨s3, acc3, eD, dD⟩
          obtain ⟨dd, hdd, dy⟩ := dpAll_getV dW hy
          rw [List.getElem?_map] at hdd
          cases hw : en.ways[j]? with
          | none => rw [hw] at hdd; cases hdd
          | some w1 =>
            rw [hw] at hdd
            cases hdd
            have hin := ok.cl k mk w1 (by rw [hen]; exact List.mem_of_getElem? hw)
            obtain ⟨i1, i2⟩ := idx_facts hin
            obtain ⟨pw, xw, rfl, hpw, dxw⟩ := dp_tup dy
            obtain ⟨u1, q1, rfl, e1, f1⟩ := dpAll_cons dxw
            obtain ⟨u2, q2, rfl, e2, f2⟩ := dpAll_cons f1
            have e0 := dpAll_nil f2
            subst e0
            have e1' := dp_int e1
            subst e1'
            have hpw3 := sqT_sm s3 hpw
            have eO3 := (s12.trans s3) _ _ eO
            have tk : (en.ways.take (j + 1)).map (Way.turn fun t => order.idxOf t) = (en.ways.take j).map (Way.turn fun t => order.idxOf t) ++ [w1.turn fun t => order.idxOf t] := by rw [List.take_succ, hw, List.map_append]; rfl
            have la := dpAll_len dD
            rw [List.length_map, List.length_map, List.length_take] at la
            have flat : (order.map fun i => V.int (i : Nat)).all flatV = true := by rw [List.all_map]; exact List.all_eq_true.mpr fun _ _ => rfl
            refine ⟨rfl, _, rfl, .inl ⟨rfl, _, .of eO3⟩, _, rfl, pw, _, 0, _, rfl, rfl, hpw3, atI_nat (j := 0) rfl, O, _, _, order.idxOf w1.t, _, rfl, rfl, .of eO3, rfl, flat, i1, (by show (((w1.t : Nat) : Int) == ((w1.t : Nat) : Int)) = true; exact beq_self_eq_true _), i2, ?_⟩
            refine ⟨_, rfl, pw, _, 1, _, rfl, rfl, hpw3, atI_nat (j := 1) rfl, (by show 2 ≤ sizeLine; rw [sizeLine_eq]; decide), fun tp ntp => ?_⟩
            have s4 := same_new (o := .tup [.int (order.idxOf w1.t : Nat), u2]) ntp
            have nD3 : H2 D = none := nD
            refine ⟨acc3, s4 _ _ eD, by rw [sizeLine_eq]; omega, same_upd (s3.trans s4) nD3, _, upd_same, ?_⟩
            rw [tk, List.map_append]
            refine dpAll_mine (dpAll_app (dpAll_sm s4 dD) (.cons (.tup (.inl (.of upd_same)) (.cons (.int _) (.cons (dp_sm (s3.trans s4) e2) .nil))) .nil)) (noLs_all fun z hz => ?_) (s4 _ _ eD) trivial
            rcases List.mem_append.mp hz with hz | hz
            · obtain ⟨a, _, rfl⟩ := List.mem_map.mp hz
              exact a.nl
            · rw [List.mem_singleton.mp hz]
              exact Way.nl _
        · rintro H3 ⟨s3, acc3, eD, dD⟩
          rw [lw, List.take_length] at dD
          have s13 := s12.trans s3
          have sH13 := s2.trans s3
          have eG3 := sH13 _ _ eG
          have eW3 := s3 _ _ eW
          rw [en.d_ts] at d3
          obtain ⟨pe, xe, rfl, hpe, dxe⟩ := dp_tup d3
          have hpe3 := sqT_sm sH13 hpe
          have lxe := dpAll_len dxe
          rw [en.ts_pre, List.length_append, List.length_map] at lxe
          have l4 := en.ts_len
          rw [en.ts_pre, List.length_append, List.length_map] at l4
          dsimp only [gName, List.set]
          refine ⟨_, rfl, .inl ⟨rfl, _, .of eG3⟩, _, rfl, _, rfl, _, rfl, _, rfl, pe, _, rfl, .inr hpe3, _, rfl, W, _, rfl, .inl (.of eW3), _, _, rfl, rfl, _, rfl, slA_by hpe3 fun t1 H4 s4 h1 => ?_⟩
          have eD4 := s4 _ _ eD
          refine ⟨_, rfl, D, acc3, rfl, .inl ⟨.of eD4, fun t2 nt2 => ?_⟩⟩
          have s5 := same_new (o := .tup acc3) nt2
          have lA := dpAll_len dD
          rw [List.length_map, List.length_map] at lA
          have hcut : cutV xe none (some ((xe.length : Int) - (wv.length : Int))) = xe.take en.pre.length := by
            have e1 : (xe.length : Int) - (wv.length : Int) = ((en.pre.length : Nat) : Int) := by omega
            rw [e1]
            show (xe.drop 0).take (HT.sIx xe.length xe.length (some ((en.pre.length : Nat) : Int)) - 0) = _
            rw [HT.sIx_nat, Nat.min_eq_left (by omega)]
            rfl
          rw [hcut] at h1
          have lc1 : (xe.take en.pre.length).length ≤ 4 := by rw [List.length_take]; omega
          refine catA_by (sqT_sm s5 h1) (.inl (.of upd_same)) (by rw [sizeLine_eq]; omega) fun t3 H6 s6 h3 => ?_
          have dpre : DpAll K H1 (xe.take en.pre.length) en.pre := by
            have := dpAll_take en.pre.length dxe
            rw [en.ts_pre, List.take_left'  rfl] at this
            exact this
          have s36 := (s4.trans s5).trans s6
          have sH16 := sH13.trans s36
          have dT : Dp K H6 (.ref t3) (en.turn fun t => order.idxOf t).d := by
            rw [En.d_ts, En.turn_ts]
            exact .tup h3 (dpAll_app (dpAll_sm sH16 dpre) (dpAll_sm s36 dD))
          refine ⟨(by show 3 ≤ sizeLine; rw [sizeLine_eq]; decide), fun t4 nt4 => ?_⟩
          have s7 := same_new (o := .tup [v1, v2, .ref t3]) nt4
          have sH17 := sH16.trans s7
          have eG7 := sH17 _ _ eG
          have lG := dpAll_len dG
          have hil := (List.getElem?_eq_some_iff.mp hk).1
          rw [List.length_map, List.length_take] at lG
          refine ⟨G, acc, _, rfl, rfl, eG7, by rw [sizeLine_eq, lG]; have := Nat.min_le_left i (turned bls order).length; omega, ?_⟩
          refine ⟨acc ++ [.ref t4], _, _, _, _, _, _, _, same_upd (s1.trans sH17) nG, upd_same, ?_, rfl⟩
          have tkk : ((turned bls order).take (i + 1)).map blkD = ((turned bls order).take i).map blkD ++ [blkD ((blkAt bls k).turn fun t => order.idxOf t)] := by
            have : (turned bls order)[i]? = some ((blkAt bls k).turn fun t => order.idxOf t) := by unfold turned; rw [List.getElem?_map, hk]; rfl
            rw [List.take_succ, this, List.map_append]
            rfl
          rw [tkk]
          refine dpAll_mine (dpAll_app (dpAll_sm sH17 dG) (.cons (.tup (.inl (.of upd_same)) (.cons (dp_sm sH17 d1) (.cons (dp_sm sH17 d2) (.cons ?_ .nil)))) .nil)) ?_ eG7 trivial
          · show Dp K _ (.ref t3) ((blkAt bls k).en.turn fun t => order.idxOf t).d
            rw [hen]
            exact dp_sm s7 dT
          · rw [← tkk]
            exact blks_nl _
    · rintro σ' H1 ⟨acc, y3, y4, y5, y6, y7, y8, y9, s1, eG, dG, rfl⟩
      rw [List.length_map] at dG
      have lt : (turned bls order).take order.length = turned bls order := List.take_of_length_le (by unfold turned; rw [List.length_map]; exact Nat.le_refl _)
      rw [lt] at dG
      refine ⟨_, rfl, G, _, rfl, .inl ⟨.of eG, fun tp ntp => ?_⟩⟩
      have s2 := same_new (o := .tup acc) ntp
      exact q _ _ (s1.trans s2) (.tup (.inl (.of upd_same)) (dpAll_sm s2 dG))
end

/-! the blocks that can be come to: plain -/
theorem pigeon : ∀ (n : Nat) (l : List Nat), l.Nodup → (∀ x ∈ l, x < n) → l.length ≤ n
  | 0, [], _, _ => Nat.le_refl _
  | 0, x :: r, _, h => absurd (h x (List.mem_cons_self ..)) (Nat.not_lt_zero _)
  | n + 1, l, nd, h => by
    have h1 : (l.erase n).length ≤ n := pigeon n (l.erase n) (nd.erase n) fun x hx => by
      have := (List.Nodup.mem_erase_iff nd).mp hx
      have h2 := h x this.2
      have h3 := this.1
      omega
    have h4 : l.length ≤ (l.erase n).length + 1 := by
      by_cases hm : n ∈ l
      · rw [List.length_erase_of_mem hm]
        omega
      · rw [List.erase_of_not_mem hm]
        omega
    omega
inductive Reach (bls : List Blk) : Nat → Prop
  | zero : Reach bls 0
  | step {i : Nat} {w : Way} : Reach bls i → w ∈ (blkAt bls i).en.ways → Reach bls w.t
structure Seen (bls : List Blk) (order : List Nat) : Prop where
  ok : OrdOk bls order
  nd : order.Nodup
  hd : order[0]? = some 0
  re : ∀ t ∈ order, Reach bls t
/-- found so far: the first k are gone through -/
structure FInv (bls : List Blk) (k : Nat) (found order : List Nat) : Prop where
  nd : found.Nodup
  on : order.Nodup
  mem : ∀ x, x ∈ order ↔ x ∈ found
  hd : order[0]? = some 0
  lt : ∀ x ∈ found, x < bls.length
  re : ∀ x ∈ found, Reach bls x
  cl : ∀ j x, j < k → found[j]? = some x → ∀ w ∈ (blkAt bls x).en.ways, w.t ∈ found
theorem FInv.start {bls : List Blk} (h : 0 < bls.length) : FInv bls 0 [0] [0] := by
  refine ⟨by simp, by simp, fun x => Iff.rfl, rfl, fun x hx => ?_, fun x hx => ?_, fun j x h => absurd h (Nat.not_lt_zero _)⟩
  · rw [List.mem_singleton.mp hx]
    exact h
  · rw [List.mem_singleton.mp hx]
    exact .zero
theorem FInv.add {bls : List Blk} {k p t : Nat} {found order : List Nat} (h : FInv bls k found order) (hn : t ∉ found) (p0 : 0 < p) (ht : t < bls.length) (hr : Reach bls t) (hk : k ≤ found.length) : FInv bls k (found ++ [t]) (order.take p ++ [t] ++ order.drop p) := by
  have perm : (order.take p ++ [t] ++ order.drop p).Perm (t :: order) := by
    rw [List.append_assoc]
    refine List.perm_middle.trans ?_
    show (t :: (order.take p ++ order.drop p)).Perm (t :: order)
    rw [List.take_append_drop]
  refine ⟨?_, ?_, fun x => ?_, ?_, fun x hx => ?_, fun x hx => ?_, fun j x hj hx w hw => ?_⟩
  · rw [List.nodup_append]
    refine ⟨h.nd, by simp, fun a ha b hb => ?_⟩
    rw [List.mem_singleton.mp hb]
    exact fun z => hn (z ▸ ha)
  · rw [perm.nodup_iff]
    exact List.nodup_cons.mpr ⟨fun z => hn ((h.mem t).mp z), h.on⟩
  · rw [perm.mem_iff, List.mem_cons, List.mem_append, List.mem_singleton, h.mem]
    exact Or.comm
  · cases order with
    | nil => exact absurd h.hd (by simp)
    | cons a r =>
      obtain ⟨q, rfl⟩ : ∃ q, p = q + 1 := ⟨p - 1, by omega⟩
      exact h.hd
  · rcases List.mem_append.mp hx with hx | hx
    · exact h.lt x hx
    · rw [List.mem_singleton.mp hx]
      exact ht
  · rcases List.mem_append.mp hx with hx | hx
    · exact h.re x hx
    · rw [List.mem_singleton.mp hx]
      exact hr
  · rw [List.getElem?_append_left (by omega)] at hx
    exact List.mem_append_left _ (h.cl j x hj hx w hw)
theorem FInv.seen {bls : List Blk} {found order : List Nat} (h : FInv bls bls.length found order) : Seen bls order := by
  have hl := pigeon bls.length found h.nd h.lt
  refine ⟨⟨fun i hi => h.lt i ((h.mem i).mp hi), fun i hi w hw => ?_⟩, h.on, h.hd, fun t ht => h.re t ((h.mem t).mp ht)⟩
  obtain ⟨j, hj⟩ := List.getElem?_of_mem ((h.mem i).mp hi)
  have := (List.getElem?_eq_some_iff.mp hj).1
  exact (h.mem _).mpr (h.cl j i (by omega) hj w hw)

section
variable {P : Program} {w : World} {K : PySem.W.Frag} {mg : Str → Option Value} {base : Heap}
theorem in_nats {t : Nat} {l : List Nat} : inV (.int (t : Nat)) (l.map fun i => V.int (i : Nat)) = decide (t ∈ l) := by
  unfold inV
  rw [List.any_map]
  by_cases h : t ∈ l
  · rw [decide_eq_true h]
    refine List.any_eq_true.mpr ⟨t, h, ?_⟩
    show (((t : Nat) : Int) == ((t : Nat) : Int)) = true
    exact beq_self_eq_true _
  · rw [decide_eq_false h]
    refine List.any_eq_false.mpr fun x hx e => h ?_
    have e2 : (((x : Nat) : Int) == ((t : Nat) : Int)) = true := e
    have e3 := eq_of_beq e2
    have : x = t := by omega
    exact this ▸ hx
def sp_seen (K : PySem.W.Frag) : Sp := fun vs H Q _ => ∃ (B : Addr) (A : WA) (bv : List V) (bls : List Blk) (s : DSt) (n : Nat), vs = [.ref B, .ref A.d] ∧ WS K H A s n ∧ ¬ A.own B ∧ H B = some (.lst bv) ∧ DpAll K H bv (bls.map blkD) ∧ 0 < bls.length ∧ bls.length ≤ 6000 ∧ (∀ i w, i < bls.length → w ∈ (blkAt bls i).en.ways → w.t < bls.length) ∧
  ∀ H' v order, Ext H A H' A → WS K H' A s n → Seen bls order → Dp K H' v (.tuple ((turned bls order).map blkD)) → Q v H'
theorem ok__law_seen (T : Top K mg) : FnOk P w K mg base CX0 3 (He.ga K "_law_seen") T.fd__law_seen ["_law_blocks", "_law_s"] (sp_seen K) := by
  have G__law_ways := ok__law_ways (P := P) (w := w) (base := base) T
  have G__law_next := ok__law_next (P := P) (w := w) (base := base) T
  have G__law_turned := ok__law_turned (P := P) (w := w) (base := base) T
  refine T.F__law_seen.ok sc__law_seen (fun vs H Q E h => ?_) (fun cdv A0 outer s0 H vs Q E hr h => ?_)
  · obtain ⟨B, A, bv, bls, s, n, rfl, _⟩ := h
    rfl
  · obtain ⟨B, A, bv, bls, s, n, rfl, ws, oB, eB, dB, b0, b6, tg, q⟩ := h
    refine ⟨_, PSs.nox (pss_cons (ps_set (i := 2) sc__law_seen.nd rfl (Or.inl rfl) (pe_lst (pa_cons pe_int pa_nil)))
        (pss_cons (ps_set (i := 3) sc__law_seen.nd rfl (Or.inl rfl) (pe_lst (pa_cons pe_int pa_nil)))
        (pss_cons (ps_for PassesOwn.never (by rfl) (pi_range1 (by rfl) T.m_range (pa_cons (pe_callB call_len_seq (by rfl) T.m_len (by decide +kernel) (pa_cons (pv 0) pa_nil)) pa_nil)) (pg_name (i := 4) sc__law_seen.nd rfl (Or.inl rfl)) (pss_one (ps_if (pt_cmpR op_lt (pv 4) (pe_callB call_len_seq (by rfl) T.m_len (by decide +kernel) (pa_cons (pv 2) pa_nil)) (nomark _)) (pss_one (ps_for PassesOwn.never (by rfl) (pi_list (pe_call G__law_ways (hr.mono (by omega)) (by rfl) T.g__law_ways T.F__law_ways.kp T.b__law_ways .nil pass0 (pa_cons (pe_ix ix_seq (pe_ix ix_list (pv 0) (pe_ix ix_list (pv 2) (pv 4) (fun _ _ => rfl)) (fun _ _ => rfl)) pe_int (fun _ _ => rfl)) pa_nil))) (pg_name (i := 5) sc__law_seen.nd rfl (Or.inl rfl)) (pss_one (ps_if (pt_cmpR op_notIn_seq (pe_ix ix_tup (pv 5) pe_int (fun _ _ => rfl)) (pv 2) (by rfl)) (pss_cons (ps_expr (pe_bm PySem.F.plainAttrs_list PySem.F.slot_list_append PySem.F.type_list_append mt_append (pv 2) (pa_cons (pe_ix ix_tup (pv 5) pe_int (fun _ _ => rfl)) pa_nil)))
        (pss_one (ps_expr (pe_bm PySem.F.plainAttrs_list PySem.F.slot_list_insert PySem.F.type_list_insert mt_insert (pv 3) (pa_cons (pe_op op_add pe_int (pe_call G__law_next (hr.mono (by omega)) (by rfl) T.g__law_next T.F__law_next.kp T.b__law_next .nil pass0 (pa_cons (pv 1) (pa_cons (pe_callB call_len_seq (by rfl) T.m_len (by decide +kernel) (pa_cons (pv 3) pa_nil)) pa_nil)))) (pa_cons (pe_ix ix_tup (pv 5) pe_int (fun _ _ => rfl)) pa_nil)))))) pss_nil)))) pss_nil)))
        (pss_one (ps_ret (pe_call G__law_turned (hr.mono (by omega)) (by rfl) T.g__law_turned T.F__law_turned.kp T.b__law_turned .nil pass0 (pa_cons (pv 0) (pa_cons (pv 3) pa_nil)))))))), ?_⟩
    have lb := dpAll_len dB
    rw [List.length_map] at lb
    refine ⟨(by show 1 ≤ sizeLine; rw [sizeLine_eq]; decide), fun F nF => ?_⟩
    have sF := same_new (o := .lst [.int 0]) nF
    have w1 := ws.sm sF
    have oF := ws.off nF
    refine ⟨(by show 1 ≤ sizeLine; rw [sizeLine_eq]; decide), fun O nO => ?_⟩
    have sO := same_new (o := .lst [.int 0]) nO
    have w2 := w1.sm sO
    have oO := w1.off nO
    have hF : H F = none := nF
    have hO : H O = none := sF.free nO
    have nFO : O ≠ F := fun z => by
      rw [z, upd_same] at nO
      cases nO
    refine ⟨_, rfl, B, _, rfl, .inl (.of (sO _ _ (sF _ _ eB))), _, rfl, by omega, by omega, ?_⟩
    refine for_range (lo := 0) (n := bv.length) (fun i σ' H' => ∃ (found order : List Nat) (x4 x5 : Option V), Ext H A H' A ∧ WS K H' A s n ∧ H' F = some (.lst (found.map fun i => V.int (i : Nat))) ∧ H' O = some (.lst (order.map fun i => V.int (i : Nat))) ∧ FInv bls i found order ∧
      σ' = [some (.ref B), some (.ref A.d), some (.ref F), some (.ref O), x4, x5]) ?_ ?_ ?_
    · exact ⟨[0], [0], none, none, (Ext.same sF).trans (.same sO), w2, sO _ _ upd_same, upd_same, .start b0, rfl⟩
    · rintro i σ' H1 hi ⟨found, order, y4, y5, x1, w3, eF, eO, fi, rfl⟩
      have fl := pigeon bls.length found fi.nd fi.lt
      refine ⟨_, rfl, _, rfl, F, _, rfl, .inl (.of eF), _, _, rfl, rfl, _, rfl, ite2 (fun e => ?_) (fun e => ?_)⟩
      · have e1 : i < found.length := by
          have := of_decide_eq_true e
          rw [List.length_map] at this
          omega
        obtain ⟨x, hx⟩ : ∃ x, found[i]? = some x := ⟨_, List.getElem?_eq_getElem e1⟩
        have hxl := fi.lt x (List.mem_of_getElem? hx)
        obtain ⟨bk, hbk, dbk⟩ := dpAll_get (x1.dpAll (blks_nl _) dB) (i := x) (d := blkD (blkAt bls x)) (by rw [List.getElem?_map, List.getElem?_eq_getElem hxl]; unfold blkAt; simp [List.getD, hxl])
        obtain ⟨pb, xb, rfl, hpb, dpb⟩ := dp_tup dbk
        obtain ⟨v1, r1, rfl, d1, t1⟩ := dpAll_cons dpb
        obtain ⟨v2, r2, rfl, d2, t2⟩ := dpAll_cons t1
        obtain ⟨v3, r3, rfl, d3, t3⟩ := dpAll_cons t2
        have e0 := dpAll_nil t3
        subst e0
        have eB1 := x1.keep eB oB
        have hx2 : atI (found.map fun i => V.int (i : Nat)) (0 + (i : Int)) = some (.int (x : Nat)) := by
          rw [Int.zero_add]
          exact atI_nat (by rw [List.getElem?_map, hx]; rfl)
        refine ⟨_, rfl, _, rfl, _, rfl, F, _, _, _, rfl, rfl, .of eF, hx2, B, _, _, _, rfl, rfl, .of eB1, atI_nat hbk, .inr (.inl ⟨pb, _, 2, _, rfl, rfl, hpb, atI_nat (j := 2) rfl, ?_⟩)⟩
        generalize hen : (blkAt bls x).en = en at d3
        refine ⟨v3, en, rfl, d3, fun H2 W wv s2 nW eW dW => ?_⟩
        have lw := dpAll_len dW
        rw [List.length_map] at lw
        have lw4 : en.ways.length ≤ 2 := by cases en <;> simp [En.ways]
        have oW : ¬ A.own W := w3.off nW
        have nWF : W ≠ F := fun z => by rw [z, eF] at nW; cases nW
        have nWO : W ≠ O := fun z => by rw [z, eO] at nW; cases nW
        refine ⟨W, rfl, ⟨_, .of eW⟩, ?_⟩
        refine for_list (K := K) (a := W) (xs := wv) (fun j σ' H' => ∃ (f2 o2 ext : List Nat) (x5 : Option V), Ext H A H' A ∧ Kp (fun b => A.own b ∨ b = F ∨ b = O) H2 H' ∧ WS K H' A s n ∧ H' W = some (.lst wv) ∧ H' F = some (.lst (f2.map fun i => V.int (i : Nat))) ∧ H' O = some (.lst (o2.map fun i => V.int (i : Nat))) ∧ FInv bls i f2 o2 ∧ f2 = found ++ ext ∧
          (∀ m wy, m < j → en.ways[m]? = some wy → wy.t ∈ f2) ∧ σ' = [some (.ref B), some (.ref A.d), some (.ref F), some (.ref O), some (.int (0 + (i : Int))), x5]) ?_ ?_ ?_ ?_
        · exact ⟨found, order, [], _, x1.trans (.same s2), Kp.refl, w3.sm s2, eW, s2 _ _ eF, s2 _ _ eO, fi, (List.append_nil _).symm, fun m wy h => absurd h (Nat.not_lt_zero _), rfl⟩
        · rintro j σ' H' _ ⟨f2, o2, ext, z5, _, _, _, e', _⟩
          exact .of e'
        · rintro j y σ' H3 hy ⟨f2, o2, ext, z5, x3, x13, w4, eW3, eF3, eO3, fi3, hext, hway, rfl⟩
          obtain ⟨dd, hdd, dy⟩ := dpAll_getV dW hy
          rw [List.getElem?_map] at hdd
          cases hw : en.ways[j]? with
          | none => rw [hw] at hdd; cases hdd
          | some w1 =>
            rw [hw] at hdd
            cases hdd
            have dy3 := dp_kp x13 _ _ (Way.nl _) dy
            obtain ⟨pw, xw, rfl, hpw, dxw⟩ := dp_tup dy3
            obtain ⟨u1, q1, rfl, e1', f1⟩ := dpAll_cons dxw
            have e1'' := dp_int e1'
            subst e1''
            have wmem : w1 ∈ (blkAt bls x).en.ways := by rw [hen]; exact List.mem_of_getElem? hw
            have f2l := pigeon bls.length f2 fi3.nd fi3.lt
            have o2l := pigeon bls.length o2 fi3.on fun z hz => fi3.lt z ((fi3.mem z).mp hz)
            have flat : (f2.map fun i => V.int (i : Nat)).all flatV = true := by rw [List.all_map]; exact List.all_eq_true.mpr fun _ _ => rfl
            have inq : inV (.int (w1.t : Nat)) (f2.map fun i => V.int (i : Nat)) = decide (w1.t ∈ f2) := in_nats
            refine ⟨_, rfl, pw, _, 0, _, rfl, rfl, hpw, atI_nat (j := 0) rfl, _, rfl, F, _, rfl, .inl (.of eF3), rfl, flat, _, rfl, ?_⟩
            rw [inq]
            by_cases hin : w1.t ∈ f2
            · refine ifNF hin ?_
              refine ⟨f2, o2, ext, _, x3, x13, w4, eW3, eF3, eO3, fi3, hext, fun m wy hm hwy => ?_, rfl⟩
              by_cases hmj : m < j
              · exact hway m wy hmj hwy
              · have : m = j := by omega
                subst this
                rw [hw] at hwy
                cases hwy
                exact hin
            · refine ifNT hin ?_
              have htl : w1.t < bls.length := tg x w1 hxl wmem
              have hre := Reach.step (fi3.re x (by rw [hext]; exact List.mem_append_left _ (List.mem_of_getElem? hx))) wmem
              refine ⟨_, rfl, .inl ⟨rfl, _, .of eF3⟩, _, rfl, pw, _, 0, _, rfl, rfl, hpw, atI_nat (j := 0) rfl, F, _, _, rfl, rfl, eF3, by rw [List.length_map, sizeLine_eq]; omega, ?_⟩
              have eF5 : upd H3 F (.lst (f2.map (fun i => V.int (i : Nat)) ++ [.int (w1.t : Nat)])) F = some (.lst ((f2 ++ [w1.t]).map fun i => V.int (i : Nat))) := by rw [upd_same, List.map_append]; rfl
              have w5 := w4.mine (u := .lst (f2.map (fun i => V.int (i : Nat)) ++ [.int (w1.t : Nat)])) eF3 trivial oF
              have eO5 : upd H3 F (.lst (f2.map (fun i => V.int (i : Nat)) ++ [.int (w1.t : Nat)])) O = some (.lst (o2.map fun i => V.int (i : Nat))) := (upd_ne nFO).trans eO3
              have eW5 : upd H3 F (.lst (f2.map (fun i => V.int (i : Nat)) ++ [.int (w1.t : Nat)])) W = some (.lst wv) := (upd_ne nWF).trans eW3
              have x5 := x3.mine (u := .lst (f2.map (fun i => V.int (i : Nat)) ++ [.int (w1.t : Nat)])) hF
              have hpw5 : SqT K (upd H3 F (.lst (f2.map (fun i => V.int (i : Nat)) ++ [.int (w1.t : Nat)]))) pw _ := sqT_kp (S := fun b => b = F) (Kp.upd eF3 trivial rfl) hpw
              have o2p : 0 < o2.length := by
                cases o2 with
                | nil => exact absurd fi3.hd (by simp)
                | cons a r => exact Nat.succ_pos _
              have cnt : (((o2.map fun i => V.int (i : Nat)).length : Nat) : Int) = (o2.length : Nat) := by rw [List.length_map]
              refine ⟨_, rfl, .inl ⟨rfl, _, .of eO5⟩, _, rfl, _, rfl, O, _, rfl, .inl (.of eO5), A, s, n, (o2.length : Nat), by rw [cnt]; rfl, w5, by omega, by omega, fun H6 r6 x6 w6 a6 b6 => ?_⟩
              obtain ⟨c, rfl⟩ := Int.eq_ofNat_of_zero_le a6
              have eF6 := x6.keep eF5 oF
              have eO6 := x6.keep eO5 oO
              have eW6 := x6.keep eW5 oW
              have hpw6 := sqT_kp x6.k hpw5
              refine ⟨_, _, rfl, rfl, _, rfl, pw, _, 0, _, rfl, rfl, hpw6, atI_nat (j := 0) rfl, O, _, _, _, rfl, rfl, eO6, by rw [List.length_map, sizeLine_eq]; omega, by omega, by omega, ?_⟩
              have ep : (1 + (c : Int)).toNat = c + 1 := by omega
              have eins : ((o2.map fun i => V.int (i : Nat)).take (1 + (c : Int)).toNat ++ [V.int (w1.t : Nat)] ++ (o2.map fun i => V.int (i : Nat)).drop (1 + (c : Int)).toNat) = (o2.take (c + 1) ++ [w1.t] ++ o2.drop (c + 1)).map fun i => V.int (i : Nat) := by
                rw [ep, List.map_append, List.map_append, List.map_take, List.map_drop]
                rfl
              rw [eins]
              have nOF : F ≠ O := nFO.symm
              refine ⟨f2 ++ [w1.t], o2.take (c + 1) ++ [w1.t] ++ o2.drop (c + 1), ext ++ [w1.t], _, (x5.trans x6).mine hO, ?_, w6.mine eO6 trivial oO, (upd_ne nWO).trans eW6, (upd_ne nOF).trans eF6, upd_same, fi3.add hin (Nat.succ_pos _) htl hre (by rw [hext, List.length_append]; omega), by rw [hext, List.append_assoc], fun m wy hm hwy => ?_, rfl⟩
              · refine ((x13.trans (Kp.upd eF3 trivial (.inr (.inl rfl)))).trans (x6.k.mono fun b hb => .inl hb)).trans (Kp.upd eO6 trivial (.inr (.inr rfl)))
              · by_cases hmj : m < j
                · exact List.mem_append_left _ (hway m wy hmj hwy)
                · have : m = j := by omega
                  subst this
                  rw [hw] at hwy
                  cases hwy
                  exact List.mem_append_right _ (List.mem_singleton.mpr rfl)
        · rintro σ' H3 ⟨f2, o2, ext, z5, x3, x13, w4, eW3, eF3, eO3, fi3, hext, hway, rfl⟩
          refine ⟨f2, o2, _, _, x3, w4, eF3, eO3, ⟨fi3.nd, fi3.on, fi3.mem, fi3.hd, fi3.lt, fi3.re, fun j y hj hy wy hwy => ?_⟩, rfl⟩
          by_cases hji : j < i
          · exact fi3.cl j y hji hy wy hwy
          · have ej : j = i := by omega
            subst ej
            rw [hext, List.getElem?_append_left e1, hx] at hy
            cases hy
            rw [hen] at hwy
            obtain ⟨m, hm⟩ := List.getElem?_of_mem hwy
            exact hway m wy (by rw [lw]; exact (List.getElem?_eq_some_iff.mp hm).1) hm
      · refine ⟨found, order, _, _, x1, w3, eF, eO, ⟨fi.nd, fi.on, fi.mem, fi.hd, fi.lt, fi.re, fun j x hj hx => ?_⟩, rfl⟩
        have e1 : ¬ i < found.length := fun z => e (decide_eq_true (by rw [List.length_map]; omega))
        have := (List.getElem?_eq_some_iff.mp hx).1
        exact fi.cl j x (by omega) hx
    · rintro σ' H1 ⟨found, order, y4, y5, x1, w3, eF, eO, fi, rfl⟩
      rw [lb] at fi
      have sn := fi.seen
      have l6 := pigeon bls.length order sn.nd sn.ok.lt
      refine ⟨_, rfl, _, rfl, B, O, bv, bls, order, rfl, x1.keep eB oB, x1.dpAll (blks_nl _) dB, eO, sn.ok, by omega, fun H2 v s2 dv => ?_⟩
      exact q _ _ order (x1.trans (.same s2)) (w3.sm s2) sn dv
end

/-! what is drawn has its forms: plain -/
def Smv (a : Int) : Prop := 0 ≤ a ∧ a < 9973
structure RowF (r : GRow) : Prop where
  w : r.w ∈ words14
  l : r.as.length ≤ 3
  a : ∀ a ∈ r.as, In32 a
  v : -1 ≤ r.v ∧ r.v < 9973
structure WayF (N : Nat) (w : Way) : Prop where
  t : w.t < N
  a : ∀ a ∈ w.as, Smv a
  l : w.as.length ≤ 10
def EnF (N : Nat) : En → Prop
  | .fail n => 0 ≤ n ∧ n < 100
  | .give v => Smv v
  | .jump w => WayF N w
  | .choose v a b => Smv v ∧ WayF N a ∧ WayF N b
  | .call _ as w => (∀ a ∈ as, Smv a) ∧ as.length ≤ 10 ∧ WayF N w
theorem WayF.mono {N M : Nat} {w : Way} (h : WayF N w) (l : N ≤ M) : WayF M w := ⟨Nat.lt_of_lt_of_le h.t l, h.a, h.l⟩
theorem EnF.mono {N M : Nat} : ∀ {e : En}, EnF N e → N ≤ M → EnF M e
  | .fail _, h, _ => h
  | .give _, h, _ => h
  | .jump _, h, l => WayF.mono h l
  | .choose _ _ _, h, l => ⟨h.1, h.2.1.mono l, h.2.2.mono l⟩
  | .call _ _ _, h, l => ⟨h.1, h.2.1, h.2.2.mono l⟩
theorem EnF.way {N : Nat} {e : En} (h : EnF N e) : ∀ w ∈ e.ways, WayF N w := by
  intro w hw
  cases e with
  | fail n => cases hw
  | give n => cases hw
  | jump x => rw [List.mem_singleton.mp hw]; exact h
  | choose v a b =>
    rcases List.mem_cons.mp hw with rfl | hw
    · exact h.2.1
    · rw [List.mem_singleton.mp hw]; exact h.2.2
  | call g as x => rw [List.mem_singleton.mp hw]; exact h.2.2
structure BlkF (N : Nat) (b : Blk) : Prop where
  p : sz8 b.ps
  r : ∀ r ∈ b.rs, RowF r
  e : EnF N b.en
theorem BlkF.mono {N M : Nat} {b : Blk} (h : BlkF N b) (l : N ≤ M) : BlkF M b := ⟨h.p, h.r, h.e.mono l⟩
structure StF (s : DSt) : Prop where
  z : sz8 s.sc
  b : ∀ b ∈ s.bls, BlkF s.bls.length b
theorem kept_sm {b : Bool} {sc : List (Int × Int)} {r : Int} (z : sz8 sc) (h : r ∈ kept b sc) : Smv r := by
  obtain ⟨k, hk, _⟩ := kept_mem h
  exact (z _ hk).2
theorem Smv.i32 {a : Int} (h : Smv a) : In32 a := by
  obtain ⟨h1, h2⟩ := h
  unfold In32
  omega
theorem bearW14 {w : Str} (h : w ∈ bearW) : w ∈ words14 := by
  simp only [bearW, List.mem_cons, List.not_mem_nil, or_false] at h
  simp only [words14, List.mem_cons, List.not_mem_nil, or_false]
  rcases h with h | h | h | h | h | h | h | h | h | h | h | h <;> simp [h]
theorem RowOk.form {sc : List (Int × Int)} {w : Str} {as : List Int} {k v : Int} (h : RowOk sc w as k) (z : sz8 sc) (hv : Smv v) : RowF ⟨v, w, as⟩ := by
  have v1 : -1 ≤ v ∧ v < 9973 := ⟨by have := hv.1; omega, hv.2⟩
  refine ⟨?_, h.len, ?_, v1⟩
  · cases h with
    | num x _ => simp [words14]
    | fresh x _ _ => simp [words14]
    | no a _ => simp [words14]
    | op w a b hw _ _ =>
      simp only [wds7', List.mem_cons, List.not_mem_nil, or_false] at hw
      simp only [words14, List.mem_cons, List.not_mem_nil, or_false]
      rcases hw with h | h | h | h | h | h | h <;> simp [h]
    | get h a _ _ => simp [words14]
    | put h a x z _ _ _ _ => simp [words14]
  · intro a ha
    cases h with
    | num x hx => rw [List.mem_singleton.mp ha]; exact hx
    | fresh x h1 h2 => rw [List.mem_singleton.mp ha]; unfold In32; omega
    | no b hb => rw [List.mem_singleton.mp ha]; exact (kept_sm z hb).i32
    | op w b c _ hb hc =>
      simp only [List.mem_cons, List.not_mem_nil, or_false] at ha
      rcases ha with rfl | rfl
      · exact (kept_sm z hb).i32
      · exact (kept_sm z hc).i32
    | get h b hh hb =>
      simp only [List.mem_cons, List.not_mem_nil, or_false] at ha
      rcases ha with rfl | rfl
      · exact (kept_sm z hh).i32
      · exact (kept_sm z hb).i32
    | put h b x z2 hh hb hx _ =>
      simp only [List.mem_cons, List.not_mem_nil, or_false] at ha
      rcases ha with rfl | rfl | rfl
      · exact (kept_sm z hh).i32
      · exact (kept_sm z hb).i32
      · exact (kept_sm z hx).i32
theorem StF.mod {s : DSt} {i : Nat} {f : Blk → Blk} (h : StF s) (hf : ∀ b, BlkF s.bls.length b → BlkF s.bls.length (f b)) : StF { s with bls := modB f i s.bls } := by
  refine ⟨h.z, fun b hb => ?_⟩
  show BlkF (modB f i s.bls).length b
  rw [modB_len]
  rcases modB_mem hb with hb | ⟨c, hc, rfl⟩
  · exact h.b b hb
  · exact hf c (h.b c (List.mem_of_getElem? hc))
theorem StF.row {s : DSt} {i : Nat} {r : GRow} (h : StF s) (hr : RowF r) : StF { s with bls := modB (addRow r) i s.bls } := h.mod fun b hb => ⟨hb.p, fun x hx => by
  rcases List.mem_append.mp hx with hx | hx
  · exact hb.r x hx
  · rw [List.mem_singleton.mp hx]
    exact hr, hb.e⟩
theorem StF.last {s : DSt} {i : Nat} {r : GRow} (h : StF s) (hr : RowF r) : StF (s.last i r) := h.mod fun b hb => ⟨hb.p, fun x hx => by
  rcases List.mem_append.mp hx with hx | hx
  · exact hb.r x (List.dropLast_subset _ hx)
  · rw [List.mem_singleton.mp hx]
    exact hr, hb.e⟩
theorem StF.setEnd {s : DSt} {i : Nat} {e : En} (h : StF s) (he : EnF s.bls.length e) : StF (s.setEnd i e) := h.mod fun b hb => ⟨hb.p, hb.r, he⟩
theorem StF.bear {s : DSt} {w : Str} {as : List Int} {k : Int} (h : StF s) (r : RowOk s.sc w as k) : StF (s.bear w as k) := by
  have h1 := h.row (i := s.at_) (r.form h.z s.nv_b)
  refine ⟨fun p hp => ?_, h1.b⟩
  rcases List.mem_append.mp hp with hp | hp
  · exact h.z p hp
  · rw [List.mem_singleton.mp hp]
    exact ⟨r.size h.z, s.nv_b⟩
theorem StF.rbear {wd : Str} {s s' : DSt} {v : Int} (h : StF s) (r : RBear wd s s' v) : StF s' ∧ Smv v := by
  obtain ⟨w, as, k, ok, _, _, rfl, rfl⟩ := r
  exact ⟨h.bear ok, s.nv_b⟩
theorem StF.rrow {s s' : DSt} (h : StF s) (r : RRow s s') : StF s' := by
  rcases r with rfl | ⟨a, ha, rfl⟩ | ⟨wd, v, _, r⟩
  · exact h
  · refine h.row ⟨by simp [words14], by simp, fun x hx => ?_, by show (-1 : Int) ≤ -1 ∧ (-1 : Int) < 9973; decide⟩
    rw [List.mem_singleton.mp hx]
    exact (kept_sm h.z ha).i32
  · exact (h.rbear r).1
theorem steps_keep {I : DSt → Prop} {R : DSt → DSt → Prop} (f : ∀ s s', I s → R s s' → I s') : ∀ {k : Nat} {s s' : DSt}, I s → Steps R k s s' → I s'
  | 0, s, s', h, e => by rw [show s' = s from e]; exact h
  | k + 1, s, s', h, ⟨s1, h1, h2⟩ => f _ _ (steps_keep f h h1) h2
theorem StF.rrows {m : Nat} {s s' : DSt} (h : StF s) (r : RRows m s s') : StF s' := by
  obtain ⟨k, _, r⟩ := r
  exact steps_keep (I := StF) (R := RRow) (fun _ _ h r => StF.rrow h r) h r
theorem StF.rsure {s s' : DSt} {v : Int} (h : StF s) (r : RSure s s' v) : StF s' ∧ Smv v := by
  rcases r with ⟨rfl, hv⟩ | ⟨_, r⟩
  · exact ⟨h, kept_sm h.z hv⟩
  · exact h.rbear r
theorem StF.rarg {z : Int} {s s' : DSt} {a : Int} (h : StF s) (z8 : 0 ≤ z ∧ z ≤ 8) (r : RArg z s s' a) : StF s' ∧ Smv a := by
  rcases r with ⟨rfl, ha⟩ | ⟨_, rfl, rfl⟩
  · exact ⟨h, (h.z _ ha).2⟩
  · refine ⟨h.bear ?_, s.nv_b⟩
    by_cases h0 : 0 < z
    · rw [if_pos h0]
      exact .fresh z (by omega) z8.2
    · rw [if_neg h0]
      have : z = 0 := by omega
      subst this
      exact .num 0 (by unfold In32; decide)
theorem StF.rargs {zs : List Int} {s s' : DSt} {as : List Int} (h : StF s) (z8 : ∀ z ∈ zs, 0 ≤ z ∧ z ≤ 8) (r : RArgs zs s s' as) : StF s' ∧ ∀ a ∈ as, Smv a := by
  induction r with
  | nil s => exact ⟨h, fun a ha => nomatch ha⟩
  | snoc r1 r2 ih =>
    obtain ⟨h1, h2⟩ := ih h fun z hz => z8 z (List.mem_append_left _ hz)
    obtain ⟨h3, h4⟩ := h1.rarg (z8 _ (List.mem_append_right _ (List.mem_singleton.mpr rfl))) r2
    refine ⟨h3, fun a ha => ?_⟩
    rcases List.mem_append.mp ha with ha | ha
    · exact h2 a ha
    · rw [List.mem_singleton.mp ha]
      exact h4
theorem StF.block {s : DSt} {zs : List Int} (h : StF s) (z8 : ∀ z ∈ zs, 0 ≤ z ∧ z ≤ 8) : StF (s.block zs) := by
  refine ⟨h.z, fun b hb => ?_⟩
  rw [block_len]
  rcases List.mem_append.mp hb with hb | hb
  · exact (h.b b hb).mono (Nat.le_succ _)
  · rw [List.mem_singleton.mp hb]
    exact ⟨psOf_sz z8, (fun r hr => nomatch hr), by show (0 : Int) ≤ 0 ∧ (0 : Int) < 100; decide⟩
theorem StF.stand {s : DSt} {i : Nat} {ksc : List (Int × Int)} (h : StF s) (z : sz8 ksc) : StF (s.stand i ksc) := by
  refine ⟨fun p hp => ?_, h.b⟩
  rcases List.mem_append.mp hp with hp | hp
  · exact z p hp
  · unfold psAt at hp
    split at hp
    · rename_i b hb
      exact (h.b b (List.mem_of_getElem? hb)).p p hp
    · cases hp

/-! the parts keep the forms -/
def KeepsF (P : DSt → DSt → Prop) : Prop := ∀ s s', StF s → P s s' → StF s' ∧ s.bls.length ≤ s'.bls.length
theorem StF.side {P : DSt → DSt → Prop} (hP : KeepsF P) {kept : List (Int × Int)} {b join : Nat} {zs : List Int} {leave k : Int} {s s' : DSt} (h : StF s) (hz : sz8 kept) (z8 : ∀ z ∈ zs, 0 ≤ z ∧ z ≤ 8) (zl : zs.length ≤ 3) (hj : join < s.bls.length)
    (r : RSide P kept b join zs leave k s s') : StF s' ∧ s.bls.length ≤ s'.bls.length := by
  obtain ⟨s1, s2, as, p, ra, e⟩ := r
  obtain ⟨h1, l1⟩ := hP _ _ (h.stand (i := b) hz) p
  have l1' : s.bls.length ≤ s1.bls.length := l1
  obtain ⟨h2, a2⟩ := h1.rargs z8 ra
  have l2 := ra.at.2
  rcases e with ⟨_, rfl⟩ | ⟨_, s3, one, n, r3, n0, n1, e⟩
  · refine ⟨h2.setEnd ⟨by show join < s2.bls.length; omega, a2, by show as.length ≤ 10; rw [ra.len]; omega⟩, by rw [setEnd_len]; omega⟩
  · obtain ⟨h3, o3⟩ := h2.rsure r3
    have l3 := r3.at.2
    rcases e with rfl | rfl
    · exact ⟨h3.setEnd ⟨n0, n1⟩, by rw [setEnd_len]; omega⟩
    · exact ⟨h3.setEnd o3, by rw [setEnd_len]; omega⟩
theorem nil8 : ∀ z ∈ ([] : List Int), 0 ≤ z ∧ z ≤ 8 := fun _ h => nomatch h
theorem StF.choice {P : DSt → DSt → Prop} (hP : KeepsF P) {s s' : DSt} (h : StF s) (r : RChoice P s s') : StF s' ∧ s.bls.length ≤ s'.bls.length := by
  obtain ⟨s1, one, zs, leave, s4, s5, rs, hz, r1, r2, rfl⟩ := r
  obtain ⟨h1, o1⟩ := h.rsure rs
  have l1 := rs.at.2
  have z8 := (hz.b h1.z).1
  have zl := (hz.b h1.z).2
  have l3 : (((s1.block []).block []).block zs).bls.length = s1.bls.length + 3 := by rw [block_len, block_len, block_len]
  have h3 := ((h1.block nil8).block nil8).block z8
  have h4 := h3.setEnd (i := s1.at_) (e := .choose one ⟨s1.bls.length, []⟩ ⟨s1.bls.length + 1, []⟩) ⟨o1, ⟨by show s1.bls.length < _; omega, (fun a ha => nomatch ha), Nat.zero_le _⟩, ⟨by show s1.bls.length + 1 < _; omega, (fun a ha => nomatch ha), Nat.zero_le _⟩⟩
  obtain ⟨h5, l5⟩ := h4.side hP h1.z z8 zl (by rw [setEnd_len]; omega) r1
  rw [setEnd_len] at l5
  obtain ⟨h6, l6⟩ := h5.side hP h1.z z8 zl (by omega) r2
  exact ⟨h6.stand h1.z, by show s.bls.length ≤ s5.bls.length; omega⟩
theorem StF.bound {head : Nat} {counter : Int} {s s' : DSt} {one one' : Int} (h : StF s) (ho : Smv one) (hc : Smv counter) (r : RBound head counter s s' one one') : StF s' ∧ Smv one' ∧ s'.bls.length = s.bls.length := by
  rcases r with ⟨rfl, rfl⟩ | ⟨s1, s2, bound, r1, r2, rfl⟩
  · exact ⟨h, ho, rfl⟩
  · obtain ⟨h1, b1⟩ := h.rbear r1
    obtain ⟨h2, b2⟩ := h1.rbear r2
    refine ⟨h2.last ⟨by simp [words14], by simp, fun x hx => ?_, by have := b2.1; show -1 ≤ one'; omega, b2.2⟩, b2, ?_⟩
    · simp only [List.mem_cons, List.not_mem_nil, or_false] at hx
      rcases hx with rfl | rfl
      · exact hc.i32
      · exact b1.i32
    · rw [last_len, r2.at.2, r1.at.2]
theorem nvAt_sm (s : DSt) (j : Nat) : Smv (nvAt s j) := ⟨Int.emod_nonneg _ (by decide), Int.emod_lt_of_pos _ (by decide)⟩
theorem StF.loop {P : DSt → DSt → Prop} (hP : KeepsF P) {s s' : DSt} (h : StF s) (r : RLoop P s s') : StF s' ∧ s.bls.length ≤ s'.bls.length := by
  obtain ⟨zs, s1, as, s4, s5, one, s6, one', s9, s10, step, r, s12, later, s14, as2, s15, back, hz, r1, r4, r5, r6, r9, r10, r0, rl2, r12, r14, r15, rfl⟩ := r
  have z8 := (hz.b h.z).1
  have zl := (hz.b h.z).2
  have z80 : ∀ z ∈ (0 :: zs), 0 ≤ z ∧ z ≤ 8 := fun z hz => by
    rcases List.mem_cons.mp hz with rfl | hz
    · decide
    · exact z8 z hz
  obtain ⟨h1, a1⟩ := h.rargs z80 r1
  have l1 := r1.at.2
  have lb : (s1.block (0 :: zs)).bls.length = s1.bls.length + 1 := block_len ..
  have h2 := (h1.block z80).setEnd (i := s1.at_) (e := .jump ⟨s1.bls.length, as⟩) ⟨by show s1.bls.length < _; omega, a1, by show as.length ≤ 10; rw [r1.len, List.length_cons]; omega⟩
  have h3 := h2.stand (i := s1.bls.length) h1.z
  have h4 := h3.rrows r4
  have l4 : s4.bls.length = s1.bls.length + 1 := by
    rw [r4.at.2]
    show (DSt.setEnd _ _ _).bls.length = _
    rw [setEnd_len, lb]
  obtain ⟨h5, o5⟩ := h4.rsure r5
  have l5 := r5.at.2
  obtain ⟨h6, o6, l6⟩ := h5.bound o5 (nvAt_sm s1 0) r6
  have lb2 : ((s6.block []).block []).bls.length = s6.bls.length + 2 := by rw [block_len, block_len]
  have h7 := ((h6.block nil8).block nil8).setEnd (i := s1.bls.length) (e := .choose one' ⟨s6.bls.length, []⟩ ⟨s6.bls.length + 1, []⟩) ⟨o6, ⟨by show s6.bls.length < _; omega, (fun a ha => nomatch ha), Nat.zero_le _⟩, ⟨by show s6.bls.length + 1 < _; omega, (fun a ha => nomatch ha), Nat.zero_le _⟩⟩
  obtain ⟨h9, l9⟩ := hP _ _ (h7.stand (i := s6.bls.length) h6.z) r9
  have l9' : s6.bls.length + 2 ≤ s9.bls.length := by
    have : (DSt.setEnd ((s6.block []).block []) s1.bls.length (.choose one' ⟨s6.bls.length, []⟩ ⟨s6.bls.length + 1, []⟩)).bls.length ≤ s9.bls.length := l9
    rw [setEnd_len, lb2] at this
    exact this
  obtain ⟨h10, o10⟩ := h9.rbear r10
  have l10 := r10.at.2
  have h11 := h10.last (i := s10.at_) (r := ⟨step, "number", [1 + r]⟩) ⟨by simp [words14], by simp, fun x hx => by
    rw [List.mem_singleton.mp hx]
    unfold In32
    omega, by have := o10.1; show -1 ≤ step; omega, o10.2⟩
  obtain ⟨h12, o12⟩ := h11.rbear r12
  have l12 := r12.at.2
  rw [last_len] at l12
  have h13 := h12.last (i := s12.at_) (r := ⟨later, "add", [nvAt s1 0, step]⟩) ⟨by simp [words14], by simp, fun x hx => by
    simp only [List.mem_cons, List.not_mem_nil, or_false] at hx
    rcases hx with rfl | rfl
    · exact (nvAt_sm s1 0).i32
    · exact o10.i32, by have := o12.1; show -1 ≤ later; omega, o12.2⟩
  obtain ⟨h14, a14⟩ := h13.rargs z8 r14
  have l14 := r14.at.2
  rw [last_len] at l14
  have l14b := r14.len
  obtain ⟨h14', a14', lb⟩ : StF s15 ∧ (∀ a ∈ back, Smv a) ∧ back.length ≤ 9 := by
    rcases r15 with ⟨rfl, rfl⟩ | ⟨zt, _, rfl, rfl⟩
    · exact ⟨h14, a14, by omega⟩
    · have tl : ∀ {s : DSt} {j : Nat}, StF s → StF (s.tell (nvAt s1 j)) := fun {s j} h => h.row ⟨by simp [words14], by simp, fun x hx => by rw [List.mem_singleton.mp hx]; exact (nvAt_sm s1 j).i32, by show (-1 : Int) ≤ -1; decide, by show (-1 : Int) < 9973; decide⟩
      refine ⟨tl (tl h14), fun a ha => ?_, by rw [List.length_cons, List.length_cons, List.length_drop]; omega⟩
      rcases List.mem_cons.mp ha with rfl | ha
      · exact nvAt_sm ..
      rcases List.mem_cons.mp ha with rfl | ha
      · exact nvAt_sm ..
      · exact a14 a (List.mem_of_mem_drop ha)
  have l15 := r15.at.2
  have h15 := h14'.setEnd (i := s15.at_) (e := .jump ⟨s1.bls.length, later :: back⟩) ⟨by show s1.bls.length < _; omega, (fun a ha => by
    rcases List.mem_cons.mp ha with rfl | ha
    · exact o12
    · exact a14' a ha), by show (later :: back).length ≤ 10; rw [List.length_cons]; omega⟩
  refine ⟨h15.stand h6.z, ?_⟩
  show s.bls.length ≤ (DSt.setEnd _ _ _).bls.length
  rw [setEnd_len]
  omega
theorem StF.call {hl : List (Str × Nat)} (hm : ∀ p ∈ hl, p.2 ≤ 4) {s s' : DSt} (h : StF s) (r : RCall hl s s') : StF s' ∧ s.bls.length ≤ s'.bls.length := by
  obtain ⟨g, m, s1, as, zs, s2, more, hg, r1, hz, r2, rfl⟩ := r
  have m4 := hm _ hg
  obtain ⟨h1, a1⟩ := h.rargs (fun z hz => by rw [List.eq_of_mem_replicate hz]; decide) r1
  have z8 := (hz.b h1.z).1
  have zl := (hz.b h1.z).2
  obtain ⟨h2, a2⟩ := h1.rargs z8 r2
  have l1 := r1.at.2
  have l2 := r2.at.2
  have la := r1.len
  rw [List.length_replicate] at la
  have lb : (s2.block (0 :: zs)).bls.length = s2.bls.length + 1 := block_len ..
  have h3 := (h2.block (zs := 0 :: zs) fun z hz => by
    rcases List.mem_cons.mp hz with rfl | hz
    · decide
    · exact z8 z hz).setEnd (i := s2.at_) (e := .call g as ⟨s2.bls.length, more⟩) ⟨a1, by omega, ⟨by show s2.bls.length < _; omega, a2, by show more.length ≤ 10; rw [r2.len]; omega⟩⟩
  refine ⟨h3.stand h2.z, ?_⟩
  show s.bls.length ≤ (DSt.setEnd _ _ _).bls.length
  rw [setEnd_len]
  omega
theorem keeps_turn {P : DSt → DSt → Prop} (hP : KeepsF P) {hl : List (Str × Nat)} (hm : ∀ p ∈ hl, p.2 ≤ 4) : KeepsF (RTurn P hl) := by
  rintro s s' h ⟨s1, r, rr⟩
  have : StF s1 ∧ s.bls.length ≤ s1.bls.length := by
    rcases r with rfl | r | r | r
    · exact ⟨h, Nat.le_refl _⟩
    · exact h.choice hP r
    · exact h.loop hP r
    · exact h.call hm r
  exact ⟨this.1.rrows rr, by rw [rr.at.2]; exact this.2⟩
theorem keeps_steps {R : DSt → DSt → Prop} (hR : KeepsF R) : ∀ k, KeepsF (Steps R k)
  | 0, s, s', h, e => by rw [show s' = s from e]; exact ⟨h, Nat.le_refl _⟩
  | k + 1, s, s', h, ⟨s1, h1, h2⟩ => by
    obtain ⟨a, b⟩ := keeps_steps hR k _ _ h h1
    obtain ⟨c, d⟩ := hR _ _ a h2
    exact ⟨c, Nat.le_trans b d⟩
theorem keeps_parts {hl : List (Str × Nat)} (hm : ∀ p ∈ hl, p.2 ≤ 4) : ∀ d m, KeepsF (RParts hl d m)
  | 0, m, s, s', h, ⟨s1, k, r, _, st⟩ => by
    obtain ⟨a, b⟩ := keeps_steps (keeps_turn (P := fun _ _ => False) (fun _ _ _ z => z.elim) hm) k _ _ (h.rrows r) st
    exact ⟨a, by rw [r.at.2] at b; exact b⟩
  | d + 1, m, s, s', h, ⟨s1, k, r, _, st⟩ => by
    obtain ⟨a, b⟩ := keeps_steps (keeps_turn (keeps_parts hm d 2) hm) k _ _ (h.rrows r) st
    exact ⟨a, by rw [r.at.2] at b; exact b⟩

section
variable {P : Program} {w : World} {K : PySem.W.Frag} {mg : Str → Option Value} {base : Heap}
theorem WS.low {H : Hp} {A : WA} {s : DSt} {n k : Nat} (h : WS K H A s n) (b : Bds s k) (l : k ≤ 6000) : WS K H A s k := ⟨h.dk, h.lb, h.ls, h.bl, h.nd, b, l, h.ot, h.tl⟩
/-- from heap to heap, the helpers told anew -/
structure ExtG (H : Hp) (A : WA) (H' : Hp) (A' : WA) : Prop where
  k : Kp A.own H H'
  o : ∀ b, A'.own b → A.own b ∨ H b = none
  d : A'.d = A.d
theorem Ext.g {H H' : Hp} {A A' : WA} (x : Ext H A H' A') : ExtG H A H' A' := ⟨x.k, x.o, x.d⟩
theorem ExtG.ext {H H1 H2 : Hp} {A A1 A2 : WA} (a : ExtG H A H1 A1) (b : Ext H1 A1 H2 A2) : ExtG H A H2 A2 := by
  refine ⟨fun c o e k => ?_, fun c hc => ?_, b.d.trans a.d⟩
  · refine b.k c o (a.k c o e k) fun z => ?_
    rcases a.o c z with y | y
    · exact k y
    · rw [y] at e
      cases e
  · rcases b.o c hc with y | y
    · exact a.o c y
    · by_cases z : A.own c
      · exact .inl z
      · exact .inr (kp_none a.k y z)
theorem ExtG.keep {H H' : Hp} {A A' : WA} (e : ExtG H A H' A') {b : Addr} {o : HO} (h : H b = some o) (n : ¬ A.own b) : H' b = some o := e.k b o h fun z => absurd z n
theorem ExtG.off {H H' : Hp} {A A' : WA} (e : ExtG H A H' A') {b : Addr} {o : HO} (h : H b = some o) (n : ¬ A.own b) : ¬ A'.own b := fun z => by
  rcases e.o b z with y | y
  · exact n y
  · rw [y] at h
    cases h
theorem ExtG.trans {H H1 H2 : Hp} {A A1 A2 : WA} (a : ExtG H A H1 A1) (b : ExtG H1 A1 H2 A2) : ExtG H A H2 A2 := by
  refine ⟨fun c o e k => ?_, fun c hc => ?_, b.d.trans a.d⟩
  · refine b.k c o (a.k c o e k) fun z => ?_
    rcases a.o c z with y | y
    · exact k y
    · rw [y] at e
      cases e
  · rcases b.o c hc with y | y
    · exact a.o c y
    · by_cases z : A.own c
      · exact .inl z
      · exact .inr (kp_none a.k y z)
def Tl (t : List (Key × V)) : Prop := t = [] ∨ ∃ h, t = [(.inr "helpers", .ref h)]
theorem tl_put {t : List (Key × V)} {h : Addr} (k : Tl t) : putK t (.inr "helpers") (.ref h) = [(.inr "helpers", .ref h)] := by
  rcases k with rfl | ⟨g, rfl⟩
  · rfl
  · exact putK_hd (by simp)
theorem oth_h {k : Str} {h : Addr} (hk : k ∈ keys8) : oth k [(.inr "helpers", .ref h)] := fun z => by
  rw [List.map_cons, List.map_nil, List.mem_singleton] at z
  have e := Sum.inr.inj z
  rw [e] at hk
  exact absurd hk (by decide +kernel)
def DSt.start (s : DSt) : DSt := { s with many := 0, bls := [] }
/-- a graph's blocks, as drawn -/
def RGraph (hl : List (Str × Nat)) (inputs d : Nat) (s : DSt) (bls : List Blk) : Prop := ∃ sP sE one, RParts hl d 4 ((s.start.block (List.replicate inputs 0)).stand 0 []) sP ∧ RSure sP sE one ∧ sE.many ≤ 1000 ∧ (∀ b ∈ sE.bls, b.ps.length ≤ 10) ∧
  ∃ e, (e = .give one ∨ ∃ m, 0 ≤ m ∧ m < 100 ∧ e = .fail m) ∧ bls = (sE.setEnd sE.at_ e).bls
theorem RGraph.form {hl : List (Str × Nat)} (hm : ∀ p ∈ hl, p.2 ≤ 4) {inputs d : Nat} {s : DSt} {bls : List Blk} (r : RGraph hl inputs d s bls) : 0 < bls.length ∧ ∀ b ∈ bls, BlkF bls.length b := by
  obtain ⟨sP, sE, one, rp, rs, _, _, e, he, rfl⟩ := r
  have h0 : StF ((s.start.block (List.replicate inputs 0)).stand 0 []) := by
    refine ⟨fun p hp => ?_, fun b hb => ?_⟩
    · have hp' : p ∈ psOf s.start 0 (List.replicate inputs 0) := hp
      exact psOf_sz (fun z hz => by rw [List.eq_of_mem_replicate hz]; decide) p hp'
    · have hb' : b ∈ [(⟨psOf s.start 0 (List.replicate inputs 0), [], .fail 0⟩ : Blk)] := hb
      rw [List.mem_singleton.mp hb']
      exact ⟨psOf_sz fun z hz => by rw [List.eq_of_mem_replicate hz]; decide, (fun r hr => nomatch hr), by show (0 : Int) ≤ 0 ∧ (0 : Int) < 100; decide⟩
  obtain ⟨h1, l1⟩ := keeps_parts hm d 4 _ _ h0 rp
  have l1' : 1 ≤ sP.bls.length := l1
  obtain ⟨h2, o2⟩ := h1.rsure rs
  have l2 := rs.at.2
  have h3 : StF (sE.setEnd sE.at_ e) := h2.setEnd (by
    rcases he with rfl | ⟨m, m0, m1, rfl⟩
    · exact o2
    · exact ⟨m0, m1⟩)
  exact ⟨by rw [setEnd_len]; omega, h3.b⟩
end

/-! step and shift stay -/
def Cs (s s' : DSt) : Prop := s'.step = s.step ∧ s'.shift = s.shift
theorem Cs.refl (s : DSt) : Cs s s := ⟨rfl, rfl⟩
theorem Cs.trans {a b c : DSt} (h : Cs a b) (k : Cs b c) : Cs a c := ⟨k.1.trans h.1, k.2.trans h.2⟩
theorem RBear.cs {wd : Str} {s s' : DSt} {v : Int} (h : RBear wd s s' v) : Cs s s' := by
  obtain ⟨w, as, k, _, _, _, _, rfl⟩ := h
  exact ⟨rfl, rfl⟩
theorem RRow.cs {s s' : DSt} (h : RRow s s') : Cs s s' := by
  rcases h with rfl | ⟨a, _, rfl⟩ | ⟨wd, v, _, h⟩
  · exact ⟨rfl, rfl⟩
  · exact ⟨rfl, rfl⟩
  · exact h.cs
theorem Steps.cs {R : DSt → DSt → Prop} (f : ∀ s s', R s s' → Cs s s') : ∀ {k : Nat} {s s' : DSt}, Steps R k s s' → Cs s s'
  | 0, s, s', h => by
    rw [show s' = s from h]
    exact .refl _
  | k + 1, s, s', ⟨s1, h1, h2⟩ => (Steps.cs f h1).trans (f _ _ h2)
theorem RRows.cs {m : Nat} {s s' : DSt} (h : RRows m s s') : Cs s s' := by
  obtain ⟨k, _, st⟩ := h
  exact st.cs fun _ _ => RRow.cs
theorem RSure.cs {s s' : DSt} {v : Int} (h : RSure s s' v) : Cs s s' := by
  rcases h with ⟨rfl, _⟩ | ⟨_, h⟩
  · exact .refl _
  · exact h.cs
theorem RArgs.cs {zs : List Int} {s s' : DSt} {as : List Int} (h : RArgs zs s s' as) : Cs s s' := by
  induction h with
  | nil s => exact .refl _
  | snoc _ r ih =>
    refine ih.trans ?_
    rcases r with ⟨rfl, _⟩ | ⟨_, _, rfl⟩
    · exact .refl _
    · exact ⟨rfl, rfl⟩
def KeepsC (P : DSt → DSt → Prop) : Prop := ∀ s s', P s s' → Cs s s'
theorem RSide.cs {P : DSt → DSt → Prop} (hP : KeepsC P) {kept : List (Int × Int)} {b join : Nat} {zs : List Int} {leave k : Int} {s s' : DSt} (r : RSide P kept b join zs leave k s s') : Cs s s' := by
  obtain ⟨s1, s2, as, p, ra, e⟩ := r
  have h2 : Cs s s2 := (Cs.trans (⟨rfl, rfl⟩ : Cs s (s.stand b kept)) (hP _ _ p)).trans ra.cs
  rcases e with ⟨_, rfl⟩ | ⟨_, s3, one, n, r3, _, _, e⟩
  · exact h2.trans ⟨rfl, rfl⟩
  · have h3 := h2.trans r3.cs
    rcases e with rfl | rfl
    · exact h3.trans ⟨rfl, rfl⟩
    · exact h3.trans ⟨rfl, rfl⟩
theorem RChoice.cs {P : DSt → DSt → Prop} (hP : KeepsC P) {s s' : DSt} (r : RChoice P s s') : Cs s s' := by
  obtain ⟨s1, one, zs, leave, s4, s5, rs, hz, r1, r2, rfl⟩ := r
  exact ((rs.cs.trans (Cs.trans ⟨rfl, rfl⟩ (r1.cs hP))).trans (r2.cs hP)).trans ⟨rfl, rfl⟩
theorem RLoop.cs {P : DSt → DSt → Prop} (hP : KeepsC P) {s s' : DSt} (r : RLoop P s s') : Cs s s' := by
  obtain ⟨zs, s1, as, s4, s5, one, s6, one', s9, s10, step, r, s12, later, s14, as2, s15, back, hz, r1, r4, r5, r6, r9, r10, r0, rl2, r12, r14, r15, rfl⟩ := r
  have h4 : Cs s s4 := r1.cs.trans (Cs.trans ⟨rfl, rfl⟩ r4.cs)
  have h5 := h4.trans r5.cs
  have h6 : Cs s s6 := by
    rcases r6 with ⟨rfl, _⟩ | ⟨t1, t2, bound, q1, q2, rfl⟩
    · exact h5
    · exact ((h5.trans q1.cs).trans q2.cs).trans ⟨rfl, rfl⟩
  have h9 : Cs s s9 := by
    have h := hP _ _ r9
    exact h6.trans ⟨h.1, h.2⟩
  have h12 : Cs s s12 := (h9.trans r10.cs).trans (Cs.trans ⟨rfl, rfl⟩ r12.cs)
  have h15 : Cs s14 s15 := by
    rcases r15 with ⟨rfl, _⟩ | ⟨_, _, rfl, _⟩
    · exact .refl _
    · exact ⟨rfl, rfl⟩
  exact ((h12.trans (Cs.trans ⟨rfl, rfl⟩ r14.cs)).trans h15).trans ⟨rfl, rfl⟩
theorem RCall.cs {hl : List (Str × Nat)} {s s' : DSt} (r : RCall hl s s') : Cs s s' := by
  obtain ⟨g, m, s1, as, zs, s2, more, hg, r1, hz, r2, rfl⟩ := r
  exact (r1.cs.trans r2.cs).trans ⟨rfl, rfl⟩
theorem cs_turn {P : DSt → DSt → Prop} (hP : KeepsC P) {hl : List (Str × Nat)} : KeepsC (RTurn P hl) := by
  rintro s s' ⟨s1, r, rr⟩
  refine Cs.trans ?_ rr.cs
  rcases r with rfl | r | r | r
  · exact .refl _
  · exact r.cs hP
  · exact r.cs hP
  · exact r.cs
theorem cs_parts {hl : List (Str × Nat)} : ∀ d m, KeepsC (RParts hl d m)
  | 0, m, s, s', ⟨s1, k, r, _, st⟩ => r.cs.trans (st.cs (cs_turn (P := fun _ _ => False) fun _ _ z => z.elim))
  | d + 1, m, s, s', ⟨s1, k, r, _, st⟩ => r.cs.trans (st.cs (cs_turn (cs_parts d 2)))
section
variable {P : Program} {w : World} {K : PySem.W.Frag} {mg : Str → Option Value} {base : Heap}
/-- another list for the blocks, empty -/
theorem WS.newBls {H : Hp} {A : WA} {s : DSt} {n : Nat} {p : Addr} {g dr : Int} (h : WS K H A s n) (e : H p = some (.lst [])) (np : ¬ A.own p) (g0 : 0 ≤ g) :
    WS K (upd H A.d (.dK (dkv dr s.many s.step s.shift p s.at_ A.ls g A.t))) { A with lb := p, bs := [] } { s with bls := [] } n ∧ Kp A.own H (upd H A.d (.dK (dkv dr s.many s.step s.shift p s.at_ A.ls g A.t))) := by
  have nd := nd_of h.nd
  obtain ⟨⟨g1, dr1, _, e1⟩, e2, ⟨svs, e3, e4⟩, bl, nd0, bd, n6, ot, tl⟩ := h
  have k : Kp A.own H (upd H A.d (.dK (dkv dr s.many s.step s.shift p s.at_ A.ls g A.t))) := Kp.upd e1 trivial (own_d A)
  have npe : ∀ {a}, A.own a → p ≠ a := fun ha z => np (z ▸ ha)
  refine ⟨⟨⟨g, dr, g0, upd_same⟩, (upd_ne (npe (own_d A))).trans e, ⟨svs, (upd_ne (nd.d _ (.inr (.inl rfl)))).trans e3, dpAll_kp k _ _ (pairs_nl _) e4⟩, ⟨rfl, fun j q b hq hb => by simp at hq⟩, ?_, ⟨bd.m, Nat.zero_le _, bd.a, bd.c, fun b hb => (nomatch hb), bd.z⟩, n6, ot, tl⟩, k⟩
  show (A.d :: p :: A.ls :: adrs []).Nodup
  refine List.nodup_cons.mpr ⟨fun y => ?_, List.nodup_cons.mpr ⟨fun y => ?_, List.nodup_cons.mpr ⟨fun y => (nomatch y), List.nodup_nil⟩⟩⟩
  · rcases List.mem_cons.mp y with y | y
    · exact npe (own_d A) y.symm
    rcases List.mem_cons.mp y with y | y
    · exact nd.d _ (.inr (.inl rfl)) y.symm
    · exact nomatch y
  · rcases List.mem_cons.mp y with y | y
    · exact npe (own_ls A) y
    · exact nomatch y
/-- the helpers told anew -/
theorem WS.newHlp {H : Hp} {A : WA} {s : DSt} {n : Nat} {g dr : Int} {hd : Addr} (h : WS K H A s n) (g0 : 0 ≤ g) :
    WS K (upd H A.d (.dK (dkv dr s.many s.step s.shift A.lb s.at_ A.ls g [(.inr "helpers", .ref hd)]))) { A with t := [(.inr "helpers", .ref hd)] } s n ∧ Kp A.own H (upd H A.d (.dK (dkv dr s.many s.step s.shift A.lb s.at_ A.ls g [(.inr "helpers", .ref hd)]))) := by
  have nd := nd_of h.nd
  obtain ⟨⟨g1, dr1, _, e1⟩, e2, ⟨svs, e3, e4⟩, bl, nd0, bd, n6, ot, tl⟩ := h
  have k : Kp A.own H (upd H A.d (.dK (dkv dr s.many s.step s.shift A.lb s.at_ A.ls g [(.inr "helpers", .ref hd)]))) := Kp.upd e1 trivial (own_d A)
  exact ⟨⟨⟨g, dr, g0, upd_same⟩, (upd_ne (nd.d _ (.inl rfl))).trans e2, ⟨svs, (upd_ne (nd.d _ (.inr (.inl rfl)))).trans e3, dpAll_kp k _ _ (pairs_nl _) e4⟩, ⟨bl.len, fun j q b hq hb => (bl.at_ j q b hq hb).kp k (upd_ne (nd.d _ (.inr (.inr (adrs_1 (List.mem_of_getElem? hq)))))) (upd_ne (nd.d _ (.inr (.inr (adrs_2 (List.mem_of_getElem? hq))))))⟩, nd0, bd, n6, fun k hk => oth_h hk, by show ([_] : List (Key × V)).length ≤ 1; simp⟩, k⟩
theorem call_tuple_ofK {X : Cx} (h : X.K = K) : CallR X (.type "tuple") (fun xs H Q => ∃ p ys, xs = [V.ref p] ∧ ((SqL K H p ys ∧ ∀ (l : Addr), H l = none → Q (V.ref l) (upd H l (HO.tup ys))) ∨ SqT K H p ys ∧ Q (V.ref p) H)) := by
  subst h
  exact call_tuple_of
def sp_graph (K : PySem.W.Frag) : Sp := fun vs H Q _ => ∃ (A : WA) (s : DSt) (n inputs d : Nat) (hd : Addr) (hl : List (Str × Nat)), vs = [.ref A.d, .int (inputs : Nat), .ref hd, .int (d : Nat)] ∧ WS K H A s n ∧ n ≤ 1000 ∧ Tl A.t ∧ inputs ≤ 4 ∧ d ≤ 2 ∧
  H hd = some (.dK (hl.map fun p => ((.inr p.1 : Key), V.int (p.2 : Nat)))) ∧ ¬ A.own hd ∧ (hl.map (·.1)).Nodup ∧ (∀ p ∈ hl, p.2 ≤ 4) ∧ hl.length ≤ 4 ∧
  ∀ H' A' s' v bls order, ExtG H A H' A' → WS K H' A' s' 1000 → Tl A'.t → Cs s s' → RGraph hl inputs d s bls → bls.length ≤ 1000 → Seen bls order → Dp K H' v (.tuple ((turned bls order).map blkD)) → Q v H'
theorem cP_le {d : Nat} (h : d ≤ 2) : cP d 3 ≤ 903 := by
  match d, h with
  | 0, _ => decide
  | 1, _ => decide
  | 2, _ => decide
theorem ok__law_graph (T : Top K mg) : FnOk P w K mg base CX0 11 (He.ga K "_law_graph") T.fd__law_graph ["_law_s", "_law_inputs_here", "_law_helpers", "_law_deep"] (sp_graph K) := by
  have G__law_next := ok__law_next (P := P) (w := w) (base := base) T
  have G__law_stand := ok__law_stand (P := P) (w := w) (base := base) T
  have G__law_block := ok__law_block (P := P) (w := w) (base := base) T
  have G__law_sure := ok__law_sure (P := P) (w := w) (base := base) T
  have G__law_seen := ok__law_seen (P := P) (w := w) (base := base) T
  refine T.F__law_graph.ok sc__law_graph (fun vs H Q E h => ?_) (fun cdv A0 outer s0 H vs Q E hr h => ?_)
  · obtain ⟨A, s, n, inputs, d, hd, hl, rfl, _⟩ := h
    rfl
  · obtain ⟨A, s, n, inputs, d, hd, hl, rfl, ws, n1, tl, i4, d2, ehd, ohd, hnd, hle, hln, q⟩ := h
    have G__law_parts := ok__law_parts (P := P) (w := w) (base := base) T hl d
    refine ⟨_, PSs.nox (pss_cons (ps_dput (hu_of hr) (pv 0) pe_str (pe_lst pa_nil) (by rfl))
        (pss_cons (ps_dput (hu_of hr) (pv 0) pe_str pe_int (by rfl))
        (pss_cons (ps_dput (hu_of hr) (pv 0) pe_str (pv 2) (by rfl))
        (pss_cons (ps_expr (pe_call G__law_stand (hr.mono (by omega)) (by rfl) T.g__law_stand T.F__law_stand.kp T.b__law_stand .nil pass0 (pa_cons (pv 0) (pa_cons (pe_call G__law_block (hr.mono (by omega)) (by rfl) T.g__law_block T.F__law_block.kp T.b__law_block .nil pass0 (pa_cons (pv 0) (pa_cons (pe_op op_rep (pe_lst (pa_cons pe_int pa_nil)) (pv 1)) pa_nil))) (pa_cons (pe_lst pa_nil) pa_nil)))))
        (pss_cons (ps_expr (pe_call G__law_parts (hr.mono (by omega)) (by rfl) T.g__law_parts T.F__law_parts.kp T.b__law_parts .nil pass0 (pa_cons (pv 0) (pa_cons (pv 3) (pa_cons pe_int pa_nil)))))
        (pss_cons (ps_asg (pe_tup (pa_cons pe_str (pa_cons (pe_call G__law_sure (hr.mono (by omega)) (by rfl) T.g__law_sure T.F__law_sure.kp T.b__law_sure .nil pass0 (pa_cons (pv 0) pa_nil)) pa_nil))) (pg_sub (pe_ix ix_list (pe_dget (hu_of hr) (pv 0) pe_str (fun _ _ => rfl)) (pe_dget (hu_of hr) (pv 0) pe_str (fun _ _ => rfl)) (fun _ _ => rfl)) pe_int set_list))
        (pss_cons (ps_if (pt_cmpR op_eq (pe_call G__law_next (hr.mono (by omega)) (by rfl) T.g__law_next T.F__law_next.kp T.b__law_next .nil pass0 (pa_cons (pv 0) (pa_cons pe_int pa_nil))) pe_int (nomark _)) (pss_one (ps_asg (pe_tup (pa_cons pe_str (pa_cons (pe_call G__law_next (hr.mono (by omega)) (by rfl) T.g__law_next T.F__law_next.kp T.b__law_next .nil pass0 (pa_cons (pv 0) (pa_cons pe_int pa_nil))) pa_nil))) (pg_sub (pe_ix ix_list (pe_dget (hu_of hr) (pv 0) pe_str (fun _ _ => rfl)) (pe_dget (hu_of hr) (pv 0) pe_str (fun _ _ => rfl)) (fun _ _ => rfl)) pe_int set_list))) pss_nil)
        (pss_one (ps_ret (pe_call G__law_seen (hr.mono (by omega)) (by rfl) T.g__law_seen T.F__law_seen.kp T.b__law_seen .nil pass0 (pa_cons (pe_lc (own := [("_law_block_here", 4)]) (by rfl) sc__law_graph.nd (pi_list (pe_dget (hu_of hr) (pv 0) pe_str (fun _ _ => rfl))) (blkOk_by (own := [("_law_block_here", 4)]) (N := N__law_graph) (sc := defScope s__law_graph) (by decide +kernel)) (fun _ _ _ _ _ => (pg_name (i := 4) sc__law_graph.nd rfl (Or.inl rfl))) (fun _ _ _ _ _ => pts_nil) (fun _ _ _ _ _ => (pe_tup (pa_cons (pe_ix (ix_listK (K := K) rfl) (pv 4) pe_int (fun _ _ => rfl)) (pa_cons (pe_callTy (call_tuple_ofK (K := K) rfl) (by rfl) T.m_tuple (by decide +kernel) (pa_cons (pe_ix (ix_listK (K := K) rfl) (pv 4) pe_int (fun _ _ => rfl)) pa_nil)) (pa_cons (pe_ix (ix_listK (K := K) rfl) (pv 4) pe_int (fun _ _ => rfl)) pa_nil)))))) (pa_cons (pv 0) pa_nil)))))))))))), ?_⟩
    have cp := cP_le d2
    -- the dict written thrice
    refine ⟨Nat.zero_le _, fun L nL => ?_⟩
    have sL := same_new (o := .lst []) nL
    have w1 := ws.sm sL
    have oL := ws.off nL
    obtain ⟨g1, dr1, g10, e1⟩ := w1.dk
    refine ⟨_, rfl, _, _, rfl, dput_k e1 (dkv_len w1.tl), ?_⟩
    rw [dkp_blocks (w1.ot _ (m8 (by decide +kernel)))]
    obtain ⟨w2, k2⟩ := w1.newBls (p := L) (dr := dr1) upd_same oL g10
    have x2 : ExtG H A _ { A with lb := L, bs := [] } := ⟨(Kp.of_same sL).trans k2, fun c hc => by
      rcases List.mem_cons.mp hc with rfl | hc
      · exact .inl (own_d A)
      rcases List.mem_cons.mp hc with rfl | hc
      · exact .inr nL
      rcases List.mem_cons.mp hc with rfl | hc
      · exact .inl (own_ls A)
      · exact (nomatch hc), rfl⟩
    generalize upd (upd H L (.lst [])) A.d (.dK (dkv dr1 s.many s.step s.shift L s.at_ A.ls g1 A.t)) = H2 at w2 x2
    obtain ⟨g2, dr2, g20, e2⟩ := w2.dk
    refine ⟨_, rfl, _, _, rfl, dput_k e2 (dkv_len w2.tl), ?_⟩
    rw [dkp_many (w2.ot _ (m8 (by decide +kernel)))]
    have bd2 := w2.bd
    obtain ⟨w3, x3⟩ := w2.put (s' := s.start) (dr := dr2) g20 rfl rfl ⟨Nat.zero_le _, bd2.b, bd2.a, bd2.c, bd2.r, bd2.z⟩
    have x03 := x2.ext x3
    have ehd3 := x03.keep ehd ohd
    have ohd3 := x03.off ehd ohd
    obtain ⟨g3, dr3, g30, e3⟩ := w3.dk
    refine ⟨_, rfl, _, rfl, _, _, rfl, dput_k e3 (dkv_len w3.tl), ?_⟩
    rw [dkp_tl (by decide +kernel), tl_put (show Tl A.t from tl)]
    obtain ⟨w4', k4⟩ := w3.newHlp (hd := hd) (dr := dr3) g30
    obtain ⟨A4, hA4⟩ : ∃ A4 : WA, A4 = { A with lb := L, bs := [], t := [(.inr "helpers", .ref hd)] } := ⟨_, rfl⟩
    have x04 : ExtG H A _ A4 := x03.trans ⟨k4, fun c hc => .inl (by rw [hA4] at hc; exact hc), by rw [hA4]⟩
    have ehd4 := k4 _ _ ehd3 fun z => absurd z ohd3
    have w4 := Eq.mp (congrArg (fun a => WS K _ a s.start n) hA4.symm) w4'
    have dA4 : A4.d = A.d := by rw [hA4]
    have tA4 : A4.t = [(.inr "helpers", .ref hd)] := by rw [hA4]
    have ohd4 : ¬ A4.own hd := by rw [hA4]; exact ohd3
    have hlp4 : Hlp _ A4 hl := ⟨⟨hd, tA4, ehd4, ohd4⟩, hnd, hle, hln⟩
    -- the first block
    refine ⟨_, rfl, _, rfl, (by show 1 ≤ sizeLine; rw [sizeLine_eq]; decide), fun Z0 nZ0 => ?_⟩
    have s5 := same_new (o := .lst [.int 0]) nZ0
    have w5 := w4.sm s5
    refine ⟨_, rfl, Z0, (inputs : Nat), _, rfl, rfl, upd_same, by omega, by omega, by rw [sizeLine_eq, Int.toNat_natCast]; show 1 * inputs ≤ _; omega, fun F nF => ?_⟩
    rw [Int.toNat_natCast, repl_flat]
    have s6 := same_new (o := .lst ((List.replicate inputs (0 : Int)).map V.int)) nF
    have w6 := w5.sm s6
    have oF := w5.off nF
    have rl : (List.replicate inputs (0 : Int)).length = inputs := List.length_replicate
    refine ⟨A4, s.start, n, F, List.replicate inputs 0, by rw [dA4]; rfl, w6, upd_same, oF, fun z h => by rw [List.eq_of_mem_replicate h]; decide, by omega, by omega, fun H7 A7 x7 w7 => ?_⟩
    have x67 := ((Ext.same (A := A4) s5).trans (.same s6)).trans x7
    have hlp7 := hlp4.ext x67
    have x07 := x04.ext x67
    have dA7 : A7.d = A.d := x07.d
    refine ⟨Nat.zero_le _, fun M nM => ?_⟩
    have sM := same_new (o := .lst []) nM
    have w8 := w7.sm sM
    have oM := w7.off nM
    have x08 := x07.ext (.same sM)
    have hlp8 := hlp7.ext (.same sM)
    have bd0 := ws.bd
    refine ⟨A7, s.start.block (List.replicate inputs 0), n + ((List.replicate inputs (0 : Int)).length + 1), 0, M, [], [], by rw [dA7]; rfl, w8, Nat.succ_pos _, upd_same, .nil, oM, fun p hp => (nomatch hp), Nat.zero_le _, by omega, fun H9 A9 x9 w9 => ?_⟩
    have x09 := x08.ext x9
    have hlp9 := hlp8.ext x9
    have dA9 : A9.d = A.d := x09.d
    -- the bounds anew
    have b9 : Bds ((s.start.block (List.replicate inputs 0)).stand 0 []) 20 := by
      have bz := w9.bd
      refine ⟨?_, ?_, Nat.zero_le _, ?_, fun b hb => ?_, bz.z⟩
      · show 0 + (List.replicate inputs (0 : Int)).length ≤ 20
        omega
      · show ([_] : List Blk).length ≤ 20
        simp
      · show (psOf s.start 0 (List.replicate inputs 0)).length ≤ 20
        rw [psOf_len]
        omega
      · have hb' : b ∈ [(⟨psOf s.start 0 (List.replicate inputs 0), [], .fail 0⟩ : Blk)] := hb
        refine ⟨?_, (bz.r b hb).2⟩
        rw [List.mem_singleton.mp hb']
        exact Nat.zero_le _
    have w9' := w9.low b9 (by omega)
    refine ⟨_, rfl, _, rfl, A9, _, 20, 3, by rw [dA9]; rfl, w9', hlp9, Nat.succ_pos _, by omega, by omega, fun H10 A10 sP x10 w10 rP gP => ?_⟩
    have x010 := x09.ext x10
    have dA10 : A10.d = A.d := x010.d
    have aP := gP.at_ (Nat.succ_pos _)
    refine ⟨_, rfl, A10, sP, 20 + cP d 3, by rw [dA10]; rfl, w10, aP, by omega, fun H11 sE one x11 w11 rE => ?_⟩
    have x011 := x010.ext x11
    have aE : sE.at_ < sE.bls.length := by rw [rE.at.1, rE.at.2]; exact aP
    refine ⟨(by show 2 ≤ sizeLine; rw [sizeLine_eq]; decide), fun t1 nt1 => ?_⟩
    have q1 := same_new (o := .tup [.str "give", .int one]) nt1
    have w12 := w11.sm q1
    have dE : Dp K (upd H11 t1 (.tup [.str "give", .int one])) (.ref t1) (En.give one).d := .tup (.inl (.of upd_same)) (.cons (.str _) (.cons (.int _) .nil))
    have x012 := x011.ext (.same q1)
    obtain ⟨g12, dr12, _, e12⟩ := w12.dk
    rw [dA10] at e12
    obtain ⟨p, vp, vr, v0, hpv, hpe, hend⟩ := w12.end_at (i := sE.at_) aE
    obtain ⟨w13, x13⟩ := hend _ _ dE
    refine ⟨_, rfl, _, _, rfl, dget_k e12 dkv_blocks, _, rfl, _, _, rfl, dget_k e12 dkv_at, A10.lb, _, (sE.at_ : Int), _, rfl, rfl, .of w12.lb, atI_nat hpv, p, _, 2, 2, rfl, rfl, hpe, rfl, ?_⟩
    have x013 := x012.ext x13
    dsimp only [gName, List.set]
    generalize upd (upd H11 t1 (.tup [.str "give", .int one])) p _ = H13 at w13 x13 x013
    refine ifs_by (fun σ' H' => ∃ e, σ' = [some (.ref A.d), some (.int (inputs : Nat)), some (.ref hd), some (.int (d : Nat)), none] ∧ ExtG H A H' A10 ∧ WS K H' A10 (sE.setEnd sE.at_ e) (20 + cP d 3 + 1) ∧ (e = .give one ∨ ∃ m, 0 ≤ m ∧ m < 100 ∧ e = .fail m)) ?_ ?_
    · rintro σ' H14 ⟨e, rfl, x014, w14, he⟩
      have rg : RGraph hl inputs d s (sE.setEnd sE.at_ e).bls := ⟨sP, sE, one, rP, rE, by have := w11.bd.m; omega, fun b hb => (w11.bd.r b hb).2.1, e, he, rfl⟩
      obtain ⟨b0, bf⟩ := rg.form hle
      have cs : Cs s (sE.setEnd sE.at_ e) := ((Cs.trans (⟨rfl, rfl⟩ : Cs s ((s.start.block (List.replicate inputs 0)).stand 0 [])) (cs_parts d 4 _ _ rP)).trans rE.cs).trans ⟨rfl, rfl⟩
      generalize sE.setEnd sE.at_ e = sF at w14 rg b0 bf cs
      have tl10 : Tl A10.t := by
        obtain ⟨hd', et, _⟩ := (hlp9.ext x10).at_
        exact .inr ⟨hd', et⟩
      obtain ⟨g14, dr14, _, e14⟩ := w14.dk
      rw [dA10] at e14
      have lb := w14.lb
      have ll := w14.bl.len
      have bl6 : sF.bls.length ≤ 1000 := Nat.le_trans w14.bd.b (by omega)
      refine ⟨_, rfl, _, _, rfl, dget_k e14 dkv_blocks, _, rfl, ⟨_, .of lb⟩, fun D nD => ?_⟩
      have oD := w14.off nD
      refine lc_list (K := K) (a := A10.lb) (xs := A10.bs.map fun p => V.ref p.1) (fun i H' => Same H14 H' ∧ ∃ acc, H' D = some (.lst acc) ∧ DpAll K H' acc ((sF.bls.take i).map blkD)) ?_ ?_ ?_ ?_
      · exact ⟨same_new nD, [], upd_same, .nil⟩
      · rintro i H' _ ⟨s', _⟩
        exact .of (s' _ _ lb)
      · rintro i y H' hy ⟨s', acc, eD, dD⟩
        have hi := (List.getElem?_eq_some_iff.mp hy).1
        rw [List.length_map, ll] at hi
        obtain ⟨p, b, vp, ve, rvs, hp, hb, hpv, h1, h2, h3, h4, h5, h6, o1, o2⟩ := w14.blk hi
        rw [hpv] at hy
        cases hy
        have h1' := s' _ _ h1
        have h4' := s' _ _ h4
        have la := dpAll_len dD
        rw [List.length_map, List.length_take] at la
        refine ⟨rfl, _, rfl, p.1, _, 0, _, rfl, rfl, .of h1', atI_nat (j := 0) rfl, ?_⟩
        refine ⟨_, rfl, p.1, _, 1, _, rfl, rfl, .of h1', atI_nat (j := 1) rfl, p.2, rvs, rfl, .inl ⟨.of h4', fun tr ntr => ?_⟩⟩
        have s1 := same_new (o := .tup rvs) ntr
        refine ⟨_, rfl, p.1, _, 2, _, rfl, rfl, .of (s1 _ _ h1'), atI_nat (j := 2) rfl, (by show 3 ≤ sizeLine; rw [sizeLine_eq]; decide), fun tp ntp => ?_⟩
        have s2 := same_new (o := .tup [vp, .ref tr, ve]) ntp
        have s12 := s1.trans s2
        have tk : (sF.bls.take (i + 1)).map blkD = (sF.bls.take i).map blkD ++ [blkD b] := by rw [List.take_succ, hb, List.map_append]; rfl
        refine ⟨acc, s12 _ _ eD, by rw [sizeLine_eq]; omega, same_upd (s'.trans s12) nD, _, upd_same, ?_⟩
        rw [tk]
        refine dpAll_mine (dpAll_app (dpAll_sm s12 dD) (.cons (.tup (.inl (.of upd_same)) (.cons (dp_sm (s'.trans s12) h2) (.cons (.tup (.inl (.of (s2 _ _ upd_same))) (dpAll_sm (s'.trans s12) h5)) (.cons (dp_sm (s'.trans s12) h3) .nil)))) .nil)) (noLs_all fun z hz => ?_) (s12 _ _ eD) trivial
        rcases List.mem_append.mp hz with hz | hz
        · obtain ⟨a, _, rfl⟩ := List.mem_map.mp hz
          exact blkD_nl a
        · rw [List.mem_singleton.mp hz]
          exact blkD_nl b
      · rintro H15 ⟨s15, acc, eD, dD⟩
        rw [List.length_map, ll, List.take_length] at dD
        have w15 := w14.sm s15
        refine ⟨_, rfl, D, A10, acc, sF.bls, sF, _, by rw [dA10]; rfl, w15, oD, eD, dD, b0, by omega, fun i y hi hy => ?_, fun H16 v order x16 w16 sn dv => ?_⟩
        · have m : blkAt sF.bls i ∈ sF.bls := by
            unfold blkAt
            rw [List.getD_eq_getElem?_getD, List.getElem?_eq_getElem hi]
            exact List.getElem_mem _
          exact ((bf _ m).e.way y hy).t
        · exact q H16 A10 sF v sF.bls order (x014.ext ((Ext.same s15).trans x16)) (w16.mono (by omega) (by omega)) tl10 cs rg bl6 sn dv
    · intro N hN
      refine ⟨_, rfl, A10, _, _, 12, by rw [dA10]; rfl, w13, by decide, by decide, fun H14 r14 x14 w14 a14 b14 => ?_⟩
      have x014 := x013.ext x14
      refine ⟨rfl, _, rfl, ite2 (fun _ => ?_) (fun _ => hN _ _ ⟨_, rfl, x014, w14, .inl rfl⟩)⟩
      refine ⟨_, rfl, A10, _, _, 100, by rw [dA10]; rfl, w14, by decide, by decide, fun H15 m x15 w15 a15 b15 => ?_⟩
      refine ⟨(by show 2 ≤ sizeLine; rw [sizeLine_eq]; decide), fun t2 nt2 => ?_⟩
      have q2 := same_new (o := .tup [.str "fail", .int m]) nt2
      have w16 := w15.sm q2
      have dF : Dp K (upd H15 t2 (.tup [.str "fail", .int m])) (.ref t2) (En.fail m).d := .tup (.inl (.of upd_same)) (.cons (.str _) (.cons (.int _) .nil))
      obtain ⟨g16, dr16, _, e16⟩ := w16.dk
      rw [dA10] at e16
      obtain ⟨p2, vp2, vr2, v02, hpv2, hpe2, hend2⟩ := w16.end_at (i := sE.at_) (by rw [setEnd_len]; exact aE)
      obtain ⟨w17, x17⟩ := hend2 _ _ dF
      refine ⟨_, rfl, _, _, rfl, dget_k e16 dkv_blocks, _, rfl, _, _, rfl, dget_k e16 dkv_at, A10.lb, _, (sE.at_ : Int), _, rfl, rfl, .of w16.lb, atI_nat hpv2, p2, _, 2, 2, rfl, rfl, hpe2, rfl, ?_⟩
      have ee : (sE.setEnd sE.at_ (.give one)).setEnd sE.at_ (.fail m) = sE.setEnd sE.at_ (.fail m) := by
        unfold DSt.setEnd
        simp only [modB_modB]
      rw [ee] at w17
      exact hN _ _ ⟨_, rfl, ((x014.ext x15).ext (.same q2)).ext x17, w17, .inr ⟨m, a15, b15, rfl⟩⟩
end

section
variable {P : Program} {w : World} {K : PySem.W.Frag} {mg : Str → Option Value} {base : Heap}
theorem putK_new {kvs : List (Key × V)} {k : Key} {v : V} (h : ∀ kv ∈ kvs, kv.1 ≠ k) : putK kvs k v = kvs ++ [(k, v)] := by
  unfold putK
  rw [if_neg]
  intro z
  obtain ⟨kv, hk, e⟩ := List.any_eq_true.mp z
  exact h kv hk (of_decide_eq_true e)
theorem merge_nd : ∀ (kvs acc : List (Key × V)), ((acc ++ kvs).map (·.1)).Nodup → mergeK acc kvs = acc ++ kvs
  | [], acc, _ => (List.append_nil _).symm
  | p :: r, acc, h => by
    show mergeK (putK acc p.1 p.2) r = _
    have h2 : ((acc ++ [p]) ++ r).map (·.1) = (acc ++ p :: r).map (·.1) := by rw [List.append_assoc]; rfl
    rw [putK_new fun kv hk z => ?_, merge_nd r (acc ++ [(p.1, p.2)]) (by rw [← h2] at h; exact h), List.append_assoc]
    · rfl
    · rw [List.map_append, List.nodup_append] at h
      exact h.2.2 kv.1 (List.mem_map.mpr ⟨kv, hk, rfl⟩) p.1 (List.mem_cons_self ..) z
def dk7 (dr : Int) (lb ls : Addr) : List (Key × V) := [(.inr "draw", .int dr), (.inr "many", .int 0), (.inr "step", .int 1), (.inr "shift", .int 0), (.inr "blocks", .ref lb), (.inr "at", .int 0), (.inr "scope", .ref ls)]
theorem merge_dk7 (dr : Int) (lb ls : Addr) : mergeK [] (dk7 dr lb ls) = dk7 dr lb ls := merge_nd _ [] (by show (([Sum.inr "draw", .inr "many", .inr "step", .inr "shift", .inr "blocks", .inr "at", .inr "scope"] : List Key)).Nodup; decide +kernel)
theorem put_dk7 (dr g : Int) (lb ls : Addr) : putK (dk7 dr lb ls) (.inr "digits") (.int g) = dkv dr 0 1 0 lb 0 ls g [] := by
  rw [putK_new fun kv hk z => ?_]
  · rfl
  · have h1 : kv.1 ∈ (dk7 dr lb ls).map (·.1) := List.mem_map.mpr ⟨kv, hk, rfl⟩
    rw [z] at h1
    simp only [dk7, List.map_cons, List.map_nil, List.mem_cons, List.not_mem_nil, or_false] at h1
    rcases h1 with z | z | z | z | z | z | z <;> exact nk (by decide +kernel) z
def sp_state (K : PySem.W.Frag) : Sp := fun vs H Q _ => ∃ (c k : Int), vs = [.int c, .int k] ∧
  ∀ H' A s, Same H H' → (∀ b, A.own b → H b = none) → WS K H' A s 0 → A.t = [] → Small s → s.step ∈ ([1, 7, 4986, 8999] : List Int) → Q (.ref A.d) H'
theorem ok__law_state (T : Top K mg) : FnOk P w K mg base CX0 2 (He.ga K "_law_state") T.fd__law_state ["_law_cell", "_law_k"] (sp_state K) := by
  have G__law_next := ok__law_next (P := P) (w := w) (base := base) T
  refine T.F__law_state.ok sc__law_state (fun vs H Q E h => ?_) (fun cdv A0 outer s0 H vs Q E hr h => ?_)
  · obtain ⟨c, k, rfl, _⟩ := h
    rfl
  · obtain ⟨c, k, rfl, q⟩ := h
    refine ⟨_, PSs.nox (pss_cons (ps_set (i := 2) sc__law_state.nd rfl (Or.inl rfl) (pe_op op_mod (pe_op op_mul (pe_op op_add (pv 0) (pe_op op_mul pe_int (pv 1))) pe_int) pe_int))
        (pss_cons (ps_set (i := 3) sc__law_state.nd rfl (Or.inl rfl) (pe_op op_mod (pe_op op_add (pe_op op_add (pe_op op_mul (pv 2) (pv 2)) (pe_op op_mul pe_int (pv 2))) (pv 1)) pe_int))
        (pss_cons (ps_set (i := 4) sc__law_state.nd rfl (Or.inl rfl) (pe_disp (pps_cons pe_str (pv 3) (pps_cons pe_str pe_int (pps_cons pe_str pe_int (pps_cons pe_str pe_int (pps_cons pe_str (pe_lst pa_nil) (pps_cons pe_str pe_int (pps_cons pe_str (pe_lst pa_nil) pps_nil))))))) (by rfl) (by rfl) (fun z => by cases z) (by decide)))
        (pss_cons (ps_dput (hu_of hr) (pv 4) pe_str (pe_callB (call_max2 rfl) (by rfl) T.m_max (by decide +kernel) (pa_cons pe_int (pa_cons (pe_op op_fdivW (pv 0) (pe_op op_pow pe_int pe_int)) pa_nil))) (by rfl))
        (pss_cons (ps_dput (hu_of hr) (pv 4) pe_str (pe_ix ix_list (pe_lst (pa_cons pe_int (pa_cons pe_int (pa_cons pe_int (pa_cons pe_int pa_nil))))) (pe_call G__law_next (hr.mono (by omega)) (by rfl) T.g__law_next T.F__law_next.kp T.b__law_next .nil pass0 (pa_cons (pv 4) (pa_cons pe_int pa_nil))) (fun _ _ => rfl)) (by rfl))
        (pss_cons (ps_dput (hu_of hr) (pv 4) pe_str (pe_ix ix_list (pe_lst (pa_cons pe_int (pa_cons pe_int (pa_cons pe_int pa_nil)))) (pe_call G__law_next (hr.mono (by omega)) (by rfl) T.g__law_next T.F__law_next.kp T.b__law_next .nil pass0 (pa_cons (pv 4) (pa_cons pe_int pa_nil))) (fun _ _ => rfl)) (by rfl))
        (pss_one (ps_ret (pv 4))))))))), ?_⟩
    refine ⟨_, rfl, _, rfl, _, _, rfl, rfl, .inl ⟨by decide, by decide⟩, _, _, rfl, rfl, _, _, rfl, rfl, .inr ⟨by decide, by decide⟩, _, _, rfl, rfl, (by show (0 : Int) < 2147483647; decide), ?_⟩
    have nn : 0 ≤ (c + 7919 * k) * 48271 % 2147483647 ∧ (c + 7919 * k) * 48271 % 2147483647 < 2147483647 := ⟨Int.emod_nonneg _ (by decide), Int.emod_lt_of_pos _ (by decide)⟩
    refine ⟨_, rfl, _, rfl, _, _, rfl, rfl, .inl ⟨by omega, by omega⟩, _, rfl, _, _, rfl, rfl, .inl ⟨by decide, by decide⟩, _, _, rfl, rfl, _, rfl, _, _, rfl, rfl, _, _, rfl, rfl, (by show (0 : Int) < 2147483629; decide), ?_⟩
    obtain ⟨st, hst⟩ : ∃ st : Int, ((c + 7919 * k) * 48271 % 2147483647 * ((c + 7919 * k) * 48271 % 2147483647) + 7 * ((c + 7919 * k) * 48271 % 2147483647) + k) % 2147483629 = st := ⟨_, rfl⟩
    intro D nD
    refine ⟨_, rfl, Nat.zero_le _, fun lb nlb => ⟨Nat.zero_le _, fun ls nls => ?_⟩⟩
    have s1 := same_new (o := .dK []) nD
    have s2 := same_new (o := .lst []) nlb
    have s3 := same_new (o := .lst []) nls
    have s13 := (s1.trans s2).trans s3
    have hlb : H lb = none := s1.free nlb
    have hls : H ls = none := (s1.trans s2).free nls
    have nlbD : lb ≠ D := fun z => by rw [z, upd_same] at nlb; cases nlb
    have nlsD : ls ≠ D := fun z => by rw [z, upd_ne nlbD.symm, upd_same] at nls; cases nls
    have nlsb : ls ≠ lb := fun z => by rw [z, upd_same] at nls; cases nls
    have eD : upd (upd (upd H D (.dK [])) lb (.lst [])) ls (.lst []) D = some (.dK []) := (s2.trans s3) _ _ upd_same
    refine ⟨eD, dk7 st lb ls, by rw [← hst]; rfl, by show 7 ≤ 15; decide, ?_⟩
    rw [merge_dk7]
    generalize hH4 : upd (upd (upd (upd H D (.dK [])) lb (.lst [])) ls (.lst [])) D (.dK (dk7 st lb ls)) = H4
    have s4 : Same H H4 := by rw [← hH4]; exact same_upd s13 nD
    have e4 : H4 D = some (.dK (dk7 st lb ls)) := by rw [← hH4]; exact upd_same
    have e4b : H4 lb = some (.lst []) := by rw [← hH4, upd_ne nlbD, upd_ne nlsb.symm, upd_same]
    have e4s : H4 ls = some (.lst []) := by rw [← hH4, upd_ne nlsD, upd_same]
    refine ⟨_, rfl, _, _, rfl, rfl, ⟨by decide, by decide, by decide⟩, _, _, rfl, rfl, wide_div (b := 64) (by decide) (by decide) (by decide) (by decide), _, _, rfl, _, rfl, _, _, rfl, dput_k e4 (by show 7 ≤ 100; decide), ?_⟩
    have g0 : (0 : Int) ≤ (if c / 10 ^ (18 : Int).toNat > 0 then c / 10 ^ (18 : Int).toNat else 0) := by
      split
      · omega
      · decide
    generalize (if c / 10 ^ (18 : Int).toNat > 0 then c / 10 ^ (18 : Int).toNat else (0 : Int)) = g at g0
    rw [put_dk7]
    generalize hH5 : upd H4 D (.dK (dkv st 0 1 0 lb 0 ls g [])) = H5
    have s5 : Same H H5 := by rw [← hH5]; exact same_upd s4 nD
    have e5 : H5 D = some (.dK (dkv st 0 1 0 lb 0 ls g [])) := by rw [← hH5]; exact upd_same
    have e5b : H5 lb = some (.lst []) := by rw [← hH5, upd_ne nlbD]; exact e4b
    have e5s : H5 ls = some (.lst []) := by rw [← hH5, upd_ne nlsD]; exact e4s
    have w5 : WS K H5 ⟨D, lb, ls, [], []⟩ ⟨0, 1, 0, [], 0, []⟩ 0 := by
      refine ⟨⟨g, st, g0, e5⟩, e5b, ⟨[], e5s, .nil⟩, ⟨rfl, fun i p b hp _ => by simp at hp⟩, ?_, ⟨Nat.le_refl _, Nat.le_refl _, Nat.le_refl _, Nat.le_refl _, fun b hb => (nomatch hb), fun p hp => (nomatch hp)⟩, by decide, fun k _ z => (nomatch z), Nat.zero_le _⟩
      show ([D, lb, ls] : List Addr).Nodup
      simp only [List.nodup_cons, List.mem_cons, List.not_mem_nil, or_false, not_or, not_false_eq_true, List.nodup_nil, and_true]
      exact ⟨⟨nlbD.symm, nlsD.symm⟩, nlsb.symm⟩
    have own5 : ∀ b, WA.own ⟨D, lb, ls, [], []⟩ b → H b = none := fun b hb => by
      rcases List.mem_cons.mp hb with rfl | hb
      · exact nD
      rcases List.mem_cons.mp hb with rfl | hb
      · exact hlb
      rcases List.mem_cons.mp hb with rfl | hb
      · exact hls
      · exact nomatch hb
    have ofK : ∀ {H'}, Kp (WA.own ⟨D, lb, ls, [], []⟩) H5 H' → Same H H' := fun k b o e => k b o (s5 _ _ e) fun z => by
      rw [own5 b z] at e
      cases e
    refine ⟨(by show 4 ≤ sizeLine; rw [sizeLine_eq]; decide), fun L nL => ?_⟩
    have s6 := same_new (o := .lst (([1, 7, 4986, 8999] : List Int).map V.int)) nL
    have w6 := w5.sm s6
    have oL := w5.off nL
    refine ⟨_, rfl, ⟨D, lb, ls, [], []⟩, _, 0, 4, rfl, w6, by decide, by decide, fun H7 r7 x7 w7 a7 b7 => ?_⟩
    have eL := x7.keep upd_same oL
    obtain ⟨z1, hz1, ez1⟩ := at_intsM (ns := [1, 7, 4986, 8999]) a7 (by show r7 < ((4 : Nat) : Int); omega)
    obtain ⟨g7, dr7, g70, e7⟩ := w7.dk
    have x57 := (Ext.same (A := ⟨D, lb, ls, [], []⟩) s6).trans x7
    refine ⟨L, _, _, _, rfl, rfl, .of eL, ez1, _, rfl, _, _, rfl, dput_k e7 (dkv_len w7.tl), ?_⟩
    rw [dkp_step (w7.ot _ (m8 (by decide +kernel)))]
    obtain ⟨w8, x8⟩ := w7.put (s' := ⟨0, z1, 0, [], 0, []⟩) (dr := dr7) g70 rfl rfl ⟨Nat.le_refl _, Nat.le_refl _, Nat.le_refl _, Nat.le_refl _, fun b hb => (nomatch hb), fun p hp => (nomatch hp)⟩
    have x58 := x57.trans x8
    generalize upd H7 _ _ = H8 at w8 x8 x58
    refine ⟨(by show 3 ≤ sizeLine; rw [sizeLine_eq]; decide), fun M nM => ?_⟩
    have s9 := same_new (o := .lst (([0, 3, 5000] : List Int).map V.int)) nM
    have w9 := w8.sm s9
    have oM := w8.off nM
    refine ⟨_, rfl, ⟨D, lb, ls, [], []⟩, _, 0, 3, rfl, w9, by decide, by decide, fun H10 r10 x10 w10 a10 b10 => ?_⟩
    have eM := x10.keep upd_same oM
    obtain ⟨z2, hz2, ez2⟩ := at_intsM (ns := [0, 3, 5000]) a10 (by show r10 < ((3 : Nat) : Int); omega)
    obtain ⟨g10, dr10, g100, e10⟩ := w10.dk
    have x510 := (x58.trans (.same s9)).trans x10
    refine ⟨M, _, _, _, rfl, rfl, .of eM, ez2, _, rfl, _, _, rfl, dput_k e10 (dkv_len w10.tl), ?_⟩
    rw [dkp_shift (w10.ot _ (m8 (by decide +kernel)))]
    obtain ⟨w11, x11⟩ := w10.put (s' := ⟨0, z1, z2, [], 0, []⟩) (dr := dr10) g100 rfl rfl ⟨Nat.le_refl _, Nat.le_refl _, Nat.le_refl _, Nat.le_refl _, fun b hb => (nomatch hb), fun p hp => (nomatch hp)⟩
    have x511 := x510.trans x11
    refine ⟨_, rfl, q _ ⟨D, lb, ls, [], []⟩ ⟨0, z1, z2, [], 0, []⟩ (ofK x511.k) own5 w11 rfl ?_ hz1⟩
    simp only [List.mem_cons, List.not_mem_nil, or_false] at hz1 hz2
    unfold Small
    show 0 ≤ z1 ∧ z1 < 10000 ∧ 0 ≤ z2 ∧ z2 < 10000
    omega
end

section
variable {P : Program} {w : World} {K : PySem.W.Frag} {mg : Str → Option Value} {base : Heap}
def cellA (ns : List Int) (k : Int) : Int := ns.getD k.toNat 0
def sp__law_cell_at (K : PySem.W.Frag) : Sp := fun vs H Q _ => ∃ (a : Addr) (ns : List Int) (k : Int), vs = [.ref a, .int k] ∧ 0 ≤ k ∧ SqL K H a (ns.map V.int) ∧ Q (.int (cellA ns k)) H
theorem ok__law_cell_at (T : Top K mg) : FnOk P w K mg base CX0 1 (He.ga K "_law_cell_at") T.fd__law_cell_at ["_law_script", "_law_k"] (sp__law_cell_at K) := by
  refine T.F__law_cell_at.ok sc__law_cell_at (fun vs H Q E h => ?_) (fun cdv A outer s H vs Q E hr h => ?_)
  · obtain ⟨a, ns, k, rfl, _⟩ := h
    rfl
  · obtain ⟨a, ns, k, rfl, h0, hS, q⟩ := h
    refine ⟨_, PSs.nox (pss_cons (ps_if (pt_cmpR op_lt (pv 1) (pe_callB call_len_seq (by rfl) T.m_len (by decide +kernel) (pa_cons (pv 0) pa_nil)) (nomark _)) (pss_one (ps_ret (pe_ix ix_list (pv 0) (pv 1) (fun _ _ => rfl)))) pss_nil)
        (pss_one (ps_ret pe_int))), ?_⟩
    refine ⟨_, rfl, _, rfl, a, _, rfl, .inl hS, _, _, rfl, rfl, _, rfl, ite2 (fun e => ?_) (fun e => ?_)⟩
    · have e1 : k < (ns.map V.int).length := of_decide_eq_true e
      rw [List.length_map] at e1
      exact ⟨_, rfl, _, rfl, a, _, _, _, rfl, rfl, hS, at_ints h0 e1, q⟩
    · have e1 : ¬ k < (ns.map V.int).length := fun z => e (decide_eq_true z)
      rw [List.length_map] at e1
      have e2 : cellA ns k = 0 := by
        unfold cellA
        have : ns.length ≤ k.toNat := by omega
        simp [List.getD, this]
      rw [e2] at q
      exact q
end

/-! tuples made anew, with no dict of their own; dict() of such a tuple of pairs: own rules -/
section
variable {X : Cx}
/-- a tuple without a dict -/
def TupZ (H : Hp) (p : Addr) (ys : List V) : Prop := ∃ ob : Obj, H p = some (.frz ob (.tup ys)) ∧ ob.dict = none
theorem TupZ.sq {K : PySem.W.Frag} {H : Hp} {p : Addr} {ys : List V} (h : TupZ H p ys) : SqT K H p ys := by
  obtain ⟨ob, e, _⟩ := h
  exact .inl (.inr ⟨ob, e⟩)
theorem TupZ.sm {H H' : Hp} {p : Addr} {ys : List V} (s : Same H H') (h : TupZ H p ys) : TupZ H' p ys := by
  obtain ⟨ob, e, d⟩ := h
  exact ⟨ob, s _ _ e, d⟩
theorem TupZ.kp {S : Addr → Prop} {H H' : Hp} {p : Addr} {ys : List V} (k : Kp S H H') (h : TupZ H p ys) : TupZ H' p ys := by
  obtain ⟨ob, e, d⟩ := h
  exact ⟨ob, k _ _ e fun _ z => z, d⟩
theorem call_tuple_ofZ : CallR X (.type "tuple") (fun xs H Q => ∃ p ys, xs = [.ref p] ∧ SqL X.K H p ys ∧ ∀ (l : Addr) (ob : Obj), H l = none → ob.dict = none → Q (.ref l) (upd H l (.frz ob (.tup ys)))) := by
  intro pins s σ H xs us Q I r h
  obtain ⟨p, ys, rfl, hq, q⟩ := h
  obtain ⟨u, rfl, rx⟩ := vals1 r
  cases rx
  obtain ⟨its, r', pl, hz⟩ := I.list hq
  have hlen := r'.length
  refine call_tuple_list pl.isList (fun h' kp => ?_) (by simp only [List.size_toArray] <;> omega)
  have I1 : Inv X pins σ H { s with heap := h' } := I.kept (t' := s.toks) kp
  have I2 : Inv X pins σ (upd H h'.objs.size (.frz { cls := .type "tuple", data := .seq its.toArray } (.tup ys))) { s with heap := h'.push { cls := .type "tuple", data := .seq its.toArray } } :=
    I1.laid (t' := s.toks) (fun b o e => Heap.get?_push_of_some _ e) (Nat.le_refl _) (show ObjOk X.prog X.w _ _ _ (.frz _ (.tup ys)) from ⟨Heap.get?_push_size _ rfl, hz, its, r', IsTup.new _ _⟩)
  exact ⟨.ref h'.objs.size, _, I2, rfl, q _ _ (I1.hok.fresh (Nat.le_refl _)) rfl⟩
theorem pairs_ofV {pins : List (Addr × Obj)} {σ : L2.St} {H : Hp} {s : Shared} (I : L2.Inv X pins σ H s) : ∀ {ps : List Addr} {kvs : List (Key × V)}, Paired (fun p kv => SqT X.K H p [kV kv.1, kv.2]) ps kvs →
    ∃ (prs : List (Key × Value)) (vs : List (Value × Value)), KV kvs prs ∧ prs.length = ps.length ∧ vs.length = ps.length ∧ ∀ (j : Nat) (q : Key × Value), prs[j]? = some q → ∃ (b : Addr) (u : Value), ps[j]? = some b ∧ vs[j]? = some (u, q.2) ∧ IsTup s.heap b #[u, q.2] ∧ keyIs q.1 u = true
  | _, _, .nil => ⟨[], [], .nil, rfl, rfl, fun j q e => by simp at e⟩
  | _, _, .cons (a := p) (b := kv) h t => by
    obtain ⟨prs, vs, r, hl, hv, hp⟩ := pairs_ofV I t
    obtain ⟨its, rv, ht, _⟩ := I.tuple h
    obtain ⟨u, y, ei, ru, ry⟩ := vals2 rv
    subst ei
    refine ⟨(kv.1, y) :: prs, (u, y) :: vs, .cons ⟨rfl, ry⟩ r, by rw [List.length_cons, List.length_cons, hl], by rw [List.length_cons, List.length_cons, hv], fun j q e => ?_⟩
    cases j with
    | zero =>
      have e' : (kv.1, y) = q := Option.some.inj e
      subst e'
      exact ⟨p, u, rfl, rfl, ht, kV_is (P := X.prog) (w := X.w) ru⟩
    | succ j =>
      obtain ⟨b, u', e1, e2, e3, e4⟩ := hp j q (by simpa using e)
      exact ⟨b, u', by simpa using e1, by simpa using e2, e3, e4⟩
theorem call_dictTZ (hcalm : X.calm = true) : CallR X (.type "dict") (fun xs H Q => ∃ (a : Addr) (ps : List Addr) (kvs : List (Key × V)), xs = [.ref a] ∧ TupZ H a (ps.map V.ref) ∧ Paired (fun p kv => SqT X.K H p [kV kv.1, kv.2]) ps kvs ∧ ps.length ≤ 1000 ∧ ∀ p, H p = none → Q (.ref p) (upd H p (.dK (mergeK [] kvs)))) := by
  intro pins s σ H xs us Q I r q
  obtain ⟨a, ps, kvs, ex, ⟨ob, hq, hd⟩, hp, l1, q⟩ := q
  subst ex
  obtain ⟨u, eu, rx⟩ := vals1 r
  subst eu
  cases rx
  obtain ⟨g1, hz, its, rv, o, ho, hc, n, hdat⟩ := I.hok a _ hq
  cases ho.symm.trans g1
  have ei := refs_at rv
  subst ei
  obtain ⟨prs, vs, rel, hl, hv, hpr⟩ := pairs_ofV I hp
  have hT : PairItems s.heap (ps.map Value.ref).toArray (fun j => ps.getD j 0) vs := by
    refine ⟨by rw [List.size_toArray, List.length_map, hv], fun j k v e => ?_⟩
    have jl : j < prs.length := by
      have := (List.getElem?_eq_some_iff.mp e).1
      omega
    obtain ⟨b, u, e1, e2, e3, e4⟩ := hpr j prs[j] (List.getElem?_eq_getElem jl)
    rw [e] at e2
    cases e2
    refine ⟨?_, ?_⟩
    · show (ps.map Value.ref).toArray[j]? = _
      rw [List.getElem?_toArray, List.getElem?_map, e1]
      simp [List.getD, e1]
    · show PairAt s.heap (ps.getD j 0) _ _
      rw [show ps.getD j 0 = b by simp [List.getD, e1]]
      exact .inl e3
  have hlen : (mergeK [] kvs).length ≤ sizeLine := by
    refine Nat.le_trans (length_mergeK kvs []) ?_
    rw [List.length_nil, Nat.zero_add, rel.length, hl, sizeLine_eq]
    omega
  refine PySem.call_dict_pairs (knd := mixKind X.prog X.w) (kvs := prs) (PairArg.tuple a (ps.map Value.ref).toArray (fun j => ps.getD j 0) vs) (I.ok.hd hcalm) ⟨⟨_, n, ho, hc, hd, hdat⟩, hT⟩ ⟨by omega, fun i key v e => ?_⟩ (by rw [hv, sizeLine_eq]; omega) fun h' tk hd' k => ?_
  · have il : i < prs.length := by
      have := (List.getElem?_eq_some_iff.mp e).1
      omega
    obtain ⟨b, u, e1, e2, e3, e4⟩ := hpr i prs[i] (List.getElem?_eq_getElem il)
    have e' : vs[i]? = some (key, v) := e
    rw [e'] at e2
    cases e2
    exact ⟨prs[i].1, by rw [List.getElem?_eq_getElem il], e4⟩
  · have hm : (s.heap.objs.size == sysModules) = false := beq_eq_false_iff_ne.mpr (Nat.ne_of_gt I.big)
    have k' : ∀ b o, s.heap.get? b = some o → h'.get? b = some o := fun b o e => k b o (fun z => nomatch z) e
    exact ⟨.ref s.heap.objs.size, upd H s.heap.objs.size (.dK (mergeK [] kvs)), I.laid (t' := tk) k' (Nat.le_refl _) (show ObjOk X.prog X.w _ _ _ (.dK (mergeK [] kvs)) from ⟨hlen, hm, merged [] prs, KV.merge rel .nil, hd'⟩), rfl, q _ (I.hok.fresh (Nat.le_refl _))⟩
end

/-! the works that are drawn -/
structure Wk where
  hs : List (Str × Nat × List Blk)
  main : List Blk
def grD (g : List Blk) : PyData := .tuple (g.map blkD)
def ghD (h : Str × Nat × List Blk) : PyData := .tuple [.str h.1, grD h.2.2]
def Wk.d (W : Wk) : PyData := .tuple [.tuple (W.hs.map ghD), grD W.main]
def hlOf (hs : List (Str × Nat × List Blk)) : List (Str × Nat) := hs.map fun h => (h.1, h.2.1)
/-- a graph that is drawn -/
def Gr (hl : List (Str × Nat)) (inputs d : Nat) (g : List Blk) : Prop := ∃ s bls order, Small s ∧ s.step ∈ ([1, 7, 4986, 8999] : List Int) ∧ RGraph hl inputs d s bls ∧ Seen bls order ∧ bls.length ≤ 1000 ∧ g = turned bls order
def names9 : List Str := ["sq", "then", "abcdefgh", "h", "other", "to", "block", "jump", "v"]
structure WkOk (W : Wk) : Prop where
  nd : (W.hs.map (·.1)).Nodup
  nm : ∀ h ∈ W.hs, h.1 ∈ names9
  ln : W.hs.length ≤ 4
  hp : ∀ i h, W.hs[i]? = some h → h.2.1 ≤ 4 ∧ Gr (hlOf (W.hs.take i)) h.2.1 1 h.2.2
  mn : ∃ m ≤ 4, Gr (hlOf W.hs) m 2 W.main
theorem grD_nl (g : List Blk) : nLd (grD g) = true := by
  unfold grD nLd
  exact blks_nl g
theorem ghD_nl (h : Str × Nat × List Blk) : nLd (ghD h) = true := by simp [ghD, nLd, nLs, grD_nl]
theorem hps_nl (l : List (Str × Nat × List Blk)) : nLs (l.map ghD) = true := noLs_all fun x hx => by
  obtain ⟨q, _, rfl⟩ := List.mem_map.mp hx
  exact ghD_nl q
theorem Wk.nl (W : Wk) : nLd W.d = true := by simp [Wk.d, nLd, nLs, grD_nl, hps_nl]
theorem names_nd {a b : Str} (ha : a ∈ (["sq", "then", "abcdefgh", "h"] : List Str)) (hb : b ∈ (["other", "to", "block"] : List Str)) : ([a, b, "jump", "v"] : List Str).Nodup ∧ ∀ x ∈ ([a, b, "jump", "v"] : List Str), x ∈ names9 := by
  have h : ∀ a ∈ (["sq", "then", "abcdefgh", "h"] : List Str), ∀ b ∈ (["other", "to", "block"] : List Str), ([a, b, "jump", "v"] : List Str).Nodup ∧ ∀ x ∈ ([a, b, "jump", "v"] : List Str), x ∈ names9 := by decide +kernel
  exact h a ha b hb
/-- the first i helpers -/
structure WkI (names : List Str) (hs : List (Str × Nat × List Blk)) : Prop where
  nm : hs.map (·.1) = names.take hs.length
  ln : hs.length ≤ names.length
  hp : ∀ i h, hs[i]? = some h → h.2.1 ≤ 4 ∧ Gr (hlOf (hs.take i)) h.2.1 1 h.2.2
theorem WkI.add {names : List Str} {hs : List (Str × Nat × List Blk)} {x : Str} {m : Nat} {g : List Blk} (h : WkI names hs) (hx : names[hs.length]? = some x) (m4 : m ≤ 4) (hg : Gr (hlOf hs) m 1 g) : WkI names (hs ++ [(x, m, g)]) := by
  have hl := (List.getElem?_eq_some_iff.mp hx).1
  refine ⟨?_, by rw [List.length_append, List.length_singleton]; omega, fun i q hq => ?_⟩
  · rw [List.map_append, h.nm, List.length_append, List.length_singleton, List.take_succ, hx]
    rfl
  · by_cases hi : i < hs.length
    · rw [List.getElem?_append_left hi] at hq
      rw [List.take_append_of_le_length (by omega)]
      exact h.hp i q hq
    · have h2 := (List.getElem?_eq_some_iff.mp hq).1
      rw [List.length_append, List.length_singleton] at h2
      have e : i = hs.length := by omega
      subst e
      rw [List.getElem?_append_right (Nat.le_refl _), Nat.sub_self] at hq
      cases hq
      rw [List.take_left']
      · exact ⟨m4, hg⟩
      · rfl
section
variable {P : Program} {w : World} {K : PySem.W.Frag} {mg : Str → Option Value} {base : Heap}
theorem hl_len (hs : List (Str × Nat × List Blk)) : (hlOf hs).length = hs.length := List.length_map ..
theorem hl_nd {hs : List (Str × Nat × List Blk)} {names : List Str} (h : WkI names hs) (nd : names.Nodup) : ((hlOf hs).map (·.1)).Nodup := by
  have e : (hlOf hs).map (·.1) = hs.map (·.1) := by unfold hlOf; rw [List.map_map]; rfl
  rw [e, h.nm]
  exact (List.take_sublist _ _).nodup nd
theorem hl_le {hs : List (Str × Nat × List Blk)} {names : List Str} (h : WkI names hs) : ∀ p ∈ hlOf hs, p.2 ≤ 4 := fun p hp => by
  obtain ⟨q, hq, rfl⟩ := List.mem_map.mp hp
  obtain ⟨i, hi⟩ := List.getElem?_of_mem hq
  exact (h.hp i q hi).1
def sp_works (K : PySem.W.Frag) : Sp := fun vs H Q _ => ∃ (c k : Int), vs = [.int c, .int k] ∧ ∀ H' p ph ys vm W, Same H H' → WkOk W → Dp K H' (.ref p) W.d → SqT K H' p [.ref ph, vm] → TupZ H' ph ys → DpAll K H' ys (W.hs.map ghD) → Dp K H' vm (grD W.main) → Q (.ref p) H'
theorem ok__law_works (T : Top K mg) : FnOk P w K mg base CX0 12 (He.ga K "_law_works") T.fd__law_works ["_law_cell", "_law_k"] (sp_works K) := by
  have G__law_next := ok__law_next (P := P) (w := w) (base := base) T
  have G__law_state := ok__law_state (P := P) (w := w) (base := base) T
  have G__law_graph := ok__law_graph (P := P) (w := w) (base := base) T
  refine T.F__law_works.ok sc__law_works (fun vs H Q E h => ?_) (fun cdv A0 outer s0 H vs Q E hr h => ?_)
  · obtain ⟨c, k, rfl, _⟩ := h
    rfl
  · obtain ⟨c, k, rfl, q⟩ := h
    refine ⟨_, PSs.nox (pss_cons (ps_set (i := 2) sc__law_works.nd rfl (Or.inl rfl) (pe_call G__law_state (hr.mono (by omega)) (by rfl) T.g__law_state T.F__law_state.kp T.b__law_state .nil pass0 (pa_cons (pv 0) (pa_cons (pv 1) pa_nil))))
        (pss_cons (ps_set (i := 3) sc__law_works.nd rfl (Or.inl rfl) (pe_lst (pa_cons (pe_ix ix_list (pe_lst (pa_cons pe_str (pa_cons pe_str (pa_cons pe_str (pa_cons pe_str pa_nil))))) (pe_call G__law_next (hr.mono (by omega)) (by rfl) T.g__law_next T.F__law_next.kp T.b__law_next .nil pass0 (pa_cons (pv 2) (pa_cons pe_int pa_nil))) (fun _ _ => rfl)) (pa_cons (pe_ix ix_list (pe_lst (pa_cons pe_str (pa_cons pe_str (pa_cons pe_str pa_nil)))) (pe_call G__law_next (hr.mono (by omega)) (by rfl) T.g__law_next T.F__law_next.kp T.b__law_next .nil pass0 (pa_cons (pv 2) (pa_cons pe_int pa_nil))) (fun _ _ => rfl)) (pa_cons pe_str (pa_cons pe_str pa_nil))))))
        (pss_cons (ps_set (i := 4) sc__law_works.nd rfl (Or.inl rfl) pe_dnewK)
        (pss_cons (ps_set (i := 5) sc__law_works.nd rfl (Or.inl rfl) (pe_lst pa_nil))
        (pss_cons (ps_for PassesOwn.never (by rfl) (pi_list (pe_slice sl_list (pv 3) po_none (po_some (pe_ix ix_list (pe_lst (pa_cons pe_int (pa_cons pe_int (pa_cons pe_int (pa_cons pe_int (pa_cons pe_int pa_nil)))))) (pe_call G__law_next (hr.mono (by omega)) (by rfl) T.g__law_next T.F__law_next.kp T.b__law_next .nil pass0 (pa_cons (pv 2) (pa_cons pe_int pa_nil))) (fun _ _ => rfl))))) (pg_name (i := 6) sc__law_works.nd rfl (Or.inl rfl)) (pss_cons (ps_set (i := 7) sc__law_works.nd rfl (Or.inl rfl) (pe_ix ix_list (pe_lst (pa_cons pe_int (pa_cons pe_int (pa_cons pe_int (pa_cons pe_int pa_nil))))) (pe_call G__law_next (hr.mono (by omega)) (by rfl) T.g__law_next T.F__law_next.kp T.b__law_next .nil pass0 (pa_cons (pv 2) (pa_cons pe_int pa_nil))) (fun _ _ => rfl)))
        (pss_cons (ps_expr (pe_bm PySem.F.plainAttrs_list PySem.F.slot_list_append PySem.F.type_list_append mt_append (pv 5) (pa_cons (pe_tup (pa_cons (pv 6) (pa_cons (pe_call G__law_graph (hr.mono (by omega)) (by rfl) T.g__law_graph T.F__law_graph.kp T.b__law_graph .nil pass0 (pa_cons (pv 2) (pa_cons (pv 7) (pa_cons (pe_callTy call_dictD (by rfl) T.m_dict (by decide +kernel) (pa_cons (pv 4) pa_nil)) (pa_cons pe_int pa_nil))))) pa_nil))) pa_nil)))
        (pss_one (ps_dput (hu_of hr) (pv 4) (pv 6) (pv 7) (by rfl))))))
        (pss_one (ps_ret (pe_tup (pa_cons (pe_callTy call_tuple_ofZ (by rfl) T.m_tuple (by decide +kernel) (pa_cons (pv 5) pa_nil)) (pa_cons (pe_call G__law_graph (hr.mono (by omega)) (by rfl) T.g__law_graph T.F__law_graph.kp T.b__law_graph .nil pass0 (pa_cons (pv 2) (pa_cons (pe_ix ix_list (pe_lst (pa_cons pe_int (pa_cons pe_int (pa_cons pe_int (pa_cons pe_int (pa_cons pe_int pa_nil)))))) (pe_call G__law_next (hr.mono (by omega)) (by rfl) T.g__law_next T.F__law_next.kp T.b__law_next .nil pass0 (pa_cons (pv 2) (pa_cons pe_int pa_nil))) (fun _ _ => rfl)) (pa_cons (pv 4) (pa_cons pe_int pa_nil))))) pa_nil)))))))))), ?_⟩
    refine ⟨_, rfl, _, rfl, c, k, rfl, fun H1 A s s1 own1 w1 t1 sm st => ?_⟩
    have ofK : ∀ {H'}, Kp A.own H1 H' → Same H H' := fun k b o e => k b o (s1 _ _ e) fun z => by
      rw [own1 b z] at e
      cases e
    have tl1 : Tl A.t := .inl t1
    -- the names
    refine ⟨(by show 4 ≤ sizeLine; rw [sizeLine_eq]; decide), fun L1 nL1 => ?_⟩
    have s2 := same_new (o := .lst ((["sq", "then", "abcdefgh", "h"] : List Str).map V.str)) nL1
    have w2 := w1.sm s2
    have o2 := w1.off nL1
    refine ⟨_, rfl, A, s, 0, 4, rfl, w2, by decide, by decide, fun H3 r3 x3 w3 a3 b3 => ?_⟩
    obtain ⟨na, hna, ena⟩ := strs_at (zs := ["sq", "then", "abcdefgh", "h"]) a3 (by show r3 < ((4 : Nat) : Int); omega)
    refine ⟨L1, _, _, _, rfl, rfl, .of (x3.keep upd_same o2), ena, ?_⟩
    have x13 := (Ext.same (A := A) s2).trans x3
    refine ⟨(by show 3 ≤ sizeLine; rw [sizeLine_eq]; decide), fun L2 nL2 => ?_⟩
    have s4 := same_new (o := .lst ((["other", "to", "block"] : List Str).map V.str)) nL2
    have w4 := w3.sm s4
    have o4 := w3.off nL2
    refine ⟨_, rfl, A, s, 0, 3, rfl, w4, by decide, by decide, fun H5 r5 x5 w5 a5 b5 => ?_⟩
    obtain ⟨nb, hnb, enb⟩ := strs_at (zs := ["other", "to", "block"]) a5 (by show r5 < ((3 : Nat) : Int); omega)
    refine ⟨L2, _, _, _, rfl, rfl, .of (x5.keep upd_same o4), enb, ?_⟩
    have x15 := (x13.trans (.same s4)).trans x5
    obtain ⟨nd4, nm4⟩ := names_nd hna hnb
    refine ⟨(by show 4 ≤ sizeLine; rw [sizeLine_eq]; decide), fun L3 nL3 => ?_⟩
    have s6 := same_new (o := .lst [V.str na, .str nb, .str "jump", .str "v"]) nL3
    have w6 := w5.sm s6
    have o6 := w5.off nL3
    generalize hns : ([na, nb, "jump", "v"] : List Str) = names at nd4 nm4
    have e6 : upd H5 L3 (.lst [.str na, .str nb, .str "jump", .str "v"]) L3 = some (.lst (names.map V.str)) := by rw [upd_same, ← hns]; rfl
    have ln4 : names.length = 4 := by rw [← hns]; rfl
    have x16 := x15.trans (.same s6)
    generalize upd H5 L3 (.lst [.str na, .str nb, .str "jump", .str "v"]) = H6 at w6 e6 x16
    refine fun C nC => ?_
    have s7 := same_new (o := .dK []) nC
    have w7 := w6.sm s7
    have oC := w6.off nC
    refine ⟨Nat.zero_le _, fun D nD => ?_⟩
    have s8 := same_new (o := .lst []) nD
    have w8 := w7.sm s8
    have oD := w7.off nD
    have x18 := (x16.trans (.same s7)).trans (.same s8)
    have e8 := s8 _ _ (s7 _ _ e6)
    have eC8 := s8 _ _ (upd_same (H := H6) (a := C) (o := .dK []))
    have hneCD : D ≠ C := fun z => by rw [z, upd_same] at nD; cases nD
    -- how many
    refine ⟨_, rfl, (by show 5 ≤ sizeLine; rw [sizeLine_eq]; decide), fun L4 nL4 => ?_⟩
    have s9 := same_new (o := .lst (([0, 1, 1, 2, 4] : List Int).map V.int)) nL4
    have w9 := w8.sm s9
    have o9 := w8.off nL4
    refine ⟨_, rfl, A, s, 0, 5, rfl, w9, by decide, by decide, fun H10 r10 x10 w10 a10 b10 => ?_⟩
    obtain ⟨cz, hcz, ecz⟩ := at_intsM (ns := [0, 1, 1, 2, 4]) a10 (by show r10 < ((5 : Nat) : Int); omega)
    have x110 := (x18.trans (.same s9)).trans x10
    have eL4 := x10.keep upd_same o9
    have oL3 : ¬ A.own L3 := o6
    have e10 := x10.keep (s9 _ _ e8) oL3
    have eC10 := x10.keep (s9 _ _ eC8) oC
    have eD10 := x10.keep (s9 _ _ upd_same) oD
    obtain ⟨cn, hcn, rfl⟩ : ∃ cn : Nat, cn ≤ 4 ∧ cz = (cn : Nat) := by
      simp only [List.mem_cons, List.not_mem_nil, or_false] at hcz
      exact ⟨cz.toNat, by omega, by omega⟩
    refine ⟨L4, _, _, _, rfl, rfl, .of eL4, ecz, _, rfl, L3, _, rfl, .of e10, fun S nS => ?_⟩
    rw [cutV_to, ← List.map_take]
    have s11 := same_new (o := .lst ((names.take cn).map V.str)) nS
    have w11 := w10.sm s11
    have oS := w10.off nS
    have lnS : (names.take cn).length = cn := by rw [List.length_take]; omega
    have x111 := x110.trans (.same s11)
    have eS11 : upd H10 S (.lst ((names.take cn).map V.str)) S = some (.lst ((names.take cn).map V.str)) := upd_same
    have eC11 := s11 _ _ eC10
    have eD11 := s11 _ _ eD10
    have hCD : C ≠ D := hneCD.symm
    have hSC : S ≠ C := fun z => by rw [z, eC10] at nS; cases nS
    have hSD : S ≠ D := fun z => by rw [z, eD10] at nS; cases nS
    have hC1 : H1 C = none := kp_none x16.k nC oC
    have hD1 : H1 D = none := kp_none (x16.trans (.same s7)).k nD oD
    have hS1 : H1 S = none := kp_none x110.k nS oS
    refine ⟨S, rfl, ⟨_, .of eS11⟩, ?_⟩
    refine for_list (K := K) (a := S) (xs := (names.take cn).map V.str) (fun i σ' H' => ∃ (A' : WA) (s' : DSt) (hs : List (Str × Nat × List Blk)) (acc : List V) (y6 y7 : Option V), ExtG H1 A H' A' ∧ WS K H' A' s' 1000 ∧ Tl A'.t ∧ Cs s s' ∧
      ¬ A'.own S ∧ ¬ A'.own C ∧ ¬ A'.own D ∧ H' S = some (.lst ((names.take cn).map V.str)) ∧ H' C = some (.dK ((hlOf hs).map fun p => ((.inr p.1 : Key), V.int (p.2 : Nat)))) ∧ H' D = some (.lst acc) ∧ DpAll K H' acc (hs.map ghD) ∧ hs.length = i ∧ WkI (names.take cn) hs ∧
      σ' = [some (.int c), some (.int k), some (.ref A.d), some (.ref L3), some (.ref C), some (.ref D), y6, y7]) ?_ ?_ ?_ ?_
    · exact ⟨A, s, [], [], none, none, x111.g, w11.mono (by omega) (by omega), tl1, .refl _, oS, oC, oD, eS11, eC11, eD11, .nil, rfl, ⟨rfl, Nat.zero_le _, fun i h hh => by simp at hh⟩, rfl⟩
    · rintro i σ' H' _ ⟨A', s', hs, acc, y6, y7, _, _, _, _, _, _, _, e', _⟩
      exact .of e'
    · rintro i y σ' H12 hy ⟨A', s', hs, acc, y6, y7, x12, w12, tl12, cs12, oS12, oC12, oD12, eS12, eC12, eD12, dA12, hl12, wk12, rfl⟩
      rw [List.getElem?_map] at hy
      cases hx : (names.take cn)[i]? with
      | none => rw [hx] at hy; cases hy
      | some x =>
        rw [hx] at hy
        cases hy
        have hi := (List.getElem?_eq_some_iff.mp hx).1
        have dA' : A'.d = A.d := x12.d
        have la := dpAll_len dA12
        rw [List.length_map] at la
        refine ⟨(by show 4 ≤ sizeLine; rw [sizeLine_eq]; decide), fun L5 nL5 => ?_⟩
        have s13 := same_new (o := .lst (([0, 1, 2, 4] : List Int).map V.int)) nL5
        have w13 := w12.sm s13
        have o13 := w12.off nL5
        refine ⟨_, rfl, A', s', 1000, 4, by rw [dA']; rfl, w13, by decide, by decide, fun H14 r14 x14 w14 a14 b14 => ?_⟩
        obtain ⟨mz, hmz, emz⟩ := at_intsM (ns := [0, 1, 2, 4]) a14 (by show r14 < ((4 : Nat) : Int); omega)
        have eL5 := x14.keep upd_same o13
        obtain ⟨m, hm, rfl⟩ : ∃ m : Nat, m ≤ 4 ∧ mz = (m : Nat) := by
          simp only [List.mem_cons, List.not_mem_nil, or_false] at hmz
          exact ⟨mz.toNat, by omega, by omega⟩
        refine ⟨L5, _, _, _, rfl, rfl, .of eL5, emz, ?_⟩
        have x1214 := (Ext.same (A := A') s13).trans x14
        have eS14 := x1214.keep eS12 oS12
        have eC14 := x1214.keep eC12 oC12
        have eD14 := x1214.keep eD12 oD12
        have dA14 := x1214.dpAll (hps_nl _) dA12
        dsimp only [gName, List.set]
        refine ⟨_, rfl, .inl ⟨rfl, _, .of eD14⟩, _, rfl, _, rfl, _, rfl, _, rfl, C, _, rfl, .of eC14, fun C2 nC2 => ?_⟩
        have s15 := same_new (o := .dK ((hlOf hs).map fun p => ((.inr p.1 : Key), V.int (p.2 : Nat)))) nC2
        have w15 := w14.sm s15
        have oC2 := w14.off nC2
        refine ⟨A', s', 1000, m, 1, C2, hlOf hs, by rw [dA']; rfl, w15, Nat.le_refl _, tl12, hm, by decide, upd_same, oC2, hl_nd wk12 ((List.take_sublist _ _).nodup nd4), hl_le wk12, by rw [hl_len]; omega, fun H16 A16 s16 v16 bls order x16 w16 tl16 cs16 rg b6 sn dv => ?_⟩
        have x1216 : ExtG H12 A' H16 A16 := (x1214.trans (.same s15)).g.trans x16
        have xs16 : ExtG H14 A' H16 A16 := (Ext.same (A := A') s15).g.trans x16
        have eS16 := xs16.keep eS14 oS12
        have eC16 := xs16.keep eC14 oC12
        have eD16 := xs16.keep eD14 oD12
        have dA16 := dpAll_kp xs16.k _ _ (hps_nl _) dA14
        refine ⟨(by show 2 ≤ sizeLine; rw [sizeLine_eq]; decide), fun tp ntp => ?_⟩
        have s17 := same_new (o := .tup [.str x, v16]) ntp
        refine ⟨D, acc, _, rfl, rfl, s17 _ _ eD16, by rw [sizeLine_eq]; omega, ?_⟩
        have oS16 := x1216.off eS12 oS12
        have oC16 := x1216.off eC12 oC12
        have oD16 := x1216.off eD12 oD12
        have w17 := w16.sm s17
        have eD17 := s17 _ _ eD16
        have w18 := w17.mine (u := .lst (acc ++ [.ref tp])) eD17 trivial oD16
        have hDC : D ≠ C := hneCD
        have eC18 : upd (upd H16 tp (.tup [.str x, v16])) D (.lst (acc ++ [.ref tp])) C = some (.dK ((hlOf hs).map fun p => ((.inr p.1 : Key), V.int (p.2 : Nat)))) := (upd_ne hCD).trans (s17 _ _ eC16)
        have hss : hs.length ≤ 4 := by omega
        refine ⟨_, rfl, _, rfl, _, rfl, _, _, rfl, dput_k eC18 (by rw [List.length_map, hl_len]; omega), ?_⟩
        have gr : Gr (hlOf hs) m 1 (turned bls order) := ⟨s', bls, order, by rw [show Small s' = (0 ≤ s'.step ∧ s'.step < 10000 ∧ 0 ≤ s'.shift ∧ s'.shift < 10000) from rfl, cs12.1, cs12.2]; exact sm, by rw [cs12.1]; exact st, rg, sn, b6, rfl⟩
        have wk : WkI (names.take cn) (hs ++ [(x, m, turned bls order)]) := wk12.add (by rw [hl12]; exact hx) hm gr
        have pn : putK ((hlOf hs).map fun p => ((.inr p.1 : Key), V.int (p.2 : Nat))) (.inr x) (.int (m : Nat)) = (hlOf (hs ++ [(x, m, turned bls order)])).map fun p => ((.inr p.1 : Key), V.int (p.2 : Nat)) := by
          rw [putK_new fun kv hk z => ?_]
          · unfold hlOf
            rw [List.map_append, List.map_append]
            rfl
          · obtain ⟨p, hp, rfl⟩ := List.mem_map.mp hk
            have hp1 : p.1 ∈ (hlOf hs).map (·.1) := List.mem_map.mpr ⟨p, hp, rfl⟩
            have ndx := hl_nd wk ((List.take_sublist _ _).nodup nd4)
            have e1 : (hlOf (hs ++ [(x, m, turned bls order)])).map (·.1) = (hlOf hs).map (·.1) ++ [x] := by unfold hlOf; rw [List.map_append, List.map_append]; rfl
            rw [e1, List.nodup_append] at ndx
            exact ndx.2.2 _ hp1 x (List.mem_singleton.mpr rfl) (Sum.inr.inj z)
        rw [pn]
        refine ⟨A16, s16, hs ++ [(x, m, turned bls order)], acc ++ [.ref tp], _, _, ?_, w18.mine eC18 trivial oC16, tl16, cs12.trans cs16, oS16, oC16, oD16, ?_, upd_same, (upd_ne hDC).trans upd_same, ?_, by rw [List.length_append, hl12]; rfl, wk, rfl⟩
        · have xx := x12.trans x1216
          have xm : ExtG H1 A (upd (upd H16 tp (.tup [.str x, v16])) D (.lst (acc ++ [.ref tp]))) A16 := by
            have x17 := xx.ext (.same s17)
            exact ⟨fun b o e z => by rw [upd_ne fun y => by rw [y, hD1] at e; cases e]; exact x17.k b o e z, x17.o, x17.d⟩
          exact ⟨fun b o e z => by rw [upd_ne fun y => by rw [y, hC1] at e; cases e]; exact xm.k b o e z, xm.o, xm.d⟩
        · rw [upd_ne hSC, upd_ne hSD]
          exact s17 _ _ eS16
        · have d18 : DpAll K (upd (upd H16 tp (.tup [.str x, v16])) D (.lst (acc ++ [.ref tp]))) (acc ++ [.ref tp]) ((hs ++ [(x, m, turned bls order)]).map ghD) := by
            rw [List.map_append]
            refine dpAll_mine (dpAll_app (dpAll_sm s17 dA16) (.cons (.tup (.inl (.of upd_same)) (.cons (.str _) (.cons (dp_sm s17 dv) .nil))) .nil)) ?_ eD17 trivial
            rw [← List.map_append]
            exact hps_nl _
          exact dpAll_mine d18 (hps_nl _) eC18 trivial
    · rintro σ' H12 ⟨A', s', hs, acc, y6, y7, x12, w12, tl12, cs12, oS12, oC12, oD12, eS12, eC12, eD12, dA12, hl12, wk12, rfl⟩
      have dA' : A'.d = A.d := x12.d
      rw [List.length_map, lnS] at hl12
      refine ⟨_, rfl, D, acc, rfl, .of eD12, fun tp ob ntp dob => ?_⟩
      have s13 := same_new (o := .frz ob (.tup acc)) ntp
      have w13 := w12.sm s13
      refine ⟨_, rfl, (by show 5 ≤ sizeLine; rw [sizeLine_eq]; decide), fun L5 nL5 => ?_⟩
      have s14 := same_new (o := .lst (([0, 1, 2, 3, 4] : List Int).map V.int)) nL5
      have w14 := w13.sm s14
      have o14 := w13.off nL5
      refine ⟨_, rfl, A', s', 1000, 5, by rw [dA']; rfl, w14, by decide, by decide, fun H15 r15 x15 w15 a15 b15 => ?_⟩
      obtain ⟨mz, hmz, emz⟩ := at_intsM (ns := [0, 1, 2, 3, 4]) a15 (by show r15 < ((5 : Nat) : Int); omega)
      have eL5 := x15.keep upd_same o14
      obtain ⟨m, hm, rfl⟩ : ∃ m : Nat, m ≤ 4 ∧ mz = (m : Nat) := by
        simp only [List.mem_cons, List.not_mem_nil, or_false] at hmz
        exact ⟨mz.toNat, by omega, by omega⟩
      refine ⟨L5, _, _, _, rfl, rfl, .of eL5, emz, _, rfl, ?_⟩
      have x1215 := ((Ext.same (A := A') s13).trans (.same s14)).trans x15
      have eC15 := x1215.keep eC12 oC12
      refine ⟨A', s', 1000, m, 2, C, hlOf hs, by rw [dA']; rfl, w15, Nat.le_refl _, tl12, hm, by decide, eC15, oC12, hl_nd wk12 ((List.take_sublist _ _).nodup nd4), hl_le wk12, by rw [hl_len]; omega, fun H16 A16 s16 v16 bls order x16 w16 tl16 cs16 rg b6 sn dv => ?_⟩
      have x1516 : ExtG (upd H12 tp (.frz ob (.tup acc))) A' H16 A16 := ((Ext.same (A := A') s14).trans x15).g.trans x16
      have dT : Dp K H16 (.ref tp) (.tuple (hs.map ghD)) := dp_kp x1516.k _ _ (by unfold nLd; exact hps_nl _) (.tup (.inl (.inr ⟨ob, upd_same⟩)) (dpAll_sm s13 dA12))
      have zT : TupZ H16 tp acc := TupZ.kp x1516.k ⟨ob, upd_same, dob⟩
      refine ⟨(by show 2 ≤ sizeLine; rw [sizeLine_eq]; decide), fun tr ntr => ?_⟩
      have s17 := same_new (o := .tup [.ref tp, v16]) ntr
      have gr : Gr (hlOf hs) m 2 (turned bls order) := ⟨s', bls, order, by rw [show Small s' = (0 ≤ s'.step ∧ s'.step < 10000 ∧ 0 ≤ s'.shift ∧ s'.shift < 10000) from rfl, cs12.1, cs12.2]; exact sm, by rw [cs12.1]; exact st, rg, sn, b6, rfl⟩
      have xall := (x12.trans (x1215.g.trans x16)).ext (.same s17)
      refine q _ _ tp acc v16 ⟨hs, turned bls order⟩ (ofK xall.k) ⟨?_, fun h hh => ?_, ?_, wk12.hp, ⟨m, hm, gr⟩⟩ (.tup (.inl (.of upd_same)) (.cons (dp_sm s17 dT) (.cons (dp_sm s17 dv) .nil))) (.inl (.of upd_same)) (zT.sm s17) (dpAll_kp (Kp.of_same (S := fun _ => False) s17) _ _ (hps_nl _) (dpAll_kp x1516.k _ _ (hps_nl _) (dpAll_sm s13 dA12))) (dp_sm s17 dv)
      · rw [wk12.nm]
        exact (List.take_sublist _ _).nodup ((List.take_sublist _ _).nodup nd4)
      · have : h.1 ∈ hs.map (·.1) := List.mem_map.mpr ⟨h, hh, rfl⟩
        rw [wk12.nm] at this
        exact nm4 _ (List.mem_of_mem_take (List.mem_of_mem_take this))
      · show hs.length ≤ 4
        omega
end

theorem len_list (z : Str) : z.length = z.cps.toList.length := by simp [Str.length]
theorem nat_log (n : Int) (h : In32 n) : n.natAbs.log2 < 1920 := by
  obtain ⟨h1, h2⟩ := h
  have := PySem.Flt.log2_lt_of (show 0 < 40 by decide) (show n.natAbs < 2 ^ 40 by omega)
  omega
theorem len_ofString (s : String) : (Str.ofString s).length = s.toList.length := by
  rw [len_list]
  have := TL.tl_ofString s
  rw [show (Str.ofString s).cps.toList = s.toList.map Char.toNat from this, List.length_map]
/-! programs as data: what a repr asks -/
def Okd (n w : Nat) (d : PyData) : Prop := d.showable = true ∧ d.canLay0 = true ∧ d.intsShort 13 = true ∧ d.depth ≤ n ∧ d.weight ≤ w
def OkdL (n w : Nat) (ds : List PyData) : Prop := PyData.showableAll ds = true ∧ PyData.canLayAll0 ds = true ∧ PyData.intsShortAll 13 ds = true ∧ PyData.depthAll ds ≤ n ∧ PyData.weightAll ds ≤ w
theorem Okd.mono {n w n' w' : Nat} {d : PyData} (h : Okd n w d) (hn : n ≤ n') (hw : w ≤ w') : Okd n' w' d := ⟨h.1, h.2.1, h.2.2.1, Nat.le_trans h.2.2.2.1 hn, Nat.le_trans h.2.2.2.2 hw⟩
theorem OkdL.mono {n w n' w' : Nat} {d : List PyData} (h : OkdL n w d) (hn : n ≤ n') (hw : w ≤ w') : OkdL n' w' d := ⟨h.1, h.2.1, h.2.2.1, Nat.le_trans h.2.2.2.1 hn, Nat.le_trans h.2.2.2.2 hw⟩
theorem OkdL.nil {n w : Nat} : OkdL n w [] := ⟨rfl, rfl, rfl, Nat.zero_le _, Nat.zero_le _⟩
theorem OkdL.cons {n w w' : Nat} {d : PyData} {ds : List PyData} (h : Okd n w d) (h' : OkdL n w' ds) : OkdL n (w + 1 + w') (d :: ds) := by
  refine ⟨?_, ?_, ?_, ?_, ?_⟩
  · simp only [PyData.showableAll, h.1, h'.1, Bool.and_self]
  · simp only [PyData.canLayAll0, h.2.1, h'.2.1, Bool.and_self]
  · simp only [PyData.intsShortAll, h.2.2.1, h'.2.2.1, Bool.and_self]
  · simp only [PyData.depthAll]
    exact Nat.max_le.mpr ⟨h.2.2.2.1, h'.2.2.2.1⟩
  · simp only [PyData.weightAll]
    have := h.2.2.2.2
    have := h'.2.2.2.2
    omega
theorem Okd.tup {n w : Nat} {ds : List PyData} (h : OkdL n w ds) : Okd (n + 1) w (.tuple ds) := by
  refine ⟨?_, ?_, ?_, ?_, ?_⟩
  · simp only [PyData.showable]; exact h.1
  · simp only [PyData.canLay0]; exact h.2.1
  · simp only [PyData.intsShort]; exact h.2.2.1
  · simp only [PyData.depth]; have := h.2.2.2.1; omega
  · simp only [PyData.weight]; exact h.2.2.2.2
theorem Okd.kw {n : Nat} {z : Str} (h : PyData.strOk z = true) (l : z.length ≤ 8) : Okd n 8 (.str z) := ⟨by simp only [PyData.showable], by simp only [PyData.canLay0]; exact h, by simp only [PyData.intsShort], by simp only [PyData.depth]; exact Nat.zero_le _, by simp only [PyData.weight]; exact l⟩
theorem Okd.int {n : Nat} {i : Int} (h : In32 i) : Okd n 40 (.int i) := by
  refine ⟨?_, rfl, ?_, Nat.zero_le _, ?_⟩
  · simp only [PyData.showable]
    exact decide_eq_true (nat_log i h)
  · simp only [PyData.intsShort, PyData.shown]
    refine decide_eq_true ?_
    obtain ⟨h1, h2⟩ := h
    have : (Str.ofString (toString i)).length ≤ 13 := by
      rw [len_ofString, String.length_toList]
      exact Nat.le_trans (PySem.int_text_length_le10 (k := 10) (by decide) (by omega)) (by decide)
    exact this
  · simp only [PyData.weight]
    split
    · exact Nat.zero_le _
    · have := PySem.Flt.log2_lt_of (show 0 < 39 by decide) (show i.natAbs < 2 ^ 39 by obtain ⟨h1, h2⟩ := h; omega)
      omega

theorem all_okd {α : Type} {f : α → PyData} {n w : Nat} : ∀ {l : List α}, (∀ x ∈ l, Okd n w (f x)) → OkdL n ((w + 1) * l.length) (l.map f)
  | [], _ => OkdL.nil
  | z :: r, h => by
    have i := all_okd fun x hx => h x (List.mem_cons_of_mem _ hx)
    refine (OkdL.cons (h z (List.mem_cons_self ..)) i).mono (Nat.le_refl _) ?_
    rw [List.length_cons, Nat.mul_add]
    omega
theorem Okd.shown_len {n : Nat} {d : PyData} (h : Okd n 1000000 d) (hn : n ≤ 64) : d.shown.length ≤ sizeLine := by
  have := PyProof.Rows.shown_le13 (d := d) (by
    unfold PyData.layable0
    rw [h.2.1, decide_eq_true (Nat.le_trans h.2.2.2.1 hn), decide_eq_true (Nat.le_trans h.2.2.2.2 (by decide))]
    rfl) h.2.2.1
  rw [sizeLine_eq]
  omega

/-- values are counted on -/
theorem pre_many : Pre fun s s' => s.many ≤ s'.many := by
  refine ⟨fun _ => Nat.le_refl _, fun a b => Nat.le_trans a b, fun s w as k => ?_, fun _ _ => Nat.le_refl _, fun _ _ _ => Nat.le_refl _, fun _ _ _ => Nat.le_refl _, fun s zs => ?_, fun _ _ _ => Nat.le_refl _⟩
  · show s.many ≤ s.many + 1
    omega
  · show s.many ≤ s.many + zs.length
    omega
/-! how much there comes to be -/
def rtB (l : List Blk) : Nat := (l.map fun b => b.rs.length).sum
def DSt.rt (s : DSt) : Nat := rtB s.bls
theorem rtB_mod {f : Blk → Blk} {k : Nat} (hf : ∀ b, (f b).rs.length ≤ b.rs.length + k) : ∀ (i : Nat) (l : List Blk), rtB (modB f i l) ≤ rtB l + k
  | _, [] => by simp [modB, rtB]
  | 0, b :: r => by
    have := hf b
    simp only [modB, rtB, List.map_cons, List.sum_cons]
    omega
  | i + 1, b :: r => by
    have := rtB_mod hf i r
    simp only [modB, rtB, List.map_cons, List.sum_cons] at this ⊢
    omega
theorem rt_bear (s : DSt) (w : Str) (as : List Int) (k : Int) : (s.bear w as k).rt ≤ s.rt + 1 := rtB_mod (fun b => by show (b.rs ++ [_]).length ≤ _; rw [List.length_append, List.length_singleton]; omega) ..
theorem rt_tell (s : DSt) (a : Int) : (s.tell a).rt ≤ s.rt + 1 := rtB_mod (fun b => by show (b.rs ++ [_]).length ≤ _; rw [List.length_append, List.length_singleton]; omega) ..
theorem rt_end (s : DSt) (i : Nat) (e : En) : (s.setEnd i e).rt ≤ s.rt := by
  have h : (s.setEnd i e).rt ≤ s.rt + 0 := rtB_mod (f := fun b => { b with en := e }) (k := 0) (fun b => Nat.le_refl _) i s.bls
  omega
theorem rt_block (s : DSt) (zs : List Int) : (s.block zs).rt = s.rt := by
  show rtB (s.bls ++ [_]) = rtB s.bls
  simp [rtB]
theorem rt_last (s : DSt) (i : Nat) (r : GRow) : (s.last i r).rt ≤ s.rt + 1 := rtB_mod (fun b => by show (b.rs.dropLast ++ [_]).length ≤ _; rw [List.length_append, List.length_singleton, List.length_dropLast]; omega) ..
/-- at most r rows and k blocks more -/
def Mor (r k : Nat) (s s' : DSt) : Prop := s'.rt ≤ s.rt + r ∧ s'.bls.length ≤ s.bls.length + k
theorem Mor.mono {r k r' k' : Nat} {s s' : DSt} (h : Mor r k s s') (a : r ≤ r') (b : k ≤ k') : Mor r' k' s s' := ⟨by have := h.1; omega, by have := h.2; omega⟩
theorem Mor.trans {r k r' k' : Nat} {a b c : DSt} (h : Mor r k a b) (g : Mor r' k' b c) : Mor (r + r') (k + k') a c := ⟨by have := h.1; have := g.1; omega, by have := h.2; have := g.2; omega⟩
theorem mor_en (s : DSt) (i : Nat) (e : En) : Mor 0 0 s (s.setEnd i e) := ⟨rt_end .., by rw [setEnd_len]; omega⟩
theorem mor_st (s : DSt) (i : Nat) (k : List (Int × Int)) : Mor 0 0 s (s.stand i k) := ⟨Nat.le_refl _, Nat.le_refl _⟩
theorem mor_bl (s : DSt) (zs : List Int) : Mor 0 1 s (s.block zs) := ⟨by rw [rt_block]; omega, by rw [block_len]; omega⟩
theorem mor_la (s : DSt) (i : Nat) (r : GRow) : Mor 1 0 s (s.last i r) := ⟨rt_last .., by rw [last_len]; omega⟩
theorem mor_bear {wd : Str} {s s' : DSt} {v : Int} (h : RBear wd s s' v) : Mor 1 0 s s' := by
  have l := h.at.2
  obtain ⟨w, as, k, _, _, _, _, rfl⟩ := h
  exact ⟨rt_bear .., by omega⟩
theorem mor_row {s s' : DSt} (h : RRow s s') : Mor 1 0 s s' := by
  have l := h.at.2
  rcases h with rfl | ⟨a, _, rfl⟩ | ⟨wd, v, _, h⟩
  · exact ⟨by omega, by omega⟩
  · exact ⟨rt_tell .., by omega⟩
  · exact mor_bear h
theorem mor_steps {R : DSt → DSt → Prop} {r k : Nat} (f : ∀ s s', R s s' → Mor r k s s') : ∀ {m : Nat} {s s' : DSt}, Steps R m s s' → Mor (m * r) (m * k) s s'
  | 0, s, s', h => by
    rw [show s' = s from h]
    exact ⟨by omega, by omega⟩
  | m + 1, s, s', ⟨s1, h1, h2⟩ => by
    have := (mor_steps f h1).trans (f _ _ h2)
    rw [Nat.succ_mul, Nat.succ_mul]
    exact this
theorem mor_rows {m : Nat} {s s' : DSt} (h : RRows m s s') : Mor m 0 s s' := by
  obtain ⟨k, hk, st⟩ := h
  exact (mor_steps (fun _ _ => mor_row) st).mono (by omega) (by omega)
theorem mor_sure {s s' : DSt} {v : Int} (h : RSure s s' v) : Mor 1 0 s s' := by
  rcases h with ⟨rfl, _⟩ | ⟨_, h⟩
  · exact ⟨by omega, by omega⟩
  · exact mor_bear h
theorem mor_args {zs : List Int} {s s' : DSt} {as : List Int} (h : RArgs zs s s' as) : Mor zs.length 0 s s' := by
  induction h with
  | nil s => exact ⟨by omega, by omega⟩
  | @snoc zs z s s1 s' as a _ r ih =>
    rw [List.length_append, List.length_singleton]
    refine ih.trans (r' := 1) (k' := 0) ?_
    have l := r.at.2
    rcases r with ⟨rfl, _⟩ | ⟨_, _, rfl⟩
    · exact ⟨by omega, by omega⟩
    · exact ⟨rt_bear .., by omega⟩
def SizesOk.l3 {sc : List (Int × Int)} {zs : List Int} (h : SizesOk sc zs) : zs.length ≤ 3 := by
  obtain ⟨k, hk, h⟩ := h
  rcases h with rfl | ⟨v, y, hv, hy, rfl⟩
  · rw [List.length_replicate]
    omega
  · rw [List.length_append, List.length_replicate, List.length_singleton]
    omega
theorem mor_side {P : DSt → DSt → Prop} {r k : Nat} (hP : ∀ s s', P s s' → Mor r k s s') {kept : List (Int × Int)} {b join : Nat} {zs : List Int} (z3 : zs.length ≤ 3) {leave j : Int} {s s' : DSt} (h : RSide P kept b join zs leave j s s') : Mor (r + 4) k s s' := by
  obtain ⟨s1, s2, as, h, ra, e⟩ := h
  have h2 : Mor (0 + r + zs.length) (0 + k + 0) s s2 := ((mor_st ..).trans (hP _ _ h)).trans (mor_args ra)
  rcases e with ⟨_, rfl⟩ | ⟨_, s3, one, n, r3, _, _, e⟩
  · exact (h2.trans (mor_en ..)).mono (by omega) (by omega)
  · have h3 := h2.trans (mor_sure r3)
    rcases e with rfl | rfl
    · exact (h3.trans (mor_en ..)).mono (by omega) (by omega)
    · exact (h3.trans (mor_en ..)).mono (by omega) (by omega)
theorem mor_turn {P : DSt → DSt → Prop} {r k : Nat} (hP : ∀ s s', P s s' → Mor r k s s') {hl : List (Str × Nat)} (hm : ∀ p ∈ hl, p.2 ≤ 4) {s s' : DSt} (h : RTurn P hl s s') : Mor (2 * r + 24) (2 * k + 3) s s' := by
  obtain ⟨s1, q, rr⟩ := h
  suffices hh : Mor (2 * r + 22) (2 * k + 3) s s1 from (hh.trans (mor_rows rr)).mono (by omega) (by omega)
  clear rr
  rcases q with rfl | q | q | q
  · exact ⟨by omega, by omega⟩
  · obtain ⟨s1, one, zs, leave, s4, s5, rs, hz, r1, r2, rfl⟩ := q
    exact (((mor_sure rs).trans ((mor_bl ..).trans ((mor_bl ..).trans ((mor_bl ..).trans ((mor_en ..).trans ((mor_side hP hz.l3 r1).trans (mor_side hP hz.l3 r2))))))).trans (mor_st ..)).mono (by omega) (by omega)
  · obtain ⟨zs, s1, as, s4, s5, one, s6, one', s9, s10, step, r', s12, later, s14, as2, s15, back, hz, r1, r4, r5, r6, r9, r10, r0, rl2, r12, r14, r15, rfl⟩ := q
    have z3 := hz.l3
    have h1 := mor_args r1
    rw [List.length_cons] at h1
    have h14 := mor_args r14
    have h4 : Mor _ _ s s4 := h1.trans ((mor_bl ..).trans ((mor_en ..).trans ((mor_st ..).trans (mor_rows r4))))
    have h6 : Mor 3 0 s5 s6 := by
      rcases r6 with ⟨rfl, _⟩ | ⟨t1, t2, bound, q1, q2, rfl⟩
      · exact ⟨by omega, by omega⟩
      · exact ((mor_bear q1).trans (mor_bear q2)).trans (mor_la ..)
    have h9 : Mor _ _ s6 s9 := (mor_bl ..).trans ((mor_bl ..).trans ((mor_en ..).trans ((mor_st ..).trans (hP _ _ r9))))
    have h12 : Mor _ _ s9 s12 := (mor_bear r10).trans ((mor_la ..).trans (mor_bear r12))
    have h15 : Mor 2 0 s14 s15 := by
      have l := r15.at.2
      rcases r15 with ⟨rfl, _⟩ | ⟨_, _, rfl, _⟩
      · exact ⟨by omega, by omega⟩
      · have a := rt_tell s14 (nvAt s1 1)
        have b := rt_tell (s14.tell (nvAt s1 1)) (nvAt s1 2)
        exact ⟨by omega, by omega⟩
    exact ((h4.trans ((mor_sure r5).trans (h6.trans h9))).trans (h12.trans ((mor_la ..).trans (h14.trans (h15.trans ((mor_en ..).trans (mor_st ..))))))).mono (by omega) (by omega)
  · obtain ⟨g, m, s1, as, zs, s2, more, hg, r1, hz, r2, rfl⟩ := q
    have z3 := hz.l3
    have h1 := mor_args r1
    rw [List.length_replicate] at h1
    have m4 := hm _ hg
    exact ((h1.trans (mor_args r2)).trans ((mor_bl ..).trans ((mor_en ..).trans (mor_st ..)))).mono (by simp only at m4; omega) (by omega)
theorem mor_parts0 {hl : List (Str × Nat)} (hm : ∀ p ∈ hl, p.2 ≤ 4) {P : DSt → DSt → Prop} {r k : Nat} (hP : ∀ s s', P s s' → Mor r k s s') {m : Nat} {s s' : DSt} (h : RPartsP P hl (m + 1) s s') : Mor (3 + m * (2 * r + 24)) (m * (2 * k + 3)) s s' := by
  obtain ⟨s1, j, q, hj, st⟩ := h
  have h1 := mor_steps (fun _ _ h => mor_turn hP hm h) st
  have a := Nat.mul_le_mul_right (2 * r + 24) (show j ≤ m by omega)
  have b := Nat.mul_le_mul_right (2 * k + 3) (show j ≤ m by omega)
  exact ((mor_rows q).trans h1).mono (by omega) (by omega)
theorem mor_parts {hl : List (Str × Nat)} (hm : ∀ p ∈ hl, p.2 ≤ 4) {d : Nat} (hd : d ≤ 2) {s s' : DSt} (h : RParts hl d 4 s s') : Mor 600 63 s s' := by
  have p0 : ∀ m s s', RParts hl 0 (m + 1) s s' → Mor (3 + m * 24) (m * 3) s s' := fun m s s' h => mor_parts0 (P := fun _ _ => False) (r := 0) (k := 0) hm (fun _ _ z => z.elim) h
  have p1 : ∀ m s s', RParts hl 1 (m + 1) s s' → Mor (3 + m * 78) (m * 9) s s' := fun m s s' h => mor_parts0 (P := RParts hl 0 2) (r := 27) (k := 3) hm (fun s s' h => p0 1 s s' h) h
  have p2 : ∀ m s s', RParts hl 2 (m + 1) s s' → Mor (3 + m * 186) (m * 21) s s' := fun m s s' h => mor_parts0 (P := RParts hl 1 2) (r := 81) (k := 9) hm (fun s s' h => p1 1 s s' h) h
  match d, hd with
  | 0, _ => exact (p0 3 _ _ h).mono (by decide) (by decide)
  | 1, _ => exact (p1 3 _ _ h).mono (by decide) (by decide)
  | 2, _ => exact (p2 3 _ _ h).mono (by decide) (by decide)

/-! a drawn graph is right: plain -/
/-- the size that is born by a row, where the values of sc are there -/
inductive RowR (sc : List (Int × Int)) : Str → List Int → Int → Prop
  | num (x : Int) : In32 x → RowR sc "number" [x] 0
  | fresh (x : Int) : 1 ≤ x → x ≤ 8 → RowR sc "fresh" [x] x
  | no (a : Int) : (a, 0) ∈ sc → RowR sc "not" [a] 0
  | op (w : Str) (a b : Int) : w ∈ wds7' → (a, 0) ∈ sc → (b, 0) ∈ sc → RowR sc w [a, b] 0
  | get (h a z : Int) : (h, z) ∈ sc → 0 < z → (a, 0) ∈ sc → RowR sc "get" [h, a] 0
  | put (h a x z : Int) : (h, z) ∈ sc → 0 < z → (a, 0) ∈ sc → (x, 0) ∈ sc → RowR sc "put" [h, a, x] z
theorem RowR.mono' {sc sc' : List (Int × Int)} (m : ∀ p ∈ sc, p ∈ sc') : ∀ {w : Str} {as : List Int} {k : Int}, RowR sc w as k → RowR sc' w as k
  | _, _, _, .num x h => .num x h
  | _, _, _, .fresh x a b => .fresh x a b
  | _, _, _, .no a h => .no a (m _ h)
  | _, _, _, .op w a b h1 h2 h3 => .op w a b h1 (m _ h2) (m _ h3)
  | _, _, _, .get h a z h1 h2 h3 => .get h a z (m _ h1) h2 (m _ h3)
  | _, _, _, .put h a x z h1 h2 h3 h4 => .put h a x z (m _ h1) h2 (m _ h3) (m _ h4)
theorem RowR.mono {sc sc' : List (Int × Int)} {w : Str} {as : List Int} {k : Int} (h : RowR sc w as k) (m : ∀ p ∈ sc, p ∈ sc') : RowR sc' w as k := RowR.mono' m h
/-- rows one behind the other: what is there ahead, and behind -/
inductive RowsR : List (Int × Int) → List GRow → List (Int × Int) → Prop
  | nil (sc : List (Int × Int)) : RowsR sc [] sc
  | born {sc sc' : List (Int × Int)} {rs : List GRow} {v : Int} {w : Str} {as : List Int} {k : Int} : RowsR sc rs sc' → Smv v → RowR sc' w as k → RowsR sc (rs ++ [⟨v, w, as⟩]) (sc' ++ [(v, k)])
  | tell {sc sc' : List (Int × Int)} {rs : List GRow} {a : Int} : RowsR sc rs sc' → (a, 0) ∈ sc' → RowsR sc (rs ++ [⟨-1, "tell", [a]⟩]) sc'
/-- args of given sizes -/
inductive ArgsR (sc : List (Int × Int)) : List Int → List Int → Prop
  | nil : ArgsR sc [] []
  | snoc {as zs : List Int} {a z : Int} : ArgsR sc as zs → (a, z) ∈ sc → ArgsR sc (as ++ [a]) (zs ++ [z])
theorem ArgsR.mono {sc sc' : List (Int × Int)} {as zs : List Int} (h : ArgsR sc as zs) (m : ∀ p ∈ sc, p ∈ sc') : ArgsR sc' as zs := by
  induction h with
  | nil => exact .nil
  | snoc _ h ih => exact .snoc ih (m _ h)
theorem ArgsR.cons {sc : List (Int × Int)} {as zs : List Int} {a z : Int} (h : ArgsR sc as zs) (h2 : (a, z) ∈ sc) : ArgsR sc (a :: as) (z :: zs) := by
  induction h with
  | nil => exact (ArgsR.nil.snoc h2 : ArgsR sc ([] ++ [a]) ([] ++ [z]))
  | @snoc as zs b y _ hb ih => exact (ih.snoc hb : ArgsR sc (a :: as ++ [b]) (z :: zs ++ [y]))
/-- a way: to a block that is there, what that one needs is there, args of the sizes of its params -/
structure WayR (es : Nat → List (Int × Int)) (bls : List Blk) (sc : List (Int × Int)) (first : List Int) (w : Way) : Prop where
  t0 : 0 < w.t
  ex : ∃ b zs, bls[w.t]? = some b ∧ ArgsR sc w.as zs ∧ b.ps.map (·.2) = first ++ zs
  es : ∀ p ∈ es w.t, p ∈ sc
def EndR (es : Nat → List (Int × Int)) (bls : List Blk) (hl : List (Str × Nat)) (sc : List (Int × Int)) : En → Prop
  | .fail n => 0 ≤ n ∧ n < 100
  | .give v => (v, 0) ∈ sc
  | .jump w => WayR es bls sc [] w
  | .choose v a b => (v, 0) ∈ sc ∧ WayR es bls sc [] a ∧ WayR es bls sc [] b
  | .call h as w => (h, as.length) ∈ hl ∧ (∀ a ∈ as, (a, 0) ∈ sc) ∧ WayR es bls sc [0] w
/-- what is born in a block -/
def GRow.bv (r : GRow) : List Int := if 0 ≤ r.v then [r.v] else []
def Blk.bv (b : Blk) : List Int := b.ps.map (·.1) ++ b.rs.flatMap GRow.bv
def bvs (l : List Blk) : List Int := l.flatMap Blk.bv
/-- sizes told by a function, of values that are born -/
def ScZ (sz : Int → Int) (bls : List Blk) (sc : List (Int × Int)) : Prop := ∀ p ∈ sc, p.1 ∈ bvs bls ∧ p.2 = sz p.1
def BlkR (es : Nat → List (Int × Int)) (sz : Int → Int) (bls : List Blk) (hl : List (Str × Nat)) (i : Nat) (b : Blk) : Prop := ∃ sc, RowsR (es i ++ b.ps) b.rs sc ∧ EndR es bls hl sc b.en ∧ ScZ sz bls sc
theorem ScZ.mono {sz sz' : Int → Int} {bls bls' : List Blk} {sc : List (Int × Int)} (h : ScZ sz bls sc) (hz : ∀ v ∈ bvs bls, sz' v = sz v) (hb : ∀ v ∈ bvs bls, v ∈ bvs bls') : ScZ sz' bls' sc := fun p hp => ⟨hb _ (h p hp).1, by rw [hz _ (h p hp).1]; exact (h p hp).2⟩
theorem RowsR.bv {sc sc' : List (Int × Int)} {rs : List GRow} (h : RowsR sc rs sc') : sc'.map (·.1) = sc.map (·.1) ++ rs.flatMap GRow.bv := by
  induction h with
  | nil => simp
  | born _ hv _ ih => rw [List.map_append, ih, List.flatMap_append, List.append_assoc]; simp [GRow.bv, hv.1]
  | tell _ _ ih => rw [ih, List.flatMap_append]; simp [GRow.bv]
theorem RowsR.sub {sc sc' : List (Int × Int)} {rs : List GRow} (h : RowsR sc rs sc') : ∀ p ∈ sc, p ∈ sc' := by
  induction h with
  | nil => exact fun p h => h
  | born _ _ _ ih => exact fun p h => List.mem_append_left _ (ih p h)
  | tell _ _ ih => exact ih
theorem WayR.mono {es es' : Nat → List (Int × Int)} {bls bls' : List Blk} {sc : List (Int × Int)} {first : List Int} {w : Way} (h : WayR es bls sc first w) (he : ∀ i, i < bls.length → es' i = es i) (hb : ∀ (i : Nat) (b : Blk), bls[i]? = some b → ∃ b', bls'[i]? = some b' ∧ b'.ps = b.ps) : WayR es' bls' sc first w := by
  obtain ⟨b, zs, h1, h2, h3⟩ := h.ex
  obtain ⟨b', h4, h5⟩ := hb _ _ h1
  refine ⟨h.t0, ⟨b', zs, h4, h2, by rw [h5]; exact h3⟩, ?_⟩
  rw [he _ (List.getElem?_eq_some_iff.mp h1).1]
  exact h.es
theorem EndR.mono {es es' : Nat → List (Int × Int)} {bls bls' : List Blk} {hl : List (Str × Nat)} {sc : List (Int × Int)} {e : En} (h : EndR es bls hl sc e) (he : ∀ i, i < bls.length → es' i = es i) (hb : ∀ (i : Nat) (b : Blk), bls[i]? = some b → ∃ b', bls'[i]? = some b' ∧ b'.ps = b.ps) : EndR es' bls' hl sc e := by
  cases e with
  | fail n => exact h
  | give v => exact h
  | jump w => exact WayR.mono h he hb
  | choose v a b => exact ⟨h.1, WayR.mono h.2.1 he hb, WayR.mono h.2.2 he hb⟩
  | call g as w => exact ⟨h.1, h.2.1, WayR.mono h.2.2 he hb⟩
theorem EndR.lt {es : Nat → List (Int × Int)} {bls : List Blk} {hl : List (Str × Nat)} {sc : List (Int × Int)} {e : En} (h : EndR es bls hl sc e) : ∀ w ∈ e.ways, 0 < w.t ∧ w.t < bls.length ∧ ∀ p ∈ es w.t, p ∈ sc := by
  have one : ∀ {first w}, WayR es bls sc first w → 0 < w.t ∧ w.t < bls.length ∧ ∀ p ∈ es w.t, p ∈ sc := fun h => by
    obtain ⟨b, zs, h1, _⟩ := h.ex
    exact ⟨h.t0, (List.getElem?_eq_some_iff.mp h1).1, h.es⟩
  intro w hw
  cases e with
  | fail n => cases hw
  | give v => cases hw
  | jump x => rw [List.mem_singleton.mp hw]; exact one h
  | choose v a b =>
    rcases List.mem_cons.mp hw with rfl | hw
    · exact one h.2.1
    · rw [List.mem_singleton.mp hw]; exact one h.2.2
  | call g as x => rw [List.mem_singleton.mp hw]; exact one h.2.2
/-! the k-th number -/
def num (s : DSt) (k : Nat) : Int := ((k : Int) * s.step + s.shift) % 9973
theorem num_inj {s : DSt} (hs : s.step ∈ ([1, 7, 4986, 8999] : List Int)) {a b : Nat} (ha : a ≤ 6000) (hb : b ≤ 6000) (h : num s a = num s b) : a = b := by
  have h0 : ((a : Int) * s.step + s.shift) % 9973 = ((b : Int) * s.step + s.shift) % 9973 := h
  simp only [List.mem_cons, List.not_mem_nil, or_false] at hs
  rcases hs with e | e | e | e <;> rw [e] at h0 <;> omega
/-- what is known of a state as far as blocks are done; o: those that are open -/
structure Core (hl : List (Str × Nat)) (es : Nat → List (Int × Int)) (sz : Int → Int) (o : Nat → Prop) (s : DSt) : Prop where
  sp : s.step ∈ ([1, 7, 4986, 8999] : List Int)
  done : ∀ i b, s.bls[i]? = some b → ¬ o i → BlkR es sz s.bls hl i b
  nd : (bvs s.bls).Nodup
  nm : ∀ v ∈ bvs s.bls, ∃ k, 1 ≤ k ∧ k ≤ s.many ∧ v = num s k
  es0 : es 0 = []
  esv : ∀ i, i < s.bls.length → ∀ p ∈ es i, p.1 ∈ bvs s.bls ∧ p.2 = sz p.1
  psz : ∀ b ∈ s.bls, ∀ p ∈ b.ps, p.2 = sz p.1
  s8 : ∀ v ∈ bvs s.bls, 0 ≤ sz v ∧ sz v ≤ 8
  re : ∀ i, i < s.bls.length → ¬ o i → Reach s.bls i
  len : 0 < s.bls.length
/-- a block that waits -/
def Waits (b : Blk) : Prop := b.rs = [] ∧ b.en = .fail 0
structure Inv (hl : List (Str × Nat)) (es : Nat → List (Int × Int)) (sz : Int → Int) (pd : Nat → Prop) (s : DSt) : Prop where
  c : Core hl es sz (fun i => pd i ∨ i = s.at_) s
  cur : ∃ b, s.bls[s.at_]? = some b ∧ RowsR (es s.at_ ++ b.ps) b.rs s.sc ∧ b.en = .fail 0
  np : ¬ pd s.at_
  pd : ∀ i, pd i → ∃ b, s.bls[i]? = some b ∧ Waits b
  scz : ∀ p ∈ s.sc, p.1 ∈ bvs s.bls ∧ p.2 = sz p.1
  reA : Reach s.bls s.at_
/-- from state to state: what stays -/
structure Up (pd : Nat → Prop) (es : Nat → List (Int × Int)) (sz : Int → Int) (s : DSt) (es' : Nat → List (Int × Int)) (sz' : Int → Int) (s' : DSt) : Prop where
  len : s.bls.length ≤ s'.bls.length
  es : ∀ i, i < s.bls.length → es' i = es i
  sz : ∀ v ∈ bvs s.bls, sz' v = sz v
  bv : ∀ v ∈ bvs s.bls, v ∈ bvs s'.bls
  ps : ∀ (i : Nat) (b : Blk), s.bls[i]? = some b → ∃ b', s'.bls[i]? = some b' ∧ b'.ps = b.ps
  re : ∀ i, Reach s.bls i → Reach s'.bls i
  cs : s'.step = s.step ∧ s'.shift = s.shift
theorem Up.refl {pd : Nat → Prop} {es : Nat → List (Int × Int)} {sz : Int → Int} {s : DSt} : Up pd es sz s es sz s := ⟨Nat.le_refl _, fun _ _ => rfl, fun _ _ => rfl, fun _ h => h, fun _ b h => ⟨b, h, rfl⟩, fun _ h => h, rfl, rfl⟩
theorem Up.trans {pd pd' : Nat → Prop} {es es1 es2 : Nat → List (Int × Int)} {sz sz1 sz2 : Int → Int} {s s1 s2 : DSt} (a : Up pd es sz s es1 sz1 s1) (b : Up pd' es1 sz1 s1 es2 sz2 s2) : Up pd es sz s es2 sz2 s2 :=
  ⟨Nat.le_trans a.len b.len, fun i hi => (b.es i (Nat.lt_of_lt_of_le hi a.len)).trans (a.es i hi), fun v hv => (b.sz v (a.bv v hv)).trans (a.sz v hv), fun v hv => b.bv v (a.bv v hv), fun i x hx => by
    obtain ⟨y, hy, e1⟩ := a.ps i x hx
    obtain ⟨z, hz, e2⟩ := b.ps i y hy
    exact ⟨z, hz, e2.trans e1⟩, fun i h => b.re i (a.re i h), b.cs.1.trans a.cs.1, b.cs.2.trans a.cs.2⟩
theorem reach_mono {bls bls' : List Blk} (h : ∀ i, ∀ w ∈ (blkAt bls i).en.ways, w ∈ (blkAt bls' i).en.ways) : ∀ {i}, Reach bls i → Reach bls' i := by
  intro i r
  induction r with
  | zero => exact .zero
  | step _ hw ih => exact .step ih (h _ _ hw)
theorem blkAt_some {bls : List Blk} {i : Nat} {b : Blk} (h : bls[i]? = some b) : blkAt bls i = b := by
  unfold blkAt
  rw [List.getD_eq_getElem?_getD, h]
  rfl
theorem blkAt_none {bls : List Blk} {i : Nat} (h : bls[i]? = none) : blkAt bls i = ⟨[], [], .fail 0⟩ := by
  unfold blkAt
  rw [List.getD_eq_getElem?_getD, h]
  rfl
theorem bvs_mod {f : Blk → Blk} {x : List Int} : ∀ {i : Nat} {l : List Blk} {b : Blk}, l[i]? = some b → (f b).bv = b.bv ++ x → (bvs (modB f i l)).Perm (x ++ bvs l)
  | _, [], b, h, _ => by simp at h
  | 0, c :: r, b, h, e => by
    cases h
    show ((f c).bv ++ bvs r).Perm (x ++ (c.bv ++ bvs r))
    rw [e, ← List.append_assoc x]
    exact List.perm_append_comm.append_right _
  | i + 1, c :: r, b, h, e => by
    show (c.bv ++ bvs (modB f i r)).Perm (x ++ (c.bv ++ bvs r))
    have h' : r[i]? = some b := h
    refine ((bvs_mod h' e).append_left _).trans ?_
    rw [← List.append_assoc, ← List.append_assoc]
    exact List.perm_append_comm.append_right _

/-! steps keep a graph right: plain -/
theorem ps_bv {b : Blk} {p : Int × Int} (h : p ∈ b.ps) : p.1 ∈ b.bv := List.mem_append_left _ (List.mem_map.mpr ⟨p, h, rfl⟩)
theorem bv_bvs {l : List Blk} {b : Blk} {v : Int} (h : b ∈ l) (hv : v ∈ b.bv) : v ∈ bvs l := List.mem_flatMap.mpr ⟨b, h, hv⟩
theorem mod_ps {f : Blk → Blk} {i : Nat} {l : List Blk} (hf : ∀ b, l[i]? = some b → (f b).ps = b.ps) : ∀ (j : Nat) (b : Blk), l[j]? = some b → ∃ b', (modB f i l)[j]? = some b' ∧ b'.ps = b.ps := fun j b hb => by
  rw [modB_at]
  by_cases z : j = i
  · subst z
    rw [if_pos rfl, hb]
    exact ⟨f b, rfl, hf b hb⟩
  · rw [if_neg z]
    exact ⟨b, hb, rfl⟩
theorem mod_ways {f : Blk → Blk} {i : Nat} {l : List Blk} (hf : ∀ b, l[i]? = some b → ∀ w ∈ b.en.ways, w ∈ (f b).en.ways) : ∀ j, ∀ w ∈ (blkAt l j).en.ways, w ∈ (blkAt (modB f i l) j).en.ways := fun j w hw => by
  cases e : l[j]? with
  | none =>
    rw [blkAt_none e] at hw
    cases hw
  | some b =>
    rw [blkAt_some e] at hw
    by_cases z : j = i
    · subst z
      rw [blkAt_some (b := f b) (by rw [modB_at, if_pos rfl, e]; rfl)]
      exact hf b e w hw
    · rw [blkAt_some (b := b) (by rw [modB_at, if_neg z, e])]
      exact hw
theorem BlkR.mono {es es' : Nat → List (Int × Int)} {sz sz' : Int → Int} {bls bls' : List Blk} {hl : List (Str × Nat)} {i : Nat} {b : Blk} (h : BlkR es sz bls hl i b) (hz : ∀ v ∈ bvs bls, sz' v = sz v) (hv : ∀ v ∈ bvs bls, v ∈ bvs bls') (hi : i < bls.length) (he : ∀ i, i < bls.length → es' i = es i) (hb : ∀ (i : Nat) (b : Blk), bls[i]? = some b → ∃ b', bls'[i]? = some b' ∧ b'.ps = b.ps) : BlkR es' sz' bls' hl i b := by
  obtain ⟨sc, h1, h2, h3⟩ := h
  exact ⟨sc, by rw [he i hi]; exact h1, h2.mono he hb, h3.mono hz hv⟩
section
variable {hl : List (Str × Nat)} {es : Nat → List (Int × Int)} {sz : Int → Int} {pd o : Nat → Prop} {s : DSt}
theorem Core.congr {o' : Nat → Prop} (h : Core hl es sz o s) (e : ∀ j, o' j ↔ o j) : Core hl es sz o' s := by
  have : o' = o := funext fun j => propext (e j)
  rw [this]
  exact h
/-- the open block at i changed: values x are born -/
theorem Core.mod {f : Blk → Blk} {x : List Int} {i m' : Nat} {sc' : List (Int × Int)} {b : Blk} {sz' : Int → Int} (h : Core hl es sz o s) (hb : s.bls[i]? = some b) (fb : (f b).bv = b.bv ++ x) (fp : (f b).ps = b.ps) (fe : (f b).en = b.en) (oi : o i) (xn : x.Nodup)
    (xd : ∀ v ∈ x, v ∉ bvs s.bls) (xm : ∀ v ∈ x, ∃ k, 1 ≤ k ∧ k ≤ m' ∧ v = num s k) (mm : s.many ≤ m') (hsz : ∀ v ∈ bvs s.bls, sz' v = sz v) (x8 : ∀ v ∈ x, 0 ≤ sz' v ∧ sz' v ≤ 8) :
    Core hl es sz' o { s with many := m', bls := modB f i s.bls, sc := sc' } ∧ (∀ v, v ∈ bvs (modB f i s.bls) ↔ v ∈ x ∨ v ∈ bvs s.bls) ∧ Up pd es sz s es sz' { s with many := m', bls := modB f i s.bls, sc := sc' } := by
  have pm := bvs_mod hb fb
  have mem : ∀ v, v ∈ bvs (modB f i s.bls) ↔ v ∈ x ∨ v ∈ bvs s.bls := fun v => by rw [pm.mem_iff, List.mem_append]
  have ps := mod_ps (f := f) (i := i) (l := s.bls) fun c hc => by rw [hb] at hc; cases hc; exact fp
  have re : ∀ j, Reach s.bls j → Reach (modB f i s.bls) j := fun j hj => reach_mono (mod_ways (f := f) (i := i) (l := s.bls) fun c hc w hw => by rw [hb] at hc; cases hc; rw [fe]; exact hw) hj
  have ln : (modB f i s.bls).length = s.bls.length := modB_len ..
  refine ⟨⟨h.sp, fun j c hc nj => ?_, ?_, fun v hv => ?_, h.es0, fun j hj p hp => ?_, fun c hc p hp => ?_, fun v hv => ?_, fun j hj nj => re _ (h.re j (by rw [← ln]; exact hj) nj), by show 0 < (modB f i s.bls).length; rw [ln]; exact h.len⟩, mem,
    ⟨by show _ ≤ (modB f i s.bls).length; rw [ln]; exact Nat.le_refl _, fun _ _ => rfl, hsz, fun v hv => (mem v).mpr (.inr hv), ps, re, rfl, rfl⟩⟩
  · have ji : j ≠ i := fun z => nj (z ▸ oi)
    have hc' : s.bls[j]? = some c := by
      have : (modB f i s.bls)[j]? = some c := hc
      rw [modB_at, if_neg ji] at this
      exact this
    exact (h.done j c hc' nj).mono hsz (fun v hv => (mem v).mpr (.inr hv)) (List.getElem?_eq_some_iff.mp hc').1 (fun _ _ => rfl) ps
  · show (bvs (modB f i s.bls)).Nodup
    rw [pm.nodup_iff, List.nodup_append]
    exact ⟨xn, h.nd, fun a ha c hc z => xd a ha (z ▸ hc)⟩
  · rcases (mem v).mp hv with hv | hv
    · exact xm v hv
    · obtain ⟨k, h1, h2, h3⟩ := h.nm v hv
      exact ⟨k, h1, Nat.le_trans h2 mm, h3⟩
  · obtain ⟨h1, h2⟩ := h.esv j (by rw [← ln]; exact hj) p hp
    exact ⟨(mem _).mpr (.inr h1), by rw [hsz _ h1]; exact h2⟩
  · have : c ∈ s.bls ∨ c = f b := by
      rcases modB_mem hc with h1 | ⟨c2, h1, h2⟩
      · exact .inl h1
      · rw [hb] at h1
        cases h1
        exact .inr h2
    rcases this with h1 | rfl
    · rw [hsz _ (bv_bvs h1 (ps_bv hp))]
      exact h.psz c h1 p hp
    · rw [fp] at hp
      have hm := List.mem_of_getElem? hb
      rw [hsz _ (bv_bvs hm (ps_bv hp))]
      exact h.psz b hm p hp
  · rcases (mem v).mp hv with hv | hv
    · exact x8 v hv
    · rw [hsz v hv]
      exact h.s8 v hv
theorem nv_num (s : DSt) : s.nv = num s (s.many + 1) := rfl
theorem Core.fresh (h : Core hl es sz o s) {k : Nat} (a : s.many < k) (m : k ≤ 6000) : num s k ∉ bvs s.bls := fun z => by
  obtain ⟨j, _, h2, h3⟩ := h.nm _ z
  have := num_inj h.sp m (Nat.le_trans h2 (by omega)) h3
  omega
theorem num_sm (s : DSt) (k : Nat) : Smv (num s k) := ⟨Int.emod_nonneg _ (by decide), Int.emod_lt_of_pos _ (by decide)⟩
theorem Core.sm (h : Core hl es sz o s) {v : Int} (hv : v ∈ bvs s.bls) : Smv v := by
  obtain ⟨k, _, _, rfl⟩ := h.nm v hv
  exact num_sm ..
theorem Inv.lt (h : Inv hl es sz pd s) : s.at_ < s.bls.length := by
  obtain ⟨b, hb, _⟩ := h.cur
  exact (List.getElem?_eq_some_iff.mp hb).1
theorem Inv.pdlt (h : Inv hl es sz pd s) {i : Nat} (p : pd i) : i < s.bls.length := by
  obtain ⟨b, hb, _⟩ := h.pd i p
  exact (List.getElem?_eq_some_iff.mp hb).1
theorem Inv.sz8 (h : Inv hl es sz pd s) : sz8 s.sc := fun p hp => by
  obtain ⟨h1, h2⟩ := h.scz p hp
  rw [h2]
  exact ⟨h.c.s8 _ h1, h.c.sm h1⟩
theorem Inv.kept0 (h : Inv hl es sz pd s) {a : Int} (k : a ∈ kept false s.sc) : (a, 0) ∈ s.sc := by
  obtain ⟨z, hz, e⟩ := kept_mem k
  have := (h.sz8 _ hz).1.1
  have e2 := of_decide_eq_false e
  have e3 : z = 0 := by simp only at this; omega
  exact e3 ▸ hz
theorem Inv.row (h : Inv hl es sz pd s) {w : Str} {as : List Int} {k : Int} (r : RowOk s.sc w as k) : RowR s.sc w as k := by
  have go : ∀ {w as k}, RowOk s.sc w as k → RowR s.sc w as k := fun {w as k} r => match w, as, k, r with
    | _, _, _, .num x a => .num x a
    | _, _, _, .fresh x a b => .fresh x a b
    | _, _, _, .no a ha => .no a (h.kept0 ha)
    | _, _, _, .op w a b hw ha hb => .op w a b hw (h.kept0 ha) (h.kept0 hb)
    | _, _, _, .get g a hg ha => by
      obtain ⟨z, hz, e⟩ := kept_mem hg
      exact .get g a z hz (of_decide_eq_true e) (h.kept0 ha)
    | _, _, _, .put g a x z hg ha hx gs => by
      obtain ⟨y, hy, e⟩ := kept_mem hg
      have y0 := of_decide_eq_true e
      rcases gs with gs | ⟨_, gs⟩
      · have e1 := (h.scz _ hy).2
        have e2 := (h.scz _ gs).2
        simp only at e1 e2
        exact .put g a x z gs (by rw [e2, ← e1]; exact y0) (h.kept0 ha) (h.kept0 hx)
      · exact absurd rfl (gs _ hy)
  exact go r
theorem Inv.rowk (h : Inv hl es sz pd s) {w : Str} {as : List Int} {k : Int} (r : RowR s.sc w as k) : 0 ≤ k ∧ k ≤ 8 := by
  have go : ∀ {w as k}, RowR s.sc w as k → 0 ≤ k ∧ k ≤ 8 := fun {w as k} r => match w, as, k, r with
    | _, _, _, .num x a => by decide
    | _, _, _, .fresh x a b => by omega
    | _, _, _, .no a ha => by decide
    | _, _, _, .op w a b hw ha hb => by decide
    | _, _, _, .get g a z hg _ ha => by decide
    | _, _, _, .put g a x z hg _ ha hx => (h.sz8 _ hg).1
  exact go r
/-- a value more -/
theorem Inv.bear {w : Str} {as : List Int} {k : Int} (h : Inv hl es sz pd s) (r : RowR s.sc w as k) (m : s.many + 1 ≤ 6000) : ∃ sz', Inv hl es sz' pd (s.bear w as k) ∧ Up pd es sz s es sz' (s.bear w as k) := by
  obtain ⟨b, hb, hr, he⟩ := h.cur
  have fr : s.nv ∉ bvs s.bls := h.c.fresh (k := s.many + 1) (by omega) m
  have rk := h.rowk r
  obtain ⟨c, mem, up⟩ := h.c.mod (pd := pd) (f := addRow ⟨s.nv, w, as⟩) (x := [s.nv]) (i := s.at_) (m' := s.many + 1) (sc' := s.sc ++ [(s.nv, k)]) (b := b) (sz' := fun v => if v = s.nv then k else sz v) hb
    (by show _ ++ (b.rs ++ [_]).flatMap GRow.bv = (_ ++ _) ++ _; rw [List.flatMap_append, List.append_assoc]; simp [GRow.bv, (num_sm s (s.many + 1)).1, nv_num, addRow]) rfl rfl (.inr rfl) (by simp)
    (fun v hv => by rw [List.mem_singleton.mp hv]; exact fr) (fun v hv => ⟨s.many + 1, by omega, by omega, by rw [List.mem_singleton.mp hv]; rfl⟩) (by omega)
    (fun v hv => by show (if v = s.nv then k else sz v) = sz v; exact if_neg (fun z : v = s.nv => fr (z ▸ hv))) (fun v hv => by show 0 ≤ (if v = s.nv then k else sz v) ∧ (if v = s.nv then k else sz v) ≤ 8; rw [if_pos (List.mem_singleton.mp hv)]; exact rk)
  refine ⟨_, ⟨c, ⟨addRow ⟨s.nv, w, as⟩ b, by show (modB _ s.at_ s.bls)[s.at_]? = _; rw [modB_at, if_pos rfl, hb]; rfl, .born hr (num_sm ..) r, he⟩, h.np, fun i hi => ?_, fun p hp => ?_, up.re _ h.reA⟩, up⟩
  · have ne : i ≠ s.at_ := fun z => h.np (z ▸ hi)
    obtain ⟨b2, h2, w2⟩ := h.pd i hi
    exact ⟨b2, by show (modB _ s.at_ s.bls)[i]? = _; rw [modB_at, if_neg ne]; exact h2, w2⟩
  · rcases List.mem_append.mp hp with hp | hp
    · obtain ⟨h1, h2⟩ := h.scz p hp
      exact ⟨(mem _).mpr (.inr h1), by show p.2 = if p.1 = s.nv then k else sz p.1; rw [if_neg (fun z : p.1 = s.nv => fr (z ▸ h1))]; exact h2⟩
    · rw [List.mem_singleton.mp hp]
      exact ⟨(mem _).mpr (.inl (List.mem_singleton.mpr rfl)), (if_pos rfl).symm⟩
theorem Inv.tell {a : Int} (h : Inv hl es sz pd s) (r : (a, 0) ∈ s.sc) : Inv hl es sz pd (s.tell a) ∧ Up pd es sz s es sz (s.tell a) := by
  obtain ⟨b, hb, hr, he⟩ := h.cur
  obtain ⟨c, mem, up⟩ := h.c.mod (pd := pd) (f := addRow ⟨-1, "tell", [a]⟩) (x := []) (i := s.at_) (m' := s.many) (sc' := s.sc) (b := b) (sz' := sz) hb
    (by show _ ++ (b.rs ++ [_]).flatMap GRow.bv = (_ ++ _) ++ _; rw [List.flatMap_append, List.append_assoc]; simp [GRow.bv, addRow]) rfl rfl (.inr rfl) (by simp)
    (fun v hv => nomatch hv) (fun v hv => nomatch hv) (Nat.le_refl _) (fun v hv => rfl) (fun v hv => nomatch hv)
  refine ⟨⟨c, ⟨addRow ⟨-1, "tell", [a]⟩ b, by show (modB _ s.at_ s.bls)[s.at_]? = _; rw [modB_at, if_pos rfl, hb]; rfl, .tell hr r, he⟩, h.np, fun i hi => ?_, fun p hp => ?_, up.re _ h.reA⟩, up⟩
  · have ne : i ≠ s.at_ := fun z => h.np (z ▸ hi)
    obtain ⟨b2, h2, w2⟩ := h.pd i hi
    exact ⟨b2, by show (modB _ s.at_ s.bls)[i]? = _; rw [modB_at, if_neg ne]; exact h2, w2⟩
  · obtain ⟨h1, h2⟩ := h.scz p hp
    exact ⟨(mem _).mpr (.inr h1), h2⟩
end

section
variable {hl : List (Str × Nat)} {es : Nat → List (Int × Int)} {sz : Int → Int} {pd o : Nat → Prop} {s : DSt}
theorem nvAt_num (s : DSt) (j : Nat) : nvAt s j = num s (s.many + (j + 1)) := rfl
theorem psOf_fst {s : DSt} : ∀ (j : Nat) (zs : List Int), (psOf s j zs).map (·.1) = (List.range' (j + 1) zs.length).map fun k => num s (s.many + k)
  | _, [] => rfl
  | j, z :: r => by
    show nvAt s j :: (psOf s (j + 1) r).map (·.1) = _
    rw [psOf_fst (j + 1) r, List.length_cons, List.range'_succ, List.map_cons]
    rfl
theorem psOf_snd {s : DSt} : ∀ (j : Nat) (zs : List Int), (psOf s j zs).map (·.2) = zs
  | _, [] => rfl
  | j, z :: r => by
    show z :: (psOf s (j + 1) r).map (·.2) = _
    rw [psOf_snd (j + 1) r]
theorem fst_uniq : ∀ {l : List (Int × Int)}, (l.map (·.1)).Nodup → ∀ {p q : Int × Int}, p ∈ l → q ∈ l → p.1 = q.1 → p = q
  | [], _, p, q, hp, _, _ => nomatch hp
  | a :: r, nd, p, q, hp, hq, e => by
    rw [List.map_cons] at nd
    have n := List.nodup_cons.mp nd
    rcases List.mem_cons.mp hp with h1 | h1
    · rcases List.mem_cons.mp hq with h2 | h2
      · rw [h1, h2]
      · exact absurd (show a.1 ∈ r.map (·.1) from List.mem_map.mpr ⟨q, h2, by rw [← e, h1]⟩) n.1
    · rcases List.mem_cons.mp hq with h2 | h2
      · exact absurd (show a.1 ∈ r.map (·.1) from List.mem_map.mpr ⟨p, h1, by rw [e, h2]⟩) n.1
      · exact fst_uniq n.2 h1 h2 e
open Classical in
/-- a block more, that waits; its elders' values k0 -/
theorem Inv.block {zs : List Int} {k0 : List (Int × Int)} (h : Inv hl es sz pd s) (z8 : ∀ z ∈ zs, 0 ≤ z ∧ z ≤ 8) (hk : ∀ p ∈ k0, p ∈ s.sc) (m : s.many + zs.length ≤ 6000) :
    ∃ es' sz', Inv hl es' sz' (fun i => pd i ∨ i = s.bls.length) (s.block zs) ∧ Up pd es sz s es' sz' (s.block zs) ∧ es' s.bls.length = k0 ∧ ∃ b, (s.block zs).bls[s.bls.length]? = some b ∧ b.ps = psOf s 0 zs := by
  have pf := psOf_fst (s := s) 0 zs
  have new : ∀ v ∈ (psOf s 0 zs).map (·.1), ∃ k, s.many < k ∧ k ≤ s.many + zs.length ∧ v = num s k := fun v hv => by
    rw [pf] at hv
    obtain ⟨k, hk, rfl⟩ := List.mem_map.mp hv
    rw [List.mem_range'_1] at hk
    exact ⟨s.many + k, by omega, by omega, rfl⟩
  have fr : ∀ v ∈ (psOf s 0 zs).map (·.1), v ∉ bvs s.bls := fun v hv => by
    obtain ⟨k, h1, h2, rfl⟩ := new v hv
    exact h.c.fresh h1 (by omega)
  have pnd : ((psOf s 0 zs).map (·.1)).Nodup := by
    rw [pf, List.nodup_iff_pairwise_ne, List.pairwise_map]
    refine List.Pairwise.imp_of_mem ?_ (List.nodup_iff_pairwise_ne.mp (List.nodup_range' ..))
    intro a b ha hb ne e
    rw [List.mem_range'_1] at ha hb
    have := num_inj h.c.sp (by omega) (by omega) e
    omega
  have bve : bvs (s.block zs).bls = bvs s.bls ++ (psOf s 0 zs).map (·.1) := by
    show bvs (s.bls ++ [_]) = _
    unfold bvs
    rw [List.flatMap_append]
    simp [Blk.bv]
  have at_ : ∀ (i : Nat) (b : Blk), s.bls[i]? = some b → (s.block zs).bls[i]? = some b := fun i b hb => by
    show (s.bls ++ [_])[i]? = _
    rw [List.getElem?_append_left (List.getElem?_eq_some_iff.mp hb).1]
    exact hb
  have atn : (s.block zs).bls[s.bls.length]? = some ⟨psOf s 0 zs, [], .fail 0⟩ := by
    show (s.bls ++ [_])[s.bls.length]? = _
    rw [List.getElem?_append_right (Nat.le_refl _), Nat.sub_self]
    rfl
  have cases_ : ∀ (i : Nat) (b : Blk), (s.block zs).bls[i]? = some b → (s.bls[i]? = some b ∧ i < s.bls.length) ∨ (i = s.bls.length ∧ b = ⟨psOf s 0 zs, [], .fail 0⟩) := fun i b hb => by
    have l := (List.getElem?_eq_some_iff.mp hb).1
    rw [block_len] at l
    by_cases z : i < s.bls.length
    · refine .inl ⟨?_, z⟩
      have : (s.bls ++ [⟨psOf s 0 zs, [], .fail 0⟩])[i]? = some b := hb
      rw [List.getElem?_append_left z] at this
      exact this
    · have e : i = s.bls.length := by omega
      subst e
      rw [atn] at hb
      exact .inr ⟨rfl, (Option.some.inj hb).symm⟩
  have ps : ∀ (i : Nat) (b : Blk), s.bls[i]? = some b → ∃ b', (s.block zs).bls[i]? = some b' ∧ b'.ps = b.ps := fun i b hb => ⟨b, at_ i b hb, rfl⟩
  have re : ∀ j, Reach s.bls j → Reach (s.block zs).bls j := fun j hj => reach_mono (fun i w hw => by
    cases e : s.bls[i]? with
    | none =>
      rw [blkAt_none e] at hw
      cases hw
    | some b =>
      rw [blkAt_some e] at hw
      rw [blkAt_some (at_ i b e)]
      exact hw) hj
  have psm : ∀ b ∈ s.bls, ∀ p ∈ b.ps, p.1 ∈ bvs s.bls := fun b hb p hp => bv_bvs hb (ps_bv hp)
  obtain ⟨sz', hsz, hnew⟩ : ∃ sz' : Int → Int, (∀ v ∈ bvs s.bls, sz' v = sz v) ∧ ∀ p ∈ psOf s 0 zs, sz' p.1 = p.2 := by
    refine ⟨fun v => if x : ∃ z, (v, z) ∈ psOf s 0 zs then x.choose else sz v, fun v hv => dif_neg fun ⟨z, hz⟩ => fr v (List.mem_map.mpr ⟨_, hz, rfl⟩) hv, fun p hp => ?_⟩
    have x : ∃ z, (p.1, z) ∈ psOf s 0 zs := ⟨p.2, hp⟩
    show (if x : ∃ z, (p.1, z) ∈ psOf s 0 zs then x.choose else sz p.1) = p.2
    rw [dif_pos x]
    have := fst_uniq pnd x.choose_spec hp rfl
    exact congrArg Prod.snd this
  have hes : ∀ i, i < s.bls.length → (fun i => if i = s.bls.length then k0 else es i) i = es i := fun i hi => if_neg (fun z : i = s.bls.length => by omega)
  have hesn : (fun i => if i = s.bls.length then k0 else es i) s.bls.length = k0 := if_pos rfl
  generalize (fun i => if i = s.bls.length then k0 else es i) = es' at hes hesn
  have k0v : ∀ p ∈ k0, p.1 ∈ bvs s.bls ∧ p.2 = sz p.1 := fun p hp => h.scz p (hk p hp)
  refine ⟨es', sz', ⟨⟨h.c.sp, fun i b hb no => ?_, ?_, fun v hv => ?_, ?_, fun i hi p hp => ?_, fun b hb p hp => ?_, fun v hv => ?_, fun i hi no => ?_, by rw [block_len]; omega⟩, ?_, ?_, fun i hi => ?_, fun p hp => ?_, re _ h.reA⟩,
    ⟨by rw [block_len]; omega, hes, hsz, fun v hv => by rw [bve]; exact List.mem_append_left _ hv, ps, re, rfl, rfl⟩, hesn, _, atn, rfl⟩
  · rcases cases_ i b hb with ⟨h1, l1⟩ | ⟨e, _⟩
    · exact (h.c.done i b h1 fun z => no (z.imp .inl id)).mono hsz (fun v hv => by rw [bve]; exact List.mem_append_left _ hv) l1 hes ps
    · exact absurd (.inl (.inr e)) no
  · rw [bve, List.nodup_append]
    exact ⟨h.c.nd, pnd, fun a ha b hb e => fr b hb (e ▸ ha)⟩
  · rw [bve] at hv
    rcases List.mem_append.mp hv with hv | hv
    · obtain ⟨k, h1, h2, h3⟩ := h.c.nm v hv
      exact ⟨k, h1, by show k ≤ s.many + zs.length; omega, h3⟩
    · obtain ⟨k, h1, h2, h3⟩ := new v hv
      exact ⟨k, by omega, h2, h3⟩
  · rw [hes 0 h.c.len]
    exact h.c.es0
  · have : p.1 ∈ bvs s.bls ∧ p.2 = sz p.1 := by
      by_cases z : i < s.bls.length
      · rw [hes i z] at hp
        exact h.c.esv i z p hp
      · rw [block_len] at hi
        have e : i = s.bls.length := by omega
        rw [e, hesn] at hp
        exact k0v p hp
    exact ⟨by rw [bve]; exact List.mem_append_left _ this.1, by rw [hsz _ this.1]; exact this.2⟩
  · obtain ⟨i, hi⟩ := List.getElem?_of_mem hb
    rcases cases_ i b hi with ⟨h1, l1⟩ | ⟨_, rfl⟩
    · have hm := List.mem_of_getElem? h1
      rw [hsz _ (psm b hm p hp)]
      exact h.c.psz b hm p hp
    · exact (hnew p hp).symm
  · rw [bve] at hv
    rcases List.mem_append.mp hv with hv | hv
    · rw [hsz v hv]
      exact h.c.s8 v hv
    · obtain ⟨p, hp, rfl⟩ := List.mem_map.mp hv
      rw [hnew p hp]
      have : p.2 ∈ (psOf s 0 zs).map (·.2) := List.mem_map.mpr ⟨p, hp, rfl⟩
      rw [psOf_snd] at this
      exact z8 _ this
  · by_cases z : i < s.bls.length
    · exact re _ (h.c.re i z fun y => no (y.imp .inl id))
    · rw [block_len] at hi
      exact absurd (.inl (.inr (show i = s.bls.length by omega))) no
  · obtain ⟨b, hb, hr, he⟩ := h.cur
    exact ⟨b, at_ _ b hb, by rw [show (s.block zs).at_ = s.at_ from rfl, hes _ h.lt]; exact hr, he⟩
  · rintro (z | z)
    · exact h.np z
    · have := h.lt
      rw [show (s.block zs).at_ = s.at_ from rfl] at z
      omega
  · rcases hi with hi | rfl
    · obtain ⟨b, hb, w⟩ := h.pd i hi
      exact ⟨b, at_ i b hb, w⟩
    · exact ⟨_, atn, rfl, rfl⟩
  · obtain ⟨h1, h2⟩ := h.scz p hp
    exact ⟨by rw [bve]; exact List.mem_append_left _ h1, by rw [hsz _ h1]; exact h2⟩
/-- no block is at work -/
structure Hal (hl : List (Str × Nat)) (es : Nat → List (Int × Int)) (sz : Int → Int) (pd : Nat → Prop) (s : DSt) : Prop where
  c : Core hl es sz pd s
  pd : ∀ i, pd i → ∃ b, s.bls[i]? = some b ∧ Waits b
/-- the block at work ends -/
theorem Inv.end {e : En} (h : Inv hl es sz pd s) (he : EndR es s.bls hl s.sc e) : Hal hl es sz pd (s.setEnd s.at_ e) ∧ Up pd es sz s es sz (s.setEnd s.at_ e) ∧ ∀ w ∈ e.ways, Reach (s.setEnd s.at_ e).bls w.t := by
  obtain ⟨b, hb, hr, hen⟩ := h.cur
  have ps := mod_ps (f := fun b => { b with en := e }) (i := s.at_) (l := s.bls) fun c hc => rfl
  have ln : (s.setEnd s.at_ e).bls.length = s.bls.length := setEnd_len ..
  have re : ∀ j, Reach s.bls j → Reach (s.setEnd s.at_ e).bls j := fun j hj => reach_mono (mod_ways (f := fun b => { b with en := e }) (i := s.at_) (l := s.bls) fun c hc w hw => by
    rw [hb] at hc
    cases hc
    rw [hen] at hw
    cases hw) hj
  have pm : (bvs (s.setEnd s.at_ e).bls).Perm (bvs s.bls) := bvs_mod (f := fun b => { b with en := e }) (x := []) hb (by show _ = _ ++ []; rw [List.append_nil]; rfl)
  have atA : (s.setEnd s.at_ e).bls[s.at_]? = some { b with en := e } := by
    show (modB _ s.at_ s.bls)[s.at_]? = _
    rw [modB_at, if_pos rfl, hb]
    rfl
  have atO : ∀ i, i ≠ s.at_ → (s.setEnd s.at_ e).bls[i]? = s.bls[i]? := fun i ne => by
    show (modB _ s.at_ s.bls)[i]? = _
    rw [modB_at, if_neg ne]
  refine ⟨⟨⟨h.c.sp, fun i c hc no => ?_, pm.nodup_iff.mpr h.c.nd, fun v hv => h.c.nm v (pm.mem_iff.mp hv), h.c.es0, fun i hi p hp => ?_, fun c hc p hp => ?_, fun v hv => h.c.s8 v (pm.mem_iff.mp hv), fun i hi no => ?_, by rw [ln]; exact h.c.len⟩, fun i hi => ?_⟩,
    ⟨by rw [ln]; exact Nat.le_refl _, fun _ _ => rfl, fun _ _ => rfl, fun v hv => pm.mem_iff.mpr hv, ps, re, rfl, rfl⟩, fun w hw => ?_⟩
  · by_cases z : i = s.at_
    · subst z
      rw [atA] at hc
      cases hc
      exact ⟨s.sc, hr, he.mono (fun _ _ => rfl) ps, fun p hp => ⟨pm.mem_iff.mpr (h.scz p hp).1, (h.scz p hp).2⟩⟩
    · rw [atO i z] at hc
      exact (h.c.done i c hc fun y => y.elim no z).mono (fun _ _ => rfl) (fun v hv => pm.mem_iff.mpr hv) (List.getElem?_eq_some_iff.mp hc).1 (fun _ _ => rfl) ps
  · obtain ⟨h1, h2⟩ := h.c.esv i (by rw [← ln]; exact hi) p hp
    exact ⟨pm.mem_iff.mpr h1, h2⟩
  · rcases modB_mem hc with h1 | ⟨c2, h1, rfl⟩
    · exact h.c.psz c h1 p hp
    · exact h.c.psz c2 (List.mem_of_getElem? h1) p hp
  · by_cases z : i = s.at_
    · rw [z]
      exact re _ h.reA
    · exact re _ (h.c.re i (by rw [← ln]; exact hi) fun y => y.elim no z)
  · have ne : i ≠ s.at_ := fun z => h.np (z ▸ hi)
    obtain ⟨c, hc, w⟩ := h.pd i hi
    exact ⟨c, by rw [atO i ne]; exact hc, w⟩
  · refine Reach.step (re _ h.reA) (w := w) ?_
    rw [blkAt_some atA]
    exact hw
/-- a block that waited is at work -/
theorem Hal.stand {i : Nat} {k0 : List (Int × Int)} (h : Hal hl es sz pd s) (pi : pd i) (ei : es i = k0) (ri : Reach s.bls i) : Inv hl es sz (fun j => pd j ∧ j ≠ i) (s.stand i k0) := by
  obtain ⟨b, hb, w1, w2⟩ := h.pd i pi
  have hi := (List.getElem?_eq_some_iff.mp hb).1
  have eps : psAt s i = b.ps := by
    unfold psAt
    rw [hb]
  refine ⟨?_, ⟨b, hb, ?_, w2⟩, fun z => z.2 rfl, fun j hj => h.pd j hj.1, fun p hp => ?_, ri⟩
  · have : Core hl es sz (fun j => (pd j ∧ j ≠ i) ∨ j = i) s := h.c.congr fun j => ⟨fun z => z.elim (·.1) (fun z => z ▸ pi), fun z => by
      by_cases y : j = i
      · exact .inr y
      · exact .inl ⟨z, y⟩⟩
    exact ⟨this.sp, this.done, this.nd, this.nm, this.es0, this.esv, this.psz, this.s8, this.re, this.len⟩
  · rw [w1]
    show RowsR (es i ++ b.ps) [] (k0 ++ psAt s i)
    rw [ei, eps]
    exact .nil _
  · rcases List.mem_append.mp hp with hp | hp
    · rw [← ei] at hp
      exact h.c.esv i hi p hp
    · rw [eps] at hp
      have hm := List.mem_of_getElem? hb
      exact ⟨bv_bvs hm (ps_bv hp), h.c.psz b hm p hp⟩
theorem Inv.congr {pd' : Nat → Prop} (h : Inv hl es sz pd s) (e : ∀ j, pd' j ↔ pd j) : Inv hl es sz pd' s := by
  have : pd' = pd := funext fun j => propext (e j)
  rw [this]
  exact h
theorem Hal.congr {pd' : Nat → Prop} (h : Hal hl es sz pd s) (e : ∀ j, pd' j ↔ pd j) : Hal hl es sz pd' s := by
  have : pd' = pd := funext fun j => propext (e j)
  rw [this]
  exact h
end

def GoI (hl : List (Str × Nat)) (pd : Nat → Prop) (es : Nat → List (Int × Int)) (sz : Int → Int) (s s' : DSt) : Prop := ∃ es' sz', Inv hl es' sz' pd s' ∧ Up pd es sz s es' sz' s' ∧ ∀ p ∈ s.sc, p ∈ s'.sc
def KeepsI (hl : List (Str × Nat)) (P : DSt → DSt → Prop) : Prop := ∀ es sz pd s s', Inv hl es sz pd s → P s s' → s'.many ≤ 6000 → GoI hl pd es sz s s'
theorem KeepsI.trans {hl : List (Str × Nat)} {P R : DSt → DSt → Prop} (h : KeepsI hl P) (k : KeepsI hl R) (m : ∀ s s', R s s' → s.many ≤ s'.many) : KeepsI hl fun s s' => ∃ s1, P s s1 ∧ R s1 s' := by
  rintro es sz pd s s' i ⟨s1, p, r⟩ l
  obtain ⟨e1, z1, i1, u1, m1⟩ := h es sz pd s s1 i p (Nat.le_trans (m _ _ r) l)
  obtain ⟨e2, z2, i2, u2, m2⟩ := k e1 z1 pd s1 s' i1 r l
  exact ⟨e2, z2, i2, u1.trans u2, fun p hp => m2 p (m1 p hp)⟩
theorem ArgsR.len {sc : List (Int × Int)} {as zs : List Int} (h : ArgsR sc as zs) : as.length = zs.length := by
  induction h with
  | nil => rfl
  | snoc _ _ ih => rw [List.length_append, List.length_append, ih]; rfl
theorem ArgsR.tail {sc : List (Int × Int)} : ∀ {as zs : List Int}, ArgsR sc as zs → ArgsR sc as.tail zs.tail := by
  intro as zs h
  induction h with
  | nil => exact .nil
  | @snoc as zs a z h m ih =>
    have l := h.len
    cases as with
    | nil =>
      cases zs with
      | nil => exact .nil
      | cons => simp at l
    | cons b r =>
      cases zs with
      | nil => simp at l
      | cons y t => exact ih.snoc m
theorem ArgsR.drop2 {sc : List (Int × Int)} {as zt : List Int} {y z : Int} (h : ArgsR sc as (y :: z :: zt)) : ArgsR sc (as.drop 2) zt := by
  have := h.tail.tail
  have e : as.drop 2 = as.tail.tail := by
    match as with
    | [] => rfl
    | [_] => rfl
    | _ :: _ :: _ => rfl
  rw [e]
  exact this
theorem psOf_in' {s : DSt} : ∀ {zs : List Int} {i j : Nat} {z : Int}, zs[j]? = some z → (nvAt s (i + j), z) ∈ psOf s i zs
  | [], i, j, z, h => by simp at h
  | y :: r, i, 0, z, h => by
    cases h
    exact List.mem_cons_self ..
  | y :: r, i, j + 1, z, h => by
    have h' : r[j]? = some z := h
    have := psOf_in' (s := s) (i := i + 1) h'
    rw [show i + (j + 1) = i + 1 + j by omega]
    exact List.mem_cons_of_mem _ this
theorem psOf_in {s : DSt} {zs : List Int} {j : Nat} {z : Int} (h : zs[j]? = some z) : (nvAt s j, z) ∈ psOf s 0 zs := by
  have := psOf_in' (s := s) (i := 0) h
  rw [Nat.zero_add] at this
  exact this
section
variable {hl : List (Str × Nat)} {es : Nat → List (Int × Int)} {sz : Int → Int} {pd o : Nat → Prop} {s s' : DSt}
theorem Inv.go0 (h : Inv hl es sz pd s) : GoI hl pd es sz s s := ⟨es, sz, h, .refl, fun _ h => h⟩
theorem Inv.bear' {w : Str} {as : List Int} {k : Int} (h : Inv hl es sz pd s) (r : RowR s.sc w as k) (m : s.many + 1 ≤ 6000) : GoI hl pd es sz s (s.bear w as k) := by
  obtain ⟨z, i, u⟩ := h.bear r m
  exact ⟨es, z, i, u, fun p hp => List.mem_append_left _ hp⟩
theorem Inv.rbear {wd : Str} {v : Int} (h : Inv hl es sz pd s) (r : RBear wd s s' v) (m : s'.many ≤ 6000) : GoI hl pd es sz s s' ∧ (wd ≠ "fresh" → wd ≠ "put" → (v, 0) ∈ s'.sc) := by
  obtain ⟨w, as, k, ro, k0, _, ev, rfl⟩ := r
  refine ⟨h.bear' (h.row ro) m, fun a b => ?_⟩
  rw [ev, ← k0 a b]
  exact List.mem_append_right _ (List.mem_singleton.mpr rfl)
theorem keeps_rrow : KeepsI hl RRow := by
  rintro es sz pd s s' h r m
  rcases r with rfl | ⟨a, ha, rfl⟩ | ⟨wd, v, _, r⟩
  · exact h.go0
  · obtain ⟨i, u⟩ := h.tell (h.kept0 ha)
    exact ⟨es, sz, i, u, fun p hp => hp⟩
  · exact (h.rbear r m).1
theorem keepsI_steps {R : DSt → DSt → Prop} (hR : KeepsI hl R) (m : ∀ s s', R s s' → s.many ≤ s'.many) : ∀ k, KeepsI hl (Steps R k)
  | 0, es, sz, pd, s, s', h, e, _ => by
    rw [show s' = s from e]
    exact h.go0
  | k + 1, es, sz, pd, s, s', h, e, l => KeepsI.trans (keepsI_steps hR m k) hR m es sz pd s s' h e l
theorem keeps_rrows {m : Nat} : KeepsI hl (RRows m) := by
  rintro es sz pd s s' h ⟨k, _, st⟩ l
  exact keepsI_steps keeps_rrow (fun _ _ => pre_many.rrow) k es sz pd s s' h st l
theorem Inv.rsure {v : Int} (h : Inv hl es sz pd s) (r : RSure s s' v) (m : s'.many ≤ 6000) : ∃ es' sz', Inv hl es' sz' pd s' ∧ Up pd es sz s es' sz' s' ∧ (∀ p ∈ s.sc, p ∈ s'.sc) ∧ (v, 0) ∈ s'.sc := by
  rcases r with ⟨rfl, hv⟩ | ⟨_, r⟩
  · exact ⟨es, sz, h, .refl, fun _ h => h, h.kept0 hv⟩
  · obtain ⟨⟨e, z, i, u, k⟩, v0⟩ := h.rbear r m
    exact ⟨e, z, i, u, k, v0 (by decide +kernel) (by decide +kernel)⟩
theorem Inv.rargs {zs as : List Int} (h : Inv hl es sz pd s) (z8 : ∀ z ∈ zs, 0 ≤ z ∧ z ≤ 8) (r : RArgs zs s s' as) (m : s'.many ≤ 6000) : ∃ es' sz', Inv hl es' sz' pd s' ∧ Up pd es sz s es' sz' s' ∧ (∀ p ∈ s.sc, p ∈ s'.sc) ∧ ArgsR s'.sc as zs := by
  induction r with
  | nil s => exact ⟨es, sz, h, .refl, fun _ h => h, .nil⟩
  | @snoc zs z s s1 s' as a _ r ih =>
    have zb := z8 z (List.mem_append_right _ (List.mem_singleton.mpr rfl))
    have mm : s1.many ≤ 6000 := by
      refine Nat.le_trans ?_ m
      rcases r with ⟨rfl, _⟩ | ⟨_, _, rfl⟩
      · exact Nat.le_refl _
      · exact Nat.le_succ _
    obtain ⟨e1, y1, i1, u1, m1, a1⟩ := ih h (fun z hz => z8 z (List.mem_append_left _ hz)) mm
    rcases r with ⟨rfl, ha⟩ | ⟨_, rfl, rfl⟩
    · exact ⟨e1, y1, i1, u1, m1, a1.snoc ha⟩
    · have rr : RowR s1.sc (if 0 < z then "fresh" else "number") [z] z := by
        by_cases c : 0 < z
        · rw [if_pos c]
          exact .fresh z (by omega) zb.2
        · rw [if_neg c]
          have e : z = 0 := by omega
          rw [e]
          exact .num 0 (by unfold In32; decide)
      obtain ⟨e2, y2, i2, u2, m2⟩ := i1.bear' rr m
      exact ⟨e2, y2, i2, u1.trans u2, fun p hp => m2 p (m1 p hp), (a1.mono m2).snoc (List.mem_append_right _ (List.mem_singleton.mpr rfl))⟩
theorem Inv.zs (h : Inv hl es sz pd s) {zs : List Int} (hz : SizesOk s.sc zs) : ∀ z ∈ zs, 0 ≤ z ∧ z ≤ 8 := (hz.b h.sz8).1
/-- a block that waits, with its params and what it needs -/
def PdB (es : Nat → List (Int × Int)) (s : DSt) (i : Nat) (zs : List Int) (k0 : List (Int × Int)) : Prop := 0 < i ∧ es i = k0 ∧ ∃ b, s.bls[i]? = some b ∧ b.ps.map (·.2) = zs
theorem PdB.up {es' : Nat → List (Int × Int)} {sz' : Int → Int} {pd' : Nat → Prop} {i : Nat} {zs : List Int} {k0 : List (Int × Int)} (h : PdB es s i zs k0) (u : Up pd' es sz s es' sz' s') : PdB es' s' i zs k0 := by
  obtain ⟨h0, h1, b, h2, h3⟩ := h
  obtain ⟨b', h4, h5⟩ := u.ps i b h2
  exact ⟨h0, by rw [u.es i (List.getElem?_eq_some_iff.mp h2).1]; exact h1, b', h4, by rw [h5]; exact h3⟩
theorem PdB.way {i : Nat} {zs first as : List Int} {k0 sc : List (Int × Int)} (h : PdB es s i (first ++ zs) k0) (hk : ∀ p ∈ k0, p ∈ sc) (ha : ArgsR sc as zs) : WayR es s.bls sc first ⟨i, as⟩ := by
  obtain ⟨h0, h1, b, h2, h3⟩ := h
  exact ⟨h0, ⟨b, zs, h2, ha, h3⟩, fun p hp => hk p (h1 ▸ hp)⟩
theorem Inv.block' {zs : List Int} {k0 : List (Int × Int)} (h : Inv hl es sz pd s) (z8 : ∀ z ∈ zs, 0 ≤ z ∧ z ≤ 8) (hk : ∀ p ∈ k0, p ∈ s.sc) (m : s.many + zs.length ≤ 6000) :
    ∃ es' sz', Inv hl es' sz' (fun i => pd i ∨ i = s.bls.length) (s.block zs) ∧ Up pd es sz s es' sz' (s.block zs) ∧ PdB es' (s.block zs) s.bls.length zs k0 := by
  obtain ⟨e, z, i, u, ek, b, hb, ps⟩ := h.block z8 hk m
  exact ⟨e, z, i, u, h.c.len, ek, b, hb, by rw [ps, psOf_snd]⟩
end

section
variable {hl : List (Str × Nat)} {es : Nat → List (Int × Int)} {sz : Int → Int} {pd o : Nat → Prop} {s s' : DSt}
/-- one side of a choice -/
theorem Hal.side {P : DSt → DSt → Prop} (hP : KeepsI hl P) {kept : List (Int × Int)} {b join : Nat} {zs : List Int} {leave k : Int} (h : Hal hl es sz pd s) (pb : pd b) (eb : es b = kept) (rb : Reach s.bls b) (hj : PdB es s join zs kept) (z8 : ∀ z ∈ zs, 0 ≤ z ∧ z ≤ 8)
    (r : RSide P kept b join zs leave k s s') (m : s'.many ≤ 6000) : ∃ es' sz', Hal hl es' sz' (fun j => pd j ∧ j ≠ b) s' ∧ Up pd es sz s es' sz' s' ∧ (leave ≠ k → Reach s'.bls join) := by
  obtain ⟨s1, s2, as, p, ra, e⟩ := r
  have i0 := h.stand pb eb rb
  have u0 : Up pd es sz s es sz (s.stand b kept) := ⟨Nat.le_refl _, fun _ _ => rfl, fun _ _ => rfl, fun _ h => h, fun _ b h => ⟨b, h, rfl⟩, fun _ h => h, rfl, rfl⟩
  have k0 : ∀ p ∈ kept, p ∈ (s.stand b kept).sc := fun p hp => List.mem_append_left _ hp
  have m2 : s2.many ≤ 6000 := by
    rcases e with ⟨_, rfl⟩ | ⟨_, s3, one, n, r3, _, _, e⟩
    · exact m
    · have := pre_many.rsure r3
      rcases e with rfl | rfl
      · exact Nat.le_trans this m
      · exact Nat.le_trans this m
  obtain ⟨e1, y1, i1, u1, m1⟩ := hP _ _ _ _ _ i0 p (Nat.le_trans (pre_many.rargs ra) m2)
  obtain ⟨e2, y2, i2, u2, mm2, a2⟩ := i1.rargs z8 ra m2
  have u02 := (u0.trans u1).trans u2
  have k2 : ∀ p ∈ kept, p ∈ s2.sc := fun p hp => mm2 p (m1 p (k0 p hp))
  rcases e with ⟨_, rfl⟩ | ⟨lk, s3, one, n, r3, n0, n1, e⟩
  · have w : EndR e2 s2.bls hl s2.sc (.jump ⟨join, as⟩) := PdB.way (first := []) (hj.up u02) k2 a2
    obtain ⟨h3, u3, r3⟩ := i2.end w
    exact ⟨e2, y2, h3, u02.trans u3, fun _ => r3 _ (List.mem_singleton.mpr rfl)⟩
  · have m3 : s3.many ≤ 6000 := by
      rcases e with rfl | rfl
      · exact m
      · exact m
    obtain ⟨e3, y3, i3, u3, mm3, v3⟩ := i2.rsure r3 m3
    rcases e with rfl | rfl
    · obtain ⟨h4, u4, _⟩ := i3.end (e := .fail n) ⟨n0, n1⟩
      exact ⟨e3, y3, h4, (u02.trans u3).trans u4, fun z => absurd lk z⟩
    · obtain ⟨h4, u4, _⟩ := i3.end (e := .give one) v3
      exact ⟨e3, y3, h4, (u02.trans u3).trans u4, fun z => absurd lk z⟩
theorem keepsI_choice {P : DSt → DSt → Prop} (hP : KeepsI hl P) (mP : ∀ s s', P s s' → s.many ≤ s'.many) : KeepsI hl (RChoice P) := by
  rintro es sz pd s s' h ⟨s1, one, zs, leave, s4, s5, rs, hz, r1, r2, rfl⟩ m
  have m5 : s5.many ≤ 6000 := m
  have m4 : s4.many ≤ 6000 := by
    have q := pre_many.rside mP r2
    exact Nat.le_trans q m5
  have m3 : (((s1.block []).block []).block zs).many ≤ 6000 := by
    have q := pre_many.rside mP r1
    exact Nat.le_trans q m4
  have m1 : s1.many + zs.length ≤ 6000 := m3
  obtain ⟨e1, y1, i1, u1, k1, v1⟩ := h.rsure rs (by omega)
  have z8 := i1.zs hz
  have nn := i1.lt
  obtain ⟨e2, y2, i2, u2, p2⟩ := i1.block' (zs := []) (k0 := s1.sc) (fun _ h => nomatch h) (fun _ h => h) (by show s1.many + 0 ≤ 6000; omega)
  obtain ⟨e3, y3, i3, u3, p3⟩ := i2.block' (zs := []) (k0 := s1.sc) (fun _ h => nomatch h) (fun _ h => h) (by show s1.many + 0 + 0 ≤ 6000; omega)
  obtain ⟨e4, y4, i4, u4, p4⟩ := i3.block' (zs := zs) (k0 := s1.sc) z8 (fun _ h => h) (by show s1.many + 0 + 0 + zs.length ≤ 6000; omega)
  have l2 : (s1.block []).bls.length = s1.bls.length + 1 := block_len ..
  have l3 : ((s1.block []).block []).bls.length = s1.bls.length + 2 := by rw [block_len, l2]
  rw [l2] at p3
  rw [l3] at p4
  have q2 := (p2.up u3).up u4
  have q3 := p3.up u4
  have w : EndR e4 (((s1.block []).block []).block zs).bls hl s1.sc (.choose one ⟨s1.bls.length, []⟩ ⟨s1.bls.length + 1, []⟩) :=
    ⟨v1, PdB.way (first := []) q2 (fun _ h => h) .nil, PdB.way (first := []) q3 (fun _ h => h) .nil⟩
  obtain ⟨h5, u5, r5⟩ := i4.end w
  have h5' := h5.congr (pd' := fun i => ((pd i ∨ i = s1.bls.length) ∨ i = s1.bls.length + 1) ∨ i = s1.bls.length + 2) fun j => by rw [l2, l3]
  have hn : ∀ i, pd i → i < s1.bls.length := fun i hi => Nat.lt_of_lt_of_le (h.pdlt hi) u1.len
  have a2 := q2.up u5
  have a3 := q3.up u5
  have a4 := p4.up u5
  obtain ⟨e6, y6, h6, u6, j6⟩ := h5'.side hP (.inl (.inl (.inr rfl))) a2.2.1 (r5 _ (List.mem_cons_self ..)) a4 z8 r1 m4
  obtain ⟨e7, y7, h7, u7, j7⟩ := h6.side hP ⟨.inl (.inr rfl), by omega⟩ (a3.up u6).2.1 (u6.re _ (r5 _ (List.mem_cons_of_mem _ (List.mem_cons_self ..)))) (a4.up u6) z8 r2 m5
  have rj : Reach s5.bls (s1.bls.length + 2) := by
    by_cases c : leave = 0
    · exact j7 (by rw [c]; decide)
    · exact u7.re _ (j6 c)
  have i8 := h7.stand (i := s1.bls.length + 2) ⟨⟨.inr rfl, by omega⟩, by omega⟩ ((a4.up u6).up u7).2.1 rj
  refine ⟨e7, y7, i8.congr fun j => ?_, ?_, fun p hp => List.mem_append_left _ (k1 p hp)⟩
  · constructor
    · intro z
      have := hn j z
      exact ⟨⟨⟨.inl (.inl (.inl z)), by omega⟩, by omega⟩, by omega⟩
    · rintro ⟨⟨⟨((z | z) | z) | z, a⟩, b⟩, c⟩
      · exact z
      · exact absurd z a
      · exact absurd z b
      · exact absurd z c
  · have u := (((((u1.trans u2).trans u3).trans u4).trans u5).trans u6).trans u7
    exact ⟨u.len, u.es, u.sz, u.bv, u.ps, u.re, u.cs⟩
theorem bear_last (s : DSt) (w w' : Str) (as as' : List Int) (k : Int) : (s.bear w as k).last s.at_ ⟨s.nv, w', as'⟩ = s.bear w' as' k := by
  unfold DSt.bear DSt.last
  simp only [modB_modB]
  congr 2
  funext b
  simp [setLast, addRow]
/-- a row born and then written anew -/
theorem Inv.anew {wd : Str} {v : Int} {w' : Str} {as' : List Int} {i : Nat} (h : Inv hl es sz pd s) (r : RBear wd s s' v) (a : wd ≠ "fresh") (b : wd ≠ "put") (hi : i = s.at_) (hr : RowR s.sc w' as' 0) (m : s'.many ≤ 6000) :
    GoI hl pd es sz s (s'.last i ⟨v, w', as'⟩) ∧ (v, 0) ∈ (s'.last i ⟨v, w', as'⟩).sc := by
  obtain ⟨w, as, k, ro, k0, _, rfl, rfl⟩ := r
  have e := k0 a b
  subst e
  subst hi
  rw [bear_last]
  exact ⟨h.bear' hr m, List.mem_append_right _ (List.mem_singleton.mpr rfl)⟩
theorem keepsI_loop {P : DSt → DSt → Prop} (hP : KeepsI hl P) (mP : ∀ s s', P s s' → s.many ≤ s'.many) : KeepsI hl (RLoop P) := by
  rintro es sz pd s s' h ⟨zs, s1, as, s4, s5, one, s6, one', s9, s10, step, r, s12, later, s14, as2, s15, back, hz, r1, r4, r5, r6, r9, r10, r0, rl2, r12, r14, r15, rfl⟩ m
  have m15 : s15.many ≤ 6000 := m
  have m14 : s14.many ≤ 6000 := by
    have q := pre_many.rback r15
    exact Nat.le_trans q m15
  have m12 : s12.many ≤ 6000 := by
    have q := pre_many.rargs r14
    exact Nat.le_trans q m14
  have m10 : s10.many ≤ 6000 := by
    have q := pre_many.rbear r12
    exact Nat.le_trans q m12
  have m9 : s9.many ≤ 6000 := by
    have q := pre_many.rbear r10
    exact Nat.le_trans q m10
  have m6 : s6.many ≤ 6000 := by
    have q := mP _ _ r9
    exact Nat.le_trans q m9
  have m5 : s5.many ≤ 6000 := by
    have q := pre_many.rbound r6
    exact Nat.le_trans q m6
  have m4 : s4.many ≤ 6000 := by
    have q := pre_many.rsure r5
    exact Nat.le_trans q m5
  have m3 : s1.many + (zs.length + 1) ≤ 6000 := by
    have q := pre_many.rrows r4
    exact Nat.le_trans q m4
  have z8 := h.zs hz
  have z80 : ∀ z ∈ (0 :: zs), 0 ≤ z ∧ z ≤ 8 := fun z hz => by
    rcases List.mem_cons.mp hz with rfl | hz
    · decide
    · exact z8 z hz
  obtain ⟨e1, y1, i1, u1, k1, a1⟩ := h.rargs z80 r1 (by omega)
  obtain ⟨e2, y2, i2, u2, p2⟩ := i1.block' (zs := 0 :: zs) (k0 := s1.sc) z80 (fun _ h => h) m3
  obtain ⟨h3, u3, r3⟩ := i2.end (e := .jump ⟨s1.bls.length, as⟩) (PdB.way (first := []) p2 (fun _ h => h) a1)
  rw [show (s1.block (0 :: zs)).at_ = s1.at_ from rfl] at h3 u3 r3
  have p3 := p2.up u3
  have i4 := h3.stand (i := s1.bls.length) (.inr rfl) p3.2.1 (r3 _ (List.mem_singleton.mpr rfl))
  have hn : ∀ i, pd i → i < s1.bls.length := fun i hi => Nat.lt_of_lt_of_le (h.pdlt hi) u1.len
  have i4' := i4.congr (pd' := pd) fun j => ⟨fun z => ⟨.inl z, by have := hn j z; omega⟩, fun z => z.1.elim id fun y => absurd y z.2⟩
  have u4 : Up pd es sz s e2 y2 (((s1.block (0 :: zs)).setEnd s1.at_ (.jump ⟨s1.bls.length, as⟩)).stand s1.bls.length s1.sc) := by
    have u := (u1.trans u2).trans u3
    exact ⟨u.len, u.es, u.sz, u.bv, u.ps, u.re, u.cs⟩
  have q3 : PdB e2 (((s1.block (0 :: zs)).setEnd s1.at_ (.jump ⟨s1.bls.length, as⟩)).stand s1.bls.length s1.sc) s1.bls.length (0 :: zs) s1.sc := p3
  have pin : ∀ (j : Nat) (z : Int), (0 :: zs)[j]? = some z → (nvAt s1 j, z) ∈ (((s1.block (0 :: zs)).setEnd s1.at_ (.jump ⟨s1.bls.length, as⟩)).stand s1.bls.length s1.sc).sc := by
    intro j z hj
    refine List.mem_append_right _ ?_
    have at2 : (s1.block (0 :: zs)).bls[s1.bls.length]? = some ⟨psOf s1 0 (0 :: zs), [], .fail 0⟩ := by
      show (s1.bls ++ [_])[s1.bls.length]? = _
      rw [List.getElem?_append_right (Nat.le_refl _), Nat.sub_self]
      rfl
    obtain ⟨b', hb', eb'⟩ := u3.ps _ _ at2
    unfold psAt
    rw [hb']
    show _ ∈ b'.ps
    rw [eb']
    exact psOf_in hj
  have cin := pin 0 0 rfl
  have ks : ∀ p ∈ s.sc, p ∈ (((s1.block (0 :: zs)).setEnd s1.at_ (.jump ⟨s1.bls.length, as⟩)).stand s1.bls.length s1.sc).sc := fun p hp => List.mem_append_left _ (k1 p hp)
  have k1s : ∀ p ∈ s1.sc, p ∈ (((s1.block (0 :: zs)).setEnd s1.at_ (.jump ⟨s1.bls.length, as⟩)).stand s1.bls.length s1.sc).sc := fun p hp => List.mem_append_left _ hp
  have at4 : s4.at_ = s1.bls.length := r4.at.1
  have l4 : s4.bls.length = s1.bls.length + 1 := by
    rw [r4.at.2]
    show (DSt.setEnd _ _ _).bls.length = _
    rw [setEnd_len, block_len]
  generalize ((s1.block (0 :: zs)).setEnd s1.at_ (.jump ⟨s1.bls.length, as⟩)).stand s1.bls.length s1.sc = s3 at i4' u4 q3 pin cin ks k1s r4
  obtain ⟨e4, y4, i5, u5, k5⟩ := keeps_rrows _ _ _ _ _ i4' r4 m4
  obtain ⟨e5, y5, i6, u6, k6, v6⟩ := i5.rsure r5 m5
  -- the bound
  have c5 := k6 _ (k5 _ cin)
  have at5 : s5.at_ = s1.bls.length := r5.at.1.trans at4
  obtain ⟨e6, y6, i7, u7, k7, v7, l7, at6⟩ : ∃ e6 y6, Inv hl e6 y6 pd s6 ∧ Up pd e5 y5 s5 e6 y6 s6 ∧ (∀ p ∈ s5.sc, p ∈ s6.sc) ∧ (one', 0) ∈ s6.sc ∧ s6.bls.length = s5.bls.length ∧ s6.at_ = s1.bls.length := by
    rcases r6 with ⟨rfl, rfl⟩ | ⟨t1, t2, bound, q1, q2, rfl⟩
    · exact ⟨e5, y5, i6, .refl, fun _ h => h, v6, rfl, at5⟩
    · have mt2 : t2.many ≤ 6000 := m6
      obtain ⟨⟨f1, g1, j1, w1, n1⟩, b1⟩ := i6.rbear q1 (Nat.le_trans (pre_many.rbear q2) mt2)
      have bb := b1 (by decide +kernel) (by decide +kernel)
      have a1 : s1.bls.length = t1.at_ := by rw [q1.at.1, at5]
      obtain ⟨⟨f2, g2, j2, w2, n2⟩, b2⟩ := j1.anew (i := s1.bls.length) (w' := "less") (as' := [nvAt s1 0, bound]) q2 (by decide +kernel) (by decide +kernel) a1 (.op "less" _ _ (by decide +kernel) (n1 _ c5) bb) mt2
      refine ⟨f2, g2, j2, w1.trans w2, fun p hp => n2 p (n1 p hp), b2, ?_, ?_⟩
      · rw [last_len, q2.at.2, q1.at.2]
      · show t2.at_ = _
        rw [q2.at.1, ← a1]
  have l5 : s5.bls.length = s1.bls.length + 1 := r5.at.2.trans l4
  have l6 : s6.bls.length = s1.bls.length + 1 := l7.trans l5
  -- both ways out of the head
  obtain ⟨e8, y8, i8, u8, p8⟩ := i7.block' (zs := []) (k0 := s6.sc) (fun _ h => nomatch h) (fun _ h => h) (by show s6.many + 0 ≤ 6000; omega)
  obtain ⟨e9, y9, i9, u9, p9⟩ := i8.block' (zs := []) (k0 := s6.sc) (fun _ h => nomatch h) (fun _ h => h) (by show s6.many + 0 + 0 ≤ 6000; omega)
  have lb : (s6.block []).bls.length = s6.bls.length + 1 := block_len ..
  rw [lb] at p9
  have q8 := p8.up u9
  obtain ⟨ha, ua, ra⟩ := i9.end (e := .choose one' ⟨s6.bls.length, []⟩ ⟨s6.bls.length + 1, []⟩) ⟨v7, PdB.way (first := []) q8 (fun _ h => h) .nil, PdB.way (first := []) p9 (fun _ h => h) .nil⟩
  rw [show ((s6.block []).block []).at_ = s1.bls.length from at6] at ha ua ra
  have ha' := ha.congr (pd' := fun i => (pd i ∨ i = s6.bls.length) ∨ i = s6.bls.length + 1) fun j => by rw [lb]
  have pa := q8.up ua
  have pb := p9.up ua
  have ib := ha'.stand (i := s6.bls.length) (.inl (.inr rfl)) pa.2.1 (ra _ (List.mem_cons_self ..))
  have kb : ∀ p ∈ s6.sc, p ∈ ((((s6.block []).block []).setEnd s1.bls.length (.choose one' ⟨s6.bls.length, []⟩ ⟨s6.bls.length + 1, []⟩)).stand s6.bls.length s6.sc).sc := fun p hp => List.mem_append_left _ hp
  have ub : Up pd e6 y6 s6 e9 y9 ((((s6.block []).block []).setEnd s1.bls.length (.choose one' ⟨s6.bls.length, []⟩ ⟨s6.bls.length + 1, []⟩)).stand s6.bls.length s6.sc) := by
    have u := (u8.trans u9).trans ua
    exact ⟨u.len, u.es, u.sz, u.bv, u.ps, u.re, u.cs⟩
  have qb : PdB e9 ((((s6.block []).block []).setEnd s1.bls.length (.choose one' ⟨s6.bls.length, []⟩ ⟨s6.bls.length + 1, []⟩)).stand s6.bls.length s6.sc) (s6.bls.length + 1) [] s6.sc := pb
  have rb : Reach ((((s6.block []).block []).setEnd s1.bls.length (.choose one' ⟨s6.bls.length, []⟩ ⟨s6.bls.length + 1, []⟩)).stand s6.bls.length s6.sc).bls (s6.bls.length + 1) := ra _ (List.mem_cons_of_mem _ (List.mem_cons_self ..))
  generalize (((s6.block []).block []).setEnd s1.bls.length (.choose one' ⟨s6.bls.length, []⟩ ⟨s6.bls.length + 1, []⟩)).stand s6.bls.length s6.sc = s8 at ib kb ub qb rb r9
  obtain ⟨ec, yc, ic, uc, kc⟩ := hP _ _ _ _ _ ib r9 m9
  obtain ⟨⟨ed, yd, id_, ud, kd⟩, vd⟩ := ic.anew (i := s10.at_) (w' := "number") (as' := [1 + r]) r10 (by decide +kernel) (by decide +kernel) r10.at.1 (.num _ (by unfold In32; omega)) m10
  have cc := kd _ (kc _ (kb _ (k7 _ c5)))
  obtain ⟨⟨ee, ye, ie, ue, ke⟩, ve⟩ := id_.anew (i := s12.at_) (w' := "add") (as' := [nvAt s1 0, step]) r12 (by decide +kernel) (by decide +kernel) r12.at.1 (.op "add" _ _ (by decide +kernel) cc vd) m12
  obtain ⟨ef, yf, if_, uf, kf, af⟩ := ie.rargs z8 r14 m14
  have uall := ((((((u5.trans u6).trans u7).trans ub).trans uc).trans ud).trans ue).trans uf
  have qf := q3.up uall
  have kall : ∀ p ∈ s3.sc, p ∈ s14.sc := fun p hp => kf _ (ke _ (kd _ (kc _ (kb _ (k7 _ (k6 _ (k5 _ hp)))))))
  obtain ⟨i15, u15, k15, a15⟩ : Inv hl ef yf (fun j => ((pd j ∨ j = s6.bls.length) ∨ j = s6.bls.length + 1) ∧ j ≠ s6.bls.length) s15 ∧ Up (fun j => ((pd j ∨ j = s6.bls.length) ∨ j = s6.bls.length + 1) ∧ j ≠ s6.bls.length) ef yf s14 ef yf s15 ∧ (∀ p ∈ s14.sc, p ∈ s15.sc) ∧ ArgsR s15.sc back zs := by
    rcases r15 with ⟨rfl, rfl⟩ | ⟨zt, ez, rfl, rfl⟩
    · exact ⟨if_, .refl, fun _ h => h, af⟩
    · have c1 := kall _ (pin 1 0 (by rw [ez]; rfl))
      have c2 := kall _ (pin 2 0 (by rw [ez]; rfl))
      obtain ⟨j1, v1⟩ := if_.tell c1
      obtain ⟨j2, v2⟩ := j1.tell (a := nvAt s1 2) c2
      refine ⟨j2, v1.trans v2, fun _ h => h, ?_⟩
      rw [ez] at af ⊢
      exact ((af.drop2).cons c1).cons c2
  have qf' := qf.up u15
  have ve' := k15 _ (kf _ ve)
  obtain ⟨hg, ug, _⟩ := i15.end (e := .jump ⟨s1.bls.length, later :: back⟩) (PdB.way (first := []) qf' (fun p hp => k15 _ (kall p (k1s p hp))) (a15.cons ve'))
  have u9g := ((((uc.trans ud).trans ue).trans uf).trans u15).trans ug
  have ig := hg.stand (i := s6.bls.length + 1) ⟨.inr rfl, by omega⟩ (qb.up u9g).2.1 (u9g.re _ rb)
  refine ⟨ef, yf, ig.congr fun j => ?_, ?_, fun p hp => List.mem_append_left _ (k7 _ (k6 _ (k5 _ (ks p hp))))⟩
  · constructor
    · intro z
      have := hn j z
      exact ⟨⟨.inl (.inl z), by omega⟩, by omega⟩
    · rintro ⟨⟨(z | z) | z, a⟩, b⟩
      · exact z
      · exact absurd z a
      · exact absurd z b
  · have u := ((u4.trans uall).trans u15).trans ug
    exact ⟨u.len, u.es, u.sz, u.bv, u.ps, u.re, u.cs⟩
theorem keepsI_call : KeepsI hl (RCall hl) := by
  rintro es sz pd s s' h ⟨g, n, s1, as, zs, s2, more, hg, r1, hz, r2, rfl⟩ m
  have m2 : s2.many + (zs.length + 1) ≤ 6000 := m
  have m1 := pre_many.rargs r2
  obtain ⟨e1, y1, i1, u1, k1, a1⟩ := h.rargs (fun z hz => by rw [List.eq_of_mem_replicate hz]; decide) r1 (by omega)
  have z8 := i1.zs hz
  obtain ⟨e2, y2, i2, u2, k2, a2⟩ := i1.rargs z8 r2 (by omega)
  have la := r1.len
  rw [List.length_replicate] at la
  have a0 : ∀ a ∈ as, (a, 0) ∈ s2.sc := by
    have go : ∀ {as zs : List Int}, ArgsR s1.sc as zs → (∀ z ∈ zs, z = 0) → ∀ a ∈ as, (a, 0) ∈ s2.sc := by
      intro as zs h
      induction h with
      | nil => exact fun _ a ha => nomatch ha
      | @snoc as zs b y _ hb ih =>
        intro hz a ha
        rcases List.mem_append.mp ha with ha | ha
        · exact ih (fun z hz' => hz z (List.mem_append_left _ hz')) a ha
        · rw [List.mem_singleton.mp ha]
          have e : y = 0 := hz y (List.mem_append_right _ (List.mem_singleton.mpr rfl))
          exact k2 _ (e ▸ hb)
    exact go a1 fun z hz => List.eq_of_mem_replicate hz
  have z80 : ∀ z ∈ (0 :: zs), 0 ≤ z ∧ z ≤ 8 := fun z hz => by
    rcases List.mem_cons.mp hz with rfl | hz
    · decide
    · exact z8 z hz
  obtain ⟨e3, y3, i3, u3, p3⟩ := i2.block' (zs := 0 :: zs) (k0 := s2.sc) z80 (fun _ h => h) m2
  obtain ⟨h4, u4, r4⟩ := i3.end (e := .call g as ⟨s2.bls.length, more⟩) ⟨by rw [la]; exact hg, a0, PdB.way (first := [0]) p3 (fun _ h => h) a2⟩
  have p4 := p3.up u4
  have i5 := h4.stand (i := s2.bls.length) (.inr rfl) p4.2.1 (r4 _ (List.mem_singleton.mpr rfl))
  have hn : ∀ i, pd i → i < s2.bls.length := fun i hi => Nat.lt_of_lt_of_le (h.pdlt hi) (u1.trans u2).len
  refine ⟨e3, y3, i5.congr fun j => ⟨fun z => ⟨.inl z, by have := hn j z; omega⟩, fun z => z.1.elim id fun y => absurd y z.2⟩, ?_, fun p hp => List.mem_append_left _ (k2 _ (k1 p hp))⟩
  have u := ((u1.trans u2).trans u3).trans u4
  exact ⟨u.len, u.es, u.sz, u.bv, u.ps, u.re, u.cs⟩
theorem keepsI_turn {P : DSt → DSt → Prop} (hP : KeepsI hl P) (mP : ∀ s s', P s s' → s.many ≤ s'.many) : KeepsI hl (RTurn P hl) := by
  rintro es sz pd s s' h ⟨s1, r, rr⟩ m
  have m1 := pre_many.rrows rr
  have : GoI hl pd es sz s s1 := by
    rcases r with rfl | r | r | r
    · exact h.go0
    · exact keepsI_choice hP mP _ _ _ _ _ h r (by omega)
    · exact keepsI_loop hP mP _ _ _ _ _ h r (by omega)
    · exact keepsI_call _ _ _ _ _ h r (by omega)
  obtain ⟨e1, y1, i1, u1, k1⟩ := this
  obtain ⟨e2, y2, i2, u2, k2⟩ := keeps_rrows _ _ _ _ _ i1 rr m
  exact ⟨e2, y2, i2, u1.trans u2, fun p hp => k2 p (k1 p hp)⟩
theorem keepsI_parts0 {P : DSt → DSt → Prop} (hP : KeepsI hl P) (mP : ∀ s s', P s s' → s.many ≤ s'.many) {m : Nat} : KeepsI hl (RPartsP P hl m) := by
  rintro es sz pd s s' h ⟨s1, k, r, _, st⟩ l
  have mt : ∀ s s', RTurn P hl s s' → s.many ≤ s'.many := fun _ _ h => pre_many.rturn mP h
  have m1 := pre_many.steps mt st
  obtain ⟨e1, y1, i1, u1, k1⟩ := keeps_rrows _ _ _ _ _ h r (by omega)
  obtain ⟨e2, y2, i2, u2, k2⟩ := keepsI_steps (keepsI_turn hP mP) mt k _ _ _ _ _ i1 st l
  exact ⟨e2, y2, i2, u1.trans u2, fun p hp => k2 p (k1 p hp)⟩
theorem keepsI_parts : ∀ d m, KeepsI hl (RParts hl d m)
  | 0, m => keepsI_parts0 (P := fun _ _ => False) (fun _ _ _ _ _ _ z => z.elim) (fun _ _ z => z.elim)
  | d + 1, m => keepsI_parts0 (keepsI_parts d 2) (pre_many.parts d 2)
end

theorem Way.turnF {N M : Nat} {w : Way} {f : Nat → Nat} (h : WayF N w) (hf : f w.t < M) : WayF M (w.turn f) := ⟨hf, h.a, h.l⟩
theorem EnF.turn {N M : Nat} {e : En} {f : Nat → Nat} (h : EnF N e) (hf : ∀ w ∈ e.ways, f w.t < M) : EnF M (e.turn f) := by
  cases e with
  | fail n => exact h
  | give v => exact h
  | jump w => exact Way.turnF h (hf _ (List.mem_cons_self ..))
  | choose v a b => exact ⟨h.1, Way.turnF h.2.1 (hf _ (List.mem_cons_self ..)), Way.turnF h.2.2 (hf _ (List.mem_cons_of_mem _ (List.mem_cons_self ..)))⟩
  | call g as w => exact ⟨h.1, h.2.1, Way.turnF h.2.2 (hf _ (List.mem_cons_self ..))⟩
theorem blkAt_mem {bls : List Blk} {i : Nat} (h : i < bls.length) : blkAt bls i ∈ bls := by
  unfold blkAt
  rw [List.getD_eq_getElem?_getD, List.getElem?_eq_getElem h]
  exact List.getElem_mem _
theorem Seen.len {bls : List Blk} {order : List Nat} (h : Seen bls order) : order.length ≤ bls.length := pigeon _ _ h.nd h.ok.lt
theorem turned_form {bls : List Blk} {order : List Nat} {N : Nat} (s : Seen bls order) (h : ∀ b ∈ bls, BlkF N b) : ∀ b ∈ turned bls order, BlkF order.length b := by
  intro b hb
  obtain ⟨i, hi, rfl⟩ := List.mem_map.mp hb
  have bf := h _ (blkAt_mem (s.ok.lt i hi))
  exact ⟨bf.p, bf.r, bf.e.turn fun w hw => List.idxOf_lt_length_iff.mpr (s.ok.cl i hi w hw)⟩
theorem Gr.form {hl : List (Str × Nat)} {inputs d : Nat} {g : List Blk} (hm : ∀ p ∈ hl, p.2 ≤ 4) (h : Gr hl inputs d g) : g.length ≤ 1000 ∧ ∀ b ∈ g, BlkF g.length b := by
  obtain ⟨s, bls, order, _, _, rg, sn, b6, rfl⟩ := h
  have e : (turned bls order).length = order.length := List.length_map ..
  rw [e]
  exact ⟨Nat.le_trans sn.len b6, turned_form sn (rg.form hm).2⟩
def Wk.graphs (W : Wk) : List (List Blk) := W.hs.map (·.2.2) ++ [W.main]
theorem Wk.hl_le {W : Wk} (h : WkOk W) (i : Nat) : ∀ p ∈ hlOf (W.hs.take i), p.2 ≤ 4 := fun p hp => by
  obtain ⟨q, hq, rfl⟩ := List.mem_map.mp hp
  obtain ⟨j, hj⟩ := List.getElem?_of_mem (List.mem_of_mem_take hq)
  exact (h.hp j q hj).1
theorem Wk.form {W : Wk} (h : WkOk W) : ∀ g ∈ W.graphs, g.length ≤ 1000 ∧ ∀ b ∈ g, BlkF g.length b := by
  intro g hg
  rcases List.mem_append.mp hg with hg | hg
  · obtain ⟨q, hq, rfl⟩ := List.mem_map.mp hg
    obtain ⟨j, hj⟩ := List.getElem?_of_mem hq
    exact (h.hp j q hj).2.form (W.hl_le h j)
  · rw [List.mem_singleton.mp hg]
    obtain ⟨m, _, gr⟩ := h.mn
    refine gr.form ?_
    have := W.hl_le h W.hs.length
    rw [List.take_length] at this
    exact this

/-! a drawn graph is right -/
structure GEx (hl : List (Str × Nat)) (g : List Blk) (es : Nat → List (Int × Int)) (sz : Int → Int) : Prop where
  es0 : es 0 = []
  bk : ∀ i b, g[i]? = some b → BlkR es sz g hl i b
  esv : ∀ i, i < g.length → ∀ p ∈ es i, p.1 ∈ bvs g ∧ p.2 = sz p.1
  psz : ∀ b ∈ g, ∀ p ∈ b.ps, p.2 = sz p.1
  s8 : ∀ v ∈ bvs g, 0 ≤ sz v ∧ sz v ≤ 8
structure GOk (hl : List (Str × Nat)) (inputs : Nat) (g : List Blk) : Prop where
  ex : ∃ es sz, GEx hl g es sz
  nd : (bvs g).Nodup
  sm : ∀ v ∈ bvs g, Smv v
  re : ∀ i, i < g.length → Reach g i
  b0 : ∃ b, g[0]? = some b ∧ b.ps.length = inputs ∧ ∀ p ∈ b.ps, p.2 = 0
  ln : g.length ≤ 100
  rt : rtB g ≤ 2000
  pl : ∀ b ∈ g, b.ps.length ≤ 10
  fm : ∀ b ∈ g, BlkF g.length b
theorem inv_start {hl : List (Str × Nat)} {s : DSt} (sp : s.step ∈ ([1, 7, 4986, 8999] : List Int)) {m : Nat} (m4 : m ≤ 4) : Inv hl (fun _ => []) (fun _ => 0) (fun _ => False) ((s.start.block (List.replicate m 0)).stand 0 []) := by
  have pz : ∀ p ∈ psOf s.start 0 (List.replicate m 0), p.2 = 0 := fun p hp => by
    have : p.2 ∈ (psOf s.start 0 (List.replicate m 0)).map (·.2) := List.mem_map.mpr ⟨p, hp, rfl⟩
    rw [psOf_snd] at this
    exact List.eq_of_mem_replicate this
  have eb : ((s.start.block (List.replicate m 0)).stand 0 []).bls = [⟨psOf s.start 0 (List.replicate m 0), [], .fail 0⟩] := rfl
  have bve : bvs ((s.start.block (List.replicate m 0)).stand 0 []).bls = (psOf s.start 0 (List.replicate m 0)).map (·.1) := by
    rw [eb]
    simp [bvs, Blk.bv]
  have pf := psOf_fst (s := s.start) 0 (List.replicate m 0)
  have one : ∀ (i : Nat) (b : Blk), ((s.start.block (List.replicate m 0)).stand 0 []).bls[i]? = some b → i = 0 ∧ b = ⟨psOf s.start 0 (List.replicate m 0), [], .fail 0⟩ := fun i b hb => by
    rw [eb] at hb
    cases i with
    | zero => exact ⟨rfl, (Option.some.inj hb).symm⟩
    | succ i => simp at hb
  refine ⟨⟨sp, fun i b hb no => absurd (.inr (one i b hb).1) no, ?_, fun v hv => ?_, rfl, fun i hi p hp => (nomatch hp), fun b hb p hp => ?_, fun v hv => by decide, fun i hi no => ?_, by rw [eb]; exact Nat.succ_pos _⟩, ⟨_, rfl, RowsR.nil _, rfl⟩, id, fun i hi => hi.elim, fun p hp => ?_, .zero⟩
  · rw [bve, pf, List.nodup_iff_pairwise_ne, List.pairwise_map]
    refine List.Pairwise.imp_of_mem ?_ (List.nodup_iff_pairwise_ne.mp (List.nodup_range' ..))
    intro a b ha hb ne e
    rw [List.length_replicate, List.mem_range'_1] at ha hb
    have e' : num s.start (s.start.many + a) = num s.start (s.start.many + b) := e
    have := num_inj (s := s.start) sp (by show 0 + a ≤ 6000; omega) (by show 0 + b ≤ 6000; omega) e'
    omega
  · rw [bve, pf] at hv
    obtain ⟨k, hk, rfl⟩ := List.mem_map.mp hv
    rw [List.mem_range'_1] at hk
    refine ⟨s.start.many + k, ?_, ?_, rfl⟩
    · show 1 ≤ 0 + k
      omega
    · show 0 + k ≤ 0 + (List.replicate m (0 : Int)).length
      omega
  · rw [eb] at hb
    rw [List.mem_singleton.mp hb] at hp
    exact pz p hp
  · rw [eb] at hi
    have : i = 0 := by simpa using hi
    exact absurd (.inr this) no
  · have hp' : p ∈ psOf s.start 0 (List.replicate m 0) := hp
    refine ⟨?_, pz p hp'⟩
    rw [bve]
    exact List.mem_map.mpr ⟨p, hp', rfl⟩
theorem RGraph.hal {hl : List (Str × Nat)} {m d : Nat} {s : DSt} {bls : List Blk} (hm : ∀ p ∈ hl, p.2 ≤ 4) (sp : s.step ∈ ([1, 7, 4986, 8999] : List Int)) (m4 : m ≤ 4) (hd : d ≤ 2) (r : RGraph hl m d s bls) :
    ∃ es sz sF, sF.bls = bls ∧ Hal hl es sz (fun _ => False) sF ∧ (∃ b, bls[0]? = some b ∧ b.ps.length = m ∧ ∀ p ∈ b.ps, p.2 = 0) ∧ bls.length ≤ 100 ∧ rtB bls ≤ 2000 ∧ ∀ b ∈ bls, b.ps.length ≤ 10 := by
  obtain ⟨sP, sE, one, rp, rs, mm, pl, e, he, rfl⟩ := r
  have i0 := inv_start (hl := hl) sp m4
  have mp := pre_many.rsure rs
  obtain ⟨e1, y1, i1, u1, _⟩ := keepsI_parts d 4 _ _ _ _ _ i0 rp (by omega)
  obtain ⟨e2, y2, i2, u2, _, v2⟩ := i1.rsure rs (by omega)
  have w : EndR e2 sE.bls hl sE.sc e := by
    rcases he with rfl | ⟨k, k0, k1, rfl⟩
    · exact v2
    · exact ⟨k0, k1⟩
  obtain ⟨h3, u3, _⟩ := i2.end w
  have u := (u1.trans u2).trans u3
  have mo := (mor_parts hm hd rp).trans ((mor_sure rs).trans (mor_en sE sE.at_ e))
  have r0 : ((s.start.block (List.replicate m 0)).stand 0 []).rt = 0 := rfl
  have l0 : ((s.start.block (List.replicate m 0)).stand 0 []).bls.length = 1 := rfl
  refine ⟨e2, y2, _, rfl, h3, ?_, ?_, ?_, fun b hb => ?_⟩
  · obtain ⟨b', h4, h5⟩ := u.ps 0 _ (rfl : ((s.start.block (List.replicate m 0)).stand 0 []).bls[0]? = some ⟨psOf s.start 0 (List.replicate m 0), [], .fail 0⟩)
    refine ⟨b', h4, by rw [h5]; show (psOf s.start 0 _).length = m; rw [psOf_len, List.length_replicate], fun p hp => ?_⟩
    rw [h5] at hp
    have : p.2 ∈ (psOf s.start 0 (List.replicate m 0)).map (·.2) := List.mem_map.mpr ⟨p, hp, rfl⟩
    rw [psOf_snd] at this
    exact List.eq_of_mem_replicate this
  · have := mo.2
    omega
  · have := mo.1
    rw [r0] at this
    have h : (sE.setEnd sE.at_ e).rt ≤ 2000 := by omega
    exact h
  · rcases modB_mem hb with hb | ⟨c, hc, rfl⟩
    · exact pl b hb
    · exact pl c (List.mem_of_getElem? hc)
/-! the order of blocks changed -/
theorem Seen.all {bls : List Blk} {order : List Nat} (s : Seen bls order) : ∀ {i}, Reach bls i → i ∈ order := by
  intro i r
  induction r with
  | zero => exact List.mem_of_getElem? s.hd
  | step _ hw ih => exact s.ok.cl _ ih _ hw
theorem turn_bv (b : Blk) (f : Nat → Nat) : (b.turn f).bv = b.bv := rfl
theorem perm_sum {a b : List Nat} (h : a.Perm b) : a.sum = b.sum := by
  induction h with
  | nil => rfl
  | cons x _ ih => rw [List.sum_cons, List.sum_cons, ih]
  | swap x y l => rw [List.sum_cons, List.sum_cons, List.sum_cons, List.sum_cons]; omega
  | trans _ _ a b => exact a.trans b
theorem range_blk (bls : List Blk) : (List.range bls.length).map (blkAt bls) = bls := by
  refine List.ext_getElem? fun i => ?_
  rw [List.getElem?_map]
  by_cases h : i < bls.length
  · rw [List.getElem?_range h, List.getElem?_eq_getElem h]
    exact congrArg some (blkAt_some (List.getElem?_eq_getElem h))
  · rw [List.getElem?_eq_none (by rw [List.length_range]; omega), List.getElem?_eq_none (by omega)]
    rfl
theorem Seen.perm {bls : List Blk} {order : List Nat} (s : Seen bls order) (re : ∀ i, i < bls.length → Reach bls i) : order.Perm (List.range bls.length) := by
  refine (List.perm_ext_iff_of_nodup s.nd List.nodup_range).mpr fun i => ⟨fun h => List.mem_range.mpr (s.ok.lt i h), fun h => s.all (re i (List.mem_range.mp h))⟩
theorem turned_at {bls : List Blk} {order : List Nat} {i : Nat} (h : i ∈ order) : (turned bls order)[order.idxOf i]? = some ((blkAt bls i).turn fun t => order.idxOf t) := by
  have hl := List.idxOf_lt_length_iff.mpr h
  unfold turned
  rw [List.getElem?_map, List.getElem?_eq_getElem hl, List.getElem_idxOf hl]
  rfl
theorem En.turn_ways (e : En) (f : Nat → Nat) : (e.turn f).ways = e.ways.map (Way.turn f) := by cases e <;> rfl
theorem turned_ok {hl : List (Str × Nat)} {es : Nat → List (Int × Int)} {sz : Int → Int} {sF : DSt} {order : List Nat} {m : Nat} (h : Hal hl es sz (fun _ => False) sF) (s : Seen sF.bls order) (b0 : ∃ b, sF.bls[0]? = some b ∧ b.ps.length = m ∧ ∀ p ∈ b.ps, p.2 = 0)
    (ln : sF.bls.length ≤ 100) (rt : rtB sF.bls ≤ 2000) (pl : ∀ b ∈ sF.bls, b.ps.length ≤ 10) (fm : ∀ b ∈ sF.bls, BlkF sF.bls.length b) : GOk hl m (turned sF.bls order) := by
  have re : ∀ i, i < sF.bls.length → Reach sF.bls i := fun i hi => h.c.re i hi id
  have pm := s.perm re
  have lo : order.length = sF.bls.length := by rw [pm.length_eq, List.length_range]
  have lt : (turned sF.bls order).length = order.length := List.length_map ..
  have bp : (bvs (turned sF.bls order)).Perm (bvs sF.bls) := by
    have e1 : bvs (turned sF.bls order) = order.flatMap fun i => (blkAt sF.bls i).bv := by
      unfold bvs turned
      rw [List.flatMap_map]
      rfl
    have e2 : bvs sF.bls = (List.range sF.bls.length).flatMap fun i => (blkAt sF.bls i).bv := by
      have := congrArg bvs (range_blk sF.bls)
      unfold bvs at this ⊢
      rw [List.flatMap_map] at this
      exact this.symm
    rw [e1, e2]
    exact pm.flatMap_right _
  have i0 : order.idxOf 0 = 0 := by
    have := s.hd
    cases order with
    | nil => simp at this
    | cons a r =>
      simp at this
      rw [this]
      simp
  have hes : ∀ i ∈ order, es (order.getD (order.idxOf i) 0) = es i := fun i hi => by
    have hl := List.idxOf_lt_length_iff.mpr hi
    rw [List.getD_eq_getElem?_getD, List.getElem?_eq_getElem hl, List.getElem_idxOf hl]
    rfl
  have mo : ∀ i, i < sF.bls.length → i ∈ order := fun i hi => s.all (re i hi)
  have hway : ∀ {sc : List (Int × Int)} {first : List Int} {w : Way}, WayR es sF.bls sc first w → WayR (fun j => es (order.getD j 0)) (turned sF.bls order) sc first (w.turn fun t => order.idxOf t) := fun {sc first w} hw => by
    obtain ⟨b, zs, h1, h2, h3⟩ := hw.ex
    have wl := (List.getElem?_eq_some_iff.mp h1).1
    have wm := mo _ wl
    have e := turned_at (bls := sF.bls) wm
    rw [blkAt_some h1] at e
    refine ⟨Nat.pos_of_ne_zero fun z => ?_, ⟨_, zs, e, h2, h3⟩, ?_⟩
    · have z' : order.idxOf w.t = 0 := z
      have hl := List.idxOf_lt_length_iff.mpr wm
      have g1 := List.getElem_idxOf hl
      have g2 := s.hd
      rw [List.getElem?_eq_getElem (by omega)] at g2
      have g3 : order[order.idxOf w.t]'hl = order[0]'(by omega) := by
        congr 1
      rw [g1, Option.some.inj g2] at g3
      have := hw.t0
      omega
    · show ∀ p ∈ es (order.getD (order.idxOf w.t) 0), p ∈ sc
      rw [hes _ wm]
      exact hw.es
  have hend : ∀ {sc : List (Int × Int)} {e : En}, EndR es sF.bls hl sc e → EndR (fun j => es (order.getD j 0)) (turned sF.bls order) hl sc (e.turn fun t => order.idxOf t) := fun {sc e} he => by
    cases e with
    | fail n => exact he
    | give v => exact he
    | jump w => exact hway he
    | choose v a b => exact ⟨he.1, hway he.2.1, hway he.2.2⟩
    | call g as w => exact ⟨he.1, he.2.1, hway he.2.2⟩
  have at_ : ∀ (j : Nat) (b : Blk), (turned sF.bls order)[j]? = some b → ∃ i c, order[j]? = some i ∧ sF.bls[i]? = some c ∧ b = c.turn fun t => order.idxOf t := fun j b hb => by
    unfold turned at hb
    rw [List.getElem?_map] at hb
    cases hi : order[j]? with
    | none => rw [hi] at hb; cases hb
    | some i =>
      rw [hi] at hb
      have il := s.ok.lt i (List.mem_of_getElem? hi)
      have e := List.getElem?_eq_getElem il
      refine ⟨i, _, rfl, e, ?_⟩
      have : some ((blkAt sF.bls i).turn fun t => order.idxOf t) = some b := hb
      rw [blkAt_some e] at this
      exact (Option.some.inj this).symm
  have gd : ∀ {j i : Nat}, order[j]? = some i → order.getD j 0 = i := fun {j i} h => by
    rw [List.getD_eq_getElem?_getD, h]
    rfl
  refine ⟨⟨fun j => es (order.getD j 0), sz, ?_, fun j b hb => ?_, fun j hj p hp => ?_, fun b hb p hp => ?_, fun v hv => h.c.s8 v (bp.mem_iff.mp hv)⟩, bp.nodup_iff.mpr h.c.nd, fun v hv => h.c.sm (bp.mem_iff.mp hv), fun j hj => ?_, ?_, by omega, ?_, fun b hb => ?_, by rw [lt]; exact turned_form s fm⟩
  · show es (order.getD 0 0) = []
    rw [gd s.hd]
    exact h.c.es0
  · obtain ⟨i, c, hi, hc, rfl⟩ := at_ j b hb
    obtain ⟨sc, h1, h2, h3⟩ := h.c.done i c hc id
    exact ⟨sc, by show RowsR (es (order.getD j 0) ++ c.ps) c.rs sc; rw [gd hi]; exact h1, hend h2, fun p hp => ⟨bp.mem_iff.mpr (h3 p hp).1, (h3 p hp).2⟩⟩
  · rw [lt] at hj
    have hi := List.getElem?_eq_getElem hj
    have hp' : p ∈ es (order.getD j 0) := hp
    rw [gd hi] at hp'
    obtain ⟨a, b⟩ := h.c.esv _ (s.ok.lt _ (List.getElem_mem hj)) p hp'
    exact ⟨bp.mem_iff.mpr a, b⟩
  · obtain ⟨j, hj⟩ := List.getElem?_of_mem hb
    obtain ⟨i, c, hi, hc, rfl⟩ := at_ j b hj
    exact h.c.psz c (List.mem_of_getElem? hc) p hp
  · rw [lt] at hj
    have hi := List.getElem?_eq_getElem hj
    have hm := List.getElem_mem hj
    have go : ∀ {i}, Reach sF.bls i → Reach (turned sF.bls order) (order.idxOf i) := by
      intro i r
      induction r with
      | zero =>
        rw [i0]
        exact .zero
      | @step i w r hw ih =>
        have mi := s.all r
        have := Reach.step (w := w.turn fun t => order.idxOf t) ih (by
          rw [blkAt_some (turned_at mi)]
          show _ ∈ ((blkAt sF.bls i).en.turn _).ways
          rw [En.turn_ways]
          exact List.mem_map.mpr ⟨w, hw, rfl⟩)
        exact this
    have := go (re _ (s.ok.lt _ hm))
    rw [show order.idxOf order[j] = j from s.nd.idxOf_getElem j hj] at this
    exact this
  · obtain ⟨b, hb, h1, h2⟩ := b0
    have e := turned_at (bls := sF.bls) (mo 0 (List.getElem?_eq_some_iff.mp hb).1)
    rw [i0, blkAt_some hb] at e
    exact ⟨_, e, h1, h2⟩
  · have e1 : rtB (turned sF.bls order) = (order.map fun i => (blkAt sF.bls i).rs.length).sum := by
      unfold rtB turned
      rw [List.map_map]
      rfl
    have e2 : rtB sF.bls = ((List.range sF.bls.length).map fun i => (blkAt sF.bls i).rs.length).sum := by
      have := congrArg rtB (range_blk sF.bls)
      unfold rtB at this ⊢
      rw [List.map_map] at this
      exact this.symm
    rw [e1, perm_sum (pm.map _), ← e2]
    exact rt
  · obtain ⟨j, hj⟩ := List.getElem?_of_mem hb
    obtain ⟨i, c, hi, hc, rfl⟩ := at_ j b hj
    exact pl c (List.mem_of_getElem? hc)
theorem Gr.ok {hl : List (Str × Nat)} {m d : Nat} {g : List Blk} (hm : ∀ p ∈ hl, p.2 ≤ 4) (m4 : m ≤ 4) (hd : d ≤ 2) (h : Gr hl m d g) : GOk hl m g := by
  obtain ⟨s, bls, order, _, sp, rg, sn, b6, rfl⟩ := h
  obtain ⟨_, fm⟩ := rg.form hm
  obtain ⟨es, sz, sF, rfl, hh, b0, ln, rt, pl⟩ := rg.hal hm sp m4 hd
  exact turned_ok hh sn b0 ln rt pl fm

/-! deeds: what rows use -/
def wds7 : List Str := ["add", "sub", "mul", "div", "rem", "less", "same"]
def dcls (w : Str) : Str := if w ∈ wds7 then "WordDeed" else if w = "number" then "NumberDeed" else if w = "not" then "NotDeed" else if w = "fresh" then "FreshDeed" else if w = "get" then "GetDeed" else if w = "put" then "PutDeed" else "TellDeed"
section
variable {P : Program} {w : World} {K : PySem.W.Frag} {mg : Str → Option Value} {base : Heap}
def sp_dinit (K : PySem.W.Frag) : Sp := fun vs H Q _ => ∃ (x c dx : Addr) (rv : V), vs = [.ref x, rv] ∧ H x = some (.ins c dx []) ∧ Cls K c ∧ NoAttr K c "row" ∧ Q .non (upd H x (.ins c dx [("row", rv)]))
theorem ok_Deed_init (T : Top K mg) : FnOk P w K mg base CX0 1 (He.ma K (He.ga K "Deed") "__init__") T.fd_Deed___init__ ["self", "row"] (sp_dinit K) := by
  refine T.F_Deed___init__.ok sc_Deed___init__ (fun vs H Q E h => ?_) (fun cdv A0 outer s0 H vs Q E hr h => ?_)
  · obtain ⟨x, c, dx, rv, rfl, _⟩ := h
    rfl
  · obtain ⟨x, c, dx, rv, rfl, ex, hc, hn, q⟩ := h
    refine ⟨_, PSs.nox (pss_one (ps_fld (pv 0) (pv 1) rfl)), ?_⟩
    exact ⟨_, rfl, _, rfl, x, c, dx, _, rfl, ex, hc, hn, by decide, q⟩
theorem row_parts {H : Hp} {rv : V} {r : GRow} (h : Dp K H rv r.d) : ∃ p xs, rv = .ref p ∧ SqT K H p (.int r.v :: .str r.w :: xs) ∧ DpAll K H xs (r.as.map PyData.int) := by
  obtain ⟨p, ys, rfl, hp, dy⟩ := dp_tup h
  obtain ⟨v1, r1, rfl, d1, t1⟩ := dpAll_cons dy
  obtain ⟨v2, r2, rfl, d2, t2⟩ := dpAll_cons t1
  rw [dp_int d1, dp_str d2] at hp
  exact ⟨p, r2, rfl, hp, t2⟩
theorem in_words {w : Str} {l : List Str} : inV (.str w) (l.map V.str) = decide (w ∈ l) := by
  unfold inV
  rw [List.any_map]
  by_cases h : w ∈ l
  · rw [decide_eq_true h]
    refine List.any_eq_true.mpr ⟨w, h, ?_⟩
    show (w == w) = true
    exact beq_self_eq_true _
  · rw [decide_eq_false h]
    refine List.any_eq_false.mpr fun x hx e => h ?_
    have e2 : (x == w) = true := e
    exact eq_of_beq e2 ▸ hx
def sp_deed (K : PySem.W.Frag) : Sp := fun vs H Q _ => ∃ (rv : V) (r : GRow), vs = [rv] ∧ Dp K H rv r.d ∧ ∀ H' x dx, Same H H' → H' x = some (.ins (He.ga K (dcls r.w)) dx [("row", rv)]) → Q (.ref x) H'
theorem ok_deed_of (T : Top K mg) : FnOk P w K mg base CX0 3 (He.ga K "deed_of") T.fd_deed_of ["row"] (sp_deed K) := by
  have G_Deed___init__ := ok_Deed_init (P := P) (w := w) (base := base) T
  refine T.F_deed_of.ok sc_deed_of (fun vs H Q E h => ?_) (fun cdv A0 outer s0 H vs Q E hr h => ?_)
  · obtain ⟨rv, r, rfl, _⟩ := h
    rfl
  · obtain ⟨rv, r, rfl, dr, q⟩ := h
    refine ⟨_, PSs.nox (pss_cons (ps_set (i := 1) sc_deed_of.nd rfl (Or.inl rfl) (pe_ix ix_tup (pv 0) pe_int (fun _ _ => rfl)))
        (pss_cons (ps_if (pt_cmpR op_in_seq (pv 1) (pe_glob (v := .ref (He.ga K "WORDS")) (by rfl) T.c_WORDS rfl) (by rfl)) (pss_one (ps_ret (pe_make T.mk_WordDeed G_Deed___init__ (hr.mono (by omega)) (by rfl) T.g_WordDeed T.b_Deed___init__ .nil pass0 (pa_cons (pv 0) pa_nil)))) pss_nil)
        (pss_cons (ps_if (pt_cmpR op_eq (pv 1) pe_str (nomark _)) (pss_one (ps_ret (pe_make T.mk_NumberDeed G_Deed___init__ (hr.mono (by omega)) (by rfl) T.g_NumberDeed T.b_Deed___init__ .nil pass0 (pa_cons (pv 0) pa_nil)))) pss_nil)
        (pss_cons (ps_if (pt_cmpR op_eq (pv 1) pe_str (nomark _)) (pss_one (ps_ret (pe_make T.mk_NotDeed G_Deed___init__ (hr.mono (by omega)) (by rfl) T.g_NotDeed T.b_Deed___init__ .nil pass0 (pa_cons (pv 0) pa_nil)))) pss_nil)
        (pss_cons (ps_if (pt_cmpR op_eq (pv 1) pe_str (nomark _)) (pss_one (ps_ret (pe_make T.mk_FreshDeed G_Deed___init__ (hr.mono (by omega)) (by rfl) T.g_FreshDeed T.b_Deed___init__ .nil pass0 (pa_cons (pv 0) pa_nil)))) pss_nil)
        (pss_cons (ps_if (pt_cmpR op_eq (pv 1) pe_str (nomark _)) (pss_one (ps_ret (pe_make T.mk_GetDeed G_Deed___init__ (hr.mono (by omega)) (by rfl) T.g_GetDeed T.b_Deed___init__ .nil pass0 (pa_cons (pv 0) pa_nil)))) pss_nil)
        (pss_cons (ps_if (pt_cmpR op_eq (pv 1) pe_str (nomark _)) (pss_one (ps_ret (pe_make T.mk_PutDeed G_Deed___init__ (hr.mono (by omega)) (by rfl) T.g_PutDeed T.b_Deed___init__ .nil pass0 (pa_cons (pv 0) pa_nil)))) pss_nil)
        (pss_one (ps_ret (pe_make T.mk_TellDeed G_Deed___init__ (hr.mono (by omega)) (by rfl) T.g_TellDeed T.b_Deed___init__ .nil pass0 (pa_cons (pv 0) pa_nil))))))))))), ?_⟩
    obtain ⟨p, xs, rfl, hp, dxs⟩ := row_parts dr
    have leaf : ∀ cn : Str, dcls r.w = cn → Cls K (He.ga K cn) → NoAttr K (He.ga K cn) "row" → ∀ x dx, H x = none → H dx = none → dx ≠ x → sp_dinit K [.ref x, .ref p] (upd (upd H dx (.own x)) x (.ins (He.ga K cn) dx [])) (fun v H2 => v = .non ∧ Q (.ref x) H2) E0 := fun cn ec hc hn x dx nx ndx ne => by
      refine ⟨x, _, dx, _, rfl, upd_same, hc, hn, rfl, q _ x dx ?_ ?_⟩
      · rw [upd_upd]
        exact same_upd (same_new ndx) nx
      · rw [upd_same, ec]
    refine ⟨_, rfl, p, _, 1, _, rfl, rfl, hp, atI_nat (j := 1) rfl, ?_⟩
    dsimp only [gName, List.set]
    refine ⟨_, rfl, _, _, rfl, .inr (T.q_WORDS _), rfl, rfl, _, rfl, ?_⟩
    rw [show inV (.str r.w) [.str "add", .str "sub", .str "mul", .str "div", .str "rem", .str "less", .str "same"] = decide (r.w ∈ wds7) from in_words (l := wds7)]
    refine ite2 (fun e => ⟨_, rfl, fun x dx nx ndx ne => leaf _ ?_ T.cl_WordDeed T.no_WordDeed_row x dx nx ndx ne⟩) (fun e1 => ?_)
    · unfold dcls
      rw [if_pos (of_decide_eq_true e)]
    have n1 : ¬ r.w ∈ wds7 := fun z => e1 (decide_eq_true z)
    refine ⟨_, rfl, rfl, _, rfl, ite2 (fun e => ⟨_, rfl, fun x dx nx ndx ne => leaf _ ?_ T.cl_NumberDeed T.no_NumberDeed_row x dx nx ndx ne⟩) (fun e2 => ?_)⟩
    · unfold dcls
      rw [if_neg n1, if_pos (V.str.inj (of_decide_eq_true e))]
    have n2 : ¬ r.w = "number" := fun z => e2 (decide_eq_true (by rw [z]))
    refine ⟨_, rfl, rfl, _, rfl, ite2 (fun e => ⟨_, rfl, fun x dx nx ndx ne => leaf _ ?_ T.cl_NotDeed T.no_NotDeed_row x dx nx ndx ne⟩) (fun e3 => ?_)⟩
    · unfold dcls
      rw [if_neg n1, if_neg n2, if_pos (V.str.inj (of_decide_eq_true e))]
    have n3 : ¬ r.w = "not" := fun z => e3 (decide_eq_true (by rw [z]))
    refine ⟨_, rfl, rfl, _, rfl, ite2 (fun e => ⟨_, rfl, fun x dx nx ndx ne => leaf _ ?_ T.cl_FreshDeed T.no_FreshDeed_row x dx nx ndx ne⟩) (fun e4 => ?_)⟩
    · unfold dcls
      rw [if_neg n1, if_neg n2, if_neg n3, if_pos (V.str.inj (of_decide_eq_true e))]
    have n4 : ¬ r.w = "fresh" := fun z => e4 (decide_eq_true (by rw [z]))
    refine ⟨_, rfl, rfl, _, rfl, ite2 (fun e => ⟨_, rfl, fun x dx nx ndx ne => leaf _ ?_ T.cl_GetDeed T.no_GetDeed_row x dx nx ndx ne⟩) (fun e5 => ?_)⟩
    · unfold dcls
      rw [if_neg n1, if_neg n2, if_neg n3, if_neg n4, if_pos (V.str.inj (of_decide_eq_true e))]
    have n5 : ¬ r.w = "get" := fun z => e5 (decide_eq_true (by rw [z]))
    refine ⟨_, rfl, rfl, _, rfl, ite2 (fun e => ⟨_, rfl, fun x dx nx ndx ne => leaf _ ?_ T.cl_PutDeed T.no_PutDeed_row x dx nx ndx ne⟩) (fun e6 => ?_)⟩
    · unfold dcls
      rw [if_neg n1, if_neg n2, if_neg n3, if_neg n4, if_neg n5, if_pos (V.str.inj (of_decide_eq_true e))]
    have n6 : ¬ r.w = "put" := fun z => e6 (decide_eq_true (by rw [z]))
    refine ⟨_, rfl, fun x dx nx ndx ne => leaf _ ?_ T.cl_TellDeed T.no_TellDeed_row x dx nx ndx ne⟩
    unfold dcls
    rw [if_neg n1, if_neg n2, if_neg n3, if_neg n4, if_neg n5, if_neg n6]
end

section
variable {P : Program} {w : World} {K : PySem.W.Frag} {mg : Str → Option Value} {base : Heap}
def wr (n : Int) : Int := (n + 2147483648) % 4294967296 - 2147483648
def sp_wrapped : Sp := fun vs H Q _ => ∃ n : Int, vs = [.int n] ∧ Q (.int (wr n)) H
theorem ok_wrapped (T : Top K mg) : FnOk P w K mg base CX0 1 (He.ga K "wrapped") T.fd_wrapped ["n"] sp_wrapped := by
  refine T.F_wrapped.ok sc_wrapped (fun vs H Q E h => ?_) (fun cdv A outer s H vs Q E hr h => ?_)
  · obtain ⟨n, rfl, _⟩ := h
    rfl
  · obtain ⟨n, rfl, q⟩ := h
    refine ⟨_, PSs.nox (pss_one (ps_ret (pe_op op_sub (pe_op op_mod (pe_op op_add (pv 0) (pe_glob (v := .int 2147483648) (by rfl) T.c_HALF ⟨_, rfl⟩)) (pe_glob (v := .int 4294967296) (by rfl) T.c_ROUND ⟨_, rfl⟩)) (pe_glob (v := .int 2147483648) (by rfl) T.c_HALF ⟨_, rfl⟩)))), ?_⟩
    exact ⟨_, rfl, _, _, rfl, rfl, _, _, rfl, rfl, (by show (0 : Int) < 4294967296; decide), _, _, rfl, rfl, q⟩
theorem log_small {j : Int} (h : -2147483648 ≤ j ∧ j ≤ 2147483648) : j.natAbs.log2 < 9000 := by
  have h1 : j.natAbs < 2 ^ 40 := by omega
  have := PySem.Flt.log2_lt_of (show 0 < 40 by decide) h1
  omega
def sp_divided : Sp := fun vs H Q _ => ∃ (wd : Str) (a b : Int), vs = [.str wd, .int a, .int b] ∧ In32 a ∧ In32 b ∧ (b = 0 → Q .non H) ∧
  (b ≠ 0 → ∀ H', Same H H' → (wd = "div" → Q (.int (wr (a.fdiv b))) H') ∧ (wd ≠ "div" → Q (.int (wr (a.fmod b))) H'))
theorem ok_divided (T : Top K mg) : FnOk P w K mg base CX0 2 (He.ga K "divided") T.fd_divided ["word", "one", "other"] sp_divided := by
  have G_wrapped := ok_wrapped (P := P) (w := w) (base := base) T
  refine T.F_divided.ok sc_divided (fun vs H Q E h => ?_) (fun cdv A outer s H vs Q E hr h => ?_)
  · obtain ⟨wd, a, b, rfl, _⟩ := h
    rfl
  · obtain ⟨wd, a, b, rfl, ha, hb, q0, q1⟩ := h
    refine ⟨_, PSs.nox (pss_cons (ps_if (pt_cmpR op_eq (pv 2) pe_int (nomark _)) (pss_one (ps_ret pe_non)) pss_nil)
        (pss_cons (ps_asg (pe_callB call_divmodG (by rfl) T.m_divmod (by decide +kernel) (pa_cons (pv 1) (pa_cons (pv 2) pa_nil))) (pg_tup (n := 2) (by rfl) (pgs_cons (pg_name (i := 3) sc_divided.nd rfl (Or.inl rfl)) (pgs_cons (pg_name (i := 4) sc_divided.nd rfl (Or.inl rfl)) pgs_nil))))
        (pss_one (ps_ret (pe_call G_wrapped (hr.mono (by omega)) (by rfl) T.g_wrapped T.F_wrapped.kp T.b_wrapped .nil pass0 (pa_cons (pe_ifExp (pt_cmpR op_eq (pv 0) pe_str (nomark _)) (pv 3) (pv 4)) pa_nil)))))), ?_⟩
    refine ⟨_, rfl, rfl, _, rfl, ite2 (fun e => ?_) (fun e => ?_)⟩
    · have e1 : b = 0 := V.int.inj (of_decide_eq_true e)
      exact q0 e1
    · have e1 : b ≠ 0 := fun z => e (decide_eq_true (congrArg V.int z))
      refine ⟨_, rfl, _, rfl, a, b, rfl, ⟨e1, log_small ⟨hb.1, by have := hb.2; omega⟩⟩, fun p np => ?_⟩
      refine ⟨p, _, rfl, .of upd_same, rfl, _, _, rfl, _, _, rfl, rfl, ?_⟩
      obtain ⟨qa, qb⟩ := q1 e1 _ (same_new np)
      refine ⟨_, rfl, rfl, _, rfl, ite2 (fun e => ?_) (fun e => ?_)⟩
      · have e2 : wd = "div" := V.str.inj (of_decide_eq_true e)
        exact ⟨_, rfl, _, rfl, qa e2⟩
      · have e2 : wd ≠ "div" := fun z => e (decide_eq_true (congrArg V.str z))
        exact ⟨_, rfl, _, rfl, qb e2⟩
def b2n (b : Bool) : Int := if b then 1 else 0
/-- what a word comes to -/
inductive Due (a b : Int) : Str → V → Prop where
  | div0 (h : b = 0) : Due a b "div" .non
  | rem0 (h : b = 0) : Due a b "rem" .non
  | div (h : b ≠ 0) : Due a b "div" (.int (wr (a.fdiv b)))
  | rem (h : b ≠ 0) : Due a b "rem" (.int (wr (a.fmod b)))
  | add : Due a b "add" (.int (wr (a + b)))
  | sub : Due a b "sub" (.int (wr (a - b)))
  | mul : Due a b "mul" (.int (wr (a * b)))
  | less : Due a b "less" (.int (b2n (decide (a < b))))
  | same : Due a b "same" (.int (b2n (decide (a = b))))
def wds : List Str := ["add", "sub", "mul", "div", "rem", "less", "same"]
def sp_reckoned : Sp := fun vs H Q _ => ∃ (wd : Str) (a b : Int) (v : V), vs = [.str wd, .int a, .int b] ∧ In32 a ∧ In32 b ∧ Due a b wd v ∧ ∀ H', Same H H' → Q v H'
theorem ok_reckoned (T : Top K mg) : FnOk P w K mg base CX0 3 (He.ga K "reckoned") T.fd_reckoned ["word", "one", "other"] sp_reckoned := by
  have G_wrapped := ok_wrapped (P := P) (w := w) (base := base) T
  have G_divided := ok_divided (P := P) (w := w) (base := base) T
  refine T.F_reckoned.ok sc_reckoned (fun vs H Q E h => ?_) (fun cdv A outer s H vs Q E hr h => ?_)
  · obtain ⟨wd, a, b, v, rfl, _⟩ := h
    rfl
  · obtain ⟨wd, a, b, v, rfl, ha, hb, hd, q⟩ := h
    refine ⟨_, PSs.nox (pss_cons (ps_if (pt_cmpR op_in_seq (pv 0) (pe_tup (pa_cons pe_str (pa_cons pe_str pa_nil))) (by rfl)) (pss_one (ps_ret (pe_call G_divided (hr.mono (by omega)) (by rfl) T.g_divided T.F_divided.kp T.b_divided .nil pass0 (pa_cons (pv 0) (pa_cons (pv 1) (pa_cons (pv 2) pa_nil)))))) pss_nil)
        (pss_cons (ps_if (pt_cmpR op_eq (pv 0) pe_str (nomark _)) (pss_one (ps_ret (pe_call G_wrapped (hr.mono (by omega)) (by rfl) T.g_wrapped T.F_wrapped.kp T.b_wrapped .nil pass0 (pa_cons (pe_op op_add (pv 1) (pv 2)) pa_nil)))) pss_nil)
        (pss_cons (ps_if (pt_cmpR op_eq (pv 0) pe_str (nomark _)) (pss_one (ps_ret (pe_call G_wrapped (hr.mono (by omega)) (by rfl) T.g_wrapped T.F_wrapped.kp T.b_wrapped .nil pass0 (pa_cons (pe_op op_sub (pv 1) (pv 2)) pa_nil)))) pss_nil)
        (pss_cons (ps_if (pt_cmpR op_eq (pv 0) pe_str (nomark _)) (pss_one (ps_ret (pe_call G_wrapped (hr.mono (by omega)) (by rfl) T.g_wrapped T.F_wrapped.kp T.b_wrapped .nil pass0 (pa_cons (pe_op op_mul (pv 1) (pv 2)) pa_nil)))) pss_nil)
        (pss_cons (ps_if (pt_cmpR op_eq (pv 0) pe_str (nomark _)) (pss_one (ps_ret (pe_callTy call_int1 (by rfl) T.m_int (by decide +kernel) (pa_cons (pe_cmpR op_lt (pv 1) (pv 2) (nomark _)) pa_nil)))) pss_nil)
        (pss_one (ps_ret (pe_callTy call_int1 (by rfl) T.m_int (by decide +kernel) (pa_cons (pe_cmpR op_eq (pv 1) (pv 2) (nomark _)) pa_nil))))))))), ?_⟩
    refine ⟨_, rfl, by decide, fun p np => ?_⟩
    have sm := same_new (o := .tup [.str "div", .str "rem"]) np
    refine ⟨p, _, rfl, .inr (.of upd_same), rfl, by decide +kernel, _, rfl, ?_⟩
    have ok : ∀ {x : Str} {y : Str} {A B : Prop}, x ≠ y → B → if decide (V.str x = V.str y) = true then A else B := fun h hB => ifN (fun z => h (V.str.inj z)) hB
    have gd : wds ≠ [] := by decide
    cases hd with
    | div0 h => exact ⟨_, rfl, _, rfl, _, rfl, _, a, b, rfl, ha, hb, fun _ => q _ sm, fun z => absurd h z⟩
    | rem0 h => exact ⟨_, rfl, _, rfl, _, rfl, _, a, b, rfl, ha, hb, fun _ => q _ sm, fun z => absurd h z⟩
    | div h => exact ⟨_, rfl, _, rfl, _, rfl, _, a, b, rfl, ha, hb, fun z => absurd z h, fun _ H' s2 => ⟨fun _ => q _ (sm.trans s2), fun z => absurd rfl z⟩⟩
    | rem h => exact ⟨_, rfl, _, rfl, _, rfl, _, a, b, rfl, ha, hb, fun z => absurd z h, fun _ H' s2 => ⟨fun z => absurd z (by decide +kernel), fun _ => q _ (sm.trans s2)⟩⟩
    | add => exact ⟨_, rfl, rfl, _, rfl, ifD rfl ⟨_, rfl, _, rfl, _, _, rfl, rfl, _, rfl, q _ sm⟩⟩
    | sub => exact ⟨_, rfl, rfl, _, rfl, ok (by decide +kernel) ⟨_, rfl, rfl, _, rfl, ifD rfl ⟨_, rfl, _, rfl, _, _, rfl, rfl, _, rfl, q _ sm⟩⟩⟩
    | mul => exact ⟨_, rfl, rfl, _, rfl, ok (by decide +kernel) ⟨_, rfl, rfl, _, rfl, ok (by decide +kernel) ⟨_, rfl, rfl, _, rfl, ifD rfl ⟨_, rfl, _, rfl, _, _, rfl, rfl, .inl ⟨by have := ha.1; omega, by have := ha.2; omega⟩, _, rfl, q _ sm⟩⟩⟩⟩
    | less => exact ⟨_, rfl, rfl, _, rfl, ok (by decide +kernel) ⟨_, rfl, rfl, _, rfl, ok (by decide +kernel) ⟨_, rfl, rfl, _, rfl, ok (by decide +kernel) ⟨_, rfl, rfl, _, rfl, ifD rfl ⟨_, rfl, _, rfl, _, _, rfl, rfl, .inr ⟨_, rfl, q _ sm⟩⟩⟩⟩⟩⟩
    | same => exact ⟨_, rfl, rfl, _, rfl, ok (by decide +kernel) ⟨_, rfl, rfl, _, rfl, ok (by decide +kernel) ⟨_, rfl, rfl, _, rfl, ok (by decide +kernel) ⟨_, rfl, rfl, _, rfl, ok (by decide +kernel) ⟨_, rfl, _, rfl, rfl, .inr ⟨_, rfl, by
        rw [show decide (V.int a = V.int b) = decide (a = b) by by_cases z : a = b <;> simp [z]]
        exact q _ sm⟩⟩⟩⟩⟩⟩
theorem wr_in {n : Int} (h : In32 n) : wr n = n := by
  obtain ⟨h1, h2⟩ := h
  unfold wr
  omega
def sp_denied : Sp := fun vs H Q _ => ∃ n : Int, vs = [.int n] ∧ Q (.int (b2n (decide (V.int n = V.int 0)))) H
theorem ok_denied (T : Top K mg) : FnOk P w K mg base CX0 1 (He.ga K "denied") T.fd_denied ["n"] sp_denied := by
  refine T.F_denied.ok sc_denied (fun vs H Q E h => ?_) (fun cdv A outer s H vs Q E hr h => ?_)
  · obtain ⟨n, rfl, _⟩ := h
    rfl
  · obtain ⟨n, rfl, q⟩ := h
    refine ⟨_, PSs.nox (pss_one (ps_ret (pe_callTy call_int1 (by rfl) T.m_int (by decide +kernel) (pa_cons (pe_cmpR op_eq (pv 0) pe_int (nomark _)) pa_nil)))), ?_⟩
    exact ⟨_, rfl, rfl, .inr ⟨_, rfl, q⟩⟩
end

/-! what a word makes of two numbers -/
def rck (w : Str) (a b : Int) : Option Int :=
  if w = "add" then some (wr (a + b)) else if w = "sub" then some (wr (a - b)) else if w = "mul" then some (wr (a * b))
  else if w = "less" then some (b2n (decide (a < b))) else if w = "same" then some (b2n (decide (a = b)))
  else if w = "div" then (if b = 0 then none else some (wr (a.fdiv b))) else (if b = 0 then none else some (wr (a.fmod b)))
def vOf : Option Int → V
  | some v => .int v
  | none => .non
theorem due_rck {w : Str} {a b : Int} (hw : w ∈ wds) : Due a b w (vOf (rck w a b)) := by
  unfold rck
  by_cases h1 : w = "add"
  · subst h1; rw [if_pos rfl]; exact .add
  rw [if_neg h1]
  by_cases h2 : w = "sub"
  · subst h2; rw [if_pos rfl]; exact .sub
  rw [if_neg h2]
  by_cases h3 : w = "mul"
  · subst h3; rw [if_pos rfl]; exact .mul
  rw [if_neg h3]
  by_cases h4 : w = "less"
  · subst h4; rw [if_pos rfl]; exact .less
  rw [if_neg h4]
  by_cases h5 : w = "same"
  · subst h5; rw [if_pos rfl]; exact .same
  rw [if_neg h5]
  by_cases h6 : w = "div"
  · subst h6
    rw [if_pos rfl]
    by_cases hb : b = 0
    · rw [if_pos hb]; exact .div0 hb
    · rw [if_neg hb]; exact .div hb
  rw [if_neg h6]
  have h7 : w = "rem" := by
    unfold wds at hw
    simp only [List.mem_cons, List.not_mem_nil, or_false] at hw
    rcases hw with h | h | h | h | h | h | h
    all_goals first | exact absurd h h1 | exact absurd h h2 | exact absurd h h3 | exact absurd h h4 | exact absurd h h5 | exact absurd h h6 | exact h
  subst h7
  by_cases hb : b = 0
  · rw [if_pos hb]; exact .rem0 hb
  · rw [if_neg hb]; exact .rem hb
theorem wr_32 (n : Int) : In32 (wr n) := by
  unfold wr In32
  omega
theorem b2n_32 (b : Bool) : In32 (b2n b) := by cases b <;> exact ⟨by decide, by decide⟩
theorem rck_32 {w : Str} {a b v : Int} (h : rck w a b = some v) : In32 v := by
  unfold rck at h
  repeat' (split at h)
  all_goals first | (cases h; exact wr_32 _) | (cases h; exact b2n_32 _) | cases h

/-! works gone through: plain -/
inductive Vl where
  | n (i : Int)
  | r (l : List Int)
def Vl.d : Vl → PyData
  | .n i => .int i
  | .r l => .tuple (l.map PyData.int)
theorem Vl.nl (v : Vl) : nLd v.d = true := by cases v <;> simp [Vl.d, nLd, ints_nl]
abbrev Env := Int → Option Vl
def Env.num (ρ : Env) (a : Int) : Int := match ρ a with
  | some (.n i) => i
  | _ => 0
def Env.row (ρ : Env) (a : Int) : List Int := match ρ a with
  | some (.r l) => l
  | _ => []
def Env.put (ρ : Env) (a : Int) (v : Vl) : Env := fun b => if b = a then some v else ρ b
theorem Env.num_of {ρ : Env} {a i : Int} (h : ρ a = some (.n i)) : ρ.num a = i := by unfold Env.num; rw [h]
theorem Env.row_of {ρ : Env} {a : Int} {l : List Int} (h : ρ a = some (.r l)) : ρ.row a = l := by unfold Env.row; rw [h]
/-- how a works ends -/
inductive EndS where
  | on
  | fault (w : Str)
  | gave (n : Int)
def EndS.d : EndS → PyData
  | .on => .tuple [.str "on"]
  | .fault w => .tuple [.str "fault", .str w]
  | .gave n => .tuple [.str "gave", .int n]
def GRow.a (r : GRow) (i : Nat) : Int := r.as.getD i 0
def inRow (l : List Int) (p : Int) : Prop := 0 ≤ p ∧ p < l.length
instance (l : List Int) (p : Int) : Decidable (inRow l p) := inferInstanceAs (Decidable (_ ∧ _))
/-- what is born by a row, or a fault -/
def play (r : GRow) (ρ : Env) : Except Str Vl :=
  if r.w = "number" then .ok (.n (r.a 0))
  else if r.w = "fresh" then .ok (.r (List.replicate (r.a 0).toNat 0))
  else if r.w = "not" then .ok (.n (b2n (decide (ρ.num (r.a 0) = 0))))
  else if r.w = "get" then (if inRow (ρ.row (r.a 0)) (ρ.num (r.a 1)) then .ok (.n ((ρ.row (r.a 0)).getD (ρ.num (r.a 1)).toNat 0)) else .error "place")
  else if r.w = "put" then (if inRow (ρ.row (r.a 0)) (ρ.num (r.a 1)) then .ok (.r ((ρ.row (r.a 0)).set (ρ.num (r.a 1)).toNat (ρ.num (r.a 2)))) else .error "place")
  else if r.w = "tell" then .ok (.n (ρ.num (r.a 0)))
  else match rck r.w (ρ.num (r.a 0)) (ρ.num (r.a 1)) with
    | none => .error "division"
    | some v => .ok (.n v)
theorem play_number (ρ : Env) (v : Int) (x : Int) : play ⟨v, "number", [x]⟩ ρ = Except.ok (Vl.n x) := by
  unfold play
  rw [if_pos rfl]
  rfl
theorem play_fresh (ρ : Env) (v : Int) (x : Int) : play ⟨v, "fresh", [x]⟩ ρ = Except.ok (Vl.r (List.replicate x.toNat 0)) := by
  unfold play
  rw [if_neg (show ¬ (("fresh" : Str) = "number") by decide +kernel), if_pos rfl]
  rfl
theorem play_not (ρ : Env) (v : Int) (a : Int) : play ⟨v, "not", [a]⟩ ρ = Except.ok (Vl.n (b2n (decide (ρ.num a = 0)))) := by
  unfold play
  rw [if_neg (show ¬ (("not" : Str) = "number") by decide +kernel), if_neg (show ¬ (("not" : Str) = "fresh") by decide +kernel), if_pos rfl]
  rfl
theorem play_get (ρ : Env) (v : Int) (h a : Int) : play ⟨v, "get", [h, a]⟩ ρ = (if inRow (ρ.row h) (ρ.num a) then Except.ok (Vl.n ((ρ.row h).getD (ρ.num a).toNat 0)) else Except.error ("place" : Str)) := by
  unfold play
  rw [if_neg (show ¬ (("get" : Str) = "number") by decide +kernel), if_neg (show ¬ (("get" : Str) = "fresh") by decide +kernel), if_neg (show ¬ (("get" : Str) = "not") by decide +kernel), if_pos rfl]
  rfl
theorem play_put (ρ : Env) (v : Int) (h a x : Int) : play ⟨v, "put", [h, a, x]⟩ ρ = (if inRow (ρ.row h) (ρ.num a) then Except.ok (Vl.r ((ρ.row h).set (ρ.num a).toNat (ρ.num x))) else Except.error ("place" : Str)) := by
  unfold play
  rw [if_neg (show ¬ (("put" : Str) = "number") by decide +kernel), if_neg (show ¬ (("put" : Str) = "fresh") by decide +kernel), if_neg (show ¬ (("put" : Str) = "not") by decide +kernel), if_neg (show ¬ (("put" : Str) = "get") by decide +kernel), if_pos rfl]
  rfl
theorem play_tell (ρ : Env) (v : Int) (a : Int) : play ⟨v, "tell", [a]⟩ ρ = Except.ok (Vl.n (ρ.num a)) := by
  unfold play
  rw [if_neg (show ¬ (("tell" : Str) = "number") by decide +kernel), if_neg (show ¬ (("tell" : Str) = "fresh") by decide +kernel), if_neg (show ¬ (("tell" : Str) = "not") by decide +kernel), if_neg (show ¬ (("tell" : Str) = "get") by decide +kernel), if_neg (show ¬ (("tell" : Str) = "put") by decide +kernel), if_pos rfl]
  rfl
theorem play_op (ρ : Env) (v : Int) {wd : Str} (a b : Int) (hw : wd ∈ wds) : play ⟨v, wd, [a, b]⟩ ρ = match rck wd (ρ.num a) (ρ.num b) with
    | none => Except.error ("division" : Str)
    | some z => Except.ok (Vl.n z) := by
  have nw : ∀ w ∈ wds, w ≠ "number" ∧ w ≠ "fresh" ∧ w ≠ "not" ∧ w ≠ "get" ∧ w ≠ "put" ∧ w ≠ "tell" := by decide +kernel
  obtain ⟨n1, n2, n3, n4, n5, n6⟩ := nw wd hw
  unfold play
  rw [if_neg n1, if_neg n2, if_neg n3, if_neg n4, if_neg n5, if_neg n6]
  rfl
/-- what a row wants -/
inductive PlayOk (ρ : Env) (cn : Str) (r : GRow) : Prop
  | num (e : cn = "NumberDeed") (v x : Int) : r = ⟨v, "number", [x]⟩ → In32 x → PlayOk ρ cn r
  | fresh (e : cn = "FreshDeed") (v x : Int) : r = ⟨v, "fresh", [x]⟩ → 1 ≤ x → x ≤ 8 → PlayOk ρ cn r
  | no (e : cn = "NotDeed") (v a i : Int) : r = ⟨v, "not", [a]⟩ → ρ a = some (.n i) → PlayOk ρ cn r
  | op (e : cn = "WordDeed") (v : Int) (w : Str) (a b i j : Int) : r = ⟨v, w, [a, b]⟩ → w ∈ wds → ρ a = some (.n i) → ρ b = some (.n j) → In32 i → In32 j → PlayOk ρ cn r
  | get (e : cn = "GetDeed") (v h a i : Int) (l : List Int) : r = ⟨v, "get", [h, a]⟩ → ρ h = some (.r l) → l.length ≤ 8 → ρ a = some (.n i) → PlayOk ρ cn r
  | put (e : cn = "PutDeed") (v h a x i j : Int) (l : List Int) : r = ⟨v, "put", [h, a, x]⟩ → ρ h = some (.r l) → l.length ≤ 8 → ρ a = some (.n i) → ρ x = some (.n j) → PlayOk ρ cn r
  | tell (e : cn = "TellDeed") (v a i : Int) : r = ⟨v, "tell", [a]⟩ → ρ a = some (.n i) → PlayOk ρ cn r
/-! values are of their kinds -/
def VlOk (z : Int) : Vl → Prop
  | .n i => z = 0 ∧ In32 i
  | .r l => 0 < z ∧ l.length = z.toNat ∧ ∀ x ∈ l, In32 x
def EnvOk (sc : List (Int × Int)) (ρ : Env) : Prop := ∀ p ∈ sc, ∃ v, ρ p.1 = some v ∧ VlOk p.2 v
theorem EnvOk.num {sc : List (Int × Int)} {ρ : Env} {a : Int} (h : EnvOk sc ρ) (m : (a, 0) ∈ sc) : ∃ i, ρ a = some (.n i) ∧ In32 i := by
  obtain ⟨v, e, k⟩ := h _ m
  cases v with
  | n i => exact ⟨i, e, k.2⟩
  | r l => exact absurd k.1 (by show ¬ (0 : Int) < 0; omega)
theorem EnvOk.row {sc : List (Int × Int)} {ρ : Env} {a z : Int} (h : EnvOk sc ρ) (m : (a, z) ∈ sc) (z0 : 0 < z) : ∃ l, ρ a = some (.r l) ∧ l.length = z.toNat ∧ ∀ x ∈ l, In32 x := by
  obtain ⟨v, e, k⟩ := h _ m
  cases v with
  | n i =>
    have := k.1
    simp only at this
    omega
  | r l => exact ⟨l, e, k.2⟩
theorem EnvOk.mono {sc sc' : List (Int × Int)} {ρ : Env} (h : EnvOk sc' ρ) (m : ∀ p ∈ sc, p ∈ sc') : EnvOk sc ρ := fun p hp => h p (m p hp)
theorem dcls_of : dcls "number" = "NumberDeed" ∧ dcls "fresh" = "FreshDeed" ∧ dcls "not" = "NotDeed" ∧ dcls "get" = "GetDeed" ∧ dcls "put" = "PutDeed" ∧ dcls "tell" = "TellDeed" ∧ ∀ w ∈ wds7, dcls w = "WordDeed" := by decide +kernel
theorem RowR.play {sc : List (Int × Int)} {ρ : Env} (e : EnvOk sc ρ) (z8 : ∀ p ∈ sc, p.2 ≤ 8) : ∀ {w : Str} {as : List Int} {k : Int} (v : Int), RowR sc w as k → PlayOk ρ (dcls w) ⟨v, w, as⟩
  | _, _, _, v, .num x h => .num dcls_of.1 v x rfl h
  | _, _, _, v, .fresh x a b => .fresh dcls_of.2.1 v x rfl a b
  | _, _, _, v, .no a h => by
    obtain ⟨i, hi, _⟩ := e.num h
    exact .no dcls_of.2.2.1 v a i rfl hi
  | _, _, _, v, .op w a b hw h1 h2 => by
    obtain ⟨i, hi, i1⟩ := e.num h1
    obtain ⟨j, hj, j1⟩ := e.num h2
    exact .op (dcls_of.2.2.2.2.2.2 w hw) v w a b i j rfl hw hi hj i1 j1
  | _, _, _, v, .get h a z h1 h2 h3 => by
    obtain ⟨l, hl, l1, _⟩ := e.row h1 h2
    obtain ⟨i, hi, _⟩ := e.num h3
    have := z8 _ h1
    simp only at this
    exact .get dcls_of.2.2.2.1 v h a i l rfl hl (by omega) hi
  | _, _, _, v, .put h a x z h1 h2 h3 h4 => by
    obtain ⟨l, hl, l1, _⟩ := e.row h1 h2
    obtain ⟨i, hi, _⟩ := e.num h3
    obtain ⟨j, hj, _⟩ := e.num h4
    have := z8 _ h1
    simp only at this
    exact .put dcls_of.2.2.2.2.1 v h a x i j l rfl hl (by omega) hi hj
/-- what is born is of its kind -/
theorem play_ok {sc : List (Int × Int)} {ρ : Env} (e : EnvOk sc ρ) : ∀ {w : Str} {as : List Int} {k : Int} (v : Int) {vl : Vl}, RowR sc w as k → play ⟨v, w, as⟩ ρ = .ok vl → VlOk k vl
  | _, _, _, v, vl, .num x h, p => by
    rw [play_number] at p
    cases p
    exact ⟨rfl, h⟩
  | _, _, _, v, vl, .fresh x a b, p => by
    rw [play_fresh] at p
    cases p
    exact ⟨by omega, List.length_replicate, fun y hy => by rw [List.eq_of_mem_replicate hy]; unfold In32; decide⟩
  | _, _, _, v, vl, .no a h, p => by
    rw [play_not] at p
    cases p
    exact ⟨rfl, b2n_32 _⟩
  | _, _, _, v, vl, .op w a b hw h1 h2, p => by
    rw [play_op ρ v a b hw] at p
    cases h : rck w (ρ.num a) (ρ.num b) with
    | none =>
      rw [h] at p
      cases p
    | some x =>
      rw [h] at p
      cases p
      exact ⟨rfl, rck_32 h⟩
  | _, _, _, v, vl, .get g a z h1 h2 h3, p => by
    obtain ⟨l, hl, l1, l2⟩ := e.row h1 h2
    rw [play_get] at p
    split at p
    · rename_i c
      cases p
      rw [Env.row_of hl] at c ⊢
      exact ⟨rfl, getD_all l2 c.1 c.2⟩
    · cases p
  | _, _, _, v, vl, .put g a x z h1 h2 h3 h4, p => by
    obtain ⟨l, hl, l1, l2⟩ := e.row h1 h2
    obtain ⟨j, hj, j1⟩ := e.num h4
    rw [play_put] at p
    split at p
    · cases p
      rw [Env.row_of hl, Env.num_of hj]
      refine ⟨h2, by rw [List.length_set]; exact l1, fun y hy => ?_⟩
      rcases List.mem_or_eq_of_mem_set hy with hy | rfl
      · exact l2 y hy
      · exact j1
    · cases p
theorem EnvOk.put {sc : List (Int × Int)} {ρ : Env} {v k : Int} {vl : Vl} (e : EnvOk sc ρ) (h : VlOk k vl) (n : ∀ p ∈ sc, p.1 = v → p.2 = k) : EnvOk (sc ++ [(v, k)]) (ρ.put v vl) := fun p hp => by
  unfold Env.put
  by_cases c : p.1 = v
  · refine ⟨vl, if_pos c, ?_⟩
    rcases List.mem_append.mp hp with hp | hp
    · rw [n p hp c]
      exact h
    · rw [List.mem_singleton.mp hp]
      exact h
  · rcases List.mem_append.mp hp with hp | hp
    · obtain ⟨u, hu, k⟩ := e p hp
      exact ⟨u, by rw [if_neg c]; exact hu, k⟩
    · rw [List.mem_singleton.mp hp] at c
      exact absurd rfl c
section
variable {K : PySem.W.Frag}
/-- values as a dict -/
structure EnvAt (K : PySem.W.Frag) (H : Hp) (d : Addr) (ρ : Env) : Prop where
  ex : ∃ kvs : List (Key × V), H d = some (.dK kvs) ∧ (kvs.map (·.1)).Nodup ∧ (∀ k ∈ kvs.map (·.1), ∃ a : Nat, a < 9973 ∧ k = .inl (a : Int)) ∧
    ∀ a : Int, (∃ vl v, ρ a = some vl ∧ valV kvs (.inl a) = some v ∧ Dp K H v vl.d) ∨ (ρ a = none ∧ valV kvs (.inl a) = none)
theorem EnvAt.kp {S : Addr → Prop} {H H' : Hp} {d : Addr} {ρ : Env} (h : EnvAt K H d ρ) (k : Kp S H H') (e : H' d = H d) : EnvAt K H' d ρ := by
  obtain ⟨kvs, h1, h2, h3, h4⟩ := h.ex
  refine ⟨kvs, e.trans h1, h2, h3, fun a => (h4 a).imp (fun ⟨vl, v, e1, e2, e3⟩ => ⟨vl, v, e1, e2, dp_kp k _ _ vl.nl e3⟩) id⟩
theorem EnvAt.sm {H H' : Hp} {d : Addr} {ρ : Env} (h : EnvAt K H d ρ) (s : Same H H') : EnvAt K H' d ρ := by
  obtain ⟨kvs, h1, _⟩ := id h.ex
  exact h.kp (S := fun _ => False) (.of_same s) ((s _ _ h1).trans h1.symm)
theorem EnvAt.get {H : Hp} {d : Addr} {ρ : Env} {a : Int} {vl : Vl} (h : EnvAt K H d ρ) (e : ρ a = some vl) : ∃ v, DGet H d (.int a) (some v) ∧ Dp K H v vl.d := by
  obtain ⟨kvs, h1, h2, h3, h4⟩ := h.ex
  rcases h4 a with ⟨vl', v, e1, e2, e3⟩ | ⟨e1, _⟩
  · rw [e] at e1
    cases e1
    refine ⟨v, ?_, e3⟩
    have := DGet.k (k := .inl a) h1
    rw [e2] at this
    exact this
  · rw [e] at e1
    cases e1
theorem keys_len : ∀ {l : List Key}, l.Nodup → (∀ k ∈ l, ∃ a : Nat, a < 9973 ∧ k = .inl (a : Int)) → l.length ≤ 9973 := by
  intro l nd h
  have e : ∃ m : List Nat, l = m.map (fun a : Nat => (Sum.inl (a : Int) : Key)) ∧ ∀ a ∈ m, a < 9973 := by
    clear nd
    induction l with
    | nil => exact ⟨[], rfl, fun a ha => nomatch ha⟩
    | cons k r ih =>
      obtain ⟨m, e, hm⟩ := ih fun k hk => h k (List.mem_cons_of_mem _ hk)
      obtain ⟨a, ha, rfl⟩ := h k (List.mem_cons_self ..)
      refine ⟨a :: m, by rw [e]; rfl, fun b hb => ?_⟩
      rcases List.mem_cons.mp hb with rfl | hb
      · exact ha
      · exact hm b hb
  obtain ⟨m, rfl, hm⟩ := e
  rw [List.length_map]
  refine pigeon 9973 m ?_ hm
  refine (List.nodup_iff_pairwise_ne.mpr ?_)
  rw [List.nodup_iff_pairwise_ne, List.pairwise_map] at nd
  exact nd.imp fun h e => h (by rw [e])
theorem putK_keys (kvs : List (Key × V)) (k : Key) (v : V) : (putK kvs k v).map (·.1) = kvs.map (·.1) ∨ k ∉ kvs.map (·.1) ∧ (putK kvs k v).map (·.1) = kvs.map (·.1) ++ [k] := by
  unfold putK
  by_cases h : (kvs.any fun kv => decide (kv.1 = k)) = true
  · refine .inl ?_
    rw [if_pos h, List.map_map]
    refine List.map_congr_left fun x _ => ?_
    show (if x.1 = k then (x.1, v) else x).1 = x.1
    split <;> rfl
  · refine .inr ⟨fun z => ?_, ?_⟩
    · obtain ⟨x, hx, e⟩ := List.mem_map.mp z
      exact h (List.any_eq_true.mpr ⟨x, hx, decide_eq_true e⟩)
    · rw [if_neg h, List.map_append]
      rfl
theorem EnvAt.put {H : Hp} {d : Addr} {ρ : Env} {a : Int} {v : V} {vl : Vl} (h : EnvAt K H d ρ) (sm : Smv a) (dv : Dp K H v vl.d) : ∃ kvs, H d = some (.dK kvs) ∧ DPut H d (.int a) v (upd H d (.dK (putK kvs (.inl a) v))) ∧ EnvAt K (upd H d (.dK (putK kvs (.inl a) v))) d (ρ.put a vl) := by
  obtain ⟨kvs, h1, h2, h3, h4⟩ := h.ex
  have hl := keys_len h2 h3
  rw [List.length_map] at hl
  have kp : Kp (fun b => b = d) H (upd H d (.dK (putK kvs (.inl a) v))) := Kp.upd h1 trivial rfl
  refine ⟨kvs, h1, DPut.k (k := .inl a) h1 (by rw [sizeLine_eq]; omega), ⟨_, upd_same, ?_, fun k hk => ?_, fun b => ?_⟩⟩
  · rcases putK_keys kvs (.inl a) v with e | ⟨c, e⟩ <;> rw [e]
    · exact h2
    · rw [List.nodup_append]
      exact ⟨h2, by simp, fun x hx y hy e => c (by rw [List.mem_singleton.mp hy] at e; exact e ▸ hx)⟩
  · rcases putK_keys kvs (.inl a) v with e | ⟨c, e⟩ <;> rw [e] at hk
    · exact h3 k hk
    · rcases List.mem_append.mp hk with hk | hk
      · exact h3 k hk
      · rw [List.mem_singleton.mp hk]
        obtain ⟨s1, s2⟩ := sm
        exact ⟨a.toNat, by omega, by congr 1; omega⟩
  · rw [valV_put]
    unfold Env.put
    by_cases c : b = a
    · subst c
      rw [if_pos rfl, if_pos rfl]
      exact .inl ⟨vl, v, rfl, rfl, dp_kp kp _ _ vl.nl dv⟩
    · rw [if_neg c, if_neg (fun z => c (Sum.inl.inj z))]
      exact (h4 b).imp (fun ⟨vl', v', e1, e2, e3⟩ => ⟨vl', v', e1, e2, dp_kp kp _ _ vl'.nl e3⟩) id
end

/-! an own rule: a tuple some times over, once too -/
theorem tuple_mul1 (l : Addr) (items : Array Value) (n : Nat) (dd : Option Addr) (sl : Array (Option Value)) (u : Tok) :
    Meets (Builtin.«tuple.__mul__» ⟨[.ref l, .int 1 u], []⟩) (fun _ R s => s.heap.get? l = some { cls := .type "tuple", dict := dd, data := .seq items n, slots := sl } ∧ R (.ok (.ret (Value.ref l))) s) :=
  .of_wp fun prog w A R s h => by
    obtain ⟨hp, g, d, tk, os⟩ := s
    obtain ⟨hl, h⟩ := h
    have f1 := AutoSeq1.idx_int
    have c0 : (decide ((1 : Int) < -(2 ^ 63)) || decide ((1 : Int) ≥ 2 ^ 63)) = false := by decide
    have c1 : (items.isEmpty || (1 : Int) == 1) = true := by rw [show ((1 : Int) == 1) = true from rfl, Bool.or_true]
    wp_walk using wpAny_loadPart' hl
    repeat (first
      | (refine wpAny_ite_false (decide_eq_false (by rw [c0]; exact Bool.false_ne_true)) ?_; wp_walk using wpAny_loadPart' hl)
      | (refine wpAny_ite_true (decide_eq_true c1) ?_; wp_walk using wpAny_loadPart' hl))
    all_goals first | exact ⟨_, rfl, h⟩ | skip
def rRepT1 (K : PySem.W.Frag) : R2 := fun x y H Q => ∃ l k xs, x = .ref l ∧ y = .int k ∧ SqT K H l xs ∧ xs ≠ [] ∧ 1 ≤ k ∧ k ≤ 1000 ∧ xs.length ≤ 1000 ∧ (k = 1 → Q (.ref l) H) ∧ (k ≠ 1 → ∀ p, H p = none → Q (.ref p) (upd H p (.tup (List.replicate k.toNat xs).flatten)))
theorem op_repT1 {X : Cx} : OpR X (binaryOp .Mult) (rRepT1 X.K) := by
  intro pins s σ H x y v u Q I rx ry h
  obtain ⟨l, k, xs, rfl, rfl, hT, hne, h1, h2, hz, q1, q2⟩ := h
  by_cases hk : k = 1
  · subst hk
    cases rx
    obtain ⟨t, rfl⟩ := ry
    obtain ⟨its, r, ⟨⟨cls, dd, data, sl⟩, ho, hc, n, hd⟩, hs⟩ := I.tuple hT
    simp only at hc hd
    subst hc hd
    refine wpAny_binaryOp_repeat_ref (T := "tuple") (U := "int") (by decide) ⟨_, ho, rfl⟩ (fun s' => typeIs_int s' 1 t) noFill_tuple_mul F.fills_int_mul F.slot_int_rmul repeat_tuple F.slot_int_index.lookup
      (call_meets F.slot_int_rmul (typeIs_int s 1 t) F.entry_int_rmul (F.args_int_rmul_2 _ _) (int_rmul_tuple 1 t l its.toArray n dd sl)
        ⟨ho, rfl, ⟨_, ho, rfl⟩, call_meets F.slot_tuple_mul ⟨_, ho, rfl⟩ F.entry_tuple_mul (F.args_tuple_mul_2 _ _) (tuple_mul1 l its.toArray n dd sl t) ⟨ho, ?_⟩⟩)
    exact ⟨.ref l, H, I, rfl, q1 rfl⟩
  · exact op_repT pins s σ H _ _ v u Q I rx ry ⟨l, k, xs, rfl, rfl, hT, hne, by omega, h2, hz, q2 hk⟩

section
variable {P : Program} {w : World} {K : PySem.W.Frag} {mg : Str → Option Value} {base : Heap}
/-- what a deed's play tells: a pair -/
def Played (K : PySem.W.Frag) (H : Hp) (t : Addr) : Except Str Vl → Prop
  | .ok vl => ∃ v, SqT K H t [v, .non] ∧ Dp K H v vl.d
  | .error f => ∃ v, SqT K H t [v, .str f]
def sp_play (K : PySem.W.Frag) (cn : Str) : Sp := fun vs H Q _ => ∃ (x d dx : Addr) (rv : V) (r : GRow) (ρ : Env), vs = [.ref x, .ref d] ∧ H x = some (.ins (He.ga K cn) dx [("row", rv)]) ∧ Dp K H rv r.d ∧ EnvAt K H d ρ ∧ PlayOk ρ cn r ∧
  ∀ H' t, Same H H' → Played K H' t (play r ρ) → Q (.ref t) H'
theorem dpAll_ints {H : Hp} : ∀ {l : List Int} {xs : List V}, DpAll K H xs (l.map PyData.int) → xs = l.map V.int
  | [], xs, h => dpAll_nil h
  | a :: r, xs, h => by
    obtain ⟨v, t, rfl, h1, h2⟩ := dpAll_cons h
    rw [dp_int h1, dpAll_ints h2]
    rfl
theorem two_le : 2 ≤ sizeLine := by rw [sizeLine_eq]; decide
theorem one_le : 1 ≤ sizeLine := by rw [sizeLine_eq]; decide
theorem ok_NumberDeed_play (T : Top K mg) : FnOk P w K mg base CX0 1 (He.ma K (He.ga K "NumberDeed") "play") T.fd_NumberDeed_play ["self", "values"] (sp_play K "NumberDeed") := by
  refine T.F_NumberDeed_play.ok sc_NumberDeed_play (fun vs H Q E h => ?_) (fun cdv A0 outer s0 H vs Q E hr h => ?_)
  · obtain ⟨x, d, dx, rv, r, ρ, rfl, _⟩ := h
    rfl
  · obtain ⟨x, d, dx, rv, r, ρ, rfl, ex, dr, en, ok, q⟩ := h
    refine ⟨_, PSs.nox (pss_one (ps_ret (pe_tup (pa_cons (pe_ix ix_tup (pe_fld (pv 0) rfl) pe_int (fun _ _ => rfl)) (pa_cons pe_non pa_nil))))), ?_⟩
    obtain ⟨v, n, rfl⟩ : ∃ v x, r = ⟨v, "number", [x]⟩ := by
      cases ok with
      | num e v x er h => exact ⟨v, x, er⟩
      | fresh e => exact absurd e (by decide +kernel)
      | no e => exact absurd e (by decide +kernel)
      | op e => exact absurd e (by decide +kernel)
      | get e => exact absurd e (by decide +kernel)
      | put e => exact absurd e (by decide +kernel)
      | tell e => exact absurd e (by decide +kernel)
    obtain ⟨p, xs, rfl, hp, dxs⟩ := row_parts dr
    obtain ⟨v1, r1, rfl, d1, t1⟩ := dpAll_cons dxs
    rw [dp_int d1] at hp
    refine ⟨_, rfl, x, _, dx, _, _, rfl, ex, T.cl_NumberDeed, T.no_NumberDeed_row, rfl, p, _, 2, _, rfl, rfl, hp, atI_nat (j := 2) rfl, two_le, fun t nt => q _ _ (same_new nt) ?_⟩
    have e : play ⟨v, "number", [n]⟩ ρ = .ok (.n n) := play_number ..
    rw [e]
    exact ⟨_, .inl (.of upd_same), .int n⟩
theorem ok_TellDeed_play (T : Top K mg) : FnOk P w K mg base CX0 1 (He.ma K (He.ga K "TellDeed") "play") T.fd_TellDeed_play ["self", "values"] (sp_play K "TellDeed") := by
  refine T.F_TellDeed_play.ok sc_TellDeed_play (fun vs H Q E h => ?_) (fun cdv A0 outer s0 H vs Q E hr h => ?_)
  · obtain ⟨x, d, dx, rv, r, ρ, rfl, _⟩ := h
    rfl
  · obtain ⟨x, d, dx, rv, r, ρ, rfl, ex, dr, en, ok, q⟩ := h
    refine ⟨_, PSs.nox (pss_one (ps_ret (pe_tup (pa_cons (pe_dget (hu_of hr) (pv 1) (pe_ix ix_tup (pe_fld (pv 0) rfl) pe_int (fun _ _ => rfl)) (fun _ _ => rfl)) (pa_cons pe_non pa_nil))))), ?_⟩
    obtain ⟨v, a, i, rfl, ha⟩ : ∃ v a i, r = ⟨v, "tell", [a]⟩ ∧ ρ a = some (.n i) := by
      cases ok with
      | num e => exact absurd e (by decide +kernel)
      | fresh e => exact absurd e (by decide +kernel)
      | no e => exact absurd e (by decide +kernel)
      | op e => exact absurd e (by decide +kernel)
      | get e => exact absurd e (by decide +kernel)
      | put e => exact absurd e (by decide +kernel)
      | tell e v a i er h => exact ⟨v, a, i, er, h⟩
    obtain ⟨p, xs, rfl, hp, dxs⟩ := row_parts dr
    obtain ⟨v1, r1, rfl, d1, t1⟩ := dpAll_cons dxs
    rw [dp_int d1] at hp
    obtain ⟨u, dg, du⟩ := en.get ha
    refine ⟨_, rfl, _, rfl, x, _, dx, _, _, rfl, ex, T.cl_TellDeed, T.no_TellDeed_row, rfl, p, _, 2, _, rfl, rfl, hp, atI_nat (j := 2) rfl, _, _, rfl, dg, two_le, fun t nt => q _ _ (same_new nt) ?_⟩
    have e : play ⟨v, "tell", [a]⟩ ρ = .ok (.n i) := by rw [play_tell, Env.num_of ha]
    rw [e]
    exact ⟨_, .inl (.of upd_same), dp_sm (same_new nt) du⟩
theorem ok_NotDeed_play (T : Top K mg) : FnOk P w K mg base CX0 2 (He.ma K (He.ga K "NotDeed") "play") T.fd_NotDeed_play ["self", "values"] (sp_play K "NotDeed") := by
  have G_denied := ok_denied (P := P) (w := w) (base := base) T
  refine T.F_NotDeed_play.ok sc_NotDeed_play (fun vs H Q E h => ?_) (fun cdv A0 outer s0 H vs Q E hr h => ?_)
  · obtain ⟨x, d, dx, rv, r, ρ, rfl, _⟩ := h
    rfl
  · obtain ⟨x, d, dx, rv, r, ρ, rfl, ex, dr, en, ok, q⟩ := h
    refine ⟨_, PSs.nox (pss_one (ps_ret (pe_tup (pa_cons (pe_call G_denied (hr.mono (by omega)) (by rfl) T.g_denied T.F_denied.kp T.b_denied .nil pass0 (pa_cons (pe_dget (hu_of hr) (pv 1) (pe_ix ix_tup (pe_fld (pv 0) rfl) pe_int (fun _ _ => rfl)) (fun _ _ => rfl)) pa_nil)) (pa_cons pe_non pa_nil))))), ?_⟩
    obtain ⟨v, a, i, rfl, ha⟩ : ∃ v a i, r = ⟨v, "not", [a]⟩ ∧ ρ a = some (.n i) := by
      cases ok with
      | num e => exact absurd e (by decide +kernel)
      | fresh e => exact absurd e (by decide +kernel)
      | no e v a i er h => exact ⟨v, a, i, er, h⟩
      | op e => exact absurd e (by decide +kernel)
      | get e => exact absurd e (by decide +kernel)
      | put e => exact absurd e (by decide +kernel)
      | tell e => exact absurd e (by decide +kernel)
    obtain ⟨p, xs, rfl, hp, dxs⟩ := row_parts dr
    obtain ⟨v1, r1, rfl, d1, t1⟩ := dpAll_cons dxs
    rw [dp_int d1] at hp
    obtain ⟨u, dg, du⟩ := en.get ha
    have eu := dp_int du
    subst eu
    refine ⟨_, rfl, _, rfl, x, _, dx, _, _, rfl, ex, T.cl_NotDeed, T.no_NotDeed_row, rfl, p, _, 2, _, rfl, rfl, hp, atI_nat (j := 2) rfl, _, _, rfl, dg, i, rfl, two_le, fun t nt => q _ _ (same_new nt) ?_⟩
    have e : play ⟨v, "not", [a]⟩ ρ = .ok (.n (b2n (decide (V.int i = V.int 0)))) := by
      rw [play_not, Env.num_of ha]
      by_cases h : i = 0 <;> simp [h]
    rw [e]
    exact ⟨_, .inl (.of upd_same), .int _⟩
theorem ok_FreshDeed_play (T : Top K mg) : FnOk P w K mg base CX0 1 (He.ma K (He.ga K "FreshDeed") "play") T.fd_FreshDeed_play ["self", "values"] (sp_play K "FreshDeed") := by
  refine T.F_FreshDeed_play.ok sc_FreshDeed_play (fun vs H Q E h => ?_) (fun cdv A0 outer s0 H vs Q E hr h => ?_)
  · obtain ⟨x, d, dx, rv, r, ρ, rfl, _⟩ := h
    rfl
  · obtain ⟨x, d, dx, rv, r, ρ, rfl, ex, dr, en, ok, q⟩ := h
    refine ⟨_, PSs.nox (pss_one (ps_ret (pe_tup (pa_cons (pe_op op_repT1 (pe_tup (pa_cons pe_int pa_nil)) (pe_ix ix_tup (pe_fld (pv 0) rfl) pe_int (fun _ _ => rfl))) (pa_cons pe_non pa_nil))))), ?_⟩
    obtain ⟨v, n, rfl, n1, n8⟩ : ∃ v n, r = ⟨v, "fresh", [n]⟩ ∧ 1 ≤ n ∧ n ≤ 8 := by
      cases ok with
      | num e => exact absurd e (by decide +kernel)
      | fresh e v n er a b => exact ⟨v, n, er, a, b⟩
      | no e => exact absurd e (by decide +kernel)
      | op e => exact absurd e (by decide +kernel)
      | get e => exact absurd e (by decide +kernel)
      | put e => exact absurd e (by decide +kernel)
      | tell e => exact absurd e (by decide +kernel)
    obtain ⟨p, xs, rfl, hp, dxs⟩ := row_parts dr
    obtain ⟨v1, r1, rfl, d1, t1⟩ := dpAll_cons dxs
    rw [dp_int d1] at hp
    refine ⟨one_le, fun t0 nt0 => ?_⟩
    have s0 := same_new (o := .tup [V.int 0]) nt0
    have e : play ⟨v, "fresh", [n]⟩ ρ = .ok (.r (List.replicate n.toNat 0)) := play_fresh ..
    have fin : ∀ (u : Addr) (H' : Hp), Same H H' → SqT K H' u ((List.replicate n.toNat (0 : Int)).map V.int) → ∀ t, H' t = none → Q (.ref t) (upd H' t (.tup [.ref u, .non])) := fun u H' s' hu t nt => by
      refine q _ _ (s'.trans (same_new nt)) ?_
      rw [e]
      exact ⟨_, .inl (.of upd_same), dp_sm (same_new nt) (.tup hu (ints_dpAll _))⟩
    refine ⟨_, rfl, x, _, dx, _, _, rfl, s0 _ _ ex, T.cl_FreshDeed, T.no_FreshDeed_row, rfl, p, _, 2, _, rfl, rfl, sqT_sm s0 hp, atI_nat (j := 2) rfl, t0, n, _, rfl, rfl, .inl (.of upd_same), (fun z => nomatch z), n1, by omega, by simp, fun h1 => ⟨two_le, fun t nt => fin _ _ s0 ?_ t nt⟩, fun _ u nu => ⟨two_le, fun t nt => fin _ _ (s0.trans (same_new nu)) ?_ t nt⟩⟩
    · subst h1
      exact .inl (.of upd_same)
    · rw [repl_flat]
      exact .inl (.of upd_same)
theorem ok_WordDeed_play (T : Top K mg) : FnOk P w K mg base CX0 4 (He.ma K (He.ga K "WordDeed") "play") T.fd_WordDeed_play ["self", "values"] (sp_play K "WordDeed") := by
  have G_reckoned := ok_reckoned (P := P) (w := w) (base := base) T
  refine T.F_WordDeed_play.ok sc_WordDeed_play (fun vs H Q E h => ?_) (fun cdv A0 outer s0 H vs Q E hr h => ?_)
  · obtain ⟨x, d, dx, rv, r, ρ, rfl, _⟩ := h
    rfl
  · obtain ⟨x, d, dx, rv, r, ρ, rfl, ex, dr, en, ok, q⟩ := h
    refine ⟨_, PSs.nox (pss_cons (ps_set (i := 2) sc_WordDeed_play.nd rfl (Or.inl rfl) (pe_call G_reckoned (hr.mono (by omega)) (by rfl) T.g_reckoned T.F_reckoned.kp T.b_reckoned .nil pass0 (pa_cons (pe_ix ix_tup (pe_fld (pv 0) rfl) pe_int (fun _ _ => rfl)) (pa_cons (pe_dget (hu_of hr) (pv 1) (pe_ix ix_tup (pe_fld (pv 0) rfl) pe_int (fun _ _ => rfl)) (fun _ _ => rfl)) (pa_cons (pe_dget (hu_of hr) (pv 1) (pe_ix ix_tup (pe_fld (pv 0) rfl) pe_int (fun _ _ => rfl)) (fun _ _ => rfl)) pa_nil)))))
        (pss_one (ps_ret (pe_tup (pa_cons (pv 2) (pa_cons (pe_ifExp (pt_cmpR op_isN (pv 2) pe_non (nomark _)) pe_str pe_non) pa_nil)))))), ?_⟩
    obtain ⟨v, wd, a, b, i, j, rfl, hw, ha, hb, i1, j1⟩ : ∃ v wd a b i j, r = ⟨v, wd, [a, b]⟩ ∧ wd ∈ wds ∧ ρ a = some (.n i) ∧ ρ b = some (.n j) ∧ In32 i ∧ In32 j := by
      cases ok with
      | num e => exact absurd e (by decide +kernel)
      | fresh e => exact absurd e (by decide +kernel)
      | no e => exact absurd e (by decide +kernel)
      | op e v wd a b i j er h1 h2 h3 h4 h5 => exact ⟨v, wd, a, b, i, j, er, h1, h2, h3, h4, h5⟩
      | get e => exact absurd e (by decide +kernel)
      | put e => exact absurd e (by decide +kernel)
      | tell e => exact absurd e (by decide +kernel)
    obtain ⟨p, xs, rfl, hp, dxs⟩ := row_parts dr
    obtain ⟨v1, r1, rfl, d1, t1⟩ := dpAll_cons dxs
    obtain ⟨v2, r2, rfl, d2, t2⟩ := dpAll_cons t1
    rw [dp_int d1, dp_int d2] at hp
    obtain ⟨u1, g1, du1⟩ := en.get ha
    have eu1 := dp_int du1
    subst eu1
    obtain ⟨u2, g2, du2⟩ := en.get hb
    have eu2 := dp_int du2
    subst eu2
    refine ⟨_, rfl, x, _, dx, _, _, rfl, ex, T.cl_WordDeed, T.no_WordDeed_row, rfl, p, _, 1, _, rfl, rfl, hp, atI_nat (j := 1) rfl, ?_⟩
    refine ⟨_, rfl, _, rfl, x, _, dx, _, _, rfl, ex, T.cl_WordDeed, T.no_WordDeed_row, rfl, p, _, 2, _, rfl, rfl, hp, atI_nat (j := 2) rfl, _, _, rfl, g1, ?_⟩
    refine ⟨_, rfl, _, rfl, x, _, dx, _, _, rfl, ex, T.cl_WordDeed, T.no_WordDeed_row, rfl, p, _, 3, _, rfl, rfl, hp, atI_nat (j := 3) rfl, _, _, rfl, g2, ?_⟩
    refine ⟨wd, i, j, vOf (rck wd i j), rfl, i1, j1, due_rck hw, fun H1 s1 => ?_⟩
    dsimp only [gName, List.set]
    have e : play ⟨v, wd, [a, b]⟩ ρ = match rck wd i j with
        | none => .error "division"
        | some v => .ok (.n v) := by
      rw [play_op ρ v a b hw, Env.num_of ha, Env.num_of hb] <;> rfl
    cases hk : rck wd i j with
    | none =>
      rw [hk] at e
      refine ⟨_, rfl, _, rfl, rfl, _, rfl, ifD rfl ⟨two_le, fun t nt => q _ _ (s1.trans (same_new nt)) ?_⟩⟩
      rw [e]
      exact ⟨_, .inl (.of upd_same)⟩
    | some z =>
      rw [hk] at e
      refine ⟨_, rfl, _, rfl, rfl, _, rfl, ifN (fun y => nomatch y) ⟨two_le, fun t nt => q _ _ (s1.trans (same_new nt)) ?_⟩⟩
      rw [e]
      exact ⟨_, .inl (.of upd_same), .int z⟩
theorem at_intsR {ns : List Int} {i : Int} (h : inRow ns i) : atI (ns.map V.int) i = some (.int (ns.getD i.toNat 0)) := at_ints h.1 h.2
theorem ok_GetDeed_play (T : Top K mg) : FnOk P w K mg base CX0 1 (He.ma K (He.ga K "GetDeed") "play") T.fd_GetDeed_play ["self", "values"] (sp_play K "GetDeed") := by
  refine T.F_GetDeed_play.ok sc_GetDeed_play (fun vs H Q E h => ?_) (fun cdv A0 outer s0 H vs Q E hr h => ?_)
  · obtain ⟨x, d, dx, rv, r, ρ, rfl, _⟩ := h
    rfl
  · obtain ⟨x, d, dx, rv, r, ρ, rfl, ex, dr, en, ok, q⟩ := h
    refine ⟨_, PSs.nox (pss_cons (ps_set (i := 2) sc_GetDeed_play.nd rfl (Or.inl rfl) (pe_dget (hu_of hr) (pv 1) (pe_ix ix_tup (pe_fld (pv 0) rfl) pe_int (fun _ _ => rfl)) (fun _ _ => rfl)))
        (pss_cons (ps_set (i := 3) sc_GetDeed_play.nd rfl (Or.inl rfl) (pe_dget (hu_of hr) (pv 1) (pe_ix ix_tup (pe_fld (pv 0) rfl) pe_int (fun _ _ => rfl)) (fun _ _ => rfl)))
        (pss_cons (ps_if (pt_not (pt_chain op_le op_lt pe_int (pv 3) (pe_callB call_len_seq (by rfl) T.m_len (by decide +kernel) (pa_cons (pv 2) pa_nil)))) (pss_one (ps_ret (pe_tup (pa_cons pe_non (pa_cons pe_str pa_nil))))) pss_nil)
        (pss_one (ps_ret (pe_tup (pa_cons (pe_ix ix_tup (pv 2) (pv 3) (fun _ _ => rfl)) (pa_cons pe_non pa_nil)))))))), ?_⟩
    obtain ⟨v, h, a, i, l, rfl, hh, l8, ha⟩ : ∃ v h a i l, r = ⟨v, "get", [h, a]⟩ ∧ ρ h = some (.r l) ∧ l.length ≤ 8 ∧ ρ a = some (.n i) := by
      cases ok with
      | num e => exact absurd e (by decide +kernel)
      | fresh e => exact absurd e (by decide +kernel)
      | no e => exact absurd e (by decide +kernel)
      | op e => exact absurd e (by decide +kernel)
      | get e v h a i l er h1 h2 h3 => exact ⟨v, h, a, i, l, er, h1, h2, h3⟩
      | put e => exact absurd e (by decide +kernel)
      | tell e => exact absurd e (by decide +kernel)
    obtain ⟨p, xs, rfl, hp, dxs⟩ := row_parts dr
    obtain ⟨v1, r1, rfl, d1, t1⟩ := dpAll_cons dxs
    obtain ⟨v2, r2, rfl, d2, t2⟩ := dpAll_cons t1
    rw [dp_int d1, dp_int d2] at hp
    obtain ⟨u1, g1, du1⟩ := en.get hh
    obtain ⟨pl, xl, rfl, hpl, dpl⟩ := dp_tup du1
    have exl := dpAll_ints dpl
    subst exl
    obtain ⟨u2, g2, du2⟩ := en.get ha
    have eu2 := dp_int du2
    subst eu2
    refine ⟨_, rfl, _, rfl, x, _, dx, _, _, rfl, ex, T.cl_GetDeed, T.no_GetDeed_row, rfl, p, _, 2, _, rfl, rfl, hp, atI_nat (j := 2) rfl, _, _, rfl, g1, ?_⟩
    refine ⟨_, rfl, _, rfl, x, _, dx, _, _, rfl, ex, T.cl_GetDeed, T.no_GetDeed_row, rfl, p, _, 3, _, rfl, rfl, hp, atI_nat (j := 3) rfl, _, _, rfl, g2, ?_⟩
    dsimp only [gName, List.set]
    have e : play ⟨v, "get", [h, a]⟩ ρ = if inRow l i then .ok (.n (l.getD i.toNat 0)) else .error "place" := by
      rw [play_get]
      rw [Env.num_of ha, Env.row_of hh]
    have bad : ¬ inRow l i → ∀ t, H t = none → Q (.ref t) (upd H t (.tup [.non, .str "place"])) := fun h t nt => by
      refine q _ _ (same_new nt) ?_
      rw [e, if_neg h]
      exact ⟨_, .inl (.of upd_same)⟩
    refine ⟨_, rfl, _, _, rfl, rfl, _, rfl, ?_⟩
    by_cases c0 : 0 ≤ i
    · refine ifD c0 ⟨_, rfl, pl, _, rfl, .inr hpl, _, _, rfl, rfl, _, rfl, ?_⟩
      rw [List.length_map]
      by_cases c1 : i < l.length
      · refine ifNF c1 ?_
        refine ⟨_, rfl, _, rfl, pl, _, i, _, rfl, rfl, hpl, at_intsR ⟨c0, c1⟩, two_le, fun t nt => q _ _ (same_new nt) ?_⟩
        rw [e, if_pos ⟨c0, c1⟩]
        exact ⟨_, .inl (.of upd_same), .int _⟩
      · refine ifNT c1 ⟨two_le, bad fun z => c1 z.2⟩
    · refine ifN c0 ⟨_, rfl, ⟨two_le, bad fun z => c0 z.1⟩⟩
end

section
variable {P : Program} {w : World} {K : PySem.W.Frag} {mg : Str → Option Value} {base : Heap}
theorem set_cut {l : List Int} {j : Nat} {x : Int} (h : j < l.length) : (l.take j).map V.int ++ [V.int x] ++ (l.drop (j + 1)).map V.int = (l.set j x).map V.int := by
  rw [List.set_eq_take_append_cons_drop, if_pos h, List.map_append, List.map_cons, List.append_assoc]
  rfl
theorem ok_PutDeed_play (T : Top K mg) : FnOk P w K mg base CX0 1 (He.ma K (He.ga K "PutDeed") "play") T.fd_PutDeed_play ["self", "values"] (sp_play K "PutDeed") := by
  refine T.F_PutDeed_play.ok sc_PutDeed_play (fun vs H Q E h => ?_) (fun cdv A0 outer s0 H vs Q E hr h => ?_)
  · obtain ⟨x, d, dx, rv, r, ρ, rfl, _⟩ := h
    rfl
  · obtain ⟨x, d, dx, rv, r, ρ, rfl, ex, dr, en, ok, q⟩ := h
    refine ⟨_, PSs.nox (pss_cons (ps_set (i := 2) sc_PutDeed_play.nd rfl (Or.inl rfl) (pe_dget (hu_of hr) (pv 1) (pe_ix ix_tup (pe_fld (pv 0) rfl) pe_int (fun _ _ => rfl)) (fun _ _ => rfl)))
        (pss_cons (ps_set (i := 3) sc_PutDeed_play.nd rfl (Or.inl rfl) (pe_dget (hu_of hr) (pv 1) (pe_ix ix_tup (pe_fld (pv 0) rfl) pe_int (fun _ _ => rfl)) (fun _ _ => rfl)))
        (pss_cons (ps_if (pt_not (pt_chain op_le op_lt pe_int (pv 3) (pe_callB call_len_seq (by rfl) T.m_len (by decide +kernel) (pa_cons (pv 2) pa_nil)))) (pss_one (ps_ret (pe_tup (pa_cons pe_non (pa_cons pe_str pa_nil))))) pss_nil)
        (pss_one (ps_ret (pe_tup (pa_cons (pe_op op_catA (pe_op op_catA (pe_slice sl_tupA (pv 2) po_none (po_some (pv 3))) (pe_tup (pa_cons (pe_dget (hu_of hr) (pv 1) (pe_ix ix_tup (pe_fld (pv 0) rfl) pe_int (fun _ _ => rfl)) (fun _ _ => rfl)) pa_nil))) (pe_slice sl_tupA (pv 2) (po_some (pe_op op_add (pv 3) pe_int)) po_none)) (pa_cons pe_non pa_nil)))))))), ?_⟩
    obtain ⟨v, h, a, y, i, j, l, rfl, hh, l8, ha, hy⟩ : ∃ v h a y i j l, r = ⟨v, "put", [h, a, y]⟩ ∧ ρ h = some (.r l) ∧ l.length ≤ 8 ∧ ρ a = some (.n i) ∧ ρ y = some (.n j) := by
      cases ok with
      | num e => exact absurd e (by decide +kernel)
      | fresh e => exact absurd e (by decide +kernel)
      | no e => exact absurd e (by decide +kernel)
      | op e => exact absurd e (by decide +kernel)
      | get e => exact absurd e (by decide +kernel)
      | put e v h a y i j l er h1 h2 h3 h4 => exact ⟨v, h, a, y, i, j, l, er, h1, h2, h3, h4⟩
      | tell e => exact absurd e (by decide +kernel)
    obtain ⟨p, xs, rfl, hp, dxs⟩ := row_parts dr
    obtain ⟨v1, r1, rfl, d1, t1⟩ := dpAll_cons dxs
    obtain ⟨v2, r2, rfl, d2, t2⟩ := dpAll_cons t1
    obtain ⟨v3, r3, rfl, d3, t3⟩ := dpAll_cons t2
    rw [dp_int d1, dp_int d2, dp_int d3] at hp
    obtain ⟨u1, g1, du1⟩ := en.get hh
    obtain ⟨pl, xl, rfl, hpl, dpl⟩ := dp_tup du1
    have exl := dpAll_ints dpl
    subst exl
    obtain ⟨u2, g2, du2⟩ := en.get ha
    have eu2 := dp_int du2
    subst eu2
    refine ⟨_, rfl, _, rfl, x, _, dx, _, _, rfl, ex, T.cl_PutDeed, T.no_PutDeed_row, rfl, p, _, 2, _, rfl, rfl, hp, atI_nat (j := 2) rfl, _, _, rfl, g1, ?_⟩
    refine ⟨_, rfl, _, rfl, x, _, dx, _, _, rfl, ex, T.cl_PutDeed, T.no_PutDeed_row, rfl, p, _, 3, _, rfl, rfl, hp, atI_nat (j := 3) rfl, _, _, rfl, g2, ?_⟩
    dsimp only [gName, List.set]
    have e : play ⟨v, "put", [h, a, y]⟩ ρ = if inRow l i then .ok (.r (l.set i.toNat j)) else .error "place" := by
      rw [play_put]
      rw [Env.num_of ha, Env.row_of hh, Env.num_of hy]
    have bad : ¬ inRow l i → ∀ t, H t = none → Q (.ref t) (upd H t (.tup [.non, .str "place"])) := fun h t nt => by
      refine q _ _ (same_new nt) ?_
      rw [e, if_neg h]
      exact ⟨_, .inl (.of upd_same)⟩
    refine ⟨_, rfl, _, _, rfl, rfl, _, rfl, ?_⟩
    by_cases c0 : 0 ≤ i
    · refine ifD c0 ⟨_, rfl, pl, _, rfl, .inr hpl, _, _, rfl, rfl, _, rfl, ?_⟩
      rw [List.length_map]
      by_cases c1 : i < l.length
      · refine ifNF c1 ?_
        obtain ⟨m, rfl⟩ := Int.eq_ofNat_of_zero_le c0
        have ml : m < l.length := by omega
        refine ⟨_, rfl, ?_⟩
        dsimp only [tNoPart]
        refine ⟨_, rfl, _, rfl, slA_by hpl fun t1 H1 s1 h1 => ?_⟩
        rw [cutV_to, ← List.map_take] at h1
        have en1 := en.sm s1
        obtain ⟨u3, g3, du3⟩ := en1.get hy
        have eu3 := dp_int du3
        subst eu3
        refine ⟨_, rfl, _, rfl, x, _, dx, _, _, rfl, s1 _ _ ex, T.cl_PutDeed, T.no_PutDeed_row, rfl, p, _, 4, _, rfl, rfl, sqT_sm s1 hp, atI_nat (j := 4) rfl, _, _, rfl, g3, one_le, fun t2 nt2 => ?_⟩
        have s2 := same_new (o := .tup [V.int j]) nt2
        refine catA_by (sqT_sm s2 h1) (.inl (.of upd_same)) (by rw [List.length_map, List.length_take, sizeLine_eq]; show _ + 1 ≤ _; omega) fun t3 H3 s3 h3 => ?_
        refine ⟨_, rfl, _, rfl, _, _, rfl, rfl, _, rfl, ?_⟩
        dsimp only [tNoPart]
        refine slA_by (sqT_sm (s1.trans (s2.trans s3)) hpl) fun t4 H4 s4 h4 => ?_
        rw [show ((m : Int) + 1) = ((m + 1 : Nat) : Int) from rfl, cutV_from, ← List.map_drop] at h4
        refine catA_by (sqT_sm s4 h3) h4 (by rw [List.length_append, List.length_map, List.length_map, List.length_take, List.length_drop, sizeLine_eq]; show _ + 1 + _ ≤ _; omega) fun t5 H5 s5 h5 => ?_
        rw [set_cut ml] at h5
        have s15 := (((s1.trans s2).trans s3).trans s4).trans s5
        refine ⟨two_le, fun t nt => q _ _ (s15.trans (same_new nt)) ?_⟩
        rw [e, if_pos ⟨c0, c1⟩]
        exact ⟨_, .inl (.of upd_same), dp_sm (same_new nt) (.tup h5 (ints_dpAll _))⟩
      · refine ifNT c1 ⟨two_le, bad fun z => c1 z.2⟩
    · refine ifN c0 ⟨_, rfl, ⟨two_le, bad fun z => c0 z.1⟩⟩
def PlC (K : PySem.W.Frag) (c : Addr) (sp : Sp) : Prop := ∃ w ∈ words14, c = He.ga K (dcls w) ∧ sp = sp_play K (dcls w)
theorem dcls_cases {w : Str} (h : w ∈ words14) : dcls w = "WordDeed" ∨ dcls w = "NumberDeed" ∨ dcls w = "NotDeed" ∨ dcls w = "FreshDeed" ∨ dcls w = "GetDeed" ∨ dcls w = "PutDeed" ∨ dcls w = "TellDeed" := by
  have h2 : ∀ w ∈ words14, dcls w = "WordDeed" ∨ dcls w = "NumberDeed" ∨ dcls w = "NotDeed" ∨ dcls w = "FreshDeed" ∨ dcls w = "GetDeed" ∨ dcls w = "PutDeed" ∨ dcls w = "TellDeed" := by decide +kernel
  exact h2 w h
theorem play_methd (T : Top K mg) {X : Cx} (e1 : X.prog = P) (e2 : X.w = w) (e3 : X.K = K) (e4 : X.mg = mg) (e5 : X.base = base) (hr : Room 4 X.A) {c : Addr} {sp : Sp} (h : PlC K c sp) : Methd1 X "play" c sp := by
  subst e1 e2 e3 e4 e5
  obtain ⟨u, hu, rfl, rfl⟩ := h
  rcases dcls_cases hu with a | a | a | a | a | a | a <;> rw [a]
  · exact ⟨_, _, _, _, T.cl_WordDeed, T.me_WordDeed_play, ok_WordDeed_play T, hr, T.b_WordDeed_play⟩
  · exact ⟨_, _, _, _, T.cl_NumberDeed, T.me_NumberDeed_play, ok_NumberDeed_play T, hr.mono (by omega), T.b_NumberDeed_play⟩
  · exact ⟨_, _, _, _, T.cl_NotDeed, T.me_NotDeed_play, ok_NotDeed_play T, hr.mono (by omega), T.b_NotDeed_play⟩
  · exact ⟨_, _, _, _, T.cl_FreshDeed, T.me_FreshDeed_play, ok_FreshDeed_play T, hr.mono (by omega), T.b_FreshDeed_play⟩
  · exact ⟨_, _, _, _, T.cl_GetDeed, T.me_GetDeed_play, ok_GetDeed_play T, hr.mono (by omega), T.b_GetDeed_play⟩
  · exact ⟨_, _, _, _, T.cl_PutDeed, T.me_PutDeed_play, ok_PutDeed_play T, hr.mono (by omega), T.b_PutDeed_play⟩
  · exact ⟨_, _, _, _, T.cl_TellDeed, T.me_TellDeed_play, ok_TellDeed_play T, hr.mono (by omega), T.b_TellDeed_play⟩
end

/-! a works gone through: the machine, one counted step after the other -/
structure Fr where
  g : List Blk
  at_ : Nat
  pc : Nat
  ρ : Env
structure MS where
  frs : List Fr
  told : List Int
  end_ : Option EndS
def Fr.blk (f : Fr) : Blk := blkAt f.g f.at_
def vls (ρ : Env) (as : List Int) : List Vl := as.map fun a => (ρ a).getD (.n 0)
def bindE : List (Int × Int) → List Vl → Env → Env
  | p :: ps, v :: vs, ρ => bindE ps vs (ρ.put p.1 v)
  | _, _, ρ => ρ
def Fr.lead (f : Fr) (w : Way) (first : List Vl) : Fr := ⟨f.g, w.t, 0, bindE (blkAt f.g w.t).ps (first ++ vls f.ρ w.as) f.ρ⟩
def enterF (g : List Blk) (vs : List Vl) : Fr := ⟨g, 0, 0, bindE (blkAt g 0).ps vs fun _ => none⟩
def En.cway : En → Way
  | .call _ _ w => w
  | _ => ⟨0, []⟩
def hgOf (hs : List (Str × Nat × List Blk)) (h : Str) : List Blk := match hs.find? fun x => decide (x.1 = h) with
  | some x => x.2.2
  | none => []
def backF (n : Int) : List Fr → List Fr × Option EndS
  | [] => ([], some (.gave n))
  | f :: r => (f.lead f.blk.en.cway [.n n] :: r, none)
def failT (n : Int) : Str := "fail " ++ Str.ofString (toString n)
def micEnd (hs : List (Str × Nat × List Blk)) (f : Fr) (r : List Fr) (told : List Int) : En → MS
  | .fail n => ⟨f :: r, told, some (.fault (failT n))⟩
  | .give v => ⟨(backF (f.ρ.num v) r).1, told, (backF (f.ρ.num v) r).2⟩
  | .jump w => ⟨f.lead w [] :: r, told, none⟩
  | .choose v a b => ⟨f.lead (if f.ρ.num v = 0 then b else a) [] :: r, told, none⟩
  | .call h as _ => ⟨enterF (hgOf hs h) (vls f.ρ as) :: f :: r, told, none⟩
def Vl.num : Vl → Int
  | .n i => i
  | .r _ => 0
def micRow (f : Fr) (r : List Fr) (told : List Int) (row : GRow) : MS := match play row f.ρ with
  | .error w => ⟨f :: r, told, some (.fault w)⟩
  | .ok vl => if 0 ≤ row.v then ⟨{ f with pc := f.pc + 1, ρ := f.ρ.put row.v vl } :: r, told, none⟩ else ⟨{ f with pc := f.pc + 1 } :: r, told ++ [vl.num], none⟩
def mic (hs : List (Str × Nat × List Blk)) (c : MS) : MS := match c.end_ with
  | some _ => c
  | none => match c.frs with
    | [] => c
    | f :: r => match f.blk.rs[f.pc]? with
      | some row => micRow f r c.told row
      | none => micEnd hs f r c.told f.blk.en
def mics (hs : List (Str × Nat × List Blk)) : Nat → MS → MS
  | 0, c => c
  | k + 1, c => mic hs (mics hs k c)
theorem mics_add (hs : List (Str × Nat × List Blk)) (a b : Nat) (c : MS) : mics hs (a + b) c = mics hs b (mics hs a c) := by
  induction b with
  | zero => rfl
  | succ b ih => show mic hs (mics hs (a + b) c) = mic hs (mics hs b (mics hs a c)); rw [ih]
theorem mic_end {hs : List (Str × Nat × List Blk)} {c : MS} {e : EndS} (h : c.end_ = some e) : mic hs c = c := by unfold mic; rw [h]
theorem mics_end {hs : List (Str × Nat × List Blk)} {c : MS} {e : EndS} (h : c.end_ = some e) : ∀ k, mics hs k c = c
  | 0 => rfl
  | k + 1 => by show mic hs (mics hs k c) = c; rw [mics_end h k, mic_end h]
theorem mic_row {hs : List (Str × Nat × List Blk)} {f : Fr} {r : List Fr} {told : List Int} {row : GRow} (h : f.blk.rs[f.pc]? = some row) : mic hs ⟨f :: r, told, none⟩ = micRow f r told row := by
  unfold mic
  simp only [h]
theorem mic_en {hs : List (Str × Nat × List Blk)} {f : Fr} {r : List Fr} {told : List Int} (h : f.blk.rs.length ≤ f.pc) : mic hs ⟨f :: r, told, none⟩ = micEnd hs f r told f.blk.en := by
  have e : f.blk.rs[f.pc]? = none := List.getElem?_eq_none h
  unfold mic
  simp only [e]
/-! frames are right -/
theorem EndR.hl {es : Nat → List (Int × Int)} {bls : List Blk} {hl hl' : List (Str × Nat)} {sc : List (Int × Int)} {e : En} (h : EndR es bls hl sc e) (m : ∀ p ∈ hl, p ∈ hl') : EndR es bls hl' sc e := by
  cases e with
  | fail n => exact h
  | give v => exact h
  | jump w => exact h
  | choose v a b => exact h
  | call g as w => exact ⟨m _ h.1, h.2⟩
theorem GOk.hl {hl hl' : List (Str × Nat)} {i : Nat} {g : List Blk} (h : GOk hl i g) (m : ∀ p ∈ hl, p ∈ hl') : GOk hl' i g := by
  obtain ⟨es, sz, x⟩ := h.ex
  exact ⟨⟨es, sz, x.es0, fun i b hb => by
    obtain ⟨sc, h1, h2, h3⟩ := x.bk i b hb
    exact ⟨sc, h1, h2.hl m, h3⟩, x.esv, x.psz, x.s8⟩, h.nd, h.sm, h.re, h.b0, h.ln, h.rt, h.pl, h.fm⟩
structure WR (hs : List (Str × Nat × List Blk)) : Prop where
  nd : (hs.map (·.1)).Nodup
  ok : ∀ h ∈ hs, h.2.1 ≤ 4 ∧ GOk (hlOf hs) h.2.1 h.2.2
theorem Wk.wr {W : Wk} (h : WkOk W) : WR W.hs ∧ ∃ m ≤ 4, GOk (hlOf W.hs) m W.main := by
  have sub : ∀ i, ∀ p ∈ hlOf (W.hs.take i), p ∈ hlOf W.hs := fun i p hp => by
    obtain ⟨q, hq, rfl⟩ := List.mem_map.mp hp
    exact List.mem_map.mpr ⟨q, List.mem_of_mem_take hq, rfl⟩
  refine ⟨⟨h.nd, fun x hx => ?_⟩, ?_⟩
  · obtain ⟨i, hi⟩ := List.getElem?_of_mem hx
    obtain ⟨a, b⟩ := h.hp i x hi
    exact ⟨a, (b.ok (W.hl_le h i) a (by omega)).hl (sub i)⟩
  · obtain ⟨m, m4, gr⟩ := h.mn
    have le := W.hl_le h W.hs.length
    rw [List.take_length] at le
    exact ⟨m, m4, gr.ok le m4 (by omega)⟩
theorem WR.get {hs : List (Str × Nat × List Blk)} (h : WR hs) {g : Str} {m : Nat} (hm : (g, m) ∈ hlOf hs) : ∃ x ∈ hs, x.1 = g ∧ x.2.1 = m ∧ hgOf hs g = x.2.2 := by
  obtain ⟨x, hx, e⟩ := List.mem_map.mp hm
  have e1 : x.1 = g := congrArg Prod.fst e
  have e2 : x.2.1 = m := congrArg Prod.snd e
  refine ⟨x, hx, e1, e2, ?_⟩
  have key : ∀ {l : List (Str × Nat × List Blk)}, (l.map (·.1)).Nodup → x ∈ l → (l.find? fun y => decide (y.1 = g)) = some x := by
    intro l nd hx
    induction l with
    | nil => cases hx
    | cons a r ih =>
      rw [List.map_cons] at nd
      have n := List.nodup_cons.mp nd
      rw [List.find?_cons]
      rcases List.mem_cons.mp hx with rfl | hx
      · rw [decide_eq_true e1]
      · have ne : a.1 ≠ g := fun z => n.1 (List.mem_map.mpr ⟨x, hx, by rw [e1, z]⟩)
        rw [decide_eq_false ne]
        exact ih n.2 hx
  unfold hgOf
  rw [key h.nd hx]
def nb (rs : List GRow) : Nat := (rs.filter fun r => decide (0 ≤ r.v)).length
theorem RowsR.len {sc sc' : List (Int × Int)} {rs : List GRow} (h : RowsR sc rs sc') : sc'.length = sc.length + nb rs := by
  induction h with
  | nil => rfl
  | born _ hv _ ih => unfold nb at *; rw [List.length_append, List.filter_append, List.length_append, ih]; simp [hv.1]; omega
  | tell _ _ ih => unfold nb at *; rw [List.filter_append, List.length_append, ih]; simp
/-- one row within -/
theorem RowsR.split {sc sc' : List (Int × Int)} {rs : List GRow} (h : RowsR sc rs sc') : ∀ i row, rs[i]? = some row → ∃ sci, RowsR sc (rs.take i) sci ∧
    ((Smv row.v ∧ ∃ k rest, RowR sci row.w row.as k ∧ sc' = sci ++ (row.v, k) :: rest) ∨ ∃ a rest, row = ⟨-1, "tell", [a]⟩ ∧ (a, 0) ∈ sci ∧ sc' = sci ++ rest) := by
  induction h with
  | nil => intro i row hr; simp at hr
  | @born sc' rs v w as k h hv hr ih =>
    intro i row he
    by_cases c : i < rs.length
    · rw [List.getElem?_append_left c] at he
      obtain ⟨sci, h1, h2⟩ := ih i row he
      refine ⟨sci, by rw [List.take_append_of_le_length (by omega)]; exact h1, ?_⟩
      rcases h2 with ⟨a, k', rest, b, e⟩ | ⟨a, rest, e0, b, e⟩
      · exact .inl ⟨a, k', rest ++ [(v, k)], b, by rw [e, List.append_assoc]; rfl⟩
      · exact .inr ⟨a, rest ++ [(v, k)], e0, b, by rw [e, List.append_assoc]⟩
    · have l := (List.getElem?_eq_some_iff.mp he).1
      rw [List.length_append, List.length_singleton] at l
      have ei : i = rs.length := by omega
      subst ei
      rw [List.getElem?_append_right (Nat.le_refl _), Nat.sub_self] at he
      cases he
      exact ⟨sc', by rw [List.take_left']; exact h; rfl, .inl ⟨hv, k, [], hr, rfl⟩⟩
  | @tell sc' rs a h ha ih =>
    intro i row he
    by_cases c : i < rs.length
    · rw [List.getElem?_append_left c] at he
      obtain ⟨sci, h1, h2⟩ := ih i row he
      exact ⟨sci, by rw [List.take_append_of_le_length (by omega)]; exact h1, h2⟩
    · have l := (List.getElem?_eq_some_iff.mp he).1
      rw [List.length_append, List.length_singleton] at l
      have ei : i = rs.length := by omega
      subst ei
      rw [List.getElem?_append_right (Nat.le_refl _), Nat.sub_self] at he
      cases he
      exact ⟨sc', by rw [List.take_left']; exact h; rfl, .inr ⟨a, [], rfl, ha, by simp⟩⟩
def scAt (s0 : List (Int × Int)) (rs : List GRow) (sc : List (Int × Int)) (pc : Nat) : List (Int × Int) := sc.take (s0.length + nb (rs.take pc))
structure FrIn (hl : List (Str × Nat)) (f : Fr) (es : Nat → List (Int × Int)) (sz : Int → Int) (b : Blk) (sc : List (Int × Int)) : Prop where
  ex : GEx hl f.g es sz
  sm : ∀ v ∈ bvs f.g, Smv v
  pl : ∀ b ∈ f.g, b.ps.length ≤ 10
  hb : f.g[f.at_]? = some b
  pc : f.pc ≤ b.rs.length
  rr : RowsR (es f.at_ ++ b.ps) b.rs sc
  er : EndR es f.g hl sc b.en
  sz : ScZ sz f.g sc
  en : EnvOk (scAt (es f.at_ ++ b.ps) b.rs sc f.pc) f.ρ
def FrOk (hl : List (Str × Nat)) (f : Fr) : Prop := ∃ es sz b sc, FrIn hl f es sz b sc
theorem FrIn.blk {hl : List (Str × Nat)} {f : Fr} {es : Nat → List (Int × Int)} {sz : Int → Int} {b : Blk} {sc : List (Int × Int)} (h : FrIn hl f es sz b sc) : f.blk = b := blkAt_some h.hb
theorem ScZ.z8 {sz : Int → Int} {g : List Blk} {sc : List (Int × Int)} (h : ScZ sz g sc) (s8 : ∀ v ∈ bvs g, 0 ≤ sz v ∧ sz v ≤ 8) : ∀ p ∈ sc, p.2 ≤ 8 := fun p hp => by
  rw [(h p hp).2]
  exact (s8 _ (h p hp).1).2
/-- a row's step keeps a frame right -/
theorem FrIn.row {hl : List (Str × Nat)} {f : Fr} {es : Nat → List (Int × Int)} {sz : Int → Int} {b : Blk} {sc : List (Int × Int)} (h : FrIn hl f es sz b sc) {row : GRow} (hr : b.rs[f.pc]? = some row) :
    row.w ∈ words14 ∧ PlayOk f.ρ (dcls row.w) row ∧ ((row.v = -1 ∧ ∃ i, play row f.ρ = .ok (.n i) ∧ FrIn hl { f with pc := f.pc + 1 } es sz b sc) ∨ (Smv row.v ∧ ∀ vl, play row f.ρ = .ok vl → FrIn hl { f with pc := f.pc + 1, ρ := f.ρ.put row.v vl } es sz b sc)) := by
  have pcl := (List.getElem?_eq_some_iff.mp hr).1
  obtain ⟨sci, h1, h2⟩ := h.rr.split _ _ hr
  have l1 := h1.len
  have tk : b.rs.take (f.pc + 1) = b.rs.take f.pc ++ [row] := by rw [List.take_succ, hr]; rfl
  have en := h.en
  rcases h2 with ⟨sv, k, rest, rr, e⟩ | ⟨a, rest, rfl, ha, e⟩
  · have e1 : scAt (es f.at_ ++ b.ps) b.rs sc f.pc = sci := by
      unfold scAt
      rw [e, ← l1, List.take_left']
      rfl
    have e2 : scAt (es f.at_ ++ b.ps) b.rs sc (f.pc + 1) = sci ++ [(row.v, k)] := by
      unfold scAt
      rw [tk, e, show nb (b.rs.take f.pc ++ [row]) = nb (b.rs.take f.pc) + 1 by unfold nb; rw [List.filter_append, List.length_append]; simp [sv.1], ← Nat.add_assoc, ← l1]
      rw [show sci ++ (row.v, k) :: rest = (sci ++ [(row.v, k)]) ++ rest by rw [List.append_assoc]; rfl, List.take_left']
      rw [List.length_append]
      rfl
    rw [e1] at en
    have z8 : ∀ p ∈ sci, p.2 ≤ 8 := fun p hp => h.sz.z8 h.ex.s8 p (by rw [e]; exact List.mem_append_left _ hp)
    have hw : row.w ∈ words14 := by
      have ww : ∀ {w as k}, RowR sci w as k → w ∈ words14 := fun {w as k} r => match w, as, k, r with
        | _, _, _, .num _ _ => by decide +kernel
        | _, _, _, .fresh _ _ _ => by decide +kernel
        | _, _, _, .no _ _ => by decide +kernel
        | _, _, _, .op w _ _ hw _ _ => (show ∀ w ∈ wds7', w ∈ words14 by decide +kernel) w hw
        | _, _, _, .get _ _ _ _ _ _ => by decide +kernel
        | _, _, _, .put _ _ _ _ _ _ _ _ => by decide +kernel
      exact ww rr
    refine ⟨hw, rr.play en z8 row.v, .inr ⟨sv, fun vl p => ?_⟩⟩
    refine ⟨h.ex, h.sm, h.pl, h.hb, pcl, h.rr, h.er, h.sz, ?_⟩
    rw [e2]
    refine en.put (play_ok en row.v rr p) fun p hp ep => ?_
    have z1 := h.sz p (by rw [e]; exact List.mem_append_left _ hp)
    have z2 := h.sz (row.v, k) (by rw [e]; exact List.mem_append_right _ (List.mem_cons_self ..))
    rw [z1.2, ep]
    exact z2.2.symm
  · have e1 : scAt (es f.at_ ++ b.ps) b.rs sc f.pc = sci := by
      unfold scAt
      rw [e, ← l1, List.take_left']
      rfl
    have e2 : scAt (es f.at_ ++ b.ps) b.rs sc (f.pc + 1) = sci := by
      unfold scAt
      rw [tk, e, show nb (b.rs.take f.pc ++ [⟨-1, "tell", [a]⟩]) = nb (b.rs.take f.pc) by unfold nb; rw [List.filter_append, List.length_append]; simp, ← l1, List.take_left']
      rfl
    rw [e1] at en
    obtain ⟨i, hi, _⟩ := en.num ha
    refine ⟨by show ("tell" : Str) ∈ words14; decide +kernel, .tell dcls_of.2.2.2.2.2.1 (-1) a i rfl hi, .inl ⟨rfl, i, by rw [play_tell, Env.num_of hi], ?_⟩⟩
    refine ⟨h.ex, h.sm, h.pl, h.hb, pcl, h.rr, h.er, h.sz, ?_⟩
    rw [e2]
    exact en
theorem FrIn.all {hl : List (Str × Nat)} {f : Fr} {es : Nat → List (Int × Int)} {sz : Int → Int} {b : Blk} {sc : List (Int × Int)} (h : FrIn hl f es sz b sc) (hp : b.rs.length ≤ f.pc) : EnvOk sc f.ρ := by
  have en := h.en
  unfold scAt at en
  rw [List.take_of_length_le (l := b.rs) hp, ← h.rr.len, List.take_length] at en
  exact en
/-! going along a way -/
theorem bindE_out : ∀ {ps : List (Int × Int)} {vs : List Vl} {ρ : Env} {a : Int}, (∀ p ∈ ps, p.1 ≠ a) → bindE ps vs ρ a = ρ a
  | [], _, _, _, _ => by unfold bindE; rfl
  | _ :: _, [], _, _, _ => by unfold bindE; rfl
  | p :: ps, v :: vs, ρ, a, h => by
    show bindE ps vs (ρ.put p.1 v) a = ρ a
    rw [bindE_out fun q hq => h q (List.mem_cons_of_mem _ hq)]
    unfold Env.put
    rw [if_neg fun z => h p (List.mem_cons_self ..) z.symm]
/-- values of given sizes -/
inductive VlsOk : List Int → List Vl → Prop
  | nil : VlsOk [] []
  | cons {z : Int} {v : Vl} {zs : List Int} {vs : List Vl} : VlOk z v → VlsOk zs vs → VlsOk (z :: zs) (v :: vs)
theorem bindE_in {sz : Int → Int} : ∀ {ps : List (Int × Int)} {vs : List Vl} {ρ : Env}, VlsOk (ps.map (·.2)) vs → (∀ p ∈ ps, p.2 = sz p.1) → ∀ p ∈ ps, ∃ v, bindE ps vs ρ p.1 = some v ∧ VlOk (sz p.1) v
  | [], _, _, _, _, p, hp => nomatch hp
  | q :: ps, _, ρ, h, hz, p, hp => by
    rw [List.map_cons] at h
    cases h with
    | @cons _ v _ vs h1 h2 =>
      show ∃ u, bindE ps vs (ρ.put q.1 v) p.1 = some u ∧ _
      by_cases c : ∃ p' ∈ ps, p'.1 = p.1
      · obtain ⟨p', hp', e⟩ := c
        have := bindE_in (ρ := ρ.put q.1 v) h2 (fun p hp => hz p (List.mem_cons_of_mem _ hp)) p' hp'
        rw [e] at this
        exact this
      · rcases List.mem_cons.mp hp with rfl | hp
        · refine ⟨v, ?_, ?_⟩
          · rw [bindE_out fun p' hp' e => c ⟨p', hp', e⟩]
            unfold Env.put
            rw [if_pos rfl]
          · rw [← hz p (List.mem_cons_self ..)]
            exact h1
        · exact absurd ⟨p, hp, rfl⟩ c
theorem VlsOk.len {zs : List Int} {vs : List Vl} (h : VlsOk zs vs) : vs.length = zs.length := by
  induction h with
  | nil => rfl
  | cons _ _ ih => rw [List.length_cons, List.length_cons, ih]
theorem VlsOk.app {a b : List Int} {vs us : List Vl} (h : VlsOk a vs) (k : VlsOk b us) : VlsOk (a ++ b) (vs ++ us) := by
  induction h with
  | nil => exact k
  | cons x _ ih => exact .cons x ih
theorem ArgsR.vlsOk {sc : List (Int × Int)} {as zs : List Int} {ρ : Env} (h : ArgsR sc as zs) (e : EnvOk sc ρ) : VlsOk zs (vls ρ as) := by
  induction h with
  | nil => exact .nil
  | @snoc as zs a z _ m ih =>
    unfold vls at *
    rw [List.map_append]
    refine ih.app (.cons ?_ .nil)
    obtain ⟨v, hv, k⟩ := e _ m
    simp only at hv k
    show VlOk z ((ρ a).getD (.n 0))
    rw [hv]
    exact k
theorem FrIn.lead {hl : List (Str × Nat)} {f : Fr} {es : Nat → List (Int × Int)} {sz : Int → Int} {b : Blk} {sc : List (Int × Int)} {w : Way} {fz : List Int} {first : List Vl} (h : FrIn hl f es sz b sc) (hp : b.rs.length ≤ f.pc) (hw : WayR es f.g sc fz w) (hf : VlsOk fz first) :
    FrOk hl (f.lead w first) ∧ (∃ b', f.g[w.t]? = some b' ∧ VlsOk (b'.ps.map (·.2)) (first ++ vls f.ρ w.as)) ∧ ∀ a ∈ w.as, ∃ v, f.ρ a = some v := by
  have en := h.all hp
  obtain ⟨b', zs, h1, h2, h3⟩ := hw.ex
  obtain ⟨sc', r1, r2, r3⟩ := h.ex.bk _ _ h1
  have vo : VlsOk (b'.ps.map (·.2)) (first ++ vls f.ρ w.as) := by
    rw [h3]
    exact hf.app (h2.vlsOk en)
  refine ⟨⟨es, sz, b', sc', h.ex, h.sm, h.pl, h1, Nat.zero_le _, r1, r2, r3, ?_⟩, ⟨b', h1, vo⟩, ?_⟩
  · have e0 : scAt (es w.t ++ b'.ps) b'.rs sc' 0 = es w.t ++ b'.ps := by
      have : ∃ rest, sc' = (es w.t ++ b'.ps) ++ rest := by
        have go : ∀ {s0 s1 : List (Int × Int)} {rs : List GRow}, RowsR s0 rs s1 → ∃ rest, s1 = s0 ++ rest := fun h => by
          induction h with
          | nil => exact ⟨[], by simp⟩
          | born _ _ _ ih =>
            obtain ⟨r, e⟩ := ih
            exact ⟨r ++ [_], by rw [e, List.append_assoc]⟩
          | tell _ _ ih => exact ih
        exact go r1
      obtain ⟨rest, e⟩ := this
      unfold scAt
      rw [e]
      show (es w.t ++ b'.ps ++ rest).take ((es w.t ++ b'.ps).length + 0) = _
      rw [Nat.add_zero, List.take_left']
      rfl
    show EnvOk (scAt (es w.t ++ b'.ps) b'.rs sc' 0) (bindE (blkAt f.g w.t).ps (first ++ vls f.ρ w.as) f.ρ)
    rw [e0, blkAt_some h1]
    have pz : ∀ p ∈ b'.ps, p.2 = sz p.1 := h.ex.psz b' (List.mem_of_getElem? h1)
    intro p hp
    by_cases c : ∃ q ∈ b'.ps, q.1 = p.1
    · obtain ⟨q, hq, e⟩ := c
      obtain ⟨v, hv, k⟩ := bindE_in (ρ := f.ρ) vo pz q hq
      rw [e] at hv k
      refine ⟨v, hv, ?_⟩
      have : p.2 = sz p.1 := by
        rcases List.mem_append.mp hp with hp | hp
        · exact (h.ex.esv w.t (List.getElem?_eq_some_iff.mp h1).1 p hp).2
        · exact pz p hp
      rw [this]
      exact k
    · rcases List.mem_append.mp hp with hp | hp
      · obtain ⟨v, hv, k⟩ := en p (hw.es p hp)
        exact ⟨v, by rw [bindE_out fun q hq e => c ⟨q, hq, e⟩]; exact hv, k⟩
      · exact absurd ⟨p, hp, rfl⟩ c
  · have go : ∀ {as zs : List Int}, ArgsR sc as zs → ∀ a ∈ as, ∃ v, f.ρ a = some v := fun h => by
      induction h with
      | nil => exact fun a ha => nomatch ha
      | snoc _ m ih =>
        intro a ha
        rcases List.mem_append.mp ha with ha | ha
        · exact ih a ha
        · rw [List.mem_singleton.mp ha]
          obtain ⟨v, hv, _⟩ := en _ m
          exact ⟨v, hv⟩
    exact go h2
/-- what a graph needs to be gone through -/
structure GRun (hl : List (Str × Nat)) (inputs : Nat) (g : List Blk) : Prop where
  ex : ∃ es sz, GEx hl g es sz
  sm : ∀ v ∈ bvs g, Smv v
  b0 : ∃ b, g[0]? = some b ∧ b.ps.length = inputs ∧ ∀ p ∈ b.ps, p.2 = 0
  pl : ∀ b ∈ g, b.ps.length ≤ 10
theorem GOk.run {hl : List (Str × Nat)} {m : Nat} {g : List Blk} (h : GOk hl m g) : GRun hl m g := ⟨h.ex, h.sm, h.b0, h.pl⟩
theorem enter_ok {hl : List (Str × Nat)} {m : Nat} {g : List Blk} {is : List Int} (h : GRun hl m g) (hl_ : is.length = m) (h32 : ∀ i ∈ is, In32 i) : FrOk hl (enterF g (is.map Vl.n)) ∧ ∃ b, g[0]? = some b ∧ b.ps.length = m := by
  obtain ⟨es, sz, x⟩ := h.ex
  obtain ⟨b, hb, lb, pz⟩ := h.b0
  obtain ⟨sc, r1, r2, r3⟩ := x.bk 0 b hb
  refine ⟨⟨es, sz, b, sc, x, h.sm, h.pl, hb, Nat.zero_le _, r1, r2, r3, ?_⟩, b, hb, lb⟩
  have e0 : scAt (es 0 ++ b.ps) b.rs sc 0 = es 0 ++ b.ps := by
    have : ∃ rest, sc = (es 0 ++ b.ps) ++ rest := by
      have go : ∀ {s0 s1 : List (Int × Int)} {rs : List GRow}, RowsR s0 rs s1 → ∃ rest, s1 = s0 ++ rest := fun h => by
        induction h with
        | nil => exact ⟨[], by simp⟩
        | born _ _ _ ih =>
          obtain ⟨r, e⟩ := ih
          exact ⟨r ++ [_], by rw [e, List.append_assoc]⟩
        | tell _ _ ih => exact ih
      exact go r1
    obtain ⟨rest, e⟩ := this
    unfold scAt
    rw [e]
    show (es 0 ++ b.ps ++ rest).take ((es 0 ++ b.ps).length + 0) = _
    rw [Nat.add_zero, List.take_left']
    rfl
  show EnvOk (scAt (es 0 ++ b.ps) b.rs sc 0) (bindE (blkAt g 0).ps (is.map Vl.n) fun _ => none)
  rw [e0, blkAt_some hb, x.es0, List.nil_append]
  have vo : ∀ {ps : List (Int × Int)} {is : List Int}, is.length = ps.length → (∀ p ∈ ps, p.2 = 0) → (∀ i ∈ is, In32 i) → VlsOk (ps.map (·.2)) (is.map Vl.n) := by
    intro ps
    induction ps with
    | nil =>
      intro is h _ _
      rw [List.length_eq_zero_iff.mp h]
      exact .nil
    | cons p r ih =>
      intro is h hz h3
      cases is with
      | nil => simp at h
      | cons i is => exact .cons ⟨hz p (List.mem_cons_self ..), h3 i (List.mem_cons_self ..)⟩ (ih (by simpa using h) (fun q hq => hz q (List.mem_cons_of_mem _ hq)) fun j hj => h3 j (List.mem_cons_of_mem _ hj))
  have pzz := x.psz b (List.mem_of_getElem? hb)
  intro p hp
  obtain ⟨v, hv, k⟩ := bindE_in (ρ := fun _ => none) (vo (by omega) pz h32) pzz p hp
  exact ⟨v, hv, by rw [pzz p hp]; exact k⟩

theorem putF_ne {x y : Str} {v u : V} {fs : List (Str × V)} (h : y ≠ x) : putF x v ((y, u) :: fs) = (y, u) :: putF x v fs := by
  show (if y = x then _ else _) = _
  rw [if_neg h]
theorem putF_hit (x : Str) (v u : V) (fs : List (Str × V)) : putF x v ((x, u) :: fs) = (x, v) :: fs := by
  show (if x = x then _ else _) = _
  rw [if_pos rfl]

def goF (hd : Addr) (mo : Int) (ma : Int) (tl : Addr) (fl : Addr) (ev : V) : List (Str × V) := [("helpers", .ref hd), ("most", .int mo), ("many", .int ma), ("told", .ref tl), ("frames", .ref fl), ("ended", ev)]
theorem goF_helpers (hd : Addr) (mo : Int) (ma : Int) (tl : Addr) (fl : Addr) (ev : V) : (goF hd mo ma tl fl ev).lookup ("helpers" : Str) = some (.ref hd) := by
  unfold goF
  rw [List.lookup_cons, show (("helpers" : Str) == "helpers") = true by decide +kernel]
theorem goF_most (hd : Addr) (mo : Int) (ma : Int) (tl : Addr) (fl : Addr) (ev : V) : (goF hd mo ma tl fl ev).lookup ("most" : Str) = some (.int mo) := by
  unfold goF
  rw [List.lookup_cons, show (("most" : Str) == "helpers") = false by decide +kernel, List.lookup_cons, show (("most" : Str) == "most") = true by decide +kernel]
theorem goF_many (hd : Addr) (mo : Int) (ma : Int) (tl : Addr) (fl : Addr) (ev : V) : (goF hd mo ma tl fl ev).lookup ("many" : Str) = some (.int ma) := by
  unfold goF
  rw [List.lookup_cons, show (("many" : Str) == "helpers") = false by decide +kernel, List.lookup_cons, show (("many" : Str) == "most") = false by decide +kernel, List.lookup_cons, show (("many" : Str) == "many") = true by decide +kernel]
theorem goF_told (hd : Addr) (mo : Int) (ma : Int) (tl : Addr) (fl : Addr) (ev : V) : (goF hd mo ma tl fl ev).lookup ("told" : Str) = some (.ref tl) := by
  unfold goF
  rw [List.lookup_cons, show (("told" : Str) == "helpers") = false by decide +kernel, List.lookup_cons, show (("told" : Str) == "most") = false by decide +kernel, List.lookup_cons, show (("told" : Str) == "many") = false by decide +kernel, List.lookup_cons, show (("told" : Str) == "told") = true by decide +kernel]
theorem goF_frames (hd : Addr) (mo : Int) (ma : Int) (tl : Addr) (fl : Addr) (ev : V) : (goF hd mo ma tl fl ev).lookup ("frames" : Str) = some (.ref fl) := by
  unfold goF
  rw [List.lookup_cons, show (("frames" : Str) == "helpers") = false by decide +kernel, List.lookup_cons, show (("frames" : Str) == "most") = false by decide +kernel, List.lookup_cons, show (("frames" : Str) == "many") = false by decide +kernel, List.lookup_cons, show (("frames" : Str) == "told") = false by decide +kernel, List.lookup_cons, show (("frames" : Str) == "frames") = true by decide +kernel]
theorem goF_ended (hd : Addr) (mo : Int) (ma : Int) (tl : Addr) (fl : Addr) (ev : V) : (goF hd mo ma tl fl ev).lookup ("ended" : Str) = some (ev) := by
  unfold goF
  rw [List.lookup_cons, show (("ended" : Str) == "helpers") = false by decide +kernel, List.lookup_cons, show (("ended" : Str) == "most") = false by decide +kernel, List.lookup_cons, show (("ended" : Str) == "many") = false by decide +kernel, List.lookup_cons, show (("ended" : Str) == "told") = false by decide +kernel, List.lookup_cons, show (("ended" : Str) == "frames") = false by decide +kernel, List.lookup_cons, show (("ended" : Str) == "ended") = true by decide +kernel]
theorem goF_no {hd : Addr} {mo : Int} {ma : Int} {tl : Addr} {fl : Addr} {ev : V} {m : Str} (h0 : (m == ("helpers" : Str)) = false) (h1 : (m == ("most" : Str)) = false) (h2 : (m == ("many" : Str)) = false) (h3 : (m == ("told" : Str)) = false) (h4 : (m == ("frames" : Str)) = false) (h5 : (m == ("ended" : Str)) = false) : (goF hd mo ma tl fl ev).lookup m = none := by
  unfold goF
  rw [List.lookup_cons, h0, List.lookup_cons, h1, List.lookup_cons, h2, List.lookup_cons, h3, List.lookup_cons, h4, List.lookup_cons, h5]
  rfl
theorem goF_put_helpers (hd : Addr) (mo : Int) (ma : Int) (tl : Addr) (fl : Addr) (ev : V) (z' : Addr) : putF ("helpers" : Str) (.ref z') (goF hd mo ma tl fl ev) = goF z' mo ma tl fl ev := by
  unfold goF
  rw [putF_hit]
theorem goF_put_most (hd : Addr) (mo : Int) (ma : Int) (tl : Addr) (fl : Addr) (ev : V) (z' : Int) : putF ("most" : Str) (.int z') (goF hd mo ma tl fl ev) = goF hd z' ma tl fl ev := by
  unfold goF
  rw [putF_ne (x := ("most" : Str)) (y := ("helpers" : Str)) (by decide +kernel), putF_hit]
theorem goF_put_many (hd : Addr) (mo : Int) (ma : Int) (tl : Addr) (fl : Addr) (ev : V) (z' : Int) : putF ("many" : Str) (.int z') (goF hd mo ma tl fl ev) = goF hd mo z' tl fl ev := by
  unfold goF
  rw [putF_ne (x := ("many" : Str)) (y := ("helpers" : Str)) (by decide +kernel), putF_ne (x := ("many" : Str)) (y := ("most" : Str)) (by decide +kernel), putF_hit]
theorem goF_put_told (hd : Addr) (mo : Int) (ma : Int) (tl : Addr) (fl : Addr) (ev : V) (z' : Addr) : putF ("told" : Str) (.ref z') (goF hd mo ma tl fl ev) = goF hd mo ma z' fl ev := by
  unfold goF
  rw [putF_ne (x := ("told" : Str)) (y := ("helpers" : Str)) (by decide +kernel), putF_ne (x := ("told" : Str)) (y := ("most" : Str)) (by decide +kernel), putF_ne (x := ("told" : Str)) (y := ("many" : Str)) (by decide +kernel), putF_hit]
theorem goF_put_frames (hd : Addr) (mo : Int) (ma : Int) (tl : Addr) (fl : Addr) (ev : V) (z' : Addr) : putF ("frames" : Str) (.ref z') (goF hd mo ma tl fl ev) = goF hd mo ma tl z' ev := by
  unfold goF
  rw [putF_ne (x := ("frames" : Str)) (y := ("helpers" : Str)) (by decide +kernel), putF_ne (x := ("frames" : Str)) (y := ("most" : Str)) (by decide +kernel), putF_ne (x := ("frames" : Str)) (y := ("many" : Str)) (by decide +kernel), putF_ne (x := ("frames" : Str)) (y := ("told" : Str)) (by decide +kernel), putF_hit]
theorem goF_put_ended (hd : Addr) (mo : Int) (ma : Int) (tl : Addr) (fl : Addr) (ev : V) (z' : V) : putF ("ended" : Str) (z') (goF hd mo ma tl fl ev) = goF hd mo ma tl fl z' := by
  unfold goF
  rw [putF_ne (x := ("ended" : Str)) (y := ("helpers" : Str)) (by decide +kernel), putF_ne (x := ("ended" : Str)) (y := ("most" : Str)) (by decide +kernel), putF_ne (x := ("ended" : Str)) (y := ("many" : Str)) (by decide +kernel), putF_ne (x := ("ended" : Str)) (y := ("told" : Str)) (by decide +kernel), putF_ne (x := ("ended" : Str)) (y := ("frames" : Str)) (by decide +kernel), putF_hit]

/-! frames one on the other -/
structure StOk (hl : List (Str × Nat)) (fs : List Fr) : Prop where
  ok : ∀ f ∈ fs, FrOk hl f
  ca : ∀ f ∈ fs.tail, f.blk.rs.length ≤ f.pc ∧ ∃ h as w, f.blk.en = .call h as w
theorem StOk.cons {hl : List (Str × Nat)} {f : Fr} {r : List Fr} (hf : FrOk hl f) (h : StOk hl r) (hc : ∀ g ∈ r, g.blk.rs.length ≤ g.pc ∧ ∃ h as w, g.blk.en = .call h as w) : StOk hl (f :: r) :=
  ⟨fun g hg => by
    rcases List.mem_cons.mp hg with rfl | hg
    · exact hf
    · exact h.ok g hg, hc⟩
theorem StOk.r {hl : List (Str × Nat)} {f : Fr} {r : List Fr} (h : StOk hl (f :: r)) : StOk hl r := ⟨fun g hg => h.ok g (List.mem_cons_of_mem _ hg), fun g hg => h.ca g (List.mem_of_mem_tail hg)⟩
theorem StOk.top {hl : List (Str × Nat)} {f f' : Fr} {r : List Fr} (h : StOk hl (f :: r)) (hf : FrOk hl f') : StOk hl (f' :: r) := .cons hf h.r h.ca
theorem StOk.row {hl : List (Str × Nat)} {f : Fr} {r : List Fr} {told : List Int} {row : GRow} (h : StOk hl (f :: r)) (hr : f.blk.rs[f.pc]? = some row) : StOk hl (micRow f r told row).frs := by
  obtain ⟨es, sz, b, sc, fi⟩ := h.ok f (List.mem_cons_self ..)
  rw [fi.blk] at hr
  obtain ⟨_, _, c⟩ := fi.row hr
  unfold micRow
  cases hp : play row f.ρ with
  | error w => exact h
  | ok vl =>
    show StOk hl (if 0 ≤ row.v then _ else _ : MS).frs
    rcases c with ⟨c1, i, c2, c3⟩ | ⟨c1, c2⟩
    · rw [if_neg (by omega)]
      exact h.top ⟨es, sz, b, sc, c3⟩
    · rw [if_pos c1.1]
      exact h.top ⟨es, sz, b, sc, c2 vl hp⟩
theorem vls_nums {sc : List (Int × Int)} {ρ : Env} (e : EnvOk sc ρ) : ∀ {as : List Int}, (∀ a ∈ as, (a, 0) ∈ sc) → vls ρ as = (as.map ρ.num).map Vl.n ∧ ∀ i ∈ as.map ρ.num, In32 i
  | [], _ => ⟨rfl, fun i hi => nomatch hi⟩
  | a :: r, h => by
    obtain ⟨i, hi, i1⟩ := e.num (h a (List.mem_cons_self ..))
    obtain ⟨h1, h2⟩ := vls_nums e fun b hb => h b (List.mem_cons_of_mem _ hb)
    refine ⟨?_, fun j hj => ?_⟩
    · show (ρ a).getD (.n 0) :: vls ρ r = .n (ρ.num a) :: _
      rw [h1, hi, Env.num_of hi]
      rfl
    · rcases List.mem_cons.mp hj with rfl | hj
      · rw [Env.num_of hi]
        exact i1
      · exact h2 j hj
theorem StOk.end {hs : List (Str × Nat × List Blk)} (W : WR hs) {f : Fr} {r : List Fr} {told : List Int} (h : StOk (hlOf hs) (f :: r)) (hp : f.blk.rs.length ≤ f.pc) : StOk (hlOf hs) (micEnd hs f r told f.blk.en).frs := by
  obtain ⟨es, sz, b, sc, fi⟩ := h.ok f (List.mem_cons_self ..)
  have eb := fi.blk
  rw [eb] at hp ⊢
  have en := fi.all hp
  have er := fi.er
  cases he : b.en with
  | fail n => exact h
  | jump w =>
    rw [he] at er
    exact h.top (fi.lead hp er .nil).1
  | choose v x y =>
    rw [he] at er
    show StOk _ (f.lead (if f.ρ.num v = 0 then y else x) [] :: r)
    split
    · exact h.top (fi.lead hp er.2.2 .nil).1
    · exact h.top (fi.lead hp er.2.1 .nil).1
  | give v =>
    rw [he] at er
    obtain ⟨i, hi, i1⟩ := en.num er
    show StOk _ (backF (f.ρ.num v) r).1
    rw [Env.num_of hi]
    cases r with
    | nil => exact ⟨fun g hg => (nomatch hg), fun g hg => nomatch hg⟩
    | cons f2 r2 =>
      obtain ⟨hp2, g, as, w, e2⟩ := h.ca f2 (List.mem_cons_self ..)
      obtain ⟨es2, sz2, b2, sc2, fi2⟩ := h.ok f2 (List.mem_cons_of_mem _ (List.mem_cons_self ..))
      have er2 := fi2.er
      rw [fi2.blk] at hp2 e2
      rw [e2] at er2
      show StOk _ (f2.lead f2.blk.en.cway [.n i] :: r2)
      rw [fi2.blk, e2]
      exact h.r.top (fi2.lead hp2 er2.2.2 (.cons (v := .n i) ⟨rfl, i1⟩ .nil)).1
  | call g as w =>
    rw [he] at er
    obtain ⟨x, hx, _, e2, e3⟩ := W.get er.1
    obtain ⟨v1, v2⟩ := vls_nums en er.2.1
    show StOk _ (enterF (hgOf hs g) (vls f.ρ as) :: f :: r)
    rw [v1, e3]
    refine .cons (enter_ok (W.ok x hx).2.run (by rw [List.length_map, e2]) v2).1 h fun k hk => ?_
    rcases List.mem_cons.mp hk with rfl | hk
    · exact ⟨by rw [eb]; exact hp, g, as, w, by rw [eb]; exact he⟩
    · exact h.ca k hk
theorem StOk.mic {hs : List (Str × Nat × List Blk)} (W : WR hs) {c : MS} (h : StOk (hlOf hs) c.frs) : StOk (hlOf hs) (mic hs c).frs := by
  obtain ⟨frs, told, e⟩ := c
  cases e with
  | some e => exact h
  | none =>
    cases frs with
    | nil => exact h
    | cons f r =>
      cases hr : f.blk.rs[f.pc]? with
      | some row => rw [mic_row hr]; exact h.row hr
      | none =>
        have hp := List.getElem?_eq_none_iff.mp hr
        rw [mic_en hp]
        exact h.end W hp
/-! the heap of a going -/
structure GA where
  o : Addr
  dx : Addr
  hd : Addr
  tl : Addr
  fl : Addr
  ft : List (Addr × Addr)
def GA.all (G : GA) : List Addr := G.o :: G.hd :: G.tl :: G.fl :: adrs G.ft
def GA.own (G : GA) (a : Addr) : Prop := a ∈ G.all
section
variable {K : PySem.W.Frag}
structure FrAt (K : PySem.W.Frag) (H : Hp) (p : Addr × Addr) (f : Fr) : Prop where
  l : ∃ gv, H p.1 = some (.lst [gv, .int (f.at_ : Nat), .ref p.2]) ∧ Dp K H gv (grD f.g)
  e : EnvAt K H p.2 f.ρ
def EvAt (K : PySem.W.Frag) (H : Hp) (ev : V) : Option EndS → Prop
  | none => ev = .non
  | some e => Dp K H ev e.d
def HgAt (K : PySem.W.Frag) (H : Hp) (kvs : List (Key × V)) (hs : List (Str × Nat × List Blk)) : Prop := ∀ x ∈ hs, ∃ v, valV kvs (.inr x.1) = some v ∧ Dp K H v (grD x.2.2)
structure GoAt (K : PySem.W.Frag) (H : Hp) (G : GA) (hs : List (Str × Nat × List Blk)) (frs : List Fr) (told : List Int) (m most : Nat) (e : Option EndS) : Prop where
  o : ∃ ev, H G.o = some (.ins (He.ga K "Going") G.dx (goF G.hd most m G.tl G.fl ev)) ∧ EvAt K H ev e
  hd : ∃ kvs, H G.hd = some (.dK kvs) ∧ HgAt K H kvs hs
  tl : H G.tl = some (.lst (told.map V.int))
  fl : H G.fl = some (.lst (G.ft.reverse.map fun p => V.ref p.1))
  fr : Paired (FrAt K H) G.ft frs
  nd : G.all.Nodup
  tb : told.length ≤ m
  fb : frs.length ≤ m + 1
  mb : m ≤ most
  m6 : most ≤ 100000
theorem EndS.nl (e : EndS) : nLd e.d = true := by cases e <;> simp [EndS.d, nLd, nLs]
theorem EvAt.kp {S : Addr → Prop} {H H' : Hp} {ev : V} : ∀ {e : Option EndS}, EvAt K H ev e → Kp S H H' → EvAt K H' ev e
  | none, h, _ => h
  | some e, h, k => dp_kp k _ _ e.nl h
theorem HgAt.kp {S : Addr → Prop} {H H' : Hp} {kvs : List (Key × V)} {hs : List (Str × Nat × List Blk)} (h : HgAt K H kvs hs) (k : Kp S H H') : HgAt K H' kvs hs := fun x hx => by
  obtain ⟨v, e, d⟩ := h x hx
  exact ⟨v, e, dp_kp k _ _ (grD_nl _) d⟩
theorem FrAt.kp {S : Addr → Prop} {H H' : Hp} {p : Addr × Addr} {f : Fr} (h : FrAt K H p f) (k : Kp S H H') (e1 : H' p.1 = H p.1) (e2 : H' p.2 = H p.2) : FrAt K H' p f := by
  obtain ⟨gv, h1, h2⟩ := h.l
  exact ⟨⟨gv, e1.trans h1, dp_kp k _ _ (grD_nl _) h2⟩, h.e.kp k e2⟩
theorem paired_kp {H H' : Hp} {S : Addr → Prop} (k : Kp S H H') : ∀ {ft : List (Addr × Addr)} {frs : List Fr}, Paired (FrAt K H) ft frs → (∀ a ∈ adrs ft, H' a = H a) → Paired (FrAt K H') ft frs
  | _, _, .nil, _ => .nil
  | _, _, .cons (a := p) (l₁ := ps) h t, e => .cons (h.kp k (e _ (adrs_1 (List.mem_cons_self ..))) (e _ (adrs_2 (List.mem_cons_self ..)))) (paired_kp k t fun a ha => e a (by
      show a ∈ p.1 :: p.2 :: adrs ps
      exact List.mem_cons_of_mem _ (List.mem_cons_of_mem _ ha)))
structure GoX (H : Hp) (G : GA) (H' : Hp) (G' : GA) : Prop where
  k : Kp G.own H H'
  o : ∀ b, G'.own b → G.own b ∨ H b = none
  e : G'.o = G.o
theorem GoX.refl {H : Hp} {G : GA} : GoX H G H G := ⟨Kp.refl, fun _ h => .inl h, rfl⟩
theorem GoX.trans {H H1 H2 : Hp} {G G1 G2 : GA} (a : GoX H G H1 G1) (b : GoX H1 G1 H2 G2) : GoX H G H2 G2 := by
  refine ⟨fun c o e k => ?_, fun c hc => ?_, b.e.trans a.e⟩
  · refine b.k c o (a.k c o e k) fun z => ?_
    rcases a.o c z with y | y
    · exact k y
    · rw [y] at e
      cases e
  · rcases b.o c hc with y | y
    · exact a.o c y
    · by_cases z : G.own c
      · exact .inl z
      · exact .inr (kp_none a.k y z)
theorem GoX.same {H H' : Hp} {G : GA} (s : Same H H') : GoX H G H' G := ⟨.of_same s, fun _ h => .inl h, rfl⟩
theorem GoX.dp {H H' : Hp} {G G' : GA} (x : GoX H G H' G') {v : V} {d : PyData} (n : nLd d = true) (h : Dp K H v d) : Dp K H' v d := dp_kp x.k _ _ n h
theorem GoAt.there {H : Hp} {G : GA} {hs : List (Str × Nat × List Blk)} {frs : List Fr} {told : List Int} {m most : Nat} {e : Option EndS} (h : GoAt K H G hs frs told m most e) {a : Addr} (o : G.own a) : ∃ x, H a = some x ∧ Mut (some x) := by
  rcases List.mem_cons.mp o with rfl | o
  · obtain ⟨ev, e1, _⟩ := h.o
    exact ⟨_, e1, trivial⟩
  rcases List.mem_cons.mp o with rfl | o
  · obtain ⟨kvs, e1, _⟩ := h.hd
    exact ⟨_, e1, trivial⟩
  rcases List.mem_cons.mp o with rfl | o
  · exact ⟨_, h.tl, trivial⟩
  rcases List.mem_cons.mp o with rfl | o
  · exact ⟨_, h.fl, trivial⟩
  have go : ∀ {ft : List (Addr × Addr)} {frs : List Fr}, Paired (FrAt K H) ft frs → a ∈ adrs ft → ∃ x, H a = some x ∧ Mut (some x) := fun p => by
    induction p with
    | nil => exact fun z => nomatch z
    | @cons p f ps fs h t ih =>
      intro z
      have z' : a ∈ p.1 :: p.2 :: adrs ps := z
      rcases List.mem_cons.mp z' with rfl | z'
      · obtain ⟨gv, h1, _⟩ := h.l
        exact ⟨_, h1, trivial⟩
      rcases List.mem_cons.mp z' with rfl | z'
      · obtain ⟨kvs, h1, _⟩ := h.e.ex
        exact ⟨_, h1, trivial⟩
      · exact ih z'
  exact go h.fr o
theorem GoAt.off {H : Hp} {G : GA} {hs : List (Str × Nat × List Blk)} {frs : List Fr} {told : List Int} {m most : Nat} {e : Option EndS} (h : GoAt K H G hs frs told m most e) {a : Addr} (n : H a = none) : ¬ G.own a := fun z => by
  obtain ⟨x, e, _⟩ := h.there z
  rw [n] at e
  cases e
theorem GoAt.by {S : Addr → Prop} {H H' : Hp} {G : GA} {hs : List (Str × Nat × List Blk)} {frs : List Fr} {told : List Int} {m most : Nat} {e : Option EndS} (h : GoAt K H G hs frs told m most e) (k : Kp S H H') (q : ∀ a, G.own a → H' a = H a) : GoAt K H' G hs frs told m most e := by
  obtain ⟨⟨ev, o1, o2⟩, ⟨kvs, d1, d2⟩, tl, fl, fr, nd, tb, fb, mb, m6⟩ := h
  have qo : H' G.o = H G.o := q _ (List.mem_cons_self ..)
  have qh : H' G.hd = H G.hd := q _ (List.mem_cons_of_mem _ (List.mem_cons_self ..))
  have qt : H' G.tl = H G.tl := q _ (List.mem_cons_of_mem _ (List.mem_cons_of_mem _ (List.mem_cons_self ..)))
  have qf : H' G.fl = H G.fl := q _ (List.mem_cons_of_mem _ (List.mem_cons_of_mem _ (List.mem_cons_of_mem _ (List.mem_cons_self ..))))
  exact ⟨⟨ev, qo.trans o1, o2.kp k⟩, ⟨kvs, qh.trans d1, d2.kp k⟩, qt.trans tl, qf.trans fl, paired_kp k fr fun a ha => q a (List.mem_cons_of_mem _ (List.mem_cons_of_mem _ (List.mem_cons_of_mem _ (List.mem_cons_of_mem _ ha)))), nd, tb, fb, mb, m6⟩
theorem GoAt.sm {H H' : Hp} {G : GA} {hs : List (Str × Nat × List Blk)} {frs : List Fr} {told : List Int} {m most : Nat} {e : Option EndS} (h : GoAt K H G hs frs told m most e) (s : Same H H') : GoAt K H' G hs frs told m most e := h.by (S := fun _ => False) (.of_same s) fun a o => by
  obtain ⟨x, e, _⟩ := h.there o
  rw [e]
  exact s _ _ e
structure GNd (G : GA) : Prop where
  o : ∀ a, a = G.hd ∨ a = G.tl ∨ a = G.fl ∨ a ∈ adrs G.ft → a ≠ G.o
  h : ∀ a, a = G.tl ∨ a = G.fl ∨ a ∈ adrs G.ft → a ≠ G.hd
  t : ∀ a, a = G.fl ∨ a ∈ adrs G.ft → a ≠ G.tl
  f : ∀ a, a ∈ adrs G.ft → a ≠ G.fl
  n : (adrs G.ft).Nodup
theorem gnd_of {G : GA} (h : G.all.Nodup) : GNd G := by
  have h1 := List.nodup_cons.mp h
  have h2 := List.nodup_cons.mp h1.2
  have h3 := List.nodup_cons.mp h2.2
  have h4 := List.nodup_cons.mp h3.2
  refine ⟨fun a ha z => h1.1 ?_, fun a ha z => h2.1 ?_, fun a ha z => h3.1 ?_, fun a ha z => h4.1 (z ▸ ha), h4.2⟩
  · rw [← z]
    rcases ha with rfl | rfl | rfl | ha
    · exact List.mem_cons_self ..
    · exact List.mem_cons_of_mem _ (List.mem_cons_self ..)
    · exact List.mem_cons_of_mem _ (List.mem_cons_of_mem _ (List.mem_cons_self ..))
    · exact List.mem_cons_of_mem _ (List.mem_cons_of_mem _ (List.mem_cons_of_mem _ ha))
  · rw [← z]
    rcases ha with rfl | rfl | ha
    · exact List.mem_cons_self ..
    · exact List.mem_cons_of_mem _ (List.mem_cons_self ..)
    · exact List.mem_cons_of_mem _ (List.mem_cons_of_mem _ ha)
  · rw [← z]
    rcases ha with rfl | ha
    · exact List.mem_cons_self ..
    · exact List.mem_cons_of_mem _ ha
/-- the object's fields written -/
theorem GoAt.obj {H : Hp} {G : GA} {hs : List (Str × Nat × List Blk)} {frs : List Fr} {told : List Int} {m m' most : Nat} {e e' : Option EndS} {ev : V} (h : GoAt K H G hs frs told m most e) (he : EvAt K H ev e') (hm : m ≤ m') (hb : m' ≤ most) :
    GoAt K (upd H G.o (.ins (He.ga K "Going") G.dx (goF G.hd most m' G.tl G.fl ev))) G hs frs told m' most e' ∧ GoX H G (upd H G.o (.ins (He.ga K "Going") G.dx (goF G.hd most m' G.tl G.fl ev))) G := by
  have nd := gnd_of h.nd
  obtain ⟨⟨ev0, o1, o2⟩, ⟨kvs, d1, d2⟩, tl, fl, fr, nd0, tb, fb, mb, m6⟩ := h
  have k : Kp G.own H (upd H G.o (.ins (He.ga K "Going") G.dx (goF G.hd most m' G.tl G.fl ev))) := Kp.upd o1 trivial (List.mem_cons_self ..)
  exact ⟨⟨⟨ev, upd_same, he.kp k⟩, ⟨kvs, (upd_ne (nd.o _ (.inl rfl))).trans d1, d2.kp k⟩, (upd_ne (nd.o _ (.inr (.inl rfl)))).trans tl, (upd_ne (nd.o _ (.inr (.inr (.inl rfl))))).trans fl, paired_kp k fr fun a ha => upd_ne (nd.o _ (.inr (.inr (.inr ha)))), nd0, by omega, by omega, hb, m6⟩, k, fun _ z => .inl z, rfl⟩
/-- a number told -/
theorem GoAt.tell {H : Hp} {G : GA} {hs : List (Str × Nat × List Blk)} {frs : List Fr} {told : List Int} {m most : Nat} {e : Option EndS} {i : Int} (h : GoAt K H G hs frs told m most e) (hm : told.length < m) :
    GoAt K (upd H G.tl (.lst (told.map V.int ++ [.int i]))) G hs frs (told ++ [i]) m most e ∧ GoX H G (upd H G.tl (.lst (told.map V.int ++ [.int i]))) G := by
  have nd := gnd_of h.nd
  obtain ⟨⟨ev0, o1, o2⟩, ⟨kvs, d1, d2⟩, tl, fl, fr, nd0, tb, fb, mb, m6⟩ := h
  have k : Kp G.own H (upd H G.tl (.lst (told.map V.int ++ [.int i]))) := Kp.upd tl trivial (List.mem_cons_of_mem _ (List.mem_cons_of_mem _ (List.mem_cons_self ..)))
  exact ⟨⟨⟨ev0, (upd_ne (nd.o _ (.inr (.inl rfl))).symm).trans o1, o2.kp k⟩, ⟨kvs, (upd_ne (nd.h _ (.inl rfl)).symm).trans d1, d2.kp k⟩, by rw [upd_same, List.map_append]; rfl, (upd_ne (nd.t _ (.inl rfl))).trans fl, paired_kp k fr fun a ha => upd_ne (nd.t _ (.inr ha)), nd0, by rw [List.length_append, List.length_singleton]; omega, fb, mb, m6⟩, k, fun _ z => .inl z, rfl⟩
/-- the last frame's thing changed: its dict, or its list -/
theorem GoAt.topd {H : Hp} {G : GA} {hs : List (Str × Nat × List Blk)} {f f' : Fr} {r : List Fr} {told : List Int} {m most : Nat} {e : Option EndS} {p : Addr × Addr} {ps : List (Addr × Addr)} {o : HO} (h : GoAt K H G hs (f :: r) told m most e) (eG : G.ft = p :: ps) (hg : f'.g = f.g) (ha : f'.at_ = f.at_) (he : EnvAt K (upd H p.2 o) p.2 f'.ρ) :
    GoAt K (upd H p.2 o) G hs (f' :: r) told m most e ∧ GoX H G (upd H p.2 o) G := by
  have nd := gnd_of h.nd
  obtain ⟨⟨ev0, o1, o2⟩, ⟨kvs, d1, d2⟩, tl, fl, fr, nd0, tb, fb, mb, m6⟩ := h
  rw [eG] at fr fl
  have e1 : adrs G.ft = p.1 :: p.2 :: adrs ps := by rw [eG]; rfl
  have m2 : p.2 ∈ adrs G.ft := by rw [e1]; exact List.mem_cons_of_mem _ (List.mem_cons_self ..)
  have nn := nd.n
  rw [e1] at nn
  have n1 := List.nodup_cons.mp nn
  have n2 := List.nodup_cons.mp n1.2
  cases fr with
  | cons h1 ht =>
    obtain ⟨kv, hk, _⟩ := h1.e.ex
    have own2 : G.own p.2 := List.mem_cons_of_mem _ (List.mem_cons_of_mem _ (List.mem_cons_of_mem _ (List.mem_cons_of_mem _ m2)))
    have k : Kp G.own H (upd H p.2 o) := Kp.upd hk trivial own2
    obtain ⟨gv, l1, l2⟩ := h1.l
    refine ⟨⟨⟨ev0, (upd_ne (nd.o _ (.inr (.inr (.inr m2)))).symm).trans o1, o2.kp k⟩, ⟨kvs, (upd_ne (nd.h _ (.inr (.inr m2))).symm).trans d1, d2.kp k⟩, (upd_ne (nd.t _ (.inr m2)).symm).trans tl, (upd_ne (nd.f _ m2).symm).trans (by rw [eG]; exact fl), ?_, nd0, tb, fb, mb, m6⟩, k, fun _ z => .inl z, rfl⟩
    rw [eG]
    refine .cons ⟨⟨gv, ?_, by rw [hg]; exact dp_kp k _ _ (grD_nl _) l2⟩, he⟩ (paired_kp k ht fun a ha => upd_ne fun z => n2.1 (z ▸ ha))
    rw [ha]
    exact (upd_ne fun z => n1.1 (by rw [z]; exact List.mem_cons_self ..)).trans l1
theorem GoAt.topl {H : Hp} {G : GA} {hs : List (Str × Nat × List Blk)} {f : Fr} {r : List Fr} {told : List Int} {m most t : Nat} {e : Option EndS} {p : Addr × Addr} {ps : List (Addr × Addr)} {gv v0 : V} (h : GoAt K H G hs (f :: r) told m most e) (eG : G.ft = p :: ps) (l1 : H p.1 = some (.lst [gv, v0, .ref p.2])) :
    GoAt K (upd H p.1 (.lst [gv, .int (t : Nat), .ref p.2])) G hs ({ f with at_ := t, pc := 0 } :: r) told m most e ∧ GoX H G (upd H p.1 (.lst [gv, .int (t : Nat), .ref p.2])) G := by
  have nd := gnd_of h.nd
  obtain ⟨⟨ev0, o1, o2⟩, ⟨kvs, d1, d2⟩, tl, fl, fr, nd0, tb, fb, mb, m6⟩ := h
  rw [eG] at fr fl
  have e1 : adrs G.ft = p.1 :: p.2 :: adrs ps := by rw [eG]; rfl
  have m2 : p.1 ∈ adrs G.ft := by rw [e1]; exact List.mem_cons_self ..
  have nn := nd.n
  rw [e1] at nn
  have n1 := List.nodup_cons.mp nn
  cases fr with
  | cons h1 ht =>
    have own2 : G.own p.1 := List.mem_cons_of_mem _ (List.mem_cons_of_mem _ (List.mem_cons_of_mem _ (List.mem_cons_of_mem _ m2)))
    have k : Kp G.own H (upd H p.1 (.lst [gv, .int (t : Nat), .ref p.2])) := Kp.upd l1 trivial own2
    obtain ⟨gv', l1', l2⟩ := h1.l
    rw [l1] at l1'
    cases l1'
    refine ⟨⟨⟨ev0, (upd_ne (nd.o _ (.inr (.inr (.inr m2)))).symm).trans o1, o2.kp k⟩, ⟨kvs, (upd_ne (nd.h _ (.inr (.inr m2))).symm).trans d1, d2.kp k⟩, (upd_ne (nd.t _ (.inr m2)).symm).trans tl, (upd_ne (nd.f _ m2).symm).trans (by rw [eG]; exact fl), ?_, nd0, tb, fb, mb, m6⟩, k, fun _ z => .inl z, rfl⟩
    rw [eG]
    refine .cons ⟨⟨gv, upd_same, dp_kp k _ _ (grD_nl _) l2⟩, h1.e.kp k (upd_ne fun z => n1.1 (by rw [← z]; exact List.mem_cons_self ..))⟩ (paired_kp k ht fun a ha => upd_ne fun z => n1.1 (z ▸ List.mem_cons_of_mem _ ha))
end

section
variable {P : Program} {w : World} {K : PySem.W.Frag} {mg : Str → Option Value} {base : Heap}
def sp_step (K : PySem.W.Frag) : Sp := fun vs H Q _ => ∃ (G : GA) (hs : List (Str × Nat × List Blk)) (frs : List Fr) (told : List Int) (m most : Nat), vs = [.ref G.o] ∧ GoAt K H G hs frs told m most none ∧
  (most ≤ m → ∀ H', GoX H G H' G → GoAt K H' G hs frs told m most (some .on) → Q (.bl false) H') ∧ (m < most → ∀ H', GoX H G H' G → GoAt K H' G hs frs told (m + 1) most none → Q (.bl true) H')
theorem ok_Going_step (T : Top K mg) : FnOk P w K mg base CX0 1 (He.ma K (He.ga K "Going") "step") T.fd_Going_step ["self"] (sp_step K) := by
  refine T.F_Going_step.ok sc_Going_step (fun vs H Q E h => ?_) (fun cdv A0 outer s0 H vs Q E hr h => ?_)
  · obtain ⟨G, hs, frs, told, m, most, rfl, _⟩ := h
    rfl
  · obtain ⟨G, hs, frs, told, m, most, rfl, go, q0, q1⟩ := h
    refine ⟨_, PSs.nox (pss_cons (ps_if (pt_cmpR op_ge (pe_fld (pv 0) rfl) (pe_fld (pv 0) rfl) (nomark _)) (pss_cons (ps_fld (pv 0) (pe_tup (pa_cons pe_str pa_nil)) rfl)
        (pss_one (ps_ret pe_bl))) pss_nil)
        (pss_cons (ps_fldaug (pv 0) pe_int in_add)
        (pss_one (ps_ret pe_bl)))), ?_⟩
    obtain ⟨ev, eo, ee⟩ := go.o
    have ee' : ev = .non := ee
    subst ee'
    refine ⟨_, rfl, G.o, _, G.dx, _, _, rfl, eo, T.cl_Going, T.no_Going_many, goF_many .., _, rfl, G.o, _, G.dx, _, _, rfl, eo, T.cl_Going, T.no_Going_most, goF_most .., _, _, rfl, rfl, _, rfl, ite2 (fun c => ?_) (fun c => ?_)⟩
    · have c' : most ≤ m := by have := of_decide_eq_true c; omega
      refine ⟨one_le, fun t nt => ?_⟩
      have s1 := same_new (o := .tup [V.str "on"]) nt
      have go1 := go.sm s1
      refine ⟨_, rfl, G.o, _, G.dx, _, rfl, s1 _ _ eo, T.cl_Going, T.no_Going_ended, by show 6 < 1000; decide, ?_⟩
      rw [goF_put_ended]
      obtain ⟨g2, x2⟩ := go1.obj (ev := .ref t) (e' := some .on) (m' := m) (.tup (.inl (.of upd_same)) (.cons (.str _) .nil)) (Nat.le_refl _) go.mb
      exact q0 c' _ ((GoX.same s1).trans x2) g2
    · have c' : m < most := by
        have : ¬ (most : Int) ≤ m := fun z => c (decide_eq_true z)
        omega
      refine ⟨_, rfl, G.o, _, G.dx, _, _, rfl, eo, T.cl_Going, T.no_Going_many, goF_many .., _, _, rfl, rfl, ?_⟩
      refine ⟨G.dx, _, eo, by show 6 < 1000; decide, ?_⟩
      rw [goF_put_many]
      obtain ⟨g2, x2⟩ := go.obj (ev := .non) (e' := none) (m' := m + 1) rfl (by omega) c'
      exact q1 c' _ x2 g2
theorem mergeK_val {kvs : List (Key × V)} (nd : (kvs.map (·.1)).Nodup) : mergeK [] kvs = kvs := merge_nd kvs [] nd
/-- the helpers as pairs -/
theorem help_pairs {H : Hp} : ∀ {hs : List (Str × Nat × List Blk)} {ys : List V}, DpAll K H ys (hs.map ghD) → ∃ (ps : List Addr) (vs : List V), ys = ps.map V.ref ∧ Paired (fun p (kv : Key × V) => SqT K H p [kV kv.1, kv.2]) ps ((hs.zip vs).map fun q => ((.inr q.1.1 : Key), q.2)) ∧ DpAll K H vs (hs.map fun h => grD h.2.2)
  | [], ys, h => by
    rw [dpAll_nil h]
    exact ⟨[], [], rfl, .nil, .nil⟩
  | x :: r, ys, h => by
    obtain ⟨v, t, rfl, h1, h2⟩ := dpAll_cons h
    obtain ⟨ps, vs, rfl, pr, dv⟩ := help_pairs h2
    obtain ⟨p, xs, rfl, hp, dx⟩ := dp_tup h1
    obtain ⟨v1, r1, rfl, d1, t1⟩ := dpAll_cons dx
    obtain ⟨v2, r2, rfl, d2, t2⟩ := dpAll_cons t1
    rw [dp_str d1, dpAll_nil t2] at hp
    exact ⟨p :: ps, v2 :: vs, rfl, .cons hp pr, .cons d2 dv⟩
theorem zip_keys {hs : List (Str × Nat × List Blk)} : ∀ {l : List (Str × Nat × List Blk)} {vs : List V}, l.length = vs.length → ((l.zip vs).map fun q => ((.inr q.1.1 : Key), q.2)).map (·.1) = l.map fun x => (.inr x.1 : Key)
  | [], [], _ => rfl
  | [], _ :: _, h => by simp at h
  | _ :: _, [], h => by simp at h
  | x :: l, v :: vs, h => by
    have := zip_keys (hs := hs) (l := l) (vs := vs) (by simpa using h)
    simp only [List.zip_cons_cons, List.map_cons] at this ⊢
    rw [this]
theorem help_val {H : Hp} : ∀ {hs : List (Str × Nat × List Blk)} {vs : List V}, (hs.map (·.1)).Nodup → DpAll K H vs (hs.map fun h => grD h.2.2) → HgAt K H ((hs.zip vs).map fun q => ((.inr q.1.1 : Key), q.2)) hs
  | [], _, _, _ => fun x hx => nomatch hx
  | y :: r, _, nd, h => by
    obtain ⟨v, vs, rfl, h1, h2⟩ := dpAll_cons h
    rw [List.map_cons] at nd
    have n := List.nodup_cons.mp nd
    intro x hx
    rcases List.mem_cons.mp hx with rfl | hx
    · exact ⟨v, valV_pos rfl, h1⟩
    · obtain ⟨u, e, d⟩ := help_val n.2 h2 x hx
      refine ⟨u, ?_, d⟩
      show valV (((Sum.inr y.1 : Key), v) :: _) _ = _
      rw [valV_neg fun z => n.1 (by rw [show y.1 = x.1 from Sum.inr.inj z]; exact List.mem_map.mpr ⟨x, hx, rfl⟩)]
      exact e
def sp_ginit (K : PySem.W.Frag) : Sp := fun vs H Q _ => ∃ (o dx p ph : Addr) (vm : V) (ys : List V) (hs : List (Str × Nat × List Blk)) (most : Nat), vs = [.ref o, .ref p, .int (most : Nat)] ∧ H o = some (.ins (He.ga K "Going") dx []) ∧ SqT K H p [.ref ph, vm] ∧ TupZ H ph ys ∧ DpAll K H ys (hs.map ghD) ∧ (hs.map (·.1)).Nodup ∧ hs.length ≤ 1000 ∧ most ≤ 100000 ∧
  ∀ H' G, Kp (fun b => b = o) H H' → G.o = o → (∀ b, G.own b → b = o ∨ H b = none) → G.ft = [] → GoAt K H' G hs [] [] 0 most none → Q .non H'
theorem ok_Going_init (T : Top K mg) : FnOk P w K mg base CX0 1 (He.ma K (He.ga K "Going") "__init__") T.fd_Going___init__ ["self", "works", "most"] (sp_ginit K) := by
  refine T.F_Going___init__.ok sc_Going___init__ (fun vs H Q E h => ?_) (fun cdv A0 outer s0 H vs Q E hr h => ?_)
  · obtain ⟨o, dx, p, ph, vm, ys, hs, most, rfl, _⟩ := h
    rfl
  · obtain ⟨o, dx, p, ph, vm, ys, hs, most, rfl, eo, hp, hz, dy, nd, l1, m6, q⟩ := h
    refine ⟨_, PSs.nox (pss_cons (ps_fld (pv 0) (pe_callTy (call_dictTZ rfl) (by rfl) T.m_dict (by decide +kernel) (pa_cons (pe_ix ix_tup (pv 1) pe_int (fun _ _ => rfl)) pa_nil)) rfl)
        (pss_cons (ps_fld (pv 0) (pv 2) rfl)
        (pss_cons (ps_fld (pv 0) pe_int rfl)
        (pss_cons (ps_fld (pv 0) (pe_lst pa_nil) rfl)
        (pss_cons (ps_fld (pv 0) (pe_lst pa_nil) rfl)
        (pss_one (ps_fld (pv 0) pe_non rfl))))))), ?_⟩
    obtain ⟨ps, vs, rfl, pr, dv⟩ := help_pairs dy
    have lv := dpAll_len dv
    rw [List.length_map] at lv
    have lps := dpAll_len dy
    rw [List.length_map, List.length_map] at lps
    refine ⟨_, rfl, p, _, 0, _, rfl, rfl, hp, atI_nat (j := 0) rfl, ph, ps, _, rfl, hz, pr, by omega, fun hd nhd => ?_⟩
    have nk : (((hs.zip vs).map fun q => ((.inr q.1.1 : Key), q.2)).map (·.1)).Nodup := by
      rw [zip_keys (hs := hs) (by omega)]
      have e : (hs.map fun x => (Sum.inr x.1 : Key)) = (hs.map (·.1)).map Sum.inr := by rw [List.map_map]; rfl
      rw [e, List.nodup_iff_pairwise_ne, List.pairwise_map]
      exact (List.nodup_iff_pairwise_ne.mp nd).imp fun h z => h (Sum.inr.inj z)
    rw [mergeK_val nk]
    have hv := help_val nd dv
    generalize ((hs.zip vs).map fun q => ((.inr q.1.1 : Key), q.2)) = kvs at hv
    have s1 := same_new (o := .dK kvs) nhd
    have oh : o ≠ hd := fun z => by rw [z, nhd] at eo; cases eo
    refine ⟨_, rfl, o, _, dx, _, rfl, s1 _ _ eo, T.cl_Going, T.no_Going_helpers, by decide, ?_⟩
    have k1 : Kp (fun b => b = o) H (upd (upd H hd (.dK kvs)) o (.ins (He.ga K "Going") dx [("helpers", .ref hd)])) := (Kp.of_same s1).trans (Kp.upd (s1 _ _ eo) trivial rfl)
    have h1 : upd (upd H hd (.dK kvs)) o (.ins (He.ga K "Going") dx [("helpers", .ref hd)]) hd = some (.dK kvs) := (upd_ne oh.symm).trans upd_same
    have eo1 : upd (upd H hd (.dK kvs)) o (.ins (He.ga K "Going") dx [("helpers", .ref hd)]) o = some (.ins (He.ga K "Going") dx [("helpers", .ref hd)]) := upd_same
    refine ⟨_, rfl, _, rfl, o, _, dx, _, rfl, eo1, T.cl_Going, T.no_Going_most, by show 1 < 1000; decide, ?_⟩
    rw [show putF ("most" : Str) (.int (most : Nat)) [("helpers", .ref hd)] = ([("helpers", .ref hd), ("most", .int (most : Nat))] : List (Str × V)) by rw [putF_ne (by decide +kernel)]; rfl, upd_upd]
    refine ⟨_, rfl, o, _, dx, _, rfl, upd_same, T.cl_Going, T.no_Going_many, by show 2 < 1000; decide, ?_⟩
    rw [show putF ("many" : Str) (.int 0) [("helpers", .ref hd), ("most", .int (most : Nat))] = ([("helpers", .ref hd), ("most", .int (most : Nat)), ("many", .int 0)] : List (Str × V)) by rw [putF_ne (by decide +kernel), putF_ne (by decide +kernel)]; rfl, upd_upd]
    have k3 : Kp (fun b => b = o) H (upd (upd H hd (.dK kvs)) o (.ins (He.ga K "Going") dx [("helpers", .ref hd), ("most", .int (most : Nat)), ("many", .int 0)])) := (Kp.of_same s1).trans (Kp.upd (s1 _ _ eo) trivial rfl)
    have h3 : upd (upd H hd (.dK kvs)) o (.ins (He.ga K "Going") dx [("helpers", .ref hd), ("most", .int (most : Nat)), ("many", .int 0)]) hd = some (.dK kvs) := (upd_ne oh.symm).trans upd_same
    have o3 : upd (upd H hd (.dK kvs)) o (.ins (He.ga K "Going") dx [("helpers", .ref hd), ("most", .int (most : Nat)), ("many", .int 0)]) o = some (.ins (He.ga K "Going") dx [("helpers", .ref hd), ("most", .int (most : Nat)), ("many", .int 0)]) := upd_same
    generalize upd (upd H hd (.dK kvs)) o (.ins (He.ga K "Going") dx [("helpers", .ref hd), ("most", .int (most : Nat)), ("many", .int 0)]) = H3 at k3 h3 o3 ⊢
    refine ⟨Nat.zero_le _, fun tl ntl => ?_⟩
    have s4 := same_new (o := .lst []) ntl
    have otl : o ≠ tl := fun z => by rw [z, ntl] at o3; cases o3
    have htl : hd ≠ tl := fun z => by rw [z, ntl] at h3; cases h3
    refine ⟨_, rfl, o, _, dx, _, rfl, s4 _ _ o3, T.cl_Going, T.no_Going_told, by show 3 < 1000; decide, ?_⟩
    rw [show putF ("told" : Str) (.ref tl) [("helpers", .ref hd), ("most", .int (most : Nat)), ("many", .int 0)] = ([("helpers", .ref hd), ("most", .int (most : Nat)), ("many", .int 0), ("told", .ref tl)] : List (Str × V)) by rw [putF_ne (by decide +kernel), putF_ne (by decide +kernel), putF_ne (by decide +kernel)]; rfl]
    have k5 : Kp (fun b => b = o) H (upd (upd H3 tl (.lst [])) o (.ins (He.ga K "Going") dx [("helpers", .ref hd), ("most", .int (most : Nat)), ("many", .int 0), ("told", .ref tl)])) := (k3.trans (Kp.of_same s4)).trans (Kp.upd (s4 _ _ o3) trivial rfl)
    have h5 : upd (upd H3 tl (.lst [])) o (.ins (He.ga K "Going") dx [("helpers", .ref hd), ("most", .int (most : Nat)), ("many", .int 0), ("told", .ref tl)]) hd = some (.dK kvs) := (upd_ne oh.symm).trans ((upd_ne htl).trans h3)
    have t5 : upd (upd H3 tl (.lst [])) o (.ins (He.ga K "Going") dx [("helpers", .ref hd), ("most", .int (most : Nat)), ("many", .int 0), ("told", .ref tl)]) tl = some (.lst []) := (upd_ne otl.symm).trans upd_same
    have o5 : upd (upd H3 tl (.lst [])) o (.ins (He.ga K "Going") dx [("helpers", .ref hd), ("most", .int (most : Nat)), ("many", .int 0), ("told", .ref tl)]) o = some (.ins (He.ga K "Going") dx [("helpers", .ref hd), ("most", .int (most : Nat)), ("many", .int 0), ("told", .ref tl)]) := upd_same
    have ntl0 : H tl = none := kp_none k3 ntl fun z => otl z.symm
    generalize upd (upd H3 tl (.lst [])) o (.ins (He.ga K "Going") dx [("helpers", .ref hd), ("most", .int (most : Nat)), ("many", .int 0), ("told", .ref tl)]) = H5 at k5 h5 t5 o5 ⊢
    refine ⟨Nat.zero_le _, fun fl nfl => ?_⟩
    have s6 := same_new (o := .lst []) nfl
    have ofl : o ≠ fl := fun z => by rw [z, nfl] at o5; cases o5
    have hfl : hd ≠ fl := fun z => by rw [z, nfl] at h5; cases h5
    have tfl : tl ≠ fl := fun z => by rw [z, nfl] at t5; cases t5
    refine ⟨_, rfl, o, _, dx, _, rfl, s6 _ _ o5, T.cl_Going, T.no_Going_frames, by show 4 < 1000; decide, ?_⟩
    rw [show putF ("frames" : Str) (.ref fl) [("helpers", .ref hd), ("most", .int (most : Nat)), ("many", .int 0), ("told", .ref tl)] = ([("helpers", .ref hd), ("most", .int (most : Nat)), ("many", .int 0), ("told", .ref tl), ("frames", .ref fl)] : List (Str × V)) by rw [putF_ne (by decide +kernel), putF_ne (by decide +kernel), putF_ne (by decide +kernel), putF_ne (by decide +kernel)]; rfl]
    refine ⟨_, rfl, o, _, dx, _, rfl, upd_same, T.cl_Going, T.no_Going_ended, by show 5 < 1000; decide, ?_⟩
    rw [show putF ("ended" : Str) .non [("helpers", .ref hd), ("most", .int (most : Nat)), ("many", .int 0), ("told", .ref tl), ("frames", .ref fl)] = goF hd most 0 tl fl .non by rw [putF_ne (by decide +kernel), putF_ne (by decide +kernel), putF_ne (by decide +kernel), putF_ne (by decide +kernel), putF_ne (by decide +kernel)]; rfl, upd_upd]
    have k7 : Kp (fun b => b = o) H (upd (upd H5 fl (.lst [])) o (.ins (He.ga K "Going") dx (goF hd most 0 tl fl .non))) := (k5.trans (Kp.of_same s6)).trans (Kp.upd (s6 _ _ o5) trivial rfl)
    have nfl0 : H fl = none := kp_none k5 nfl fun z => ofl z.symm
    refine q _ ⟨o, dx, hd, tl, fl, []⟩ k7 rfl (fun b hb => ?_) rfl ⟨⟨.non, upd_same, rfl⟩, ⟨kvs, (upd_ne oh.symm).trans ((upd_ne hfl).trans h5), hv.kp k7⟩, (upd_ne otl.symm).trans ((upd_ne tfl).trans t5), (upd_ne ofl.symm).trans upd_same, .nil, ?_, Nat.le_refl _, Nat.zero_le _, Nat.zero_le _, m6⟩
    · rcases List.mem_cons.mp hb with rfl | hb
      · exact .inl rfl
      rcases List.mem_cons.mp hb with rfl | hb
      · exact .inr nhd
      rcases List.mem_cons.mp hb with rfl | hb
      · exact .inr ntl0
      rcases List.mem_cons.mp hb with rfl | hb
      · exact .inr nfl0
      · exact nomatch hb
    · show ([o, hd, tl, fl] : List Addr).Nodup
      simp only [List.nodup_cons, List.mem_cons, List.not_mem_nil, or_false, not_or, not_false_eq_true, List.nodup_nil, and_true]
      exact ⟨⟨oh, otl, ofl⟩, ⟨htl, hfl⟩, tfl⟩
end

section
variable {P : Program} {w : World} {K : PySem.W.Frag} {mg : Str → Option Value} {base : Heap}
theorem bindE_snoc : ∀ {ps : List (Int × Int)} {vs : List Vl} {ρ : Env} {i : Nat} {p : Int × Int} {v : Vl}, ps[i]? = some p → vs[i]? = some v → bindE (ps.take (i + 1)) (vs.take (i + 1)) ρ = (bindE (ps.take i) (vs.take i) ρ).put p.1 v
  | [], _, _, _, _, _, h, _ => by simp at h
  | _ :: _, [], _, _, _, _, _, h => by simp at h
  | q :: ps, u :: vs, ρ, 0, p, v, h1, h2 => by
    cases h1
    cases h2
    rw [List.take_succ_cons, List.take_succ_cons, List.take_zero, List.take_zero]
    show bindE _ _ (ρ.put _ _) = _
    unfold bindE
    rfl
  | q :: ps, u :: vs, ρ, i + 1, p, v, h1, h2 => by
    have h1' : ps[i]? = some p := h1
    have h2' : vs[i]? = some v := h2
    rw [List.take_succ_cons, List.take_succ_cons, List.take_succ_cons, List.take_succ_cons]
    show bindE (ps.take (i + 1)) (vs.take (i + 1)) (ρ.put q.1 u) = (bindE (ps.take i) (vs.take i) (ρ.put q.1 u)).put p.1 v
    exact bindE_snoc h1' h2'
theorem EnvAt.new {H : Hp} {d : Addr} (n : H d = none) : EnvAt K (upd H d (.dK [])) d fun _ => none :=
  ⟨⟨[], upd_same, by simp, (fun k hk => by simp at hk), fun a => .inr ⟨rfl, rfl⟩⟩⟩
/-- params of a block, as things -/
theorem params_at {H : Hp} {pv : V} {ps : List (Int × Int)} (h : Dp K H pv (.tuple (ps.map pairD))) : ∃ (a : Addr) (xs : List V), pv = .ref a ∧ SqT K H a xs ∧ xs.length = ps.length ∧ ∀ (i : Nat) (x : V), xs[i]? = some x → ∃ (p : Int × Int) (q : Addr), ps[i]? = some p ∧ x = .ref q ∧ SqT K H q [.int p.1, .int p.2] := by
  obtain ⟨a, xs, rfl, ha, dx⟩ := dp_tup h
  have l := dpAll_len dx
  rw [List.length_map] at l
  refine ⟨a, xs, rfl, ha, l, fun i x hx => ?_⟩
  obtain ⟨d, hd, dd⟩ := dpAll_getV dx hx
  rw [List.getElem?_map] at hd
  cases hp : ps[i]? with
  | none => rw [hp] at hd; cases hd
  | some p =>
    rw [hp] at hd
    cases hd
    obtain ⟨q, ys, rfl, hq, dy⟩ := dp_tup dd
    obtain ⟨v1, r1, rfl, d1, t1⟩ := dpAll_cons dy
    obtain ⟨v2, r2, rfl, d2, t2⟩ := dpAll_cons t1
    rw [dp_int d1, dp_int d2, dpAll_nil t2] at hq
    exact ⟨p, q, rfl, rfl, hq⟩
theorem blk_at {H : Hp} {gv : V} {g : List Blk} {i : Nat} {b : Blk} (h : Dp K H gv (grD g)) (hb : g[i]? = some b) : ∃ (pg : Addr) (xg : List V) (pb : Addr) (pv rv ev : V), gv = .ref pg ∧ SqT K H pg xg ∧ xg[i]? = some (.ref pb) ∧ SqT K H pb [pv, rv, ev] ∧ Dp K H (.ref pb) (blkD b) ∧ Dp K H pv (.tuple (b.ps.map pairD)) ∧ Dp K H rv (.tuple (b.rs.map GRow.d)) ∧ Dp K H ev b.en.d := by
  obtain ⟨pg, xg, rfl, hg, dx⟩ := dp_tup h
  obtain ⟨v, hv, dv⟩ := dpAll_get dx (i := i) (d := blkD b) (by rw [List.getElem?_map, hb]; rfl)
  obtain ⟨pb, xb, rfl, hpb, dpb⟩ := dp_tup dv
  obtain ⟨v1, r1, rfl, d1, t1⟩ := dpAll_cons dpb
  obtain ⟨v2, r2, rfl, d2, t2⟩ := dpAll_cons t1
  obtain ⟨v3, r3, rfl, d3, t3⟩ := dpAll_cons t2
  have e0 := dpAll_nil t3
  subst e0
  exact ⟨pg, xg, pb, v1, v2, v3, rfl, hg, hv, hpb, dv, d1, d2, d3⟩
/-- a list or a tuple of values -/
def SqA (K : PySem.W.Frag) (H : Hp) (a : Addr) (xs : List V) : Prop := SqL K H a xs ∨ SqT K H a xs
theorem vls_nl (l : List Vl) : nLs (l.map Vl.d) = true := noLs_all fun x hx => by
  obtain ⟨q, _, rfl⟩ := List.mem_map.mp hx
  exact q.nl
theorem sqA_on {H H' : Hp} {a d : Addr} {xs : List V} (h : SqA K H a xs) (n : H d = none) (k : Kp (fun b => b = d) H H') : SqA K H' a xs := by
  rcases h with ((h | ⟨ob, h⟩) | h) | h
  · exact .inl (.inl (.inl (k _ _ h fun z => by rw [z, n] at h; cases h)))
  · exact .inl (.inl (.inr ⟨ob, k _ _ h fun z => by rw [z, n] at h; cases h⟩))
  · exact .inl (.inr h)
  · exact .inr (sqT_kp k h)
/-- the params got, so many of them -/
def enI (K : PySem.W.Frag) (S : Addr → Prop) (H : Hp) (d : Addr) (ps : List (Int × Int)) (us : List Vl) (ρ : Env) (j : Nat) (H' : Hp) : Prop := Kp S H H' ∧ EnvAt K H' d (bindE (ps.take j) (us.take j) ρ)
theorem enI_step {S : Addr → Prop} {H H1 : Hp} {d T : Addr} {ps : List (Int × Int)} {us : List Vl} {ρ : Env} {j : Nat} {p : Int × Int} {u : Vl} {x v : V} (iv : enI K S H d ps us ρ j H1) (nT : H1 T = none) (sd : S d) (hp : ps[j]? = some p) (hu : us[j]? = some u) (psm : Smv p.1) (dv : Dp K H1 v u.d) :
    ∃ kvs, DPut (upd H1 T (.tup [x, v])) d (.int p.1) v (upd (upd H1 T (.tup [x, v])) d (.dK kvs)) ∧ enI K S H d ps us ρ (j + 1) (upd (upd H1 T (.tup [x, v])) d (.dK kvs)) := by
  obtain ⟨k1, e1⟩ := iv
  have s1 := same_new (o := .tup [x, v]) nT
  obtain ⟨kvs, h1, h2, h3⟩ := (e1.sm s1).put psm (dp_sm s1 dv)
  refine ⟨_, h2, k1.trans ((Kp.of_same s1).trans (Kp.upd h1 trivial sd)), ?_⟩
  rw [bindE_snoc hp hu]
  exact h3
theorem kv_get {us : List Vl} {H : Hp} {xs : List V} {j : Nat} {v : V} (h : DpAll K H xs (us.map Vl.d)) (hv : xs[j]? = some v) : ∃ u, us[j]? = some u ∧ Dp K H v u.d := by
  obtain ⟨d, hd, dd⟩ := dpAll_getV h hv
  rw [List.getElem?_map] at hd
  cases hu : us[j]? with
  | none => rw [hu] at hd; cases hd
  | some u =>
    rw [hu] at hd
    cases hd
    exact ⟨u, rfl, dd⟩
/-- a frame laid on -/
theorem GoAt.push {H : Hp} {G : GA} {hs : List (Str × Nat × List Blk)} {frs : List Fr} {told : List Int} {m most : Nat} {e : Option EndS} {l d : Addr} {f : Fr} {gv : V} (h : GoAt K H G hs frs told m most e) (hl : H l = some (.lst [gv, .int (f.at_ : Nat), .ref d])) (dg : Dp K H gv (grD f.g)) (he : EnvAt K H d f.ρ) (nl : ¬ G.own l) (nd : ¬ G.own d) (ld : l ≠ d) (fm : frs.length ≤ m) :
    GoAt K (upd H G.fl (.lst (G.ft.reverse.map (fun p => V.ref p.1) ++ [.ref l]))) { G with ft := (l, d) :: G.ft } hs (f :: frs) told m most e ∧ Kp G.own H (upd H G.fl (.lst (G.ft.reverse.map (fun p => V.ref p.1) ++ [.ref l]))) := by
  have nd' := gnd_of h.nd
  have nd1 := h.nd
  obtain ⟨⟨ev0, o1, o2⟩, ⟨kvs, d1, d2⟩, tl, fl, fr, nd0, tb, fb, mb, m6⟩ := h
  have ofl : G.own G.fl := List.mem_cons_of_mem _ (List.mem_cons_of_mem _ (List.mem_cons_of_mem _ (List.mem_cons_self ..)))
  have k : Kp G.own H (upd H G.fl (.lst (G.ft.reverse.map (fun p => V.ref p.1) ++ [.ref l]))) := Kp.upd fl trivial ofl
  have lf : l ≠ G.fl := fun z => nl (z ▸ ofl)
  have df : d ≠ G.fl := fun z => nd (z ▸ ofl)
  obtain ⟨ek, ek1, _⟩ := id he.ex
  refine ⟨⟨⟨ev0, (upd_ne (nd'.o _ (.inr (.inr (.inl rfl)))).symm).trans o1, o2.kp k⟩, ⟨kvs, (upd_ne (nd'.h _ (.inr (.inl rfl))).symm).trans d1, d2.kp k⟩, (upd_ne (nd'.t _ (.inl rfl)).symm).trans tl, ?_, .cons ⟨⟨gv, (upd_ne lf).trans hl, dp_kp k _ _ (grD_nl _) dg⟩, he.kp k (upd_ne df)⟩ (paired_kp k fr fun a ha => upd_ne (nd'.f _ ha)), ?_, tb, by rw [List.length_cons]; omega, mb, m6⟩, k⟩
  · show upd H G.fl _ G.fl = some (.lst (((l, d) :: G.ft).reverse.map fun p => V.ref p.1))
    rw [upd_same, List.reverse_cons, List.map_append]
    rfl
  · have e1 : GA.all { G with ft := (l, d) :: G.ft } = [G.o, G.hd, G.tl, G.fl] ++ (l :: d :: adrs G.ft) := rfl
    have e0 : G.all = [G.o, G.hd, G.tl, G.fl] ++ adrs G.ft := rfl
    rw [e1, List.nodup_append]
    rw [e0, List.nodup_append] at nd1
    have nlm : ∀ x ∈ [G.o, G.hd, G.tl, G.fl], G.own x := fun x hx => by show x ∈ G.all; rw [e0]; exact List.mem_append_left _ hx
    have nrm : ∀ x ∈ adrs G.ft, G.own x := fun x hx => by show x ∈ G.all; rw [e0]; exact List.mem_append_right _ hx
    refine ⟨nd1.1, List.nodup_cons.mpr ⟨fun z => ?_, List.nodup_cons.mpr ⟨fun z => nd (nrm _ z), nd1.2.1⟩⟩, fun x hx y hy => ?_⟩
    · rcases List.mem_cons.mp z with z | z
      · exact ld z
      · exact nl (nrm _ z)
    · rcases List.mem_cons.mp hy with rfl | hy
      · exact fun z => nl (z ▸ nlm _ hx)
      rcases List.mem_cons.mp hy with rfl | hy
      · exact fun z => nd (z ▸ nlm _ hx)
      · exact nd1.2.2 x hx y hy
theorem three_le : (3 : Nat) ≤ sizeLine := by rw [sizeLine_eq]; decide
def sp_enter (K : PySem.W.Frag) : Sp := fun vs H Q _ => ∃ (G : GA) (hs : List (Str × Nat × List Blk)) (frs : List Fr) (told : List Int) (m most : Nat) (gv : V) (a : Addr) (g : List Blk) (b : Blk) (xs : List V) (us : List Vl), vs = [.ref G.o, gv, .ref a] ∧ GoAt K H G hs frs told m most none ∧ frs.length ≤ m ∧
  Dp K H gv (grD g) ∧ g[0]? = some b ∧ us.length = b.ps.length ∧ (∀ p ∈ b.ps, Smv p.1) ∧ SqA K H a xs ∧ DpAll K H xs (us.map Vl.d) ∧
  ∀ H' G', GoX H G H' G' → GoAt K H' G' hs (enterF g us :: frs) told m most none → Q .non H'
theorem sqA_nw {H : Hp} {a : Addr} {xs : List V} {d : Addr} {o : HO} (h : SqA K H a xs) (n : H d = none) : SqA K (upd H d o) a xs := h.imp (fun z => (same_new n).seq z) (fun z => sqT_sm (same_new n) z)
theorem ok_Going_enter (T : Top K mg) : FnOk P w K mg base CX0 1 (He.ma K (He.ga K "Going") "enter") T.fd_Going_enter ["self", "graph", "inputs"] (sp_enter K) := by
  refine T.F_Going_enter.ok sc_Going_enter (fun vs H Q E h => ?_) (fun cdv A0 outer s0 H vs Q E hr h => ?_)
  · obtain ⟨G, hs, frs, told, m, most, gv, a, g, b, xs, us, rfl, _⟩ := h
    rfl
  · obtain ⟨G, hs, frs, told, m, most, gv, a, g, b, xs, us, rfl, go, fm, dg, hb, lu, psm, ha, dx, q⟩ := h
    refine ⟨_, PSs.nox (pss_cons (ps_set (i := 3) sc_Going_enter.nd rfl (Or.inl rfl) pe_dnewK)
        (pss_cons (ps_for PassesOwn.never (by rfl) (ZipM.pi_zipM (by rfl) T.m_zip (pa_cons (pe_ix ix_tup (pe_ix ix_tup (pv 1) pe_int (fun _ _ => rfl)) pe_int (fun _ _ => rfl)) (pa_cons (pv 2) pa_nil))) (pg_tup (n := 2) (by rfl) (pgs_cons (pg_tup (n := 2) (by rfl) (pgs_cons (pg_name (i := 4) sc_Going_enter.nd rfl (Or.inl rfl)) (pgs_cons (pg_name (i := 5) sc_Going_enter.nd rfl (Or.inl rfl)) pgs_nil))) (pgs_cons (pg_name (i := 6) sc_Going_enter.nd rfl (Or.inl rfl)) pgs_nil))) (pss_one (ps_dput (hu_of hr) (pv 3) (pv 4) (pv 6) (by rfl))))
        (pss_one (ps_expr (pe_bm PySem.F.plainAttrs_list PySem.F.slot_list_append PySem.F.type_list_append mt_append (pe_fld (pv 0) rfl) (pa_cons (pe_lst (pa_cons (pv 1) (pa_cons pe_int (pa_cons (pv 3) pa_nil)))) pa_nil)))))), ?_⟩
    intro d nd
    have s1 := same_new (o := .dK []) nd
    have od := go.off nd
    obtain ⟨pg, xg, pb, pv, rv, ev, rfl, hxg, hxgi, hpb, _, dpv, _, _⟩ := blk_at dg hb
    obtain ⟨pp, xp, rfl, hpp, lxp, atp⟩ := params_at dpv
    have lx := dpAll_len dx
    rw [List.length_map] at lx
    have k0 : Kp (fun b => b = d) H (upd H d (.dK [])) := .of_same s1
    dsimp only
    refine seq_by (fun σ' H' => (∃ x4 x5 x6, σ' = [some (.ref G.o), some (.ref pg), some (.ref a), some (.ref d), x4, x5, x6]) ∧ enI K (fun b => b = d) H d b.ps us (fun _ => none) b.ps.length H') ?_ ?_
    rotate_left
    · intro N hN
      have turn : ∀ (i : Nat) (x y : V) (T' : Addr) (σ : L2.St) (H1 : Hp), xp[i]? = some x → xs[i]? = some y → ((∃ x4 x5 x6, σ = [some (.ref G.o), some (.ref pg), some (.ref a), some (.ref d), x4, x5, x6]) ∧ enI K (fun b => b = d) H d b.ps us (fun _ => none) i H1) → H1 T' = none → ∃ p q u kvs, b.ps[i]? = some p ∧ x = .ref q ∧ SqT K (upd H1 T' (.tup [x, y])) q [.int p.1, .int p.2] ∧ DPut (upd H1 T' (.tup [x, y])) d (.int p.1) y (upd (upd H1 T' (.tup [x, y])) d (.dK kvs)) ∧ enI K (fun b => b = d) H d b.ps us (fun _ => none) (i + 1) (upd (upd H1 T' (.tup [x, y])) d (.dK kvs)) ∧ us[i]? = some u := fun i x y T' σ H1 hx hy iv hT => by
        obtain ⟨p, q, hp, rfl, hq⟩ := atp i x hx
        obtain ⟨u, hu, du⟩ := kv_get dx hy
        obtain ⟨kvs, h1, h2⟩ := enI_step (x := .ref q) (v := y) iv.2 hT rfl hp hu (psm _ (List.mem_of_getElem? hp)) (dp_kp iv.2.1 _ _ u.nl du)
        exact ⟨p, q, u, kvs, hp, rfl, sqT_sm (same_new hT) (sqT_kp iv.2.1 hq), h1, h2, hu⟩
      have base : enI K (fun b => b = d) H d b.ps us (fun _ => none) 0 (upd H d (.dK [])) := ⟨k0, by rw [List.take_zero, List.take_zero]; exact EnvAt.new nd⟩
      refine ⟨_, rfl, pg, _, 0, _, rfl, rfl, sqT_sm s1 hxg, atI_nat (j := 0) hxgi, pb, _, 0, _, rfl, rfl, sqT_sm s1 hpb, atI_nat (j := 0) rfl, _, rfl, pp, a, xp, xs, rfl, ?_⟩
      rcases ha with ha | ha
      · refine .inl ⟨sqT_sm s1 hpp, (same_new nd).seq ha, ?_⟩
        refine ZipM.for_zipM (K := K) (xs := xp) (ys := xs) (by omega) (fun j σ' H' => (∃ x4 x5 x6, σ' = [some (.ref G.o), some (.ref pg), some (.ref a), some (.ref d), x4, x5, x6]) ∧ enI K (fun b => b = d) H d b.ps us (fun _ => none) j H') ⟨⟨_, _, _, rfl⟩, base⟩ ?_ ?_ ?_
        · intro j σ' H' iv
          refine ⟨sqT_kp iv.2.1 hpp, ?_⟩
          rcases ha with (h | ⟨ob, h⟩) | h
          · exact .inl (.inl (iv.2.1 _ _ h fun z => by rw [z, nd] at h; cases h))
          · exact .inl (.inr ⟨ob, iv.2.1 _ _ h fun z => by rw [z, nd] at h; cases h⟩)
          · exact .inr h
        · intro i x y T' σ' H1 hx hy iv hT
          obtain ⟨p, q', u, kvs, hp, rfl, hq, hput, iv2, hu⟩ := turn i x y T' σ' H1 hx hy iv hT
          obtain ⟨⟨x4, x5, x6, rfl⟩, iv1⟩ := iv
          exact ⟨T', _, rfl, .inl (.inl upd_same), rfl, _, _, rfl, q', _, rfl, hq, rfl, _, _, rfl, _, _, rfl, rfl, _, _, rfl, rfl, _, rfl, _, rfl, _, rfl, _, _, rfl, hput, ⟨_, _, _, rfl⟩, iv2⟩
        · intro σ' H1 iv
          rw [lxp] at iv
          exact hN _ _ iv
      · refine .inr ⟨sqT_sm s1 hpp, sqT_sm s1 ha, ?_⟩
        refine RZ.for_zipT (K := K) (xs := xp) (ys := xs) (by omega) (fun j σ' H' => (∃ x4 x5 x6, σ' = [some (.ref G.o), some (.ref pg), some (.ref a), some (.ref d), x4, x5, x6]) ∧ enI K (fun b => b = d) H d b.ps us (fun _ => none) j H') ⟨⟨_, _, _, rfl⟩, base⟩ ?_ ?_ ?_
        · intro j σ' H' iv
          exact ⟨sqT_kp iv.2.1 hpp, sqT_kp iv.2.1 ha⟩
        · intro i x y T' σ' H1 hx hy iv hT
          obtain ⟨p, q', u, kvs, hp, rfl, hq, hput, iv2, hu⟩ := turn i x y T' σ' H1 hx hy iv hT
          obtain ⟨⟨x4, x5, x6, rfl⟩, iv1⟩ := iv
          exact ⟨T', _, rfl, .inl (.inl upd_same), rfl, _, _, rfl, q', _, rfl, hq, rfl, _, _, rfl, _, _, rfl, rfl, _, _, rfl, rfl, _, rfl, _, rfl, _, rfl, _, _, rfl, hput, ⟨_, _, _, rfl⟩, iv2⟩
        · intro σ' H1 iv
          rw [lxp] at iv
          exact hN _ _ iv
    rintro σ' H1 ⟨⟨x4, x5, x6, rfl⟩, k1, e1⟩
    rw [List.take_length, ← lu, List.take_length] at e1
    have e1 : EnvAt K H1 d (enterF g us).ρ := by
      show EnvAt K H1 d (bindE (blkAt g 0).ps us fun _ => none)
      rw [blkAt_some hb]
      exact e1
    have go1 : GoAt K H1 G hs frs told m most none := go.by k1 fun c oc => by
      obtain ⟨o, eo, _⟩ := go.there oc
      rw [eo]
      exact k1 _ _ eo fun z => by rw [z, nd] at eo; cases eo
    obtain ⟨ev, eo, ee⟩ := go1.o
    obtain ⟨ek, ek1, _⟩ := id e1.ex
    refine ⟨_, rfl, G.o, _, G.dx, _, _, rfl, eo, T.cl_Going, T.no_Going_frames, goF_frames .., ?_⟩
    refine ⟨.inl ⟨rfl, _, .inl (.inl go1.fl)⟩, _, rfl, _, rfl, three_le, fun l nl => ?_⟩
    have s2 := same_new (o := .lst [.ref pg, .int 0, .ref d]) nl
    have go2 := go1.sm s2
    have ld : l ≠ d := fun z => by rw [z, ek1] at nl; cases nl
    have nl0 : H l = none := kp_none k1 nl ld
    obtain ⟨go3, k3⟩ := go2.push (l := l) (d := d) (f := enterF g us) (gv := .ref pg) upd_same (dp_kp (k1.trans (Kp.of_same s2)) _ _ (grD_nl _) dg) (e1.sm s2) (go1.off nl) od ld fm
    refine ⟨G.fl, _, _, rfl, rfl, go2.fl, ?_, q _ { G with ft := (l, d) :: G.ft } ⟨?_, fun c hc => ?_, rfl⟩ go3⟩
    · rw [List.length_map, List.length_reverse, Paired.length go.fr, sizeLine_eq]
      have := go.mb
      have := go.m6
      omega
    · refine Kp.trans (fun c o e _ => k1 c o e fun z => ?_) ((Kp.of_same s2).trans k3)
      rw [z, nd] at e
      cases e
    · have hc' : c ∈ [G.o, G.hd, G.tl, G.fl] ++ (l :: d :: adrs G.ft) := hc
      rcases List.mem_append.mp hc' with h | h
      · exact .inl (by show c ∈ [G.o, G.hd, G.tl, G.fl] ++ adrs G.ft; exact List.mem_append_left _ h)
      rcases List.mem_cons.mp h with rfl | h
      · exact .inr nl0
      rcases List.mem_cons.mp h with rfl | h
      · exact .inr nd
      · exact .inl (by show c ∈ [G.o, G.hd, G.tl, G.fl] ++ adrs G.ft; exact List.mem_append_right _ h)
end

section
variable {P : Program} {w : World} {K : PySem.W.Frag} {mg : Str → Option Value} {base : Heap}
theorem GoAt.top {H : Hp} {G : GA} {hs : List (Str × Nat × List Blk)} {f : Fr} {r : List Fr} {told : List Int} {m most : Nat} {e : Option EndS} (h : GoAt K H G hs (f :: r) told m most e) : ∃ p ps gv, G.ft = p :: ps ∧ H p.1 = some (.lst [gv, .int (f.at_ : Nat), .ref p.2]) ∧ Dp K H gv (grD f.g) ∧ EnvAt K H p.2 f.ρ ∧ H G.fl = some (.lst ((ps.reverse.map fun p => V.ref p.1) ++ [.ref p.1])) := by
  have fr := h.fr
  have fl := h.fl
  cases eG : G.ft with
  | nil => rw [eG] at fr; cases fr
  | cons p ps =>
    rw [eG] at fr fl
    cases fr with
    | cons h1 ht =>
      obtain ⟨gv, l1, l2⟩ := h1.l
      rw [List.reverse_cons, List.map_append] at fl
      exact ⟨p, ps, gv, rfl, l1, l2, h1.e, fl⟩
theorem GoAt.put {H : Hp} {G : GA} {hs : List (Str × Nat × List Blk)} {f : Fr} {r : List Fr} {told : List Int} {m most : Nat} {e : Option EndS} {p : Addr × Addr} {ps : List (Addr × Addr)} {a : Int} {v : V} {vl : Vl} (h : GoAt K H G hs (f :: r) told m most e) (eG : G.ft = p :: ps) (sm : Smv a) (dv : Dp K H v vl.d) :
    ∃ kvs, DPut H p.2 (.int a) v (upd H p.2 (.dK kvs)) ∧ GoAt K (upd H p.2 (.dK kvs)) G hs ({ f with ρ := f.ρ.put a vl } :: r) told m most e ∧ GoX H G (upd H p.2 (.dK kvs)) G := by
  obtain ⟨p', ps', gv, eG', l1, dg, he, _⟩ := h.top
  rw [eG] at eG'
  cases eG'
  obtain ⟨kvs, _, h2, h3⟩ := he.put sm dv
  obtain ⟨g1, g2⟩ := h.topd (f' := { f with ρ := f.ρ.put a vl }) eG rfl rfl h3
  exact ⟨_, h2, g1, g2⟩
theorem DpAll.kp {S : Addr → Prop} {H H' : Hp} (k : Kp S H H') : ∀ {xs : List V} {us : List Vl}, DpAll K H xs (us.map Vl.d) → DpAll K H' xs (us.map Vl.d)
  | _, [], h => by rw [dpAll_nil h]; exact .nil
  | _, u :: us, h => by
    obtain ⟨v, t, rfl, h1, h2⟩ := dpAll_cons h
    exact .cons (dp_kp k _ _ u.nl h1) (DpAll.kp k h2)
def sp_lead (K : PySem.W.Frag) : Sp := fun vs H Q _ => ∃ (G : GA) (hs : List (Str × Nat × List Blk)) (f : Fr) (r : List Fr) (told : List Int) (m most : Nat) (wv : V) (fa : Addr) (fvs : List V) (w : Way) (first : List Vl) (b' : Blk), vs = [.ref G.o, wv, .ref fa] ∧ GoAt K H G hs (f :: r) told m most none ∧ Dp K H wv w.d ∧ H fa = some (.lst fvs) ∧ ¬ G.own fa ∧
  DpAll K H fvs (first.map Vl.d) ∧ first.length ≤ 1 ∧ f.g[w.t]? = some b' ∧ (first ++ vls f.ρ w.as).length = b'.ps.length ∧ b'.ps.length ≤ 10 ∧ (∀ p ∈ b'.ps, Smv p.1) ∧ (∀ a ∈ w.as, ∃ v, f.ρ a = some v) ∧
  ∀ H', GoX H G H' G → GoAt K H' G hs (f.lead w first :: r) told m most none → Q .non H'
theorem ok_Going_lead (T : Top K mg) : FnOk P w K mg base CX0 1 (He.ma K (He.ga K "Going") "lead") T.fd_Going_lead ["self", "way", "first"] (sp_lead K) := by
  refine T.F_Going_lead.ok sc_Going_lead (fun vs H Q E h => ?_) (fun cdv A0 outer s0 H vs Q E hr h => ?_)
  · obtain ⟨G, hs, f, r, told, m, most, wv, fa, fvs, w, first, b', rfl, _⟩ := h
    rfl
  · obtain ⟨G, hs, f, r, told, m, most, wv, fa, fvs, w, first, b', rfl, go, dw, hfa, ofa, dfv, f1, hb, lb, l10, psm, has, q⟩ := h
    refine ⟨_, PSs.nox (pss_cons (ps_set (i := 3) sc_Going_lead.nd rfl (Or.inr rfl) (pe_ix ix_list (pe_fld (pv 0) rfl) (pe_un un_neg pe_int) (fun _ _ => rfl)))
        (pss_cons (ps_set (i := 4) sc_Going_lead.nd rfl (Or.inl rfl) (pe_op op_cat (pv 2) (pe_lc (own := [("value", 5)]) (by rfl) sc_Going_lead.nd (pi_tup (pe_ix ix_tup (pv 1) pe_int (fun _ _ => rfl))) (blkOk_by (own := [("value", 5)]) (N := N_Going_lead) (sc := defScope s_Going_lead) (by decide +kernel)) (fun _ _ _ _ _ => (pg_name (i := 5) sc_Going_lead.nd rfl (Or.inl rfl))) (fun _ _ _ _ _ => pts_nil) (fun _ _ _ _ _ => (pe_dget (hu_of hr) (pe_ix (ix_listK (K := K) rfl) (pv 3) pe_int (fun _ _ => rfl)) (pv 5) (fun _ _ => rfl))))))
        (pss_cons (ps_for PassesOwn.never (by rfl) (ZipM.pi_zipM (by rfl) T.m_zip (pa_cons (pe_ix ix_tup (pe_ix ix_tup (pe_ix ix_list (pv 3) pe_int (fun _ _ => rfl)) (pe_ix ix_tup (pv 1) pe_int (fun _ _ => rfl)) (fun _ _ => rfl)) pe_int (fun _ _ => rfl)) (pa_cons (pv 4) pa_nil))) (pg_tup (n := 2) (by rfl) (pgs_cons (pg_tup (n := 2) (by rfl) (pgs_cons (pg_name (i := 5) sc_Going_lead.nd rfl (Or.inl rfl)) (pgs_cons (pg_name (i := 6) sc_Going_lead.nd rfl (Or.inl rfl)) pgs_nil))) (pgs_cons (pg_name (i := 7) sc_Going_lead.nd rfl (Or.inl rfl)) pgs_nil))) (pss_one (ps_dput (hu_of hr) (pe_ix ix_list (pv 3) pe_int (fun _ _ => rfl)) (pv 5) (pv 7) (by rfl))))
        (pss_one (ps_asg (pe_ix ix_tup (pv 1) pe_int (fun _ _ => rfl)) (pg_sub (pv 3) pe_int set_list)))))), ?_⟩
    obtain ⟨pw, xw, rfl, hpw, dxw⟩ := dp_tup dw
    obtain ⟨v1, r1, rfl, d1, t1⟩ := dpAll_cons dxw
    obtain ⟨v2, r2, rfl, d2, t2⟩ := dpAll_cons t1
    rw [dp_int d1, dpAll_nil t2] at hpw
    obtain ⟨pa, xa, rfl, hpa, dxa⟩ := dp_tup d2
    obtain ⟨p, ps, gv, eG, l1, dg, he, fl⟩ := go.top
    obtain ⟨ev, eo, ee⟩ := go.o
    obtain ⟨pg, xg, pb, pv, rv, ev', rfl, hxg, hxgi, hpb, _, dpv, _, _⟩ := blk_at dg hb
    obtain ⟨pp, xp, rfl, hpp, lxp, atp⟩ := params_at dpv
    have las := dpAll_len dxa
    rw [List.length_map] at las
    have lv : (vls f.ρ w.as).length = w.as.length := by unfold vls; rw [List.length_map]
    rw [List.length_append, lv] at lb
    refine ⟨_, rfl, G.o, _, G.dx, _, _, rfl, eo, T.cl_Going, T.no_Going_frames, goF_frames .., 1, rfl, G.fl, _, -1, _, rfl, rfl, .of fl, atI_last _ _, ?_⟩
    refine ⟨_, rfl, _, rfl, pw, _, 1, _, rfl, rfl, hpw, atI_nat (j := 1) rfl, pa, rfl, ⟨_, hpa⟩, fun D nD => ?_⟩
    have gxa : ∀ {i : Nat} {y : V}, xa[i]? = some y → ∃ a, w.as[i]? = some a ∧ y = .int a := fun {i y} hy => by
      obtain ⟨d, hd, dy⟩ := dpAll_getV dxa hy
      rw [List.getElem?_map] at hd
      cases hq : w.as[i]? with
      | none => rw [hq] at hd; cases hd
      | some a =>
        rw [hq] at hd
        cases hd
        exact ⟨a, rfl, dp_int dy⟩
    refine lc_tup (K := K) (a := pa) (xs := xa) (fun i H' => Same H H' ∧ ∃ acc, H' D = some (.lst acc) ∧ DpAll K H' acc ((vls f.ρ (w.as.take i)).map Vl.d)) ?_ ?_ ?_ ?_
    · exact ⟨same_new nD, [], upd_same, .nil⟩
    · rintro i H' _ ⟨s', _⟩
      exact sqT_sm s' hpa
    · rintro i y H' hy ⟨s', acc, eD, dA⟩
      obtain ⟨a, ha, rfl⟩ := gxa hy
      have hi := (List.getElem?_eq_some_iff.mp ha).1
      obtain ⟨vl, ea⟩ := has a (List.mem_of_getElem? ha)
      obtain ⟨v, dg', dv⟩ := (he.sm s').get ea
      have la := dpAll_len dA
      rw [List.length_map] at la
      have lv2 : (vls f.ρ (w.as.take i)).length = i := by unfold vls; rw [List.length_map, List.length_take]; omega
      have tk : (vls f.ρ (w.as.take (i + 1))).map Vl.d = (vls f.ρ (w.as.take i)).map Vl.d ++ [vl.d] := by
        unfold vls
        rw [List.take_succ, ha, List.map_append, List.map_append]
        show _ ++ [((f.ρ a).getD (.n 0)).d] = _
        rw [ea]
        rfl
      refine ⟨rfl, _, rfl, p.1, _, 2, _, rfl, rfl, .of (s' _ _ l1), atI_nat (j := 2) rfl, _, rfl, p.2, v, rfl, dg', acc, eD, by rw [sizeLine_eq]; omega, same_upd s' nD, _, upd_same, ?_⟩
      rw [tk]
      refine dpAll_mine (dpAll_app dA (.cons dv .nil)) (noLs_all fun z hz => ?_) eD trivial
      rcases List.mem_append.mp hz with hz | hz
      · obtain ⟨u, _, rfl⟩ := List.mem_map.mp hz
        exact u.nl
      · rw [List.mem_singleton.mp hz]
        exact vl.nl
    · rintro H1 ⟨s1, acc, eD, dA⟩
      rw [las, List.take_length] at dA
      have lA := dpAll_len dA
      have lF := dpAll_len dfv
      rw [List.length_map] at lA lF
      refine ⟨fa, D, fvs, acc, rfl, rfl, s1 _ _ hfa, eD, by rw [sizeLine_eq]; omega, fun gl ngl => ?_⟩
      have s2 := same_new (o := .lst (fvs ++ acc)) ngl
      have s02 : Same H _ := s1.trans s2
      have go2 := go.sm s02
      have dgl : DpAll K (upd H1 gl (.lst (fvs ++ acc))) (fvs ++ acc) ((first ++ vls f.ρ w.as).map Vl.d) := by
        rw [List.map_append]
        exact dpAll_app (DpAll.kp (Kp.of_same (S := fun _ => False) s02) dfv) (DpAll.kp (Kp.of_same (S := fun _ => False) s2) dA)
      have ogl : ¬ G.own gl := fun z => by
        obtain ⟨o, e0, _⟩ := (go.sm s1).there z
        rw [ngl] at e0
        cases e0
      have hgl : upd H1 gl (.lst (fvs ++ acc)) gl = some (.lst (fvs ++ acc)) := upd_same
      generalize fvs ++ acc = gvs at dgl hgl s02 go2 s2 ogl ⊢
      generalize upd H1 gl (.lst gvs) = H2 at dgl hgl s02 go2 ⊢
      dsimp only
      have lg := dpAll_len dgl
      rw [List.length_map, List.length_append, lv, lb] at lg
      refine seq_by (fun σ' H' => (∃ x5 x6 x7, σ' = [some (.ref G.o), some (.ref pw), some (.ref fa), some (.ref p.1), some (.ref gl), x5, x6, x7]) ∧ GoX H2 G H' G ∧ GoAt K H' G hs ({ f with ρ := bindE b'.ps (first ++ vls f.ρ w.as) f.ρ } :: r) told m most none) ?_ ?_
      rotate_left
      · intro N hN
        refine ⟨_, rfl, p.1, _, 0, _, rfl, rfl, .of (s02 _ _ l1), atI_nat (j := 0) rfl, _, rfl, pw, _, 0, _, rfl, rfl, sqT_sm s02 hpw, atI_nat (j := 0) rfl, pg, _, _, _, rfl, rfl, sqT_sm s02 hxg, atI_nat hxgi, pb, _, 0, _, rfl, rfl, sqT_sm s02 hpb, atI_nat (j := 0) rfl, _, rfl, pp, gl, xp, gvs, rfl, ?_⟩
        refine .inl ⟨sqT_sm s02 hpp, .of hgl, ?_⟩
        refine ZipM.for_zipM (K := K) (xs := xp) (ys := gvs) (by omega) (fun j σ' H' => (∃ x5 x6 x7, σ' = [some (.ref G.o), some (.ref pw), some (.ref fa), some (.ref p.1), some (.ref gl), x5, x6, x7]) ∧ GoX H2 G H' G ∧ GoAt K H' G hs ({ f with ρ := bindE (b'.ps.take j) ((first ++ vls f.ρ w.as).take j) f.ρ } :: r) told m most none) ⟨⟨_, _, _, rfl⟩, .refl, by rw [List.take_zero, List.take_zero]; exact go2⟩ ?_ ?_ ?_
        · rintro j σ' H' ⟨_, x', g'⟩
          exact ⟨sqT_kp x'.k (sqT_sm s02 hpp), .of (x'.k _ _ hgl fun z => absurd z ogl)⟩
        · rintro i x y T' σ' H' hx hy ⟨⟨x5, x6, x7, rfl⟩, x', g'⟩ hT
          have s1' := same_new (o := .tup [x, y]) hT
          obtain ⟨pr, q', hp, rfl, hq⟩ := atp i x hx
          obtain ⟨u, hu, du⟩ := kv_get dgl hy
          have g1 := g'.sm s1'
          obtain ⟨p2, ps2, gv2, eG2, l12, _, _, _⟩ := g1.top
          rw [eG] at eG2
          cases eG2
          obtain ⟨kvs, hput, g2, x2⟩ := g1.put eG (psm _ (List.mem_of_getElem? hp)) (dp_sm s1' (dp_kp x'.k _ _ u.nl du))
          refine ⟨T', _, rfl, .inl (.inl upd_same), rfl, _, _, rfl, q', _, rfl, sqT_sm s1' (sqT_kp x'.k (sqT_sm s02 hq)), rfl, _, _, rfl, _, _, rfl, rfl, _, _, rfl, rfl, _, rfl, _, rfl, p.1, _, 2, _, rfl, rfl, .of l12, atI_nat (j := 2) rfl, _, rfl, _, _, rfl, hput, ⟨_, _, _, rfl⟩, (x'.trans (GoX.same s1')).trans x2, ?_⟩
          rw [bindE_snoc hp hu]
          exact g2
        · rintro σ' H' ⟨hσ, x', g'⟩
          rw [lxp, List.take_length, ← lb, ← lv, ← List.length_append, List.take_length] at g'
          exact hN _ _ ⟨hσ, x', g'⟩
      · rintro σ' H' ⟨⟨x5, x6, x7, rfl⟩, x', g'⟩
        obtain ⟨p2, ps2, gv2, eG2, l12, _, _, _⟩ := g'.top
        rw [eG] at eG2
        cases eG2
        obtain ⟨g3, x3⟩ := g'.topl (t := w.t) eG l12
        have el : f.lead w first = { ({ f with ρ := bindE b'.ps (first ++ vls f.ρ w.as) f.ρ } : Fr) with at_ := w.t, pc := 0 } := by
          show (⟨f.g, w.t, 0, bindE (blkAt f.g w.t).ps (first ++ vls f.ρ w.as) f.ρ⟩ : Fr) = _
          rw [blkAt_some hb]
        refine ⟨_, rfl, pw, _, 0, _, rfl, rfl, sqT_kp x'.k (sqT_sm s02 hpw), atI_nat (j := 0) rfl, _, rfl, p.1, _, 1, 1, rfl, rfl, l12, rfl, q _ (((GoX.same s02).trans x').trans x3) ?_⟩
        rw [el]
        exact g3
end

section
variable {P : Program} {w : World} {K : PySem.W.Frag} {mg : Str → Option Value} {base : Heap}
theorem goF_nom {hd : Addr} {mo ma : Int} {tl fl : Addr} {ev : V} {s : Str} (h : ∀ x ∈ (["helpers", "most", "many", "told", "frames", "ended"] : List Str), s ≠ x) : (goF hd mo ma tl fl ev).lookup s = none := by
  rw [List.lookup_eq_none_iff]
  intro p hp
  have : p.1 ∈ (goF hd mo ma tl fl ev).map (·.1) := List.mem_map.mpr ⟨p, hp, rfl⟩
  exact bne_iff_ne.mpr (h _ this)
theorem no_lead : ∀ x ∈ (["helpers", "most", "many", "told", "frames", "ended"] : List Str), ("lead" : Str) ≠ x := by decide +kernel
theorem FrIn.ld {hl : List (Str × Nat)} {f : Fr} {es : Nat → List (Int × Int)} {sz : Int → Int} {b : Blk} {sc : List (Int × Int)} {w : Way} {fz : List Int} {first : List Vl} (h : FrIn hl f es sz b sc) (hp : b.rs.length ≤ f.pc) (hw : WayR es f.g sc fz w) (hf : VlsOk fz first) :
    (∃ b', f.g[w.t]? = some b' ∧ (first ++ vls f.ρ w.as).length = b'.ps.length ∧ b'.ps.length ≤ 10 ∧ ∀ p ∈ b'.ps, Smv p.1) ∧ ∀ a ∈ w.as, ∃ v, f.ρ a = some v := by
  obtain ⟨_, ⟨b', h1, h2⟩, h3⟩ := h.lead hp hw hf
  refine ⟨⟨b', h1, by rw [h2.len, List.length_map], h.pl b' (List.mem_of_getElem? h1), fun p hp => h.sm _ ?_⟩, h3⟩
  exact List.mem_flatMap.mpr ⟨b', List.mem_of_getElem? h1, List.mem_append_left _ (List.mem_map.mpr ⟨p, hp, rfl⟩)⟩
theorem GoAt.pop {H : Hp} {G : GA} {hs : List (Str × Nat × List Blk)} {f : Fr} {r : List Fr} {told : List Int} {m most : Nat} {e : Option EndS} {p : Addr × Addr} {ps : List (Addr × Addr)} (h : GoAt K H G hs (f :: r) told m most e) (eG : G.ft = p :: ps) :
    GoAt K (upd H G.fl (.lst (ps.reverse.map fun p => V.ref p.1))) { G with ft := ps } hs r told m most e ∧ GoX H G (upd H G.fl (.lst (ps.reverse.map fun p => V.ref p.1))) { G with ft := ps } := by
  have nd' := gnd_of h.nd
  have nd1 := h.nd
  obtain ⟨⟨ev0, o1, o2⟩, ⟨kvs, d1, d2⟩, tl, fl, fr, nd0, tb, fb, mb, m6⟩ := h
  have ofl : G.own G.fl := List.mem_cons_of_mem _ (List.mem_cons_of_mem _ (List.mem_cons_of_mem _ (List.mem_cons_self ..)))
  have k : Kp G.own H (upd H G.fl (.lst (ps.reverse.map fun p => V.ref p.1))) := Kp.upd fl trivial ofl
  rw [eG] at fr
  have ea : adrs G.ft = p.1 :: p.2 :: adrs ps := by rw [eG]; rfl
  have e0 : G.all = [G.o, G.hd, G.tl, G.fl] ++ (p.1 :: p.2 :: adrs ps) := by show [G.o, G.hd, G.tl, G.fl] ++ adrs G.ft = _; rw [ea]
  have e1 : GA.all { G with ft := ps } = [G.o, G.hd, G.tl, G.fl] ++ adrs ps := rfl
  have sub : ∀ a ∈ adrs ps, a ∈ adrs G.ft := fun a ha => by rw [ea]; exact List.mem_cons_of_mem _ (List.mem_cons_of_mem _ ha)
  cases fr with
  | cons h1 ht =>
    refine ⟨⟨⟨ev0, (upd_ne (nd'.o _ (.inr (.inr (.inl rfl)))).symm).trans o1, o2.kp k⟩, ⟨kvs, (upd_ne (nd'.h _ (.inr (.inl rfl))).symm).trans d1, d2.kp k⟩, (upd_ne (nd'.t _ (.inl rfl)).symm).trans tl, upd_same, paired_kp k ht fun a ha => upd_ne (nd'.f _ (sub a ha)), ?_, tb, by rw [List.length_cons] at fb; omega, mb, m6⟩, k, fun b hb => .inl ?_, rfl⟩
    · rw [e1, List.nodup_append]
      rw [e0, List.nodup_append] at nd1
      exact ⟨nd1.1, (List.nodup_cons.mp (List.nodup_cons.mp nd1.2.1).2).2, fun x hx y hy => nd1.2.2 x hx y (List.mem_cons_of_mem _ (List.mem_cons_of_mem _ hy))⟩
    · show b ∈ G.all
      rw [e0]
      have hb' : b ∈ [G.o, G.hd, G.tl, G.fl] ++ adrs ps := hb
      rcases List.mem_append.mp hb' with h | h
      · exact List.mem_append_left _ h
      · exact List.mem_append_right _ (List.mem_cons_of_mem _ (List.mem_cons_of_mem _ h))
def sp_back (K : PySem.W.Frag) : Sp := fun vs H Q _ => ∃ (G : GA) (hs : List (Str × Nat × List Blk)) (f : Fr) (r : List Fr) (told : List Int) (m most : Nat) (n : Int), vs = [.ref G.o, .int n] ∧ GoAt K H G hs (f :: r) told m most none ∧ StOk (hlOf hs) (f :: r) ∧ In32 n ∧
  ∀ H' G', GoX H G H' G' → GoAt K H' G' hs (backF n r).1 told m most (backF n r).2 → Q .non H'
theorem ok_Going_back (T : Top K mg) : FnOk P w K mg base CX0 2 (He.ma K (He.ga K "Going") "back") T.fd_Going_back ["self", "number"] (sp_back K) := by
  have G_Going_lead := ok_Going_lead (P := P) (w := w) (base := base) T
  refine T.F_Going_back.ok sc_Going_back (fun vs H Q E h => ?_) (fun cdv A0 outer s0 H vs Q E hr h => ?_)
  · obtain ⟨G, hs, f, r, told, m, most, n, rfl, _⟩ := h
    rfl
  · obtain ⟨G, hs, f, r, told, m, most, n, rfl, go, st, n32, q⟩ := h
    refine ⟨_, PSs.nox (pss_cons (ps_expr (pe_bm0 PySem.F.plainAttrs_list PySem.F.slot_list_pop PySem.F.type_list_pop mt_pop (pe_fld (pv 0) rfl)))
        (pss_one (ps_if (pt_cmpR (LEq.op_eqNil hr.units) (pe_fld (pv 0) rfl) (pe_lst pa_nil) (nomark _)) (pss_one (ps_fld (pv 0) (pe_tup (pa_cons pe_str (pa_cons (pv 1) pa_nil))) rfl)) (pss_cons (ps_set (i := 2) sc_Going_back.nd rfl (Or.inl rfl) (pe_ix ix_list (pe_fld (pv 0) rfl) (pe_un un_neg pe_int) (fun _ _ => rfl)))
        (pss_one (ps_expr (pe_meth (pv 0) T.cl_Going T.me_Going_lead G_Going_lead (hr.mono (by omega)) T.b_Going_lead .nil pass0 (pa_cons (pe_ix ix_tup (pe_ix ix_tup (pe_ix ix_tup (pe_ix ix_list (pv 2) pe_int (fun _ _ => rfl)) (pe_ix ix_list (pv 2) pe_int (fun _ _ => rfl)) (fun _ _ => rfl)) pe_int (fun _ _ => rfl)) pe_int (fun _ _ => rfl)) (pa_cons (pe_lst (pa_cons (pv 1) pa_nil)) pa_nil))))))))), ?_⟩
    obtain ⟨p, ps, gv, eG, l1, dg, he, fl⟩ := go.top
    obtain ⟨ev, eo, ee⟩ := go.o
    have ee' : ev = .non := ee
    subst ee'
    refine ⟨_, rfl, G.o, _, G.dx, _, _, rfl, eo, T.cl_Going, T.no_Going_frames, goF_frames .., .inl ⟨rfl, _, .of fl⟩, G.fl, _, .ref p.1, rfl, rfl, fl, by simp, ?_⟩
    rw [List.dropLast_concat]
    obtain ⟨g1, x1⟩ := go.pop eG
    obtain ⟨ev, eo1, ee⟩ := g1.o
    have ee' : ev = .non := ee
    subst ee'
    refine ⟨_, rfl, G.o, _, G.dx, _, _, rfl, eo1, T.cl_Going, T.no_Going_frames, goF_frames .., Nat.zero_le _, fun e0 ne0 => ?_⟩
    have s2 := same_new (o := .lst []) ne0
    have g2 := g1.sm s2
    have lps : ps.length = r.length := Paired.length g1.fr
    refine ⟨_, _, _, rfl, rfl, .of (s2 _ _ g1.fl), .of upd_same, _, rfl, ite2 (fun c => ?_) (fun c => ?_)⟩
    · have r0 : r = [] := by
        have c' := of_decide_eq_true c
        rw [List.length_map, List.length_reverse, lps] at c'
        exact List.length_eq_zero_iff.mp c'
      subst r0
      refine ⟨_, rfl, two_le, fun t nt => ?_⟩
      have s3 := same_new (o := .tup [V.str "gave", V.int n]) nt
      have g3 := g2.sm s3
      refine ⟨_, rfl, G.o, _, G.dx, _, rfl, s3 _ _ (s2 _ _ eo1), T.cl_Going, T.no_Going_ended, by show 6 < 1000; decide, ?_⟩
      rw [goF_put_ended]
      obtain ⟨g4, x4⟩ := g3.obj (ev := .ref t) (e' := some (.gave n)) (m' := m) (.tup (.inl (.of upd_same)) (.cons (.str _) (.cons (.int _) .nil))) (Nat.le_refl _) go.mb
      exact q _ _ (x1.trans (((GoX.same s2).trans (GoX.same s3)).trans x4)) g4
    · have r0 : r ≠ [] := fun z => c (by
        have : ps = [] := List.length_eq_zero_iff.mp (by rw [lps, z]; rfl)
        rw [this]
        rfl)
      obtain ⟨f2, r2, rfl⟩ := List.exists_cons_of_ne_nil r0
      obtain ⟨p2, ps2, gv2, eG2, l2, dg2, he2, fl2⟩ := g2.top
      obtain ⟨hp2, hn, as, w, e2⟩ := st.ca f2 (List.mem_cons_self ..)
      obtain ⟨es2, sz2, b2, sc2, fi2⟩ := st.ok f2 (List.mem_cons_of_mem _ (List.mem_cons_self ..))
      have er2 := fi2.er
      rw [fi2.blk] at hp2 e2
      rw [e2] at er2
      obtain ⟨pg, xg, pb, pv, rv, ev', rfl, hxg, hxgi, hpb, _, _, _, den⟩ := blk_at dg2 fi2.hb
      rw [e2] at den
      obtain ⟨pe, xe, rfl, hpe, dxe⟩ := dp_tup den
      obtain ⟨v1, r1, rfl, d1, t1⟩ := dpAll_cons dxe
      obtain ⟨v2, r2', rfl, d2, t2⟩ := dpAll_cons t1
      obtain ⟨v3, r3, rfl, d3, t3⟩ := dpAll_cons t2
      obtain ⟨v4, r4, rfl, d4, t4⟩ := dpAll_cons t3
      have e0' := dpAll_nil t4
      subst e0'
      obtain ⟨⟨b', hb', lb', l10, psm⟩, has⟩ := fi2.ld (w := w) (fz := [0]) (first := [.n n]) hp2 er2.2.2 (.cons (v := .n n) ⟨rfl, n32⟩ .nil)
      refine ⟨_, rfl, G.o, _, G.dx, _, _, rfl, s2 _ _ eo1, T.cl_Going, T.no_Going_frames, goF_frames .., 1, rfl, G.fl, _, -1, _, rfl, rfl, .of fl2, atI_last _ _, ?_⟩
      refine ⟨_, rfl, G.o, G.dx, _, rfl, s2 _ _ eo1, goF_nom no_lead, _, rfl, p2.1, _, 0, _, rfl, rfl, .of l2, atI_nat (j := 0) rfl, _, rfl, p2.1, _, 1, _, rfl, rfl, .of l2, atI_nat (j := 1) rfl, pg, _, _, _, rfl, rfl, hxg, atI_nat hxgi, pb, _, 2, _, rfl, rfl, hpb, atI_nat (j := 2) rfl, pe, _, 3, _, rfl, rfl, hpe, atI_nat (j := 3) rfl, _, rfl, one_le, fun nl nnl => ?_⟩
      have s3 := same_new (o := .lst [V.int n]) nnl
      refine ⟨{ G with ft := ps }, hs, f2, r2, told, m, most, v4, nl, _, w, [.n n], b', rfl, g2.sm s3, dp_sm s3 d4, upd_same, g2.off nnl, .cons (.int _) .nil, Nat.le_refl _, hb', lb', l10, psm, has, fun H' x' g' => ?_⟩
      refine q _ _ (x1.trans (((GoX.same s2).trans (GoX.same s3)).trans x')) ?_
      show GoAt K H' { G with ft := ps } hs (f2.lead f2.blk.en.cway [.n n] :: r2) told m most none
      rw [fi2.blk, e2]
      exact g'
end

section
variable {P : Program} {w : World} {K : PySem.W.Frag} {mg : Str → Option Value} {base : Heap}
theorem paired_top {α β : Type} {F : α → β → Prop} {l : List α} {f f' : β} {r : List β} (h : Paired F l (f :: r)) (k : ∀ p, F p f → F p f') : Paired F l (f' :: r) := by
  cases h with
  | cons h1 ht => exact .cons (k _ h1) ht
theorem GoAt.pc {H : Hp} {G : GA} {hs : List (Str × Nat × List Blk)} {f f' : Fr} {r : List Fr} {told : List Int} {m most : Nat} {e : Option EndS} (h : GoAt K H G hs (f :: r) told m most e) (hg : f'.g = f.g) (ha : f'.at_ = f.at_) (hρ : f'.ρ = f.ρ) : GoAt K H G hs (f' :: r) told m most e :=
  ⟨h.o, h.hd, h.tl, h.fl, paired_top h.fr fun p q => ⟨by rw [hg, ha]; exact q.l, by rw [hρ]; exact q.e⟩, h.nd, h.tb, h.fb, h.mb, h.m6⟩
/-- how it ends, and when -/
def FinG (hs : List (Str × Nat × List Blk)) (c0 : MS) (most m : Nat) (e : EndS) : Prop := ((mics hs m c0).end_ = some e ∧ ∃ k, m = k + 1 ∧ (mics hs k c0).end_ = none) ∨ (e = .on ∧ m = most ∧ (mics hs m c0).end_ = none)
theorem no_step : ∀ x ∈ (["helpers", "most", "many", "told", "frames", "ended"] : List Str), ("step" : Str) ≠ x := by decide +kernel
theorem lk_play (rv : V) : List.lookup ("play" : Str) [(("row" : Str), rv)] = none := by
  have e : (("play" : Str) == "row") = false := by decide +kernel
  simp only [List.lookup, e]
def sp_do_rows (K : PySem.W.Frag) : Sp := fun vs H Q _ => ∃ (G : GA) (hs : List (Str × Nat × List Blk)) (f : Fr) (r : List Fr) (told : List Int) (m most : Nat) (p : Addr × Addr) (ps : List (Addr × Addr)) (bv : V) (b : Blk) (c0 : MS), vs = [.ref G.o, bv, .ref p.2] ∧ G.ft = p :: ps ∧ Dp K H bv (blkD b) ∧ f.blk = b ∧ f.pc = 0 ∧ mics hs m c0 = ⟨f :: r, told, none⟩ ∧
  GoAt K H G hs (f :: r) told m most none ∧ WR hs ∧ StOk (hlOf hs) (f :: r) ∧
  (∀ H' f' told' m', GoX H G H' G → f'.g = f.g → f'.at_ = f.at_ → f'.pc = b.rs.length → mics hs m' c0 = ⟨f' :: r, told', none⟩ → m ≤ m' → GoAt K H' G hs (f' :: r) told' m' most none → StOk (hlOf hs) (f' :: r) → Q .non H') ∧
  ∀ H' frs' told' m' e, GoX H G H' G → FinG hs c0 most m' e → (mics hs m' c0).told = told' → GoAt K H' G hs frs' told' m' most (some e) → Q .non H'
def drI (K : PySem.W.Frag) (H : Hp) (G : GA) (hs : List (Str × Nat × List Blk)) (f : Fr) (r : List Fr) (m most : Nat) (c0 : MS) (j : Nat) (H' : Hp) : Prop :=
  GoX H G H' G ∧ ∃ f' told', f'.g = f.g ∧ f'.at_ = f.at_ ∧ f'.pc = j ∧ mics hs (m + j) c0 = ⟨f' :: r, told', none⟩ ∧ GoAt K H' G hs (f' :: r) told' (m + j) most none ∧ StOk (hlOf hs) (f' :: r)
theorem ok_Going_do_rows (T : Top K mg) : FnOk P w K mg base CX0 5 (He.ma K (He.ga K "Going") "do_rows") T.fd_Going_do_rows ["self", "block", "values"] (sp_do_rows K) := by
  have G_Going_step := ok_Going_step (P := P) (w := w) (base := base) T
  have G_deed_of := ok_deed_of (P := P) (w := w) (base := base) T
  refine T.F_Going_do_rows.ok sc_Going_do_rows (fun vs H Q E h => ?_) (fun cdv A0 outer s0 H vs Q E hr h => ?_)
  · obtain ⟨G, hs, f, r, told, m, most, p, ps, bv, b, c0, rfl, _⟩ := h
    rfl
  · obtain ⟨G, hs, f, r, told, m, most, p, ps, bv, b, c0, rfl, eG, db, eb, pc0, em, go, W, st, qa, qb⟩ := h
    refine ⟨_, PSs.nox (pss_one (ps_for PassesOwn.never (by rfl) (pi_tup (pe_ix ix_tup (pv 1) pe_int (fun _ _ => rfl))) (pg_name (i := 3) sc_Going_do_rows.nd rfl (Or.inl rfl)) (pss_cons (ps_if (pt_not (pt_truth (pe_meth0 (pv 0) T.cl_Going T.me_Going_step G_Going_step (hr.mono (by omega)) T.b_Going_step .nil pass0) (by intro _; rfl))) (pss_one ps_retN) pss_nil)
        (pss_cons (ps_asg (pe_methP1 (C := PlC K) (fun c sp h => play_methd T rfl rfl rfl rfl rfl (hr.mono (by omega)) h) (pe_call G_deed_of (hr.mono (by omega)) (by rfl) T.g_deed_of T.F_deed_of.kp T.b_deed_of .nil pass0 (pa_cons (pv 3) pa_nil)) (pv 2)) (pg_tup (n := 2) (by rfl) (pgs_cons (pg_name (i := 4) sc_Going_do_rows.nd rfl (Or.inl rfl)) (pgs_cons (pg_name (i := 5) sc_Going_do_rows.nd rfl (Or.inl rfl)) pgs_nil))))
        (pss_cons (ps_if (pt_cmpR op_notN (pv 5) pe_non (nomark _)) (pss_cons (ps_fld (pv 0) (pe_tup (pa_cons pe_str (pa_cons (pv 5) pa_nil))) rfl)
        (pss_one ps_retN)) pss_nil)
        (pss_one (ps_if (pt_cmpR op_ge (pe_ix ix_tup (pv 3) pe_int (fun _ _ => rfl)) pe_int (nomark _)) (pss_one (ps_dput (hu_of hr) (pv 2) (pe_ix ix_tup (pv 3) pe_int (fun _ _ => rfl)) (pv 4) (by rfl))) (pss_one (ps_expr (pe_bm PySem.F.plainAttrs_list PySem.F.slot_list_append PySem.F.type_list_append mt_append (pe_fld (pv 0) rfl) (pa_cons (pv 4) pa_nil))))))))))), ?_⟩
    obtain ⟨pb, xb, rfl, hpb, dxb⟩ := dp_tup db
    obtain ⟨v1, r1, rfl, d1, t1⟩ := dpAll_cons dxb
    obtain ⟨v2, r2, rfl, d2, t2⟩ := dpAll_cons t1
    obtain ⟨v3, r3, rfl, d3, t3⟩ := dpAll_cons t2
    have e0 := dpAll_nil t3
    subst e0
    obtain ⟨pr, xr, rfl, hpr, dxr⟩ := dp_tup d2
    have lr := dpAll_len dxr
    rw [List.length_map] at lr
    refine ⟨_, rfl, pb, _, 1, _, rfl, rfl, hpb, atI_nat (j := 1) rfl, pr, rfl, ⟨_, hpr⟩, ?_⟩
    refine for_tup (K := K) (a := pr) (xs := xr) (fun j σ' H' => (∃ x3 x4 x5, σ' = [some (.ref G.o), some (.ref pb), some (.ref p.2), x3, x4, x5]) ∧ drI K H G hs f r m most c0 j H') ⟨⟨_, _, _, rfl⟩, .refl, f, told, rfl, rfl, pc0, em, go, st⟩ ?_ ?_ ?_
    · rintro j σ' H' _ ⟨_, x', _⟩
      exact sqT_kp x'.k hpr
    · rintro j y σ' H1 hy ⟨⟨x3, x4, x5, rfl⟩, x1, f', told', hg, ha, hpc, em', go1, st1⟩
      obtain ⟨rd, hrd, dy⟩ := dpAll_getV dxr hy
      rw [List.getElem?_map] at hrd
      cases hrw : b.rs[j]? with
      | none => rw [hrw] at hrd; cases hrd
      | some row =>
        rw [hrw] at hrd
        cases hrd
        have dy1 := dp_kp x1.k _ _ (GRow.nl row) dy
        obtain ⟨ev, eo, ee⟩ := go1.o
        dsimp only [gName, List.set]
        refine ⟨_, rfl, G.o, G.dx, _, rfl, eo, goF_nom no_step, G, hs, f' :: r, told', m + j, most, rfl, go1, fun c H2 x2 g2 => ?_, fun c H2 x2 g2 => ?_⟩
        · refine ⟨false, rfl, ?_⟩
          have hm : m + j = most := Nat.le_antisymm go1.mb c
          exact qb H2 (f' :: r) told' (m + j) .on (x1.trans x2) (.inr ⟨rfl, hm, by rw [em']⟩) (by rw [em']) g2
        · refine ⟨true, rfl, ?_⟩
          have dy2 := dp_kp x2.k _ _ (GRow.nl row) dy1
          obtain ⟨es, sz, bb, sc, fi⟩ := st1.ok f' (List.mem_cons_self ..)
          have ebb : bb = b := by
            rw [← fi.blk, ← eb]
            unfold Fr.blk
            rw [hg, ha]
          subst ebb
          obtain ⟨hw, pok, hpl⟩ := fi.row (row := row) (by rw [hpc]; exact hrw)
          obtain ⟨p2, ps2, gv2, eG2, l12, _, he2, _⟩ := g2.top
          rw [eG] at eG2
          cases eG2
          obtain ⟨ev2, eo2, ee2⟩ := g2.o
          have ee2' : ev2 = .non := ee2
          subst ee2'
          have em2 : mics hs (m + j + 1) c0 = micRow f' r told' row := by
            show mic hs (mics hs (m + j) c0) = _
            rw [em']
            exact mic_row (by rw [fi.blk, hpc]; exact hrw)
          have st2 : StOk (hlOf hs) (micRow f' r told' row).frs := st1.row (by rw [fi.blk, hpc]; exact hrw)
          refine ⟨_, rfl, y, row, rfl, dy2, fun H3 x dx s3 ex => ?_⟩
          refine ⟨x, dx, _, _, _, rfl, ex, ⟨row.w, hw, rfl, rfl⟩, lk_play y, _, rfl, x, p.2, dx, y, row, f'.ρ, rfl, ex, dp_sm s3 dy2, he2.sm s3, pok, fun H4 t s4 pl => ?_⟩
          have s24 := s3.trans s4
          have g4 := g2.sm s24
          have x4 := (x1.trans x2).trans (GoX.same s24)
          have eo4 := s24 _ _ eo2
          have dy4 := dp_sm s24 dy2
          cases hp : play row f'.ρ with
          | error fw =>
            rw [hp] at pl
            obtain ⟨v, ht⟩ := pl
            refine ⟨t, _, rfl, ht, rfl, _, _, rfl, _, _, rfl, rfl, _, rfl, rfl, _, rfl, ite2 (fun c5 => ?_) (fun c5 => absurd (by simp) c5)⟩
            refine ⟨_, rfl, two_le, fun t2 nt2 => ?_⟩
            have s5 := same_new (o := .tup [V.str "fault", V.str fw]) nt2
            have g5 := g4.sm s5
            refine ⟨_, rfl, G.o, _, G.dx, _, rfl, s5 _ _ eo4, T.cl_Going, T.no_Going_ended, by show 6 < 1000; decide, ?_⟩
            rw [goF_put_ended]
            obtain ⟨g6, x6⟩ := g5.obj (ev := .ref t2) (e' := some (.fault fw)) (m' := m + j + 1) (.tup (.inl (.of upd_same)) (.cons (.str _) (.cons (.str _) .nil))) (Nat.le_refl _) c
            have em3 : mics hs (m + j + 1) c0 = ⟨f' :: r, told', some (.fault fw)⟩ := by
              rw [em2]
              unfold micRow
              rw [hp]
            exact qb _ (f' :: r) told' (m + j + 1) (.fault fw) ((x4.trans (GoX.same s5)).trans x6) (.inl ⟨by rw [em3], m + j, rfl, by rw [em']⟩) (by rw [em3]) g6
          | ok vl =>
            rw [hp] at pl
            obtain ⟨v, ht, dv⟩ := pl
            refine ⟨t, _, rfl, ht, rfl, _, _, rfl, _, _, rfl, rfl, _, rfl, rfl, _, rfl, ite2 (fun c5 => by simp at c5) (fun _ => ?_)⟩
            obtain ⟨py, xy, rfl, hpy, dxy⟩ := dp_tup dy4
            obtain ⟨u1, q1, rfl, f1, _⟩ := dpAll_cons dxy
            rw [dp_int f1] at hpy
            have em3 : mics hs (m + j + 1) c0 = if 0 ≤ row.v then ⟨{ f' with pc := f'.pc + 1, ρ := f'.ρ.put row.v vl } :: r, told', none⟩ else ⟨{ f' with pc := f'.pc + 1 } :: r, told' ++ [vl.num], none⟩ := by
              rw [em2]
              unfold micRow
              rw [hp]
            have st3 : StOk (hlOf hs) (mics hs (m + j + 1) c0).frs := by
              rw [em2]
              exact st2
            rw [em3] at st3
            refine ⟨_, rfl, py, _, 0, _, rfl, rfl, hpy, atI_nat (j := 0) rfl, _, _, rfl, rfl, _, rfl, ite2 (fun c6 => ?_) (fun c6 => ?_)⟩
            · have c7 := of_decide_eq_true c6
              rw [if_pos c7] at em3 st3
              have sv : Smv row.v := by
                rcases hpl with ⟨e1, _⟩ | ⟨e1, _⟩
                · omega
                · exact e1
              obtain ⟨kvs, hput, g5, x5⟩ := g4.put eG sv dv
              exact ⟨_, rfl, _, rfl, _, rfl, py, _, 0, _, rfl, rfl, hpy, atI_nat (j := 0) rfl, _, _, rfl, hput, ⟨_, _, _, rfl⟩, x4.trans x5, { f' with pc := f'.pc + 1, ρ := f'.ρ.put row.v vl }, told', hg, ha, by show f'.pc + 1 = j + 1; rw [hpc], em3, g5.pc rfl rfl rfl, st3⟩
            · have c7 : ¬ 0 ≤ row.v := fun z => c6 (decide_eq_true z)
              rw [if_neg c7] at em3 st3
              obtain ⟨i, ei⟩ : ∃ i, vl = .n i := by
                rcases hpl with ⟨_, i, e2, _⟩ | ⟨e1, _⟩
                · rw [hp] at e2
                  exact ⟨i, by cases e2; rfl⟩
                · exact absurd e1.1 c7
              subst ei
              have ev : v = .int i := dp_int dv
              subst ev
              obtain ⟨g5, x5⟩ := g4.tell (i := i) (by have := go1.tb; omega)
              refine ⟨_, rfl, G.o, _, G.dx, _, _, rfl, eo4, T.cl_Going, T.no_Going_told, goF_told .., .inl ⟨rfl, _, .inl (.inl g4.tl)⟩, _, rfl, G.tl, _, _, rfl, rfl, g4.tl, ?_, ⟨_, _, _, rfl⟩, x4.trans x5, { f' with pc := f'.pc + 1 }, told' ++ [i], hg, ha, by show f'.pc + 1 = j + 1; rw [hpc], em3, g5.pc rfl rfl rfl, st3⟩
              rw [List.length_map, sizeLine_eq]
              have := go1.tb
              have := go1.mb
              have := go1.m6
              omega
    · rintro σ' H1 ⟨_, x1, f', told', hg, ha, hpc, em', go1, st1⟩
      rw [lr] at hpc em' go1
      exact qa H1 f' told' _ x1 hg ha hpc em' (Nat.le_add_right _ _) go1 st1
end

section
variable {P : Program} {w : World} {K : PySem.W.Frag} {mg : Str → Option Value} {base : Heap}
theorem nostr {a b : Str} (ne : a ≠ b) (h : decide (V.str a = V.str b) = true) : False := ne (by have := of_decide_eq_true h; cases this; rfl)
theorem ten_len : ∀ n : Int, 0 ≤ n → n < 100 → (Str.ofString (toString n)).length ≤ 2 ∧ n.natAbs.log2 < 1920 := by
  intro n h0 h1
  obtain ⟨k, rfl⟩ := Int.eq_ofNat_of_zero_le h0
  have h : ∀ k : Nat, k < 100 → (Str.ofString (toString (k : Int))).length ≤ 2 ∧ (k : Int).natAbs.log2 < 1920 := by decide +kernel
  exact h k (by omega)
theorem no_back : ∀ x ∈ (["helpers", "most", "many", "told", "frames", "ended"] : List Str), ("back" : Str) ≠ x := by decide +kernel
theorem no_enter : ∀ x ∈ (["helpers", "most", "many", "told", "frames", "ended"] : List Str), ("enter" : Str) ≠ x := by decide +kernel
def sp_do_end (K : PySem.W.Frag) : Sp := fun vs H Q _ => ∃ (G : GA) (hs : List (Str × Nat × List Blk)) (f : Fr) (r : List Fr) (told : List Int) (m most : Nat) (p : Addr × Addr) (ps : List (Addr × Addr)) (ev : V) (b : Blk) (c0 : MS), vs = [.ref G.o, ev, .ref p.2] ∧ G.ft = p :: ps ∧ Dp K H ev b.en.d ∧ f.blk = b ∧ f.pc = b.rs.length ∧ mics hs m c0 = ⟨f :: r, told, none⟩ ∧
  GoAt K H G hs (f :: r) told m most none ∧ WR hs ∧ StOk (hlOf hs) (f :: r) ∧
  (∀ H' G' frs' told' m', GoX H G H' G' → mics hs m' c0 = ⟨frs', told', none⟩ → m < m' → GoAt K H' G' hs frs' told' m' most none → StOk (hlOf hs) frs' → (∃ f' r', frs' = f' :: r' ∧ f'.pc = 0) → Q .non H') ∧
  ∀ H' G' frs' told' m' e, GoX H G H' G' → FinG hs c0 most m' e → (mics hs m' c0).told = told' → GoAt K H' G' hs frs' told' m' most (some e) → Q .non H'
theorem ok_Going_do_end (T : Top K mg) : FnOk P w K mg base CX0 3 (He.ma K (He.ga K "Going") "do_end") T.fd_Going_do_end ["self", "end", "values"] (sp_do_end K) := by
  have G_Going_step := ok_Going_step (P := P) (w := w) (base := base) T
  have G_Going_lead := ok_Going_lead (P := P) (w := w) (base := base) T
  have G_Going_enter := ok_Going_enter (P := P) (w := w) (base := base) T
  have G_Going_back := ok_Going_back (P := P) (w := w) (base := base) T
  refine T.F_Going_do_end.ok sc_Going_do_end (fun vs H Q E h => ?_) (fun cdv A0 outer s0 H vs Q E hr h => ?_)
  · obtain ⟨G, hs, f, r, told, m, most, p, ps, ev, b, c0, rfl, _⟩ := h
    rfl
  · obtain ⟨G, hs, f, r, told, m, most, p, ps, ev, b, c0, rfl, eG, de, eb, hpc, em, go, W, st, qa, qb⟩ := h
    refine ⟨_, PSs.nox (pss_cons (ps_if (pt_not (pt_truth (pe_meth0 (pv 0) T.cl_Going T.me_Going_step G_Going_step (hr.mono (by omega)) T.b_Going_step .nil pass0) (by intro _; rfl))) (pss_one ps_retN) pss_nil)
        (pss_one (ps_if (pt_cmpR op_eq (pe_ix ix_tup (pv 1) pe_int (fun _ _ => rfl)) pe_str (nomark _)) (pss_one (ps_expr (pe_meth (pv 0) T.cl_Going T.me_Going_lead G_Going_lead (hr.mono (by omega)) T.b_Going_lead .nil pass0 (pa_cons (pe_ix ix_tup (pv 1) pe_int (fun _ _ => rfl)) (pa_cons (pe_lst pa_nil) pa_nil))))) (pss_one (ps_if (pt_cmpR op_eq (pe_ix ix_tup (pv 1) pe_int (fun _ _ => rfl)) pe_str (nomark _)) (pss_one (ps_expr (pe_meth (pv 0) T.cl_Going T.me_Going_lead G_Going_lead (hr.mono (by omega)) T.b_Going_lead .nil pass0 (pa_cons (pe_ifExp (pt_cmpR op_eq (pe_dget (hu_of hr) (pv 2) (pe_ix ix_tup (pv 1) pe_int (fun _ _ => rfl)) (fun _ _ => rfl)) pe_int (nomark _)) (pe_ix ix_tup (pv 1) pe_int (fun _ _ => rfl)) (pe_ix ix_tup (pv 1) pe_int (fun _ _ => rfl))) (pa_cons (pe_lst pa_nil) pa_nil))))) (pss_one (ps_if (pt_cmpR op_eq (pe_ix ix_tup (pv 1) pe_int (fun _ _ => rfl)) pe_str (nomark _)) (pss_one (ps_expr (pe_meth (pv 0) T.cl_Going T.me_Going_enter G_Going_enter (hr.mono (by omega)) T.b_Going_enter .nil pass0 (pa_cons (pe_dget (hu_of hr) (pe_fld (pv 0) rfl) (pe_ix ix_tup (pv 1) pe_int (fun _ _ => rfl)) (fun _ _ => rfl)) (pa_cons (pe_lc (own := [("value", 3)]) (by rfl) sc_Going_do_end.nd (pi_tup (pe_ix ix_tup (pv 1) pe_int (fun _ _ => rfl))) (blkOk_by (own := [("value", 3)]) (N := N_Going_do_end) (sc := defScope s_Going_do_end) (by decide +kernel)) (fun _ _ _ _ _ => (pg_name (i := 3) sc_Going_do_end.nd rfl (Or.inl rfl))) (fun _ _ _ _ _ => pts_nil) (fun _ _ _ _ _ => (pe_dget (hu_of hr) (pv 2) (pv 3) (fun _ _ => rfl)))) pa_nil))))) (pss_one (ps_if (pt_cmpR op_eq (pe_ix ix_tup (pv 1) pe_int (fun _ _ => rfl)) pe_str (nomark _)) (pss_one (ps_expr (pe_meth (pv 0) T.cl_Going T.me_Going_back G_Going_back (hr.mono (by omega)) T.b_Going_back .nil pass0 (pa_cons (pe_dget (hu_of hr) (pv 2) (pe_ix ix_tup (pv 1) pe_int (fun _ _ => rfl)) (fun _ _ => rfl)) pa_nil)))) (pss_one (ps_fld (pv 0) (pe_tup (pa_cons pe_str (pa_cons (pe_op op_add_str pe_str (pe_callTy call_str_int (by rfl) T.m_str (by decide +kernel) (pa_cons (pe_ix ix_tup (pv 1) pe_int (fun _ _ => rfl)) pa_nil))) pa_nil))) rfl))))))))))), ?_⟩
    obtain ⟨ev0, eo, ee⟩ := go.o
    refine ⟨_, rfl, G.o, G.dx, _, rfl, eo, goF_nom no_step, G, hs, f :: r, told, m, most, rfl, go, fun c H2 x2 g2 => ?_, fun c H2 x2 g2 => ?_⟩
    · refine ⟨false, rfl, ?_⟩
      exact qb H2 G (f :: r) told m .on x2 (.inr ⟨rfl, Nat.le_antisymm go.mb c, by rw [em]⟩) (by rw [em]) g2
    refine ⟨true, rfl, ?_⟩
    obtain ⟨es, sz, bb, sc, fi⟩ := st.ok f (List.mem_cons_self ..)
    have ebb : bb = b := by rw [← fi.blk, ← eb]
    subst ebb
    have hp : bb.rs.length ≤ f.pc := Nat.le_of_eq hpc.symm
    have em2 : mics hs (m + 1) c0 = micEnd hs f r told bb.en := by
      show mic hs (mics hs m c0) = _
      rw [em, mic_en (by rw [fi.blk]; exact hp), fi.blk]
    have st2 : StOk (hlOf hs) (mics hs (m + 1) c0).frs := by
      show StOk (hlOf hs) (mic hs (mics hs m c0)).frs
      exact StOk.mic W (by rw [em]; exact st)
    have en := fi.all hp
    have er := fi.er
    have de2 : Dp K H2 ev bb.en.d := dp_kp x2.k _ _ (En.nl _) de
    obtain ⟨p2, ps2, gv2, eG2, l12, _, he2, _⟩ := g2.top
    rw [eG] at eG2
    cases eG2
    obtain ⟨ev2, eo2, ee2⟩ := g2.o
    have ee2' : ev2 = .non := ee2
    subst ee2'
    have ld : ∀ {w : Way} {wv : V} {la : Addr} {H3 : Hp}, WayR es f.g sc [] w → micEnd hs f r told bb.en = ⟨f.lead w [] :: r, told, none⟩ → Dp K H2 wv w.d → H2 la = none → H3 = upd H2 la (.lst []) → sp_lead K [.ref G.o, wv, .ref la] H3 Q E0 := fun {w wv la H3} hw e1 dw nl e3 => by
      subst e3
      obtain ⟨⟨b', hb', lb', l10, psm⟩, has⟩ := fi.ld hp hw .nil
      rw [e1] at em2
      rw [em2] at st2
      exact ⟨G, hs, f, r, told, m + 1, most, wv, la, [], w, [], b', rfl, g2.sm (same_new nl), dp_sm (same_new nl) dw, upd_same, g2.off nl, .nil, Nat.zero_le _, hb', lb', l10, psm, has, fun H' x' g' => qa H' G _ told (m + 1) (x2.trans ((GoX.same (same_new nl)).trans x')) em2 (Nat.lt_succ_self _) g' st2 ⟨_, _, rfl, rfl⟩⟩
    cases hen : bb.en with
    | fail n =>
      rw [hen] at de2 er
      obtain ⟨pe, xe, rfl, hpe, dxe⟩ := dp_tup de2
      obtain ⟨v1, r1, rfl, d1, t1⟩ := dpAll_cons dxe
      obtain ⟨v2, r2, rfl, d2, t2⟩ := dpAll_cons t1
      rw [dp_str d1, dp_int d2, dpAll_nil t2] at hpe
      refine ⟨_, rfl, pe, _, 0, _, rfl, rfl, hpe, atI_nat (j := 0) rfl, rfl, _, rfl, ite2 (fun c => (nostr (by decide +kernel) c).elim) (fun _ => ?_)⟩
      refine ⟨_, rfl, pe, _, 0, _, rfl, rfl, hpe, atI_nat (j := 0) rfl, rfl, _, rfl, ite2 (fun c => (nostr (by decide +kernel) c).elim) (fun _ => ?_)⟩
      refine ⟨_, rfl, pe, _, 0, _, rfl, rfl, hpe, atI_nat (j := 0) rfl, rfl, _, rfl, ite2 (fun c => (nostr (by decide +kernel) c).elim) (fun _ => ?_)⟩
      refine ⟨_, rfl, pe, _, 0, _, rfl, rfl, hpe, atI_nat (j := 0) rfl, rfl, _, rfl, ite2 (fun c => (nostr (by decide +kernel) c).elim) (fun _ => ?_)⟩
      obtain ⟨t1, t2⟩ := ten_len n er.1 er.2
      refine ⟨_, rfl, pe, _, 1, _, rfl, rfl, hpe, atI_nat (j := 1) rfl, n, rfl, t2, _, _, rfl, rfl, ?_, two_le, fun t nt => ?_⟩
      · rw [sizeLine_eq]
        have : (("fail " : Str)).length = 5 := by decide +kernel
        omega
      have s3 := same_new (o := .tup [V.str "fault", V.str (failT n)]) nt
      have g3 := g2.sm s3
      refine ⟨_, rfl, G.o, _, G.dx, _, rfl, s3 _ _ eo2, T.cl_Going, T.no_Going_ended, by show 6 < 1000; decide, ?_⟩
      rw [goF_put_ended]
      obtain ⟨g4, x4⟩ := g3.obj (ev := .ref t) (e' := some (.fault (failT n))) (m' := m + 1) (.tup (.inl (.of upd_same)) (.cons (.str _) (.cons (.str _) .nil))) (Nat.le_refl _) g2.mb
      have em3 : mics hs (m + 1) c0 = ⟨f :: r, told, some (.fault (failT n))⟩ := by
        rw [em2, hen]
        rfl
      exact qb _ G (f :: r) told (m + 1) (.fault (failT n)) (x2.trans ((GoX.same s3).trans x4)) (.inl ⟨by rw [em3], m, rfl, by rw [em]⟩) (by rw [em3]) g4
    | jump w =>
      rw [hen] at de2 er
      obtain ⟨pe, xe, rfl, hpe, dxe⟩ := dp_tup de2
      obtain ⟨v1, r1, rfl, d1, t1⟩ := dpAll_cons dxe
      obtain ⟨v2, r2, rfl, d2, t2⟩ := dpAll_cons t1
      rw [dp_str d1, dpAll_nil t2] at hpe
      refine ⟨_, rfl, pe, _, 0, _, rfl, rfl, hpe, atI_nat (j := 0) rfl, rfl, _, rfl, ite2 (fun _ => ?_) (fun c => absurd (decide_eq_true rfl) c)⟩
      exact ⟨_, rfl, G.o, G.dx, _, rfl, eo2, goF_nom no_lead, _, rfl, pe, _, 1, _, rfl, rfl, hpe, atI_nat (j := 1) rfl, Nat.zero_le _, fun nl nnl => ld er (by rw [hen]; rfl) d2 nnl rfl⟩
    | choose v a b =>
      rw [hen] at de2 er
      obtain ⟨pe, xe, rfl, hpe, dxe⟩ := dp_tup de2
      obtain ⟨v1, r1, rfl, d1, t1⟩ := dpAll_cons dxe
      obtain ⟨v2, r2, rfl, d2, t2⟩ := dpAll_cons t1
      obtain ⟨v3, r3, rfl, d3, t3⟩ := dpAll_cons t2
      obtain ⟨v4, r4, rfl, d4, t4⟩ := dpAll_cons t3
      rw [dp_str d1, dp_int d2, dpAll_nil t4] at hpe
      refine ⟨_, rfl, pe, _, 0, _, rfl, rfl, hpe, atI_nat (j := 0) rfl, rfl, _, rfl, ite2 (fun c => (nostr (by decide +kernel) c).elim) (fun _ => ?_)⟩
      refine ⟨_, rfl, pe, _, 0, _, rfl, rfl, hpe, atI_nat (j := 0) rfl, rfl, _, rfl, ite2 (fun _ => ?_) (fun c => absurd (decide_eq_true rfl) c)⟩
      obtain ⟨i, hi, _⟩ := en.num er.1
      obtain ⟨u, du, dv⟩ := he2.get hi
      rw [dp_int dv] at du
      have e1 : micEnd hs f r told bb.en = ⟨f.lead (if i = 0 then b else a) [] :: r, told, none⟩ := by
        rw [hen]
        show (⟨f.lead (if f.ρ.num v = 0 then b else a) [] :: r, told, none⟩ : MS) = _
        rw [Env.num_of hi]
      refine ⟨_, rfl, G.o, G.dx, _, rfl, eo2, goF_nom no_lead, _, rfl, _, rfl, pe, _, 1, _, rfl, rfl, hpe, atI_nat (j := 1) rfl, p.2, _, rfl, du, rfl, _, rfl, ite2 (fun c => ?_) (fun c => ?_)⟩
      · have i0 : i = 0 := by
          have := of_decide_eq_true c
          cases this
          rfl
        rw [if_pos i0] at e1
        exact ⟨_, rfl, pe, _, 3, _, rfl, rfl, hpe, atI_nat (j := 3) rfl, Nat.zero_le _, fun nl nnl => ld er.2.2 e1 d4 nnl rfl⟩
      · have i0 : ¬ i = 0 := fun z => c (decide_eq_true (by rw [z]))
        rw [if_neg i0] at e1
        exact ⟨_, rfl, pe, _, 2, _, rfl, rfl, hpe, atI_nat (j := 2) rfl, Nat.zero_le _, fun nl nnl => ld er.2.1 e1 d3 nnl rfl⟩
    | give v =>
      rw [hen] at de2 er
      obtain ⟨pe, xe, rfl, hpe, dxe⟩ := dp_tup de2
      obtain ⟨v1, r1, rfl, d1, t1⟩ := dpAll_cons dxe
      obtain ⟨v2, r2, rfl, d2, t2⟩ := dpAll_cons t1
      rw [dp_str d1, dp_int d2, dpAll_nil t2] at hpe
      refine ⟨_, rfl, pe, _, 0, _, rfl, rfl, hpe, atI_nat (j := 0) rfl, rfl, _, rfl, ite2 (fun c => (nostr (by decide +kernel) c).elim) (fun _ => ?_)⟩
      refine ⟨_, rfl, pe, _, 0, _, rfl, rfl, hpe, atI_nat (j := 0) rfl, rfl, _, rfl, ite2 (fun c => (nostr (by decide +kernel) c).elim) (fun _ => ?_)⟩
      refine ⟨_, rfl, pe, _, 0, _, rfl, rfl, hpe, atI_nat (j := 0) rfl, rfl, _, rfl, ite2 (fun c => (nostr (by decide +kernel) c).elim) (fun _ => ?_)⟩
      refine ⟨_, rfl, pe, _, 0, _, rfl, rfl, hpe, atI_nat (j := 0) rfl, rfl, _, rfl, ite2 (fun _ => ?_) (fun c => absurd (decide_eq_true rfl) c)⟩
      obtain ⟨i, hi, i32⟩ := en.num er
      obtain ⟨u, du, dv⟩ := he2.get hi
      rw [dp_int dv] at du
      have em3 : mics hs (m + 1) c0 = ⟨(backF i r).1, told, (backF i r).2⟩ := by
        rw [em2, hen]
        show (⟨(backF (f.ρ.num v) r).1, told, (backF (f.ρ.num v) r).2⟩ : MS) = _
        rw [Env.num_of hi]
      rw [em3] at st2
      refine ⟨_, rfl, G.o, G.dx, _, rfl, eo2, goF_nom no_back, _, rfl, _, rfl, pe, _, 1, _, rfl, rfl, hpe, atI_nat (j := 1) rfl, p.2, _, rfl, du, G, hs, f, r, told, m + 1, most, i, rfl, g2, st, i32, fun H3 G3 x3 g3 => ?_⟩
      cases r with
      | nil => exact qb H3 G3 _ told (m + 1) (.gave i) (x2.trans x3) (.inl ⟨by rw [em3]; rfl, m, rfl, by rw [em]⟩) (by rw [em3]) g3
      | cons f2 r2 => exact qa H3 G3 _ told (m + 1) (x2.trans x3) em3 (Nat.lt_succ_self _) g3 st2 ⟨_, _, rfl, rfl⟩
    | call g as w =>
      rw [hen] at de2 er
      obtain ⟨pe, xe, rfl, hpe, dxe⟩ := dp_tup de2
      obtain ⟨v1, r1, rfl, d1, t1⟩ := dpAll_cons dxe
      obtain ⟨v2, r2, rfl, d2, t2⟩ := dpAll_cons t1
      obtain ⟨v3, r3, rfl, d3, t3⟩ := dpAll_cons t2
      obtain ⟨v4, r4, rfl, d4, t4⟩ := dpAll_cons t3
      rw [dp_str d1, dp_str d2, dpAll_nil t4] at hpe
      obtain ⟨pa, xa, rfl, hpa, dxa⟩ := dp_tup d3
      refine ⟨_, rfl, pe, _, 0, _, rfl, rfl, hpe, atI_nat (j := 0) rfl, rfl, _, rfl, ite2 (fun c => (nostr (by decide +kernel) c).elim) (fun _ => ?_)⟩
      refine ⟨_, rfl, pe, _, 0, _, rfl, rfl, hpe, atI_nat (j := 0) rfl, rfl, _, rfl, ite2 (fun c => (nostr (by decide +kernel) c).elim) (fun _ => ?_)⟩
      refine ⟨_, rfl, pe, _, 0, _, rfl, rfl, hpe, atI_nat (j := 0) rfl, rfl, _, rfl, ite2 (fun _ => ?_) (fun c => absurd (decide_eq_true rfl) c)⟩
      obtain ⟨kvs, hk1, hk2⟩ := g2.hd
      obtain ⟨x, hx, ex, ex2, ex3⟩ := W.get er.1
      obtain ⟨hv, hv1, hv2⟩ := hk2 x hx
      rw [ex] at hv1
      have hdg : DGet H2 G.hd (.str g) (some hv) := by
        have := DGet.k (k := .inr g) hk1
        rw [hv1] at this
        exact this
      have las := dpAll_len dxa
      rw [List.length_map] at las
      have l4 : as.length ≤ 4 := by rw [← ex2]; exact (W.ok x hx).1
      have vn := vls_nums en er.2.1
      have e1 : micEnd hs f r told bb.en = ⟨enterF x.2.2 (vls f.ρ as) :: f :: r, told, none⟩ := by
        rw [hen]
        show (⟨enterF (hgOf hs g) (vls f.ρ as) :: f :: r, told, none⟩ : MS) = _
        rw [ex3]
      rw [e1] at em2
      rw [em2] at st2
      obtain ⟨_, b0, hb0, lb0⟩ := enter_ok (W.ok x hx).2.run (is := as.map f.ρ.num) (by rw [List.length_map, ex2]) vn.2
      have psm : ∀ p ∈ b0.ps, Smv p.1 := fun p hp => (W.ok x hx).2.sm _ (List.mem_flatMap.mpr ⟨b0, List.mem_of_getElem? hb0, List.mem_append_left _ (List.mem_map.mpr ⟨p, hp, rfl⟩)⟩)
      refine ⟨_, rfl, G.o, G.dx, _, rfl, eo2, goF_nom no_enter, _, rfl, G.o, _, G.dx, _, _, rfl, eo2, T.cl_Going, T.no_Going_helpers, goF_helpers .., _, rfl, pe, _, 1, _, rfl, rfl, hpe, atI_nat (j := 1) rfl, G.hd, hv, rfl, hdg, _, rfl, pe, _, 2, _, rfl, rfl, hpe, atI_nat (j := 2) rfl, pa, rfl, ⟨_, hpa⟩, fun D nD => ?_⟩
      have gxa : ∀ {i : Nat} {y : V}, xa[i]? = some y → ∃ a, as[i]? = some a ∧ y = .int a := fun {i y} hy => by
        obtain ⟨d, hd, dy⟩ := dpAll_getV dxa hy
        rw [List.getElem?_map] at hd
        cases hq : as[i]? with
        | none => rw [hq] at hd; cases hd
        | some a =>
          rw [hq] at hd
          cases hd
          exact ⟨a, rfl, dp_int dy⟩
      refine lc_tup (K := K) (a := pa) (xs := xa) (fun i H' => Same H2 H' ∧ ∃ acc, H' D = some (.lst acc) ∧ DpAll K H' acc ((vls f.ρ (as.take i)).map Vl.d)) ?_ ?_ ?_ ?_
      · exact ⟨same_new nD, [], upd_same, .nil⟩
      · rintro i H' _ ⟨s', _⟩
        exact sqT_sm s' hpa
      · rintro i y H' hy ⟨s', acc, eD, dA⟩
        obtain ⟨a, ha, rfl⟩ := gxa hy
        have hi := (List.getElem?_eq_some_iff.mp ha).1
        obtain ⟨i0, ea, _⟩ := en.num (er.2.1 a (List.mem_of_getElem? ha))
        obtain ⟨v, dg', dv⟩ := (he2.sm s').get ea
        have la := dpAll_len dA
        rw [List.length_map] at la
        have lv2 : (vls f.ρ (as.take i)).length = i := by unfold vls; rw [List.length_map, List.length_take]; omega
        have tk : (vls f.ρ (as.take (i + 1))).map Vl.d = (vls f.ρ (as.take i)).map Vl.d ++ [(Vl.n i0).d] := by
          unfold vls
          rw [List.take_succ, ha, List.map_append, List.map_append]
          show _ ++ [((f.ρ a).getD (.n 0)).d] = _
          rw [ea]
          rfl
        refine ⟨rfl, _, rfl, _, rfl, p.2, v, rfl, dg', acc, eD, by rw [sizeLine_eq]; omega, same_upd s' nD, _, upd_same, ?_⟩
        rw [tk]
        refine dpAll_mine (dpAll_app dA (.cons dv .nil)) (noLs_all fun z hz => ?_) eD trivial
        rcases List.mem_append.mp hz with hz | hz
        · obtain ⟨u, _, rfl⟩ := List.mem_map.mp hz
          exact u.nl
        · rw [List.mem_singleton.mp hz]
          exact (Vl.n i0).nl
      · rintro H3 ⟨s3, acc, eD, dA⟩
        rw [las, List.take_length] at dA
        have g3 := g2.sm s3
        have lvs : (vls f.ρ as).length = b0.ps.length := by rw [lb0, ex2]; unfold vls; rw [List.length_map]
        refine ⟨G, hs, f :: r, told, m + 1, most, hv, D, x.2.2, b0, acc, vls f.ρ as, rfl, g3, go.fb, dp_sm s3 hv2, hb0, lvs, psm, .inl (.of eD), dA, fun H4 G4 x4 g4 => ?_⟩
        exact qa H4 G4 _ told (m + 1) (x2.trans ((GoX.same s3).trans x4)) em2 (Nat.lt_succ_self _) g4 st2 ⟨_, _, rfl, rfl⟩
end

section
variable {P : Program} {w : World} {K : PySem.W.Frag} {mg : Str → Option Value} {base : Heap}
theorem no_rows : ∀ x ∈ (["helpers", "most", "many", "told", "frames", "ended"] : List Str), ("do_rows" : Str) ≠ x := by decide +kernel
theorem no_end : ∀ x ∈ (["helpers", "most", "many", "told", "frames", "ended"] : List Str), ("do_end" : Str) ≠ x := by decide +kernel
theorem no_go : ∀ x ∈ (["helpers", "most", "many", "told", "frames", "ended"] : List Str), ("go" : Str) ≠ x := by decide +kernel
def sp_go (K : PySem.W.Frag) : Sp := fun vs H Q _ => ∃ (G : GA) (hs : List (Str × Nat × List Blk)) (f : Fr) (r : List Fr) (told : List Int) (m most : Nat) (c0 : MS), vs = [.ref G.o] ∧ f.pc = 0 ∧ mics hs m c0 = ⟨f :: r, told, none⟩ ∧ GoAt K H G hs (f :: r) told m most none ∧ WR hs ∧ StOk (hlOf hs) (f :: r) ∧
  ∀ H' G' frs' told' m' e, GoX H G H' G' → FinG hs c0 most m' e → (mics hs m' c0).told = told' → GoAt K H' G' hs frs' told' m' most (some e) → Q .non H'
theorem ended_ref {H : Hp} {ev : V} {e : EndS} (h : EvAt K H ev (some e)) : ∃ a, ev = .ref a := by
  have h' : Dp K H ev e.d := h
  cases e <;> (obtain ⟨a, _, rfl, _⟩ := dp_tup h'; exact ⟨a, rfl⟩)
/-- at a turn of the loop: it goes on, or it is ended -/
def goI (K : PySem.W.Frag) (H : Hp) (G : GA) (hs : List (Str × Nat × List Blk)) (most : Nat) (c0 : MS) (i : Nat) (σ' : L2.St) (H' : Hp) : Prop := ∃ G', GoX H G H' G' ∧ (∃ x1 x2 x3, σ' = [some (.ref G'.o), x1, x2, x3]) ∧
  ((∃ f r told m, i = most - m + 1 ∧ f.pc = 0 ∧ mics hs m c0 = ⟨f :: r, told, none⟩ ∧ GoAt K H' G' hs (f :: r) told m most none ∧ StOk (hlOf hs) (f :: r)) ∨
    ∃ frs told m e, i = 0 ∧ FinG hs c0 most m e ∧ (mics hs m c0).told = told ∧ GoAt K H' G' hs frs told m most (some e))
theorem ok_Going_go (T : Top K mg) : FnOk P w K mg base CX0 6 (He.ma K (He.ga K "Going") "go") T.fd_Going_go ["self"] (sp_go K) := by
  have G_Going_do_rows := ok_Going_do_rows (P := P) (w := w) (base := base) T
  have G_Going_do_end := ok_Going_do_end (P := P) (w := w) (base := base) T
  refine T.F_Going_go.ok sc_Going_go (fun vs H Q E h => ?_) (fun cdv A0 outer s0 H vs Q E hr h => ?_)
  · obtain ⟨G, hs, f, r, told, m, most, c0, rfl, _⟩ := h
    rfl
  · obtain ⟨G, hs, f, r, told, m, most, c0, rfl, pc0, em, go, W, st, q⟩ := h
    refine ⟨_, PSs.nox (pss_one (ps_while PassesOwn.never (pt_cmpR op_isN (pe_fld (pv 0) rfl) pe_non (nomark _)) (pss_cons (ps_asg (pe_ix ix_list (pe_fld (pv 0) rfl) (pe_un un_neg pe_int) (fun _ _ => rfl)) (pg_lst (n := 3) (by rfl) (pgs_cons (pg_name (i := 1) sc_Going_go.nd rfl (Or.inl rfl)) (pgs_cons (pg_name (i := 2) sc_Going_go.nd rfl (Or.inl rfl)) (pgs_cons (pg_name (i := 3) sc_Going_go.nd rfl (Or.inl rfl)) pgs_nil)))))
        (pss_cons (ps_expr (pe_meth (pv 0) T.cl_Going T.me_Going_do_rows G_Going_do_rows (hr.mono (by omega)) T.b_Going_do_rows .nil pass0 (pa_cons (pe_ix ix_tup (pv 1) (pv 2) (fun _ _ => rfl)) (pa_cons (pv 3) pa_nil))))
        (pss_one (ps_if (pt_cmpR op_isN (pe_fld (pv 0) rfl) pe_non (nomark _)) (pss_one (ps_expr (pe_meth (pv 0) T.cl_Going T.me_Going_do_end G_Going_do_end (hr.mono (by omega)) T.b_Going_do_end .nil pass0 (pa_cons (pe_ix ix_tup (pe_ix ix_tup (pv 1) (pv 2) (fun _ _ => rfl)) pe_int (fun _ _ => rfl)) (pa_cons (pv 3) pa_nil))))) pss_nil)))))), ?_⟩
    refine ⟨goI K H G hs most c0, ⟨most - m + 1, G, .refl, ⟨_, _, _, rfl⟩, .inl ⟨f, r, told, m, rfl, pc0, em, go, st⟩⟩, ?_⟩
    rintro i σ' H1 ⟨G1, x1, ⟨y1, y2, y3, rfl⟩, ⟨f1, r1, told1, m1, ei, pc1, em1, go1, st1⟩ | ⟨frs1, told1, m1, e1, rfl, fin, et, go1⟩⟩
    · obtain ⟨ev, eo, ee⟩ := go1.o
      have ee' : ev = .non := ee
      subst ee'
      refine ⟨_, rfl, G1.o, _, G1.dx, _, _, rfl, eo, T.cl_Going, T.no_Going_ended, goF_ended .., rfl, _, rfl, ite2 (fun _ => ?_) (fun c => absurd (decide_eq_true rfl) c)⟩
      refine ⟨fun σ' H' => ∃ m', m' < i ∧ goI K H G hs most c0 m' σ' H', fun _ _ h => h, ?_⟩
      obtain ⟨p, ps, gv, eG, l1, dg, he, fl⟩ := go1.top
      obtain ⟨es, sz, b, sc, fi⟩ := st1.ok f1 (List.mem_cons_self ..)
      obtain ⟨pg, xg, pb, pv, rv, evn, rfl, hxg, hxgi, hpb, dbl, dpv, drv, den⟩ := blk_at dg fi.hb
      refine ⟨_, rfl, G1.o, _, G1.dx, _, _, rfl, eo, T.cl_Going, T.no_Going_frames, goF_frames .., 1, rfl, G1.fl, _, -1, _, rfl, rfl, .of fl, atI_last _ _, p.1, _, rfl, .of l1, rfl, _, _, rfl, _, _, rfl, _, _, rfl, rfl, ?_⟩
      refine ⟨_, rfl, G1.o, G1.dx, _, rfl, eo, goF_nom no_rows, _, rfl, _, rfl, pg, _, _, _, rfl, rfl, hxg, atI_nat hxgi, _, rfl, G1, hs, f1, r1, told1, m1, most, p, ps, .ref pb, b, c0, rfl, eG, dbl, fi.blk, pc1, em1, go1, W, st1, fun H2 f2 told2 m2 x2 hg ha hpc em2 lm go2 st2 => ?_, fun H2 frs2 told2 m2 e2 x2 fin2 et2 go2 => ?_⟩
      · obtain ⟨ev2, eo2, ee2⟩ := go2.o
        have ee2' : ev2 = .non := ee2
        subst ee2'
        refine ⟨_, rfl, G1.o, _, G1.dx, _, _, rfl, eo2, T.cl_Going, T.no_Going_ended, goF_ended .., rfl, _, rfl, ite2 (fun _ => ?_) (fun c => absurd (decide_eq_true rfl) c)⟩
        have fb2 : f2.blk = b := by
          rw [← fi.blk]
          unfold Fr.blk
          rw [hg, ha]
        refine ⟨_, rfl, G1.o, G1.dx, _, rfl, eo2, goF_nom no_end, _, rfl, _, rfl, pg, _, _, _, rfl, rfl, sqT_kp x2.k hxg, atI_nat hxgi, pb, _, 2, _, rfl, rfl, sqT_kp x2.k hpb, atI_nat (j := 2) rfl, _, rfl, G1, hs, f2, r1, told2, m2, most, p, ps, evn, b, c0, rfl, eG, dp_kp x2.k _ _ (En.nl _) den, fb2, hpc, em2, go2, W, st2, fun H3 G3 frs3 told3 m3 x3 em3 lm3 go3 st3 hf3 => ?_, fun H3 G3 frs3 told3 m3 e3 x3 fin3 et3 go3 => ?_⟩
        · obtain ⟨f3, r3, rfl, pc3⟩ := hf3
          have mb3 := go3.mb
          refine ⟨most - m3 + 1, by omega, G3, (x1.trans x2).trans x3, ⟨_, _, _, by rw [x3.e]; rfl⟩, .inl ⟨f3, r3, told3, m3, rfl, pc3, em3, go3, st3⟩⟩
        · exact ⟨0, by omega, G3, (x1.trans x2).trans x3, ⟨_, _, _, by rw [x3.e]; rfl⟩, .inr ⟨frs3, told3, m3, e3, rfl, fin3, et3, go3⟩⟩
      · obtain ⟨ev2, eo2, ee2⟩ := go2.o
        obtain ⟨a2, rfl⟩ := ended_ref ee2
        refine ⟨_, rfl, G1.o, _, G1.dx, _, _, rfl, eo2, T.cl_Going, T.no_Going_ended, goF_ended .., rfl, _, rfl, ite2 (fun c => by simp at c) (fun _ => ?_)⟩
        exact ⟨0, by omega, G1, x1.trans x2, ⟨_, _, _, rfl⟩, .inr ⟨frs2, told2, m2, e2, rfl, fin2, et2, go2⟩⟩
    · obtain ⟨ev, eo, ee⟩ := go1.o
      obtain ⟨a2, rfl⟩ := ended_ref ee
      refine ⟨_, rfl, G1.o, _, G1.dx, _, _, rfl, eo, T.cl_Going, T.no_Going_ended, goF_ended .., rfl, _, rfl, ite2 (fun c => by simp at c) (fun _ => ?_)⟩
      exact q H1 G1 frs1 told1 m1 e1 x1 fin et go1
end

section
variable {P : Program} {w : World} {K : PySem.W.Frag} {mg : Str → Option Value} {base : Heap}
def inR (lo hi : Int) : PyData → Bool
  | .int i => decide (lo ≤ i) && decide (i ≤ hi)
  | _ => false
theorem inR_32 {i : Int} (h : In32 i) : inR (-2147483648) 2147483647 (.int i) = true := by
  unfold In32 at h
  show (decide (-2147483648 ≤ i) && decide (i ≤ 2147483647)) = true
  rw [decide_eq_true (by omega), decide_eq_true (by omega)]
  rfl
def sp_btw (K : PySem.W.Frag) : Sp := fun vs H Q _ => ∃ (v : V) (d : PyData) (lo hi : Int), vs = [v, .int lo, .int hi] ∧ Dp K H v d ∧ Q (.bl (inR lo hi d)) H
theorem ok_is_between (T : Top K mg) : FnOk P w K mg base CX0 1 (He.ga K "is_between") T.fd_is_between ["thing", "low", "high"] (sp_btw K) := by
  refine T.F_is_between.ok sc_is_between (fun vs H Q E h => ?_) (fun cdv A outer s H vs Q E hr h => ?_)
  · obtain ⟨v, d, lo, hi, rfl, _⟩ := h
    rfl
  · obtain ⟨v, d, lo, hi, rfl, dp, q⟩ := h
    refine ⟨_, PSs.nox (pss_one (ps_ret (pe_and (pe_callB call_isi (by rfl) T.m_isinstance (by decide +kernel) (pa_cons (pv 0) (pa_cons (pe_bltn (v := .ty "int") (by rfl) T.m_int (by decide +kernel) rfl) pa_nil))) (pe_and (pe_not (pe_callB call_isi (by rfl) T.m_isinstance (by decide +kernel) (pa_cons (pv 0) (pa_cons (pe_bltn (v := .ty "bool") (by rfl) T.m_bool (by decide +kernel) rfl) pa_nil)))) (pe_one (pe_chain op_le op_le (pv 1) (pv 0) (pv 2))))))), ?_⟩
    have ty := dp_ty dp
    refine ⟨_, rfl, _, _, _, _, isI d, rfl, .ty _, ty, kit_int d, _, rfl, ?_⟩
    cases hI : isI d with
    | false =>
      have : inR lo hi d = false := by cases d <;> simp [isI] at hI <;> rfl
      rw [this] at q
      exact q
    | true =>
      refine ⟨_, rfl, _, _, _, _, isB d, rfl, .ty _, ty, kit_bool d, _, rfl, _, rfl, ?_⟩
      cases hB : isB d with
      | true =>
        have : inR lo hi d = false := by cases d <;> simp [isB] at hB <;> rfl
        rw [this] at q
        exact q
      | false =>
        cases d <;> simp [isI, isB] at hI hB
        rename_i i
        rw [dp_int dp]
        refine ⟨_, rfl, _, rfl, _, _, rfl, rfl, _, rfl, ?_⟩
        by_cases h1 : lo ≤ i
        · refine ifD h1 ⟨_, rfl, _, _, rfl, rfl, ?_⟩
          have : inR lo hi (.int i) = decide (i ≤ hi) := by simp [inR, h1]
          rw [this] at q
          exact q
        · refine ifN h1 ?_
          have : inR lo hi (.int i) = false := by simp [inR, h1]
          rw [this] at q
          exact q
def sp_need (K : PySem.W.Frag) : Sp := fun vs H Q _ => ∃ (b : Addr) (ns : List Int) (m : Int), vs = [.ref b, .int m] ∧ m = ns.length ∧ SqA K H b (ns.map V.int) ∧ (∀ n ∈ ns, In32 n) ∧ ns.length ≤ 100 ∧ ∀ H', Same H H' → Q .non H'
theorem isi_seq (K : PySem.W.Frag) (b : Bool) : PySem.W.kitAny K (.type (if b then "list" else "tuple")) [.type "list", .type "tuple"] = some true := by
  cases b with
  | true => exact kitAny_cons (kit_ty (r := true) (by decide +kernel)) (fun z => nomatch z) fun _ => rfl
  | false => exact kitAny_cons (kit_ty (r := false) (by decide +kernel)) (fun _ => kitAny_cons (kit_ty (r := true) (by decide +kernel)) (fun z => nomatch z) fun _ => rfl) (fun z => nomatch z)
theorem ok_need_inputs (T : Top K mg) : FnOk P w K mg base CX0 3 (He.ga K "need_inputs") T.fd_need_inputs ["inputs", "many"] (sp_need K) := by
  have G_is_between := ok_is_between (P := P) (w := w) (base := base) T
  refine T.F_need_inputs.ok sc_need_inputs (fun vs H Q E h => ?_) (fun cdv A outer s H vs Q E hr h => ?_)
  · obtain ⟨b, ns, m, rfl, _⟩ := h
    rfl
  · obtain ⟨b, ns, m, rfl, rfl, hb, n32, ln, q⟩ := h
    rcases hb with hb | hb
    · refine ⟨_, PSs.nox (pss_cons (ps_if (PW.pt (pw_or (pt_not (pt_val (pe_callB call_isiT (by rfl) T.m_isinstance (by decide +kernel) (pa_cons (pv 0) (pa_cons (pe_tup (pa_cons (pe_bltn (v := .ty "list") (by rfl) T.m_list (by decide +kernel) rfl) (pa_cons (pe_bltn (v := .ty "tuple") (by rfl) T.m_tuple (by decide +kernel) rfl) pa_nil))) pa_nil))))) (pw_or1 (pt_cmpR op_ne (pe_callB call_len_seq (by rfl) T.m_len (by decide +kernel) (pa_cons (pv 0) pa_nil)) (pv 1) (nomark _))))) (pss_one ps_never) pss_nil)
        (pss_one (ps_if (pt_not (pt_val (pe_callB (cr_all (by rfl)) (by rfl) T.m_all (by decide +kernel) (pa_cons (pe_lc (own := [("one", 2)]) (by rfl) sc_need_inputs.nd (pi_list (pv 0)) (blkOk_by (own := [("one", 2)]) (N := N_need_inputs) (sc := defScope s_need_inputs) (by decide +kernel)) (fun _ _ _ _ _ => (pg_name (i := 2) sc_need_inputs.nd rfl (Or.inl rfl))) (fun _ _ _ _ _ => pts_nil) (fun _ _ _ _ _ => (pe_call G_is_between (hr.mono (by omega)) (by rfl) T.g_is_between T.F_is_between.kp T.b_is_between .nil pass0 (pa_cons (pv 2) (pa_cons (pe_glob (v := .int (-2147483648)) (by rfl) T.c_LEAST ⟨_, rfl⟩) (pa_cons (pe_glob (v := .int 2147483647) (by rfl) T.c_GREATEST ⟨_, rfl⟩) pa_nil)))))) pa_nil)))) (pss_one ps_never) pss_nil))), ?_⟩
      refine ⟨_, rfl, by rw [sizeLine_eq]; show 2 ≤ _; omega, fun tp htp => ?_⟩
      have s1 : Same H (upd H tp (.tup [.ty "list", .ty "tuple"])) := same_new htp
      have hb1 := s1.seq hb
      refine ⟨_, tp, _, _, _, true, rfl, upd_same, .cons (.ty _) (.cons (.ty _) .nil), ty_lst hb1, isi_seq K true, _, rfl, ifF rfl ?_⟩
      refine ⟨_, rfl, b, _, rfl, .inl hb1, _, rfl, rfl, _, rfl, ?_⟩
      rw [List.length_map]
      refine ifNF rfl ?_
      refine ⟨_, rfl, b, rfl, ⟨_, hb1⟩, fun D hD => ?_⟩
      have hD0 : H D = none := by
        cases h : H D with
        | none => rfl
        | some o => rw [s1 D o h] at hD; cases hD
      refine lc_list (K := K) (a := b) (xs := ns.map V.int) (fun j H' => Same H H' ∧ H' D = some (.lst ((List.replicate j true).map V.bl))) ?_ ?_ ?_ ?_
      · exact ⟨same_upd s1 hD0, upd_same⟩
      · intro j H' _ k
        exact k.1.seq hb
      · rintro j x H1 hx ⟨k1, e1⟩
        rw [List.getElem?_map] at hx
        have jl : j < ns.length := by
          cases hj : ns[j]? with
          | none => rw [hj] at hx; cases hx
          | some n => exact (List.getElem?_eq_some_iff.mp hj).1
        rw [List.getElem?_eq_getElem jl] at hx
        cases hx
        refine ⟨rfl, _, rfl, _, .int ns[j], _, _, rfl, .int _, _, e1, ?_, same_upd k1 hD0, ?_⟩
        · rw [List.length_map, List.length_replicate, sizeLine_eq]
          omega
        · rw [upd_same, List.replicate_succ', List.map_append, inR_32 (n32 _ (List.getElem_mem jl))]
          rfl
      · rintro H1 ⟨k1, e1⟩
        refine ⟨D, _, rfl, .inl (.inl e1), _, rfl, ?_⟩
        have ea : (List.replicate (ns.map V.int).length true).all id = true := by
          rw [List.all_eq_true]
          intro x hx
          rw [List.eq_of_mem_replicate hx]
          rfl
        rw [ea]
        exact q _ k1
    · refine ⟨_, PSs.nox (pss_cons (ps_if (PW.pt (pw_or (pt_not (pt_val (pe_callB call_isiT (by rfl) T.m_isinstance (by decide +kernel) (pa_cons (pv 0) (pa_cons (pe_tup (pa_cons (pe_bltn (v := .ty "list") (by rfl) T.m_list (by decide +kernel) rfl) (pa_cons (pe_bltn (v := .ty "tuple") (by rfl) T.m_tuple (by decide +kernel) rfl) pa_nil))) pa_nil))))) (pw_or1 (pt_cmpR op_ne (pe_callB call_len_seq (by rfl) T.m_len (by decide +kernel) (pa_cons (pv 0) pa_nil)) (pv 1) (nomark _))))) (pss_one ps_never) pss_nil)
        (pss_one (ps_if (pt_not (pt_val (pe_callB (cr_all (by rfl)) (by rfl) T.m_all (by decide +kernel) (pa_cons (pe_lc (own := [("one", 2)]) (by rfl) sc_need_inputs.nd (pi_tup (pv 0)) (blkOk_by (own := [("one", 2)]) (N := N_need_inputs) (sc := defScope s_need_inputs) (by decide +kernel)) (fun _ _ _ _ _ => (pg_name (i := 2) sc_need_inputs.nd rfl (Or.inl rfl))) (fun _ _ _ _ _ => pts_nil) (fun _ _ _ _ _ => (pe_call G_is_between (hr.mono (by omega)) (by rfl) T.g_is_between T.F_is_between.kp T.b_is_between .nil pass0 (pa_cons (pv 2) (pa_cons (pe_glob (v := .int (-2147483648)) (by rfl) T.c_LEAST ⟨_, rfl⟩) (pa_cons (pe_glob (v := .int 2147483647) (by rfl) T.c_GREATEST ⟨_, rfl⟩) pa_nil)))))) pa_nil)))) (pss_one ps_never) pss_nil))), ?_⟩
      refine ⟨_, rfl, by rw [sizeLine_eq]; show 2 ≤ _; omega, fun tp htp => ?_⟩
      have s1 : Same H (upd H tp (.tup [.ty "list", .ty "tuple"])) := same_new htp
      have hb1 := sqT_sm s1 hb
      refine ⟨_, tp, _, _, _, true, rfl, upd_same, .cons (.ty _) (.cons (.ty _) .nil), ty_tup hb1, isi_seq K false, _, rfl, ifF rfl ?_⟩
      refine ⟨_, rfl, b, _, rfl, .inr hb1, _, rfl, rfl, _, rfl, ?_⟩
      rw [List.length_map]
      refine ifNF rfl ?_
      refine ⟨_, rfl, b, rfl, ⟨_, hb1⟩, fun D hD => ?_⟩
      have hD0 : H D = none := by
        cases h : H D with
        | none => rfl
        | some o => rw [s1 D o h] at hD; cases hD
      refine lc_tup (K := K) (a := b) (xs := ns.map V.int) (fun j H' => Same H H' ∧ H' D = some (.lst ((List.replicate j true).map V.bl))) ?_ ?_ ?_ ?_
      · exact ⟨same_upd s1 hD0, upd_same⟩
      · intro j H' _ k
        exact sqT_sm k.1 hb
      · rintro j x H1 hx ⟨k1, e1⟩
        rw [List.getElem?_map] at hx
        have jl : j < ns.length := by
          cases hj : ns[j]? with
          | none => rw [hj] at hx; cases hx
          | some n => exact (List.getElem?_eq_some_iff.mp hj).1
        rw [List.getElem?_eq_getElem jl] at hx
        cases hx
        refine ⟨rfl, _, rfl, _, .int ns[j], _, _, rfl, .int _, _, e1, ?_, same_upd k1 hD0, ?_⟩
        · rw [List.length_map, List.length_replicate, sizeLine_eq]
          omega
        · rw [upd_same, List.replicate_succ', List.map_append, inR_32 (n32 _ (List.getElem_mem jl))]
          rfl
      · rintro H1 ⟨k1, e1⟩
        refine ⟨D, _, rfl, .inl (.inl e1), _, rfl, ?_⟩
        have ea : (List.replicate (ns.map V.int).length true).all id = true := by
          rw [List.all_eq_true]
          intro x hx
          rw [List.eq_of_mem_replicate hx]
          rfl
        rw [ea]
        exact q _ k1
end

section
variable {P : Program} {w : World} {K : PySem.W.Frag} {mg : Str → Option Value} {base : Heap}
/-- a works at an address, to be gone through -/
structure WkAt (K : PySem.W.Frag) (H : Hp) (pw : Addr) (hs : List (Str × Nat × List Blk)) (main : List Blk) (k : Nat) : Prop where
  e : ∃ (ph : Addr) (vm : V) (ys : List V), SqT K H pw [.ref ph, vm] ∧ TupZ H ph ys ∧ DpAll K H ys (hs.map ghD) ∧ Dp K H vm (grD main)
  l : hs.length ≤ 1000
  W : WR hs
  g : GRun (hlOf hs) k main
theorem ints_vls {H : Hp} : ∀ is : List Int, DpAll K H (is.map V.int) ((is.map Vl.n).map Vl.d)
  | [] => .nil
  | i :: r => .cons (.int i) (ints_vls r)
theorem ints_pd {H : Hp} : ∀ is : List Int, DpAll K H (is.map V.int) (is.map PyData.int)
  | [] => .nil
  | i :: r => .cons (.int i) (ints_pd r)
theorem hsD_nl (hs : List (Str × Nat × List Blk)) : nLs (hs.map ghD) = true := noLs_all fun x hx => by
  obtain ⟨q, _, rfl⟩ := List.mem_map.mp hx
  exact ghD_nl q
theorem WkAt.sm {H H' : Hp} {pw : Addr} {hs : List (Str × Nat × List Blk)} {main : List Blk} {k : Nat} (h : WkAt K H pw hs main k) (s : Same H H') : WkAt K H' pw hs main k := by
  obtain ⟨⟨ph, vm, ys, h1, h2, h3, h4⟩, l, W, g⟩ := h
  exact ⟨⟨ph, vm, ys, sqT_sm s h1, h2.sm s, dpAll_kp (Kp.of_same (S := fun _ => False) s) _ _ (hsD_nl hs) h3, dp_sm s h4⟩, l, W, g⟩
def c0Of (main : List Blk) (is : List Int) : MS := ⟨[enterF main (is.map Vl.n)], [], none⟩
def goneD (told : List Int) (e : EndS) (m : Nat) : PyData := .tuple [.tuple (told.map PyData.int), e.d, .int (m : Nat)]
def sp_gone (K : PySem.W.Frag) : Sp := fun vs H Q _ => ∃ (pw pi : Addr) (most : Nat) (hs : List (Str × Nat × List Blk)) (main : List Blk) (k : Nat) (is : List Int), vs = [.ref pw, .ref pi, .int (most : Nat)] ∧ WkAt K H pw hs main k ∧ SqA K H pi (is.map V.int) ∧ is.length = k ∧ (∀ i ∈ is, In32 i) ∧ k ≤ 100 ∧ most ≤ 100000 ∧
  ∀ H' t told e m, Same H H' → FinG hs (c0Of main is) most m e → (mics hs m (c0Of main is)).told = told → m ≤ most → Dp K H' (.ref t) (goneD told e m) → Q (.ref t) H'
theorem ok_gone (T : Top K mg) : FnOk P w K mg base CX0 7 (He.ga K "gone") T.fd_gone ["works", "inputs", "most"] (sp_gone K) := by
  have G_need_inputs := ok_need_inputs (P := P) (w := w) (base := base) T
  have G_Going___init__ := ok_Going_init (P := P) (w := w) (base := base) T
  have G_Going_enter := ok_Going_enter (P := P) (w := w) (base := base) T
  have G_Going_go := ok_Going_go (P := P) (w := w) (base := base) T
  refine T.F_gone.ok sc_gone (fun vs H Q E h => ?_) (fun cdv A0 outer s0 H vs Q E hr h => ?_)
  · obtain ⟨pw, pi, most, hs, main, k, is, rfl, _⟩ := h
    rfl
  · obtain ⟨pw, pi, most, hs, main, k, is, rfl, wa, hi, li, i32, k100, m6, q⟩ := h
    refine ⟨_, PSs.nox (pss_cons (ps_set (i := 3) sc_gone.nd rfl (Or.inl rfl) (pe_ix ix_tup (pv 0) pe_int (fun _ _ => rfl)))
        (pss_cons (ps_expr (pe_call G_need_inputs (hr.mono (by omega)) (by rfl) T.g_need_inputs T.F_need_inputs.kp T.b_need_inputs .nil pass0 (pa_cons (pv 1) (pa_cons (pe_callB call_len_seq (by rfl) T.m_len (by decide +kernel) (pa_cons (pe_ix ix_tup (pe_ix ix_tup (pv 3) pe_int (fun _ _ => rfl)) pe_int (fun _ _ => rfl)) pa_nil)) pa_nil))))
        (pss_cons (ps_set (i := 4) sc_gone.nd rfl (Or.inl rfl) (pe_make T.mk_Going G_Going___init__ (hr.mono (by omega)) (by rfl) T.g_Going T.b_Going___init__ .nil pass0 (pa_cons (pv 0) (pa_cons (pv 2) pa_nil))))
        (pss_cons (ps_expr (pe_meth (pv 4) T.cl_Going T.me_Going_enter G_Going_enter (hr.mono (by omega)) T.b_Going_enter .nil pass0 (pa_cons (pv 3) (pa_cons (pv 1) pa_nil))))
        (pss_cons (ps_expr (pe_meth0 (pv 4) T.cl_Going T.me_Going_go G_Going_go (hr.mono (by omega)) T.b_Going_go .nil pass0))
        (pss_one (ps_ret (pe_tup (pa_cons (pe_callTy call_tuple_of (by rfl) T.m_tuple (by decide +kernel) (pa_cons (pe_fld (pv 4) rfl) pa_nil)) (pa_cons (pe_fld (pv 4) rfl) (pa_cons (pe_fld (pv 4) rfl) pa_nil))))))))))), ?_⟩
    obtain ⟨⟨ph, vm, ys, hpw, hz, dys, dvm⟩, l1000, W, gr⟩ := wa
    obtain ⟨fo, b, hb, lb⟩ := enter_ok gr li i32
    obtain ⟨pg, xg, pb, pv, rv, evn, rfl, hxg, hxgi, hpb, dbl, dpv, drv, den⟩ := blk_at dvm hb
    obtain ⟨pp, xp, rfl, hpp, lxp, atp⟩ := params_at dpv
    refine ⟨_, rfl, pw, _, 1, _, rfl, rfl, hpw, atI_nat (j := 1) rfl, ?_⟩
    refine ⟨_, rfl, _, rfl, pg, _, 0, _, rfl, rfl, hxg, atI_nat (j := 0) hxgi, pb, _, 0, _, rfl, rfl, hpb, atI_nat (j := 0) rfl, pp, xp, rfl, .inr hpp, pi, is, _, rfl, by rw [lxp, lb, li], hi, i32, by omega, fun H1 s1 => ?_⟩
    refine ⟨_, rfl, _, rfl, fun x dx nx ndx ne => ?_⟩
    have s2 := same_new (o := .own x) ndx
    have nx2 : upd H1 dx (.own x) x = none := (upd_ne ne.symm).trans nx
    have s3 := same_new (o := .ins (He.ga K "Going") dx []) nx2
    have s13 := (s1.trans s2).trans s3
    have nx0 : H x = none := by
      cases h : H x with
      | none => rfl
      | some o => rw [s1 _ _ h] at nx; cases nx
    refine ⟨x, dx, pw, ph, .ref pg, ys, hs, most, rfl, upd_same, sqT_sm s13 hpw, hz.sm s13, dpAll_kp (Kp.of_same (S := fun _ => False) s13) _ _ (hsD_nl hs) dys, W.nd, l1000, m6, fun H4 G k4 eG ow eft g4 => ⟨rfl, ?_⟩⟩
    subst eG
    have s4 : Same H H4 := fun c o e => by
      refine k4 _ _ (s13 _ _ e) fun z => ?_
      rw [z, nx0] at e
      cases e
    have own0 : ∀ c, G.own c → H c = none := fun c oc => by
      rcases ow c oc with rfl | n
      · exact nx0
      · cases h : H c with
        | none => rfl
        | some o => rw [s13 _ _ h] at n; cases n
    obtain ⟨ev, eo, ee⟩ := g4.o
    have psm : ∀ p ∈ b.ps, Smv p.1 := fun p hp => gr.sm _ (List.mem_flatMap.mpr ⟨b, List.mem_of_getElem? hb, List.mem_append_left _ (List.mem_map.mpr ⟨p, hp, rfl⟩)⟩)
    have c1 : mics hs 0 (c0Of main is) = ⟨[enterF main (is.map Vl.n)], [], none⟩ := rfl
    refine ⟨_, rfl, G.o, G.dx, _, rfl, eo, goF_nom no_enter, _, rfl, _, rfl, G, hs, [], [], 0, most, .ref pg, pi, main, b, is.map V.int, is.map Vl.n, rfl, g4, Nat.le_refl _, dp_sm s4 dvm, hb, by rw [List.length_map, li, lb], psm, hi.imp (fun z => s4.seq z) (fun z => sqT_sm s4 z), ints_vls is, fun H5 G5 x5 g5 => ?_⟩
    obtain ⟨ev5, eo5, ee5⟩ := g5.o
    rw [x5.e] at eo5
    refine ⟨_, rfl, G.o, _, _, rfl, eo5, goF_nom no_go, G5, hs, enterF main (is.map Vl.n), [], [], 0, most, c0Of main is, by rw [x5.e]; rfl, rfl, c1, g5, W, ⟨fun f hf => by rw [List.mem_singleton.mp hf]; exact fo, fun f hf => nomatch hf⟩, fun H6 G6 frs told m e x6 fin et g6 => ?_⟩
    have x46 := x5.trans x6
    obtain ⟨ev6, eo6, ee6⟩ := g6.o
    rw [x46.e] at eo6
    have s6 : Same H H6 := fun c o e => by
      refine x46.k _ _ (s4 _ _ e) fun z => ?_
      rw [own0 _ z] at e
      cases e
    refine ⟨_, rfl, G.o, _, _, _, _, rfl, eo6, T.cl_Going, T.no_Going_told, goF_told .., G6.tl, _, rfl, .inl ⟨.of g6.tl, fun l nl => ?_⟩⟩
    have s7 := same_new (o := .tup (told.map V.int)) nl
    refine ⟨_, rfl, G.o, _, _, _, _, rfl, s7 _ _ eo6, T.cl_Going, T.no_Going_ended, goF_ended .., _, rfl, G.o, _, _, _, _, rfl, s7 _ _ eo6, T.cl_Going, T.no_Going_many, goF_many .., three_le, fun t nt => ?_⟩
    have s8 := same_new (o := .tup [.ref l, ev6, .int (m : Nat)]) nt
    have d6 : Dp K H6 ev6 e.d := ee6
    refine q _ t told e m ((s6.trans s7).trans s8) fin et g6.mb (.tup (.inl (.of upd_same)) (.cons (dp_sm s8 (.tup (.inl (.of upd_same)) (ints_pd told))) (.cons (dp_sm s8 (dp_sm s7 d6)) (.cons (.int _) .nil))))
end

/-! the plain law: with so many steps, with more, with less -/
section
variable {hs : List (Str × Nat × List Blk)} {c c0 : MS}
theorem backF_ev {n : Int} {r : List Fr} {e : EndS} (h : (backF n r).2 = some e) : e = .gave n := by
  cases r with
  | nil =>
    have h : some (EndS.gave n) = some e := h
    cases h
    rfl
  | cons f r => exact nomatch h
theorem strOk_of (s : String) : PyData.strOk (Str.ofString s) = true := by
  unfold PyData.strOk
  rw [Str.ofString_eq_toList]
  show ((s.toList.map Char.toNat).toArray.all fun x => decide (x < 0x110000)) = true
  rw [List.all_toArray, List.all_eq_true]
  intro x hx
  obtain ⟨ch, _, rfl⟩ := List.mem_map.mp hx
  refine decide_eq_true ?_
  rcases ch.valid with h | h
  · have : ch.toNat < 0xd800 := h
    omega
  · exact h.2
theorem strOk_app {a b : Str} (h : PyData.strOk a = true) (k : PyData.strOk b = true) : PyData.strOk (a ++ b) = true := by
  unfold PyData.strOk at *
  show ((a.cps ++ b.cps).all fun x => decide (x < 0x110000)) = true
  rw [Array.all_append, h, k]
  rfl
def EsOk (e : EndS) : Prop := e ≠ .on ∧ SeqAt.shaped e.d = true
theorem esOk_fault {w : Str} (h : PyData.strOk w = true) : EsOk (.fault w) := ⟨(fun z => nomatch z), by
  show SeqAt.shaped (.tuple [.str "fault", .str w]) = true
  unfold SeqAt.shaped
  have h1 : PyData.strOk "fault" = true := by decide +kernel
  simp only [PyData.canLay0, PyData.canLayAll0, PyData.depth, PyData.depthAll, h, h1]
  rfl⟩
theorem esOk_gave (n : Int) : EsOk (.gave n) := ⟨(fun z => nomatch z), by
  show SeqAt.shaped (.tuple [.str "gave", .int n]) = true
  unfold SeqAt.shaped
  have h1 : PyData.strOk "gave" = true := by decide +kernel
  simp only [PyData.canLay0, PyData.canLayAll0, PyData.depth, PyData.depthAll, h1]
  rfl⟩
theorem play_err {r : GRow} {ρ : Env} {w : Str} (h : play r ρ = .error w) : PyData.strOk w = true := by
  have h1 : PyData.strOk "place" = true := by decide +kernel
  have h2 : PyData.strOk "division" = true := by decide +kernel
  unfold play at h
  repeat' split at h
  all_goals first | (cases h; assumption) | (exact nomatch h)
theorem mic_ev (h : c.end_ = none) {e : EndS} (k : (mic hs c).end_ = some e) : EsOk e := by
  obtain ⟨frs, told, e0⟩ := c
  have h : e0 = none := h
  subst h
  cases frs with
  | nil => exact nomatch k
  | cons f r =>
    cases hr : f.blk.rs[f.pc]? with
    | some row =>
      rw [mic_row hr] at k
      unfold micRow at k
      cases hp : play row f.ρ with
      | error w =>
        rw [hp] at k
        have k : some (EndS.fault w) = some e := k
        cases k
        exact esOk_fault (play_err hp)
      | ok vl =>
        rw [hp] at k
        by_cases c : 0 ≤ row.v
        · simp only [if_pos c] at k
          exact nomatch k
        · simp only [if_neg c] at k
          exact nomatch k
    | none =>
      have hp := List.getElem?_eq_none_iff.mp hr
      rw [mic_en hp] at k
      cases he : f.blk.en with
      | fail n =>
        rw [he] at k
        have k : some (EndS.fault (failT n)) = some e := k
        cases k
        exact esOk_fault (strOk_app (by decide +kernel) (strOk_of _))
      | give v =>
        rw [he] at k
        rw [backF_ev k]
        exact esOk_gave _
      | jump w => rw [he] at k; exact nomatch k
      | choose v a b => rw [he] at k; exact nomatch k
      | call g as w => rw [he] at k; exact nomatch k
theorem mic_told : ∃ l, (mic hs c).told = c.told ++ l := by
  obtain ⟨frs, told, e0⟩ := c
  cases e0 with
  | some e => exact ⟨[], (List.append_nil _).symm⟩
  | none =>
    cases frs with
    | nil => exact ⟨[], (List.append_nil _).symm⟩
    | cons f r =>
      cases hr : f.blk.rs[f.pc]? with
      | some row =>
        rw [mic_row hr]
        unfold micRow
        cases hp : play row f.ρ with
        | error w => exact ⟨[], (List.append_nil _).symm⟩
        | ok vl =>
          by_cases c : 0 ≤ row.v
          · simp only [if_pos c]
            exact ⟨[], (List.append_nil _).symm⟩
          · simp only [if_neg c]
            exact ⟨[vl.num], rfl⟩
      | none =>
        rw [mic_en (List.getElem?_eq_none_iff.mp hr)]
        cases he : f.blk.en <;> exact ⟨[], (List.append_nil _).symm⟩
theorem mics_told (a : Nat) : ∀ b, ∃ l, (mics hs (a + b) c).told = (mics hs a c).told ++ l
  | 0 => ⟨[], (List.append_nil _).symm⟩
  | b + 1 => by
    obtain ⟨l, hl⟩ := mics_told a b
    obtain ⟨l2, h2⟩ := mic_told (hs := hs) (c := mics hs (a + b) c)
    exact ⟨l ++ l2, by show (mic hs (mics hs (a + b) c)).told = _; rw [h2, hl, List.append_assoc]⟩
theorem mics_none {a b : Nat} (h : (mics hs b c).end_ = none) (l : a ≤ b) : (mics hs a c).end_ = none := by
  cases k : (mics hs a c).end_ with
  | none => rfl
  | some e =>
    obtain ⟨d, rfl⟩ := Nat.exists_eq_add_of_le l
    rw [mics_add, mics_end k, k] at h
    exact nomatch h
theorem mics_some {a b : Nat} {e : EndS} (h : (mics hs a c).end_ = some e) (l : a ≤ b) : (mics hs b c).end_ = some e := by
  obtain ⟨d, rfl⟩ := Nat.exists_eq_add_of_le l
  rw [mics_add, mics_end h, h]
/-- it ends by just so many steps -/
def Ends (hs : List (Str × Nat × List Blk)) (c0 : MS) (k : Nat) (e : EndS) : Prop := (mics hs (k + 1) c0).end_ = some e ∧ (mics hs k c0).end_ = none
theorem Ends.ok {k : Nat} {e : EndS} (h : Ends hs c0 k e) : EsOk e := mic_ev h.2 h.1
theorem Ends.on {k M m : Nat} {e e' : EndS} (h : Ends hs c0 k e) (l : k + 1 ≤ M) (f : FinG hs c0 M m e') : m = k + 1 ∧ e' = e := by
  rcases f with ⟨f1, j, rfl, f2⟩ | ⟨_, rfl, f2⟩
  · have hj : j = k := by
      rcases Nat.lt_trichotomy j k with z | z | z
      · rw [mics_none h.2 (show j + 1 ≤ k by omega)] at f1
        exact nomatch f1
      · exact z
      · rw [mics_some h.1 (show k + 1 ≤ j by omega)] at f2
        exact nomatch f2
    subst hj
    rw [h.1] at f1
    cases f1
    exact ⟨rfl, rfl⟩
  · rw [mics_some h.1 l] at f2
    exact nomatch f2
theorem fin_more {M m : Nat} {e : EndS} (h : (mics hs M c0).end_ = none) (l : m ≤ M) (f : FinG hs c0 M m e) : m = M ∧ e = .on := by
  rcases f with ⟨f1, j, rfl, f2⟩ | ⟨rfl, rfl, f2⟩
  · rw [mics_none h l] at f1
    exact nomatch f1
  · exact ⟨rfl, rfl⟩
theorem fin_past {M N m : Nat} {e : EndS} (h : (mics hs M c0).end_ = none) (l : M < N) (f : FinG hs c0 N m e) : M < m := by
  rcases f with ⟨f1, j, rfl, f2⟩ | ⟨rfl, rfl, f2⟩
  · refine Nat.lt_of_not_le fun z => ?_
    rw [mics_none h z] at f1
    exact nomatch f1
  · exact l
theorem FinG.shaped {M m : Nat} {e : EndS} (f : FinG hs c0 M m e) : SeqAt.shaped e.d = true := by
  rcases f with ⟨f1, j, rfl, f2⟩ | ⟨rfl, rfl, f2⟩
  · exact (Ends.ok ⟨f1, f2⟩).2
  · show SeqAt.shaped (.tuple [.str "on"]) = true
    decide +kernel
end

/-! a works by hand: a loop that ends in so many steps -/
section
def hg (many : Nat) : List Blk := [⟨[(0, 0)], [⟨1, "number", [1]⟩], .jump ⟨1, [0]⟩⟩, ⟨[(2, 0)], [], .choose 2 ⟨2, []⟩ ⟨3, []⟩⟩, ⟨[], [⟨3, "sub", [2, 1]⟩], .jump ⟨1, [3]⟩⟩, ⟨[], List.replicate many ⟨-1, "tell", [2]⟩, .give 2⟩]
theorem rep_bv (many : Nat) : (List.replicate many (⟨-1, "tell", [2]⟩ : GRow)).flatMap GRow.bv = [] := by
  rw [List.flatMap_eq_nil_iff]
  intro x hx
  rw [List.eq_of_mem_replicate hx]
  rfl
theorem hg_bvs (many : Nat) : bvs (hg many) = [0, 1, 2, 3] := by
  have e : bvs (hg many) = [0, 1, 2, 3] ++ (List.replicate many (⟨-1, "tell", [2]⟩ : GRow)).flatMap GRow.bv ++ [] := rfl
  rw [e, rep_bv]
  rfl
theorem rows_rep (many : Nat) : RowsR [(0, 0), (1, 0), (2, 0)] (List.replicate many ⟨-1, "tell", [2]⟩) [(0, 0), (1, 0), (2, 0)] := by
  induction many with
  | zero => exact .nil _
  | succ n ih =>
    rw [List.replicate_succ']
    exact .tell ih (by simp)
def hes : Nat → List (Int × Int)
  | 0 => []
  | 1 => [(0, 0), (1, 0)]
  | _ => [(0, 0), (1, 0), (2, 0)]
theorem hg_run (many : Nat) : GRun [] 1 (hg many) := by
  have scz : ∀ sc : List (Int × Int), (∀ p ∈ sc, p ∈ ([(0, 0), (1, 0), (2, 0), (3, 0)] : List (Int × Int))) → ScZ (fun _ => 0) (hg many) sc := fun sc h p hp => by
    rw [hg_bvs]
    exact (show ∀ p ∈ ([(0, 0), (1, 0), (2, 0), (3, 0)] : List (Int × Int)), p.1 ∈ ([0, 1, 2, 3] : List Int) ∧ p.2 = 0 by decide) p (h p hp)
  have bk : ∀ i b, (hg many)[i]? = some b → BlkR hes (fun _ => 0) (hg many) [] i b := fun i b hb => by
    match i with
    | 0 =>
      cases hb
      refine ⟨[(0, 0), (1, 0)], .born (rs := []) (sc' := [(0, 0)]) (.nil _) ⟨by decide, by decide⟩ (.num 1 ⟨by decide, by decide⟩), ⟨by decide, ⟨_, [0], rfl, .snoc (as := []) (zs := []) .nil (by decide), rfl⟩, fun p hp => hp⟩, scz _ (by decide)⟩
    | 1 =>
      cases hb
      refine ⟨[(0, 0), (1, 0), (2, 0)], .nil _, ⟨by decide, ⟨by decide, ⟨_, [], rfl, .nil, rfl⟩, fun p hp => hp⟩, ⟨by decide, ⟨_, [], rfl, .nil, rfl⟩, fun p hp => hp⟩⟩, scz _ (by decide)⟩
    | 2 =>
      cases hb
      refine ⟨[(0, 0), (1, 0), (2, 0), (3, 0)], .born (rs := []) (sc' := [(0, 0), (1, 0), (2, 0)]) (.nil _) ⟨by decide, by decide⟩ (.op "sub" 2 1 (by decide +kernel) (by decide) (by decide)), ⟨by decide, ⟨_, [0], rfl, .snoc (as := []) (zs := []) .nil (by decide), rfl⟩, by decide⟩, scz _ (by decide)⟩
    | 3 =>
      cases hb
      exact ⟨[(0, 0), (1, 0), (2, 0)], rows_rep many, by show ((2, 0) : Int × Int) ∈ _; decide, scz _ (by decide)⟩
    | i + 4 => exact nomatch hb
  have mem : ∀ b ∈ hg many, b.ps.length ≤ 10 ∧ ∀ p ∈ b.ps, p.2 = 0 := fun b hb => by
    rcases List.mem_cons.mp hb with rfl | hb
    · decide
    rcases List.mem_cons.mp hb with rfl | hb
    · decide
    rcases List.mem_cons.mp hb with rfl | hb
    · decide
    rw [List.mem_singleton.mp hb]
    exact ⟨Nat.zero_le _, fun p hp => nomatch hp⟩
  refine ⟨⟨hes, fun _ => 0, rfl, bk, fun i _ => ?_, fun b hb => (mem b hb).2, fun v _ => ⟨by decide, by decide⟩⟩, ?_, ⟨_, rfl, rfl, by decide⟩, fun b hb => (mem b hb).1⟩
  · refine scz (hes i) ?_
    match i with
    | 0 => decide
    | 1 => decide
    | i + 2 => exact (by decide : ∀ p ∈ ([(0, 0), (1, 0), (2, 0)] : List (Int × Int)), p ∈ ([(0, 0), (1, 0), (2, 0), (3, 0)] : List (Int × Int)))
  · rw [hg_bvs]
    exact (by decide : ∀ v ∈ ([0, 1, 2, 3] : List Int), 0 ≤ v ∧ v < 9973)
theorem hg_loop {many n : Nat} (hn : n ≤ 1000) : ∀ k, k ≤ n → ∃ ρ : Env, mics [] (2 + 3 * k) (c0Of (hg many) [(n : Int)]) = ⟨[⟨hg many, 1, 0, ρ⟩], [], none⟩ ∧ ρ 2 = some (.n ((n : Int) - k)) ∧ ρ 1 = some (.n 1)
  | 0, _ => ⟨_, rfl, by
      show some (Vl.n (n : Int)) = _
      simp, rfl⟩
  | k + 1, hk => by
    obtain ⟨ρ, h1, h2, h3⟩ := hg_loop hn k (by omega)
    have e1 : mic [] (⟨[⟨hg many, 1, 0, ρ⟩], [], none⟩ : MS) = ⟨[(⟨hg many, 1, 0, ρ⟩ : Fr).lead (if ρ.num 2 = 0 then ⟨3, []⟩ else ⟨2, []⟩) []], [], none⟩ := rfl
    rw [Env.num_of h2, if_neg (by omega)] at e1
    have e2 : (⟨hg many, 1, 0, ρ⟩ : Fr).lead ⟨2, []⟩ [] = ⟨hg many, 2, 0, ρ⟩ := rfl
    rw [e2] at e1
    have pl : play ⟨3, "sub", [2, 1]⟩ ρ = .ok (.n ((n : Int) - (k + 1 : Nat))) := by
      rw [play_op ρ 3 2 1 (by decide +kernel), Env.num_of h2, Env.num_of h3]
      have er : rck "sub" ((n : Int) - k) 1 = some (wr ((n : Int) - k - 1)) := by
        unfold rck
        rw [if_neg (by decide +kernel), if_pos rfl]
      rw [er, wr_in ⟨by omega, by omega⟩]
      show Except.ok (Vl.n ((n : Int) - k - 1)) = _
      rw [show (n : Int) - k - 1 = (n : Int) - (k + 1 : Nat) by omega]
    have e3 : mic [] (⟨[⟨hg many, 2, 0, ρ⟩], [], none⟩ : MS) = ⟨[⟨hg many, 2, 1, ρ.put 3 (.n ((n : Int) - (k + 1 : Nat)))⟩], [], none⟩ := by
      rw [mic_row (row := ⟨3, "sub", [2, 1]⟩) rfl]
      unfold micRow
      rw [pl]
      rfl
    have e4 : mic [] (⟨[⟨hg many, 2, 1, ρ.put 3 (.n ((n : Int) - (k + 1 : Nat)))⟩], [], none⟩ : MS) = ⟨[⟨hg many, 1, 0, (ρ.put 3 (.n ((n : Int) - (k + 1 : Nat)))).put 2 (.n ((n : Int) - (k + 1 : Nat)))⟩], [], none⟩ := rfl
    refine ⟨(ρ.put 3 (.n ((n : Int) - (k + 1 : Nat)))).put 2 (.n ((n : Int) - (k + 1 : Nat))), ?_, rfl, ?_⟩
    · show mic [] (mic [] (mic [] (mics [] (2 + 3 * k) _))) = _
      rw [h1, e1, e3, e4]
    · show ρ 1 = _
      exact h3
theorem hg_tell {many n : Nat} (hn : n ≤ 1000) : ∀ i, i ≤ many → ∃ ρ : Env, mics [] (2 + 3 * n + 1 + i) (c0Of (hg many) [(n : Int)]) = ⟨[⟨hg many, 3, i, ρ⟩], List.replicate i 0, none⟩ ∧ ρ 2 = some (.n 0)
  | 0, _ => by
    obtain ⟨ρ, h1, h2, h3⟩ := hg_loop (many := many) hn n (Nat.le_refl _)
    rw [Int.sub_self] at h2
    have e1 : mic [] (⟨[⟨hg many, 1, 0, ρ⟩], [], none⟩ : MS) = ⟨[(⟨hg many, 1, 0, ρ⟩ : Fr).lead (if ρ.num 2 = 0 then ⟨3, []⟩ else ⟨2, []⟩) []], [], none⟩ := rfl
    rw [Env.num_of h2, if_pos rfl] at e1
    refine ⟨ρ, ?_, h2⟩
    show mic [] (mics [] (2 + 3 * n) _) = _
    rw [h1, e1]
    rfl
  | i + 1, hi => by
    obtain ⟨ρ, h1, h2⟩ := hg_tell (many := many) hn i (by omega)
    have hr : (⟨hg many, 3, i, ρ⟩ : Fr).blk.rs[(⟨hg many, 3, i, ρ⟩ : Fr).pc]? = some ⟨-1, "tell", [2]⟩ := by
      show (List.replicate many (⟨-1, "tell", [2]⟩ : GRow))[i]? = _
      rw [List.getElem?_replicate, if_pos (by omega)]
    refine ⟨ρ, ?_, h2⟩
    show mic [] (mics [] (2 + 3 * n + 1 + i) _) = _
    rw [h1, mic_row hr]
    unfold micRow
    rw [play_tell, Env.num_of h2]
    show (if (0 : Int) ≤ -1 then _ else _ : MS) = _
    rw [if_neg (by decide), List.replicate_succ']
    rfl
theorem hg_end {many n : Nat} (hn : n ≤ 1000) : Ends [] (c0Of (hg many) [(n : Int)]) (2 + 3 * n + 1 + many) (.gave 0) ∧ (mics [] (2 + 3 * n + 1 + many) (c0Of (hg many) [(n : Int)])).told = List.replicate many 0 ∧ (mics [] (2 + 3 * n + 1 + many + 1) (c0Of (hg many) [(n : Int)])).told = List.replicate many 0 := by
  obtain ⟨ρ, h1, h2⟩ := hg_tell (many := many) hn many (Nat.le_refl _)
  have hp : (⟨hg many, 3, many, ρ⟩ : Fr).blk.rs.length ≤ (⟨hg many, 3, many, ρ⟩ : Fr).pc := by
    show (List.replicate many (⟨-1, "tell", [2]⟩ : GRow)).length ≤ many
    rw [List.length_replicate]
    exact Nat.le_refl _
  have e1 : mics [] (2 + 3 * n + 1 + many + 1) (c0Of (hg many) [(n : Int)]) = ⟨[], List.replicate many 0, some (.gave 0)⟩ := by
    show mic [] (mics [] (2 + 3 * n + 1 + many) _) = _
    rw [h1, mic_en hp]
    show (⟨(backF (ρ.num 2) []).1, List.replicate many 0, (backF (ρ.num 2) []).2⟩ : MS) = _
    rw [Env.num_of h2]
    rfl
  exact ⟨⟨by rw [e1], by rw [h1]⟩, by rw [h1], by rw [e1]⟩
theorem hand_just {l m : Nat} {e : EndS} (hl : l ≤ 29) (f : FinG [] (c0Of (hg (2 + 3 * l)) [((998 - l : Nat) : Int)]) 3000 m e) : m = 3000 ∧ e = .gave 0 ∧ (mics [] m (c0Of (hg (2 + 3 * l)) [((998 - l : Nat) : Int)])).told = List.replicate (2 + 3 * l) 0 := by
  obtain ⟨h1, _, h3⟩ := hg_end (many := 2 + 3 * l) (n := 998 - l) (by omega)
  have e0 : 2 + 3 * (998 - l) + 1 + (2 + 3 * l) = 2999 := by omega
  rw [e0] at h1 h3
  obtain ⟨rfl, rfl⟩ := h1.on (Nat.le_refl _) f
  exact ⟨rfl, rfl, h3⟩
theorem hand_more {l m : Nat} {e : EndS} (hl : l ≤ 29) (le : m ≤ 3000) (f : FinG [] (c0Of (hg (3 + 3 * l)) [((998 - l : Nat) : Int)]) 3000 m e) : m = 3000 ∧ e = .on ∧ (mics [] m (c0Of (hg (3 + 3 * l)) [((998 - l : Nat) : Int)])).told = List.replicate (3 + 3 * l) 0 := by
  obtain ⟨h1, h2, _⟩ := hg_end (many := 3 + 3 * l) (n := 998 - l) (by omega)
  have e0 : 2 + 3 * (998 - l) + 1 + (3 + 3 * l) = 3000 := by omega
  rw [e0] at h1 h2
  obtain ⟨rfl, rfl⟩ := fin_more h1.2 le f
  exact ⟨rfl, rfl, h2⟩
end

section
variable {P : Program} {w : World} {K : PySem.W.Frag} {mg : Str → Option Value} {base : Heap}
def sp_mxd : Sp := fun vs H Q _ => ∃ c k : Int, vs = [.int c, .int k] ∧ ∀ n : Int, 0 ≤ n → n < 2147483629 → Q (.int n) H
theorem ok__law_mixed (T : Top K mg) : FnOk P w K mg base CX0 1 (He.ga K "_law_mixed") T.fd__law_mixed ["_law_cell", "_law_k"] sp_mxd := by
  refine T.F__law_mixed.ok sc__law_mixed (fun vs H Q E h => ?_) (fun cdv A0 outer s0 H vs Q E hr h => ?_)
  · obtain ⟨c, k, rfl, _⟩ := h
    rfl
  · obtain ⟨c, k, rfl, q⟩ := h
    refine ⟨_, PSs.nox (pss_cons (ps_set (i := 2) sc__law_mixed.nd rfl (Or.inl rfl) (pe_op op_mod (pe_op op_mul (pe_op op_add (pv 0) (pe_op op_mul pe_int (pv 1))) pe_int) pe_int))
        (pss_one (ps_ret (pe_op op_mod (pe_op op_add (pe_op op_add (pe_op op_mul (pv 2) (pv 2)) (pe_op op_mul pe_int (pv 2))) (pv 1)) pe_int)))), ?_⟩
    refine ⟨_, rfl, _, rfl, _, _, rfl, rfl, .inl ⟨by decide, by decide⟩, _, _, rfl, rfl, _, _, rfl, rfl, .inr ⟨by decide, by decide⟩, _, _, rfl, rfl, (by show (0 : Int) < 2147483647; decide), ?_⟩
    have nn : 0 ≤ (c + 7919 * k) * 48271 % 2147483647 ∧ (c + 7919 * k) * 48271 % 2147483647 < 2147483647 := ⟨Int.emod_nonneg _ (by decide), Int.emod_lt_of_pos _ (by decide)⟩
    refine ⟨_, rfl, _, rfl, _, _, rfl, rfl, .inl ⟨by omega, by omega⟩, _, rfl, _, _, rfl, rfl, .inl ⟨by decide, by decide⟩, _, _, rfl, rfl, _, rfl, _, _, rfl, rfl, _, _, rfl, rfl, (by show (0 : Int) < 2147483629; decide), ?_⟩
    exact q _ (Int.emod_nonneg _ (by decide)) (Int.emod_lt_of_pos _ (by decide))
/-- the inputs, numbers each -/
def sp_inp (K : PySem.W.Frag) : Sp := fun vs H Q _ => ∃ (pw : Addr) (c k : Int) (hs : List (Str × Nat × List Blk)) (main : List Blk) (m : Nat), vs = [.ref pw, .int c, .int k] ∧ WkAt K H pw hs main m ∧ m ≤ 100 ∧
  ∀ H' p (is : List Int), Same H H' → H' p = some (.lst (is.map V.int)) → H p = none → is.length = m → (∀ i ∈ is, In32 i) → Q (.ref p) H'
theorem ok__law_inputs (T : Top K mg) : FnOk P w K mg base CX0 2 (He.ga K "_law_inputs") T.fd__law_inputs ["_law_works_here", "_law_cell", "_law_k"] (sp_inp K) := by
  have G__law_mixed := ok__law_mixed (P := P) (w := w) (base := base) T
  refine T.F__law_inputs.ok sc__law_inputs (fun vs H Q E h => ?_) (fun cdv A0 outer s0 H vs Q E hr h => ?_)
  · obtain ⟨pw, c, k, hs, main, m, rfl, _⟩ := h
    rfl
  · obtain ⟨pw, c, k, hs, main, m, rfl, wa, m100, q⟩ := h
    refine ⟨_, PSs.nox (pss_cons (ps_set (i := 3) sc__law_inputs.nd rfl (Or.inl rfl) (pe_lst pa_nil))
        (pss_cons (ps_for PassesOwn.never (by rfl) (pi_range1 (by rfl) T.m_range (pa_cons (pe_callB call_len_seq (by rfl) T.m_len (by decide +kernel) (pa_cons (pe_ix ix_tup (pe_ix ix_tup (pe_ix ix_tup (pv 0) pe_int (fun _ _ => rfl)) pe_int (fun _ _ => rfl)) pe_int (fun _ _ => rfl)) pa_nil)) pa_nil)) (pg_name (i := 4) sc__law_inputs.nd rfl (Or.inl rfl)) (pss_cons (ps_set (i := 5) sc__law_inputs.nd rfl (Or.inl rfl) (pe_call G__law_mixed (hr.mono (by omega)) (by rfl) T.g__law_mixed T.F__law_mixed.kp T.b__law_mixed .nil pass0 (pa_cons (pv 1) (pa_cons (pe_op op_add (pv 2) (pe_op op_mul pe_int (pv 4))) pa_nil))))
        (pss_cons (ps_set (i := 6) sc__law_inputs.nd rfl (Or.inl rfl) (pe_ix ix_list (pe_lst (pa_cons pe_int (pa_cons (pe_un un_neg pe_int) (pa_cons pe_int (pa_cons (pe_un un_neg pe_int) pa_nil))))) (pe_op op_mod (pe_op op_fdivW (pv 5) pe_int) pe_int) (fun _ _ => rfl)))
        (pss_one (ps_expr (pe_bm PySem.F.plainAttrs_list PySem.F.slot_list_append PySem.F.type_list_append mt_append (pv 3) (pa_cons (pe_ix ix_list (pe_lst (pa_cons (pe_op op_sub (pe_op op_mod (pe_op op_fdivW (pv 5) pe_int) pe_int) pe_int) (pa_cons (pe_op op_sub (pe_op op_mod (pe_op op_fdivW (pv 5) pe_int) pe_int) pe_int) (pa_cons (pv 6) (pa_cons pe_int (pa_cons pe_int pa_nil)))))) (pe_op op_mod (pv 5) pe_int) (fun _ _ => rfl)) pa_nil)))))))
        (pss_one (ps_ret (pv 3))))), ?_⟩
    obtain ⟨⟨ph, vm, ys, hpw, hz, dys, dvm⟩, l1000, W, gr⟩ := wa
    obtain ⟨b, hb, lb, _⟩ := gr.b0
    obtain ⟨pg, xg, pb, pv, rv, evn, rfl, hxg, hxgi, hpb, dbl, dpv, drv, den⟩ := blk_at dvm hb
    obtain ⟨pp, xp, rfl, hpp, lxp, atp⟩ := params_at dpv
    refine ⟨Nat.zero_le _, fun L nL => ?_⟩
    have s1 := same_new (o := .lst []) nL
    refine ⟨_, rfl, pw, _, 1, _, rfl, rfl, sqT_sm s1 hpw, atI_nat (j := 1) rfl, pg, _, 0, _, rfl, rfl, sqT_sm s1 hxg, atI_nat (j := 0) hxgi, pb, _, 0, _, rfl, rfl, sqT_sm s1 hpb, atI_nat (j := 0) rfl, pp, xp, rfl, .inr (sqT_sm s1 hpp), ?_⟩
    refine ⟨_, rfl, by omega, by omega, ?_⟩
    have lm : xp.length = m := by omega
    refine for_range (lo := 0) (n := xp.length) (fun i σ' H' => Same H H' ∧ ∃ (is : List Int) (x4 x5 x6 : Option V), H' L = some (.lst (is.map V.int)) ∧ is.length = i ∧ (∀ x ∈ is, In32 x) ∧ σ' = [some (.ref pw), some (.int c), some (.int k), some (.ref L), x4, x5, x6]) ?_ ?_ ?_
    · exact ⟨s1, [], none, none, none, upd_same, rfl, (fun x hx => nomatch hx), rfl⟩
    · rintro i σ' H1 hi ⟨s', is, y4, y5, y6, eL, li, i32, rfl⟩
      refine ⟨_, rfl, _, rfl, _, rfl, _, _, rfl, rfl, .inl ⟨by decide, by decide⟩, _, _, rfl, rfl, _, _, rfl, fun n n0 n1 => ?_⟩
      refine ⟨_, rfl, _, rfl, (by rw [sizeLine_eq]; decide), fun l nl => ?_⟩
      have sl := same_new (o := .lst [V.int 2147483647, .int (-2147483648), .int 12345, .int (-1)]) nl
      obtain ⟨v, hv, z, rfl, z32⟩ : ∃ v, atI [V.int 2147483647, .int (-2147483648), .int 12345, .int (-1)] (n / 5 % 4) = some v ∧ ∃ z, v = .int z ∧ In32 z := by
        have h : n / 5 % 4 = 0 ∨ n / 5 % 4 = 1 ∨ n / 5 % 4 = 2 ∨ n / 5 % 4 = 3 := by omega
        rcases h with h | h | h | h <;> rw [h]
        · exact ⟨_, rfl, _, rfl, by decide, by decide⟩
        · exact ⟨_, rfl, _, rfl, by decide, by decide⟩
        · exact ⟨_, rfl, _, rfl, by decide, by decide⟩
        · exact ⟨_, rfl, _, rfl, by decide, by decide⟩
      refine ⟨_, rfl, _, _, rfl, rfl, ⟨by decide, by decide⟩, _, _, rfl, rfl, (by show (0 : Int) < 4; decide), l, _, _, _, rfl, rfl, .of upd_same, hv, ?_⟩
      refine ⟨_, rfl, .inl ⟨rfl, _, .of (sl _ _ eL)⟩, _, rfl, _, _, rfl, rfl, ⟨by decide, by decide⟩, _, _, rfl, rfl, (by show (0 : Int) < 9; decide), _, _, rfl, rfl, _, rfl, _, _, rfl, rfl, ⟨by decide, by decide⟩, _, _, rfl, rfl, (by show (0 : Int) < 100; decide), _, _, rfl, rfl, _, rfl, (by rw [sizeLine_eq]; show 5 ≤ _; decide), fun l2 nl2 => ?_⟩
      obtain ⟨u, hu, y, rfl, y32⟩ : ∃ v, atI [V.int (n / 5 % 9 - 3), .int (n / 5 % 100 - 50), .int z, .int 0, .int 1] (n % 5) = some v ∧ ∃ z, v = .int z ∧ In32 z := by
        have h : n % 5 = 0 ∨ n % 5 = 1 ∨ n % 5 = 2 ∨ n % 5 = 3 ∨ n % 5 = 4 := by omega
        rcases h with h | h | h | h | h <;> rw [h]
        · exact ⟨_, rfl, _, rfl, by omega, by omega⟩
        · exact ⟨_, rfl, _, rfl, by omega, by omega⟩
        · exact ⟨_, rfl, _, rfl, z32⟩
        · exact ⟨_, rfl, _, rfl, by decide, by decide⟩
        · exact ⟨_, rfl, _, rfl, by decide, by decide⟩
      have sl2 := same_new (o := .lst [V.int (n / 5 % 9 - 3), .int (n / 5 % 100 - 50), .int z, .int 0, .int 1]) nl2
      refine ⟨_, rfl, _, _, rfl, rfl, (by show (0 : Int) < 5; decide), l2, _, _, _, rfl, rfl, .of upd_same, hu, L, _, _, rfl, rfl, sl2 _ _ (sl _ _ eL), by rw [List.length_map, li, sizeLine_eq]; omega, same_upd ((s'.trans sl).trans sl2) nL, is ++ [y], _, _, _, ?_, by rw [List.length_append, li]; rfl, fun x hx => ?_, rfl⟩
      · rw [upd_same, List.map_append]
        rfl
      · rcases List.mem_append.mp hx with hx | hx
        · exact i32 x hx
        · rw [List.mem_singleton.mp hx]
          exact y32
    · rintro σ' H1 ⟨s', is, y4, y5, y6, eL, li, i32, rfl⟩
      exact ⟨_, rfl, q H1 L is s' eL nL (by omega) i32⟩
end

theorem ne_use {x y : V} {H : Hp} {Q : VK} (e : x = y) (s : scal x y = true) (q : Q (.bl false) H) : rNe x y H Q := by
  subst e
  refine ⟨s, ?_⟩
  rw [decide_eq_true rfl]
  exact q
theorem eq_use {x y : V} {H : Hp} {Q : VK} (e : x = y) (s : scal x y = true) (q : Q (.bl true) H) : rEq x y H Q := by
  subst e
  refine ⟨s, ?_⟩
  rw [decide_eq_true rfl]
  exact q

theorem MS.told_len {hs : List (Str × Nat × List Blk)} {c : MS} : (mic hs c).told.length ≤ c.told.length + 1 := by
  obtain ⟨frs, told, e0⟩ := c
  cases e0 with
  | some e => exact Nat.le_succ _
  | none =>
    cases frs with
    | nil => exact Nat.le_succ _
    | cons f r =>
      cases hr : f.blk.rs[f.pc]? with
      | some row =>
        rw [mic_row hr]
        unfold micRow
        cases hp : play row f.ρ with
        | error w => exact Nat.le_succ _
        | ok vl =>
          by_cases c : 0 ≤ row.v
          · simp only [if_pos c]
            exact Nat.le_succ _
          · simp only [if_neg c]
            rw [List.length_append]
            exact Nat.le_refl _
      | none =>
        rw [mic_en (List.getElem?_eq_none_iff.mp hr)]
        cases he : f.blk.en <;> exact Nat.le_succ _
theorem mics_len {hs : List (Str × Nat × List Blk)} {c : MS} : ∀ k, (mics hs k c).told.length ≤ c.told.length + k
  | 0 => Nat.le_refl _
  | k + 1 => Nat.le_trans MS.told_len (by have := mics_len (hs := hs) (c := c) k; omega)

/-! the law's own reckoning, its own doing of a row -/
section
variable {P : Program} {w : World} {K : PySem.W.Frag} {mg : Str → Option Value} {base : Heap}
theorem ok__law_wrapped (T : Top K mg) : FnOk P w K mg base CX0 1 (He.ga K "_law_wrapped") T.fd__law_wrapped ["_law_number_here"] sp_wrapped := by
  refine T.F__law_wrapped.ok sc__law_wrapped (fun vs H Q E h => ?_) (fun cdv A outer s H vs Q E hr h => ?_)
  · obtain ⟨n, rfl, _⟩ := h
    rfl
  · obtain ⟨n, rfl, q⟩ := h
    refine ⟨_, PSs.nox (pss_one (ps_ret (pe_op op_sub (pe_op op_mod (pe_op op_add (pv 0) pe_int) pe_int) pe_int))), ?_⟩
    exact ⟨_, rfl, _, _, rfl, rfl, _, _, rfl, rfl, (by show (0 : Int) < 4294967296; decide), _, _, rfl, rfl, q⟩
def tb3 (a b c : V) : List (Key × V) := mergeK [] [(.inr "add", a), (.inr "sub", b), (.inr "mul", c)]
theorem tb3_eq (a b c : V) : tb3 a b c = putK (putK (putK [] (.inr "add") a) (.inr "sub") b) (.inr "mul") c := rfl
theorem tb3_val (a b c : V) (w : Str) : valV (tb3 a b c) (.inr w) = if w = "mul" then some c else if w = "sub" then some b else if w = "add" then some a else none := by
  rw [tb3_eq, valV_put, valV_put, valV_put]
  have inj : ∀ x y : Str, ((Sum.inr x : Key) = .inr y) = (x = y) := fun x y => propext ⟨fun h => by injection h, fun h => by rw [h]⟩
  simp only [inj]
  rfl
theorem fmod_eq (u v : Int) : u.fmod v = u - u.fdiv v * v := by
  have h := Int.mul_fdiv_add_fmod u v
  rw [Int.mul_comm] at h
  omega
theorem wrb (b : Bool) : wr (b2n b) = b2n b := by cases b <;> decide
theorem ok__law_reckoned (T : Top K mg) : FnOk P w K mg base CX0 2 (He.ga K "_law_reckoned") T.fd__law_reckoned ["_law_word", "_law_one", "_law_other"] sp_reckoned := by
  have G__law_wrapped := ok__law_wrapped (P := P) (w := w) (base := base) T
  refine T.F__law_reckoned.ok sc__law_reckoned (fun vs H Q E h => ?_) (fun cdv A outer s H vs Q E hr h => ?_)
  · obtain ⟨wd, a, b, v, rfl, _⟩ := h
    rfl
  · obtain ⟨wd, u, v, ev, rfl, u32, v32, hd, q⟩ := h
    refine ⟨_, PSs.nox (pss_cons (ps_if (PW.pt (pw_and (pt_cmpR op_in_seq (pv 0) (pe_lst (pa_cons pe_str (pa_cons pe_str pa_nil))) (by rfl)) (pw_and1 (pt_cmpR op_eq (pv 2) pe_int (nomark _))))) (pss_one (ps_ret pe_non)) pss_nil)
        (pss_cons (ps_set (i := 3) sc__law_reckoned.nd rfl (Or.inl rfl) (pe_dget2 (hu_of hr) (pe_disp (pps_cons pe_str (pe_op op_add (pv 1) (pv 2)) (pps_cons pe_str (pe_op op_sub (pv 1) (pv 2)) (pps_cons pe_str (pe_op op_mul (pv 1) (pv 2)) pps_nil))) (by rfl) (by rfl) (fun z => by cases z) (by decide)) (pv 0) pe_int ⟨rfl, rfl, rfl, rfl⟩))
        (pss_cons (ps_if (pt_cmpR op_eq (pv 0) pe_str (nomark _)) (pss_one (ps_set (i := 3) sc__law_reckoned.nd rfl (Or.inl rfl) (pe_op op_fdivG (pv 1) (pv 2)))) pss_nil)
        (pss_cons (ps_if (pt_cmpR op_eq (pv 0) pe_str (nomark _)) (pss_one (ps_set (i := 3) sc__law_reckoned.nd rfl (Or.inl rfl) (pe_op op_sub (pv 1) (pe_op op_mul (pe_op op_fdivG (pv 1) (pv 2)) (pv 2))))) pss_nil)
        (pss_cons (ps_if (pt_cmpR op_eq (pv 0) pe_str (nomark _)) (pss_one (ps_set (i := 3) sc__law_reckoned.nd rfl (Or.inl rfl) (pe_callTy call_int1 (by rfl) T.m_int (by decide +kernel) (pa_cons (pe_cmpR op_lt (pv 1) (pv 2) (nomark _)) pa_nil)))) pss_nil)
        (pss_cons (ps_if (pt_cmpR op_eq (pv 0) pe_str (nomark _)) (pss_one (ps_set (i := 3) sc__law_reckoned.nd rfl (Or.inl rfl) (pe_callTy call_int1 (by rfl) T.m_int (by decide +kernel) (pa_cons (pe_cmpR op_eq (pv 1) (pv 2) (nomark _)) pa_nil)))) pss_nil)
        (pss_one (ps_ret (pe_call G__law_wrapped (hr.mono (by omega)) (by rfl) T.g__law_wrapped T.F__law_wrapped.kp T.b__law_wrapped .nil pass0 (pa_cons (pv 3) pa_nil)))))))))), ?_⟩
    have mulc : (-(2 ^ 64) < u ∧ u < 2 ^ 64) := by obtain ⟨h1, h2⟩ := u32; omega
    have fdv : ∀ h : v ≠ 0, v ≠ 0 ∧ v.natAbs.log2 < 9000 := fun h => ⟨h, log_small ⟨v32.1, by have := v32.2; omega⟩⟩
    refine ifs_by (fun σ' H' => Same H H' ∧ σ' = [some (.str wd), some (.int u), some (.int v), none] ∧ ev ≠ .non) ?_ ?_
    rotate_left
    · intro N hN
      refine ⟨_, rfl, two_le, fun l nl => ?_⟩
      have s1 := same_new (o := .lst [V.str "div", .str "rem"]) nl
      refine ⟨l, _, rfl, .inl (.of upd_same), rfl, rfl, _, rfl, ?_⟩
      cases hd with
      | div0 h => exact ifT (by decide +kernel) ⟨_, rfl, rfl, _, rfl, ifD (by rw [h]) (q _ s1)⟩
      | rem0 h => exact ifT (by decide +kernel) ⟨_, rfl, rfl, _, rfl, ifD (by rw [h]) (q _ s1)⟩
      | div h => exact ifT (by decide +kernel) ⟨_, rfl, rfl, _, rfl, ifN (fun z => h (V.int.inj z)) (hN _ _ ⟨s1, rfl, (fun z => nomatch z)⟩)⟩
      | rem h => exact ifT (by decide +kernel) ⟨_, rfl, rfl, _, rfl, ifN (fun z => h (V.int.inj z)) (hN _ _ ⟨s1, rfl, (fun z => nomatch z)⟩)⟩
      | add => exact ifF (by decide +kernel) (hN _ _ ⟨s1, rfl, (fun z => nomatch z)⟩)
      | sub => exact ifF (by decide +kernel) (hN _ _ ⟨s1, rfl, (fun z => nomatch z)⟩)
      | mul => exact ifF (by decide +kernel) (hN _ _ ⟨s1, rfl, (fun z => nomatch z)⟩)
      | less => exact ifF (by decide +kernel) (hN _ _ ⟨s1, rfl, (fun z => nomatch z)⟩)
      | same => exact ifF (by decide +kernel) (hN _ _ ⟨s1, rfl, (fun z => nomatch z)⟩)
    rintro σ' H1 ⟨s1, rfl, nn⟩
    intro D1 hD1
    have s4 : Same H (upd (upd H1 D1 (.dK [])) D1 (.dK (tb3 (.int (u + v)) (.int (u - v)) (.int (u * v))))) := by
      rw [upd_upd]
      exact s1.trans (same_new hD1)
    refine ⟨_, rfl, _, rfl, _, _, rfl, rfl, _, rfl, _, rfl, _, _, rfl, rfl, _, rfl, _, rfl, _, _, rfl, rfl, .inl mulc, ?_⟩
    refine ⟨upd_same, [(.inr "add", _), (.inr "sub", _), (.inr "mul", _)], rfl, (by show 3 ≤ 15; decide), D1, rfl, .inl ⟨_, .inl upd_same⟩, _, rfl, _, DGet.k (k := .inr wd) upd_same, ?_⟩
    show gName 3 ((valV (tb3 (.int (u + v)) (.int (u - v)) (.int (u * v))) (.inr wd)).getD (.int 0)) _ _ _
    rw [tb3_val]
    have etb : mergeK [] [((.inr "add" : Key), V.int (u + v)), (.inr "sub", V.int (u - v)), (.inr "mul", V.int (u * v))] = tb3 (.int (u + v)) (.int (u - v)) (.int (u * v)) := rfl
    rw [← etb] at s4
    generalize upd (upd H1 D1 (.dK [])) D1 (.dK (mergeK [] [((.inr "add" : Key), V.int (u + v)), (.inr "sub", V.int (u - v)), (.inr "mul", V.int (u * v))])) = H4 at s4 ⊢
    cases hd with
    | div0 h => exact absurd rfl nn
    | rem0 h => exact absurd rfl nn
    | div h =>
      rw [if_neg (by decide +kernel), if_neg (by decide +kernel), if_neg (by decide +kernel)]
      refine ⟨_, rfl, rfl, _, rfl, ifD rfl ⟨_, rfl, _, rfl, u, v, rfl, rfl, fdv h, ?_⟩⟩
      refine ⟨_, rfl, rfl, _, rfl, ifN (by decide +kernel) ?_⟩
      refine ⟨_, rfl, rfl, _, rfl, ifN (by decide +kernel) ?_⟩
      exact ⟨_, rfl, rfl, _, rfl, ifN (by decide +kernel) ⟨_, rfl, _, rfl, q _ s4⟩⟩
    | rem h =>
      rw [if_neg (by decide +kernel), if_neg (by decide +kernel), if_neg (by decide +kernel)]
      refine ⟨_, rfl, rfl, _, rfl, ifN (by decide +kernel) ?_⟩
      refine ⟨_, rfl, rfl, _, rfl, ifD rfl ⟨_, rfl, _, rfl, _, rfl, u, v, rfl, rfl, fdv h, _, rfl, _, _, rfl, rfl, .inr ⟨by have := v32.1; omega, by have := v32.2; omega⟩, _, _, rfl, rfl, ?_⟩⟩
      refine ⟨_, rfl, rfl, _, rfl, ifN (by decide +kernel) ?_⟩
      refine ⟨_, rfl, rfl, _, rfl, ifN (by decide +kernel) ⟨_, rfl, _, rfl, ?_⟩⟩
      have q2 := q _ s4
      rw [fmod_eq] at q2
      exact q2
    | add =>
      rw [if_neg (by decide +kernel), if_neg (by decide +kernel), if_pos rfl]
      refine ⟨_, rfl, rfl, _, rfl, ifN (by decide +kernel) ?_⟩
      refine ⟨_, rfl, rfl, _, rfl, ifN (by decide +kernel) ?_⟩
      refine ⟨_, rfl, rfl, _, rfl, ifN (by decide +kernel) ?_⟩
      exact ⟨_, rfl, rfl, _, rfl, ifN (by decide +kernel) ⟨_, rfl, _, rfl, q _ s4⟩⟩
    | sub =>
      rw [if_neg (by decide +kernel), if_pos rfl]
      refine ⟨_, rfl, rfl, _, rfl, ifN (by decide +kernel) ?_⟩
      refine ⟨_, rfl, rfl, _, rfl, ifN (by decide +kernel) ?_⟩
      refine ⟨_, rfl, rfl, _, rfl, ifN (by decide +kernel) ?_⟩
      exact ⟨_, rfl, rfl, _, rfl, ifN (by decide +kernel) ⟨_, rfl, _, rfl, q _ s4⟩⟩
    | mul =>
      rw [if_pos rfl]
      refine ⟨_, rfl, rfl, _, rfl, ifN (by decide +kernel) ?_⟩
      refine ⟨_, rfl, rfl, _, rfl, ifN (by decide +kernel) ?_⟩
      refine ⟨_, rfl, rfl, _, rfl, ifN (by decide +kernel) ?_⟩
      exact ⟨_, rfl, rfl, _, rfl, ifN (by decide +kernel) ⟨_, rfl, _, rfl, q _ s4⟩⟩
    | less =>
      rw [if_neg (by decide +kernel), if_neg (by decide +kernel), if_neg (by decide +kernel)]
      refine ⟨_, rfl, rfl, _, rfl, ifN (by decide +kernel) ?_⟩
      refine ⟨_, rfl, rfl, _, rfl, ifN (by decide +kernel) ?_⟩
      refine ⟨_, rfl, rfl, _, rfl, ifD rfl ⟨_, rfl, _, rfl, _, _, rfl, rfl, .inr ⟨_, rfl, ?_⟩⟩⟩
      refine ⟨_, rfl, rfl, _, rfl, ifN (by decide +kernel) ⟨_, rfl, _, rfl, ?_⟩⟩
      show Q (.int (wr (b2n (decide (u < v))))) _
      rw [wrb]
      exact q _ s4
    | same =>
      rw [if_neg (by decide +kernel), if_neg (by decide +kernel), if_neg (by decide +kernel)]
      refine ⟨_, rfl, rfl, _, rfl, ifN (by decide +kernel) ?_⟩
      refine ⟨_, rfl, rfl, _, rfl, ifN (by decide +kernel) ?_⟩
      refine ⟨_, rfl, rfl, _, rfl, ifN (by decide +kernel) ?_⟩
      refine ⟨_, rfl, rfl, _, rfl, ifD rfl ⟨_, rfl, _, rfl, rfl, .inr ⟨_, rfl, ?_⟩⟩⟩
      refine ⟨_, rfl, _, rfl, ?_⟩
      show Q (.int (wr (b2n (decide (V.int u = V.int v))))) _
      rw [wrb, show decide (V.int u = V.int v) = decide (u = v) by by_cases z : u = v <;> simp [z]]
      exact q _ s4
/-- what a row bears, or a fault in a list -/
def DoL (K : PySem.W.Frag) (H : Hp) (v : V) : Except Str Vl → Prop
  | .ok vl => Dp K H v vl.d
  | .error f => ∃ l, v = .ref l ∧ H l = some (.lst [.str f])
def sp_ldo (K : PySem.W.Frag) : Sp := fun vs H Q _ => ∃ (d : Addr) (rv : V) (r : GRow) (ρ : Env) (cn : Str), vs = [rv, .ref d] ∧ Dp K H rv r.d ∧ EnvAt K H d ρ ∧ PlayOk ρ cn r ∧ cn ≠ "TellDeed" ∧
  ∀ H' v, Same H H' → DoL K H' v (play r ρ) → Q v H'
theorem ok__law_do (T : Top K mg) : FnOk P w K mg base CX0 3 (He.ga K "_law_do") T.fd__law_do ["_law_row", "_law_values"] (sp_ldo K) := by
  have G__law_reckoned := ok__law_reckoned (P := P) (w := w) (base := base) T
  refine T.F__law_do.ok sc__law_do (fun vs H Q E h => ?_) (fun cdv A outer s H vs Q E hr h => ?_)
  · obtain ⟨d, rv, r, ρ, cn, rfl, _⟩ := h
    rfl
  · obtain ⟨d, rv, r, ρ, cn, rfl, dr, en, ok, nt, q⟩ := h
    refine ⟨_, PSs.nox (pss_cons (ps_set (i := 2) sc__law_do.nd rfl (Or.inl rfl) (pe_ix ix_tup (pv 0) pe_int (fun _ _ => rfl)))
        (pss_cons (ps_if (pt_cmpR op_eq (pv 2) pe_str (nomark _)) (pss_one (ps_ret (pe_ix ix_tup (pv 0) pe_int (fun _ _ => rfl)))) pss_nil)
        (pss_cons (ps_if (pt_cmpR op_eq (pv 2) pe_str (nomark _)) (pss_one (ps_ret (pe_op op_repT1 (pe_tup (pa_cons pe_int pa_nil)) (pe_ix ix_tup (pv 0) pe_int (fun _ _ => rfl))))) pss_nil)
        (pss_cons (ps_if (pt_cmpR op_eq (pv 2) pe_str (nomark _)) (pss_one (ps_ret (pe_callTy call_int1 (by rfl) T.m_int (by decide +kernel) (pa_cons (pe_cmpR op_eq (pe_dget (hu_of hr) (pv 1) (pe_ix ix_tup (pv 0) pe_int (fun _ _ => rfl)) (fun _ _ => rfl)) pe_int (nomark _)) pa_nil)))) pss_nil)
        (pss_cons (ps_if (pt_cmpR op_notIn_seq (pv 2) (pe_lst (pa_cons pe_str (pa_cons pe_str pa_nil))) (by rfl)) (pss_cons (ps_set (i := 3) sc__law_do.nd rfl (Or.inl rfl) (pe_call G__law_reckoned (hr.mono (by omega)) (by rfl) T.g__law_reckoned T.F__law_reckoned.kp T.b__law_reckoned .nil pass0 (pa_cons (pv 2) (pa_cons (pe_dget (hu_of hr) (pv 1) (pe_ix ix_tup (pv 0) pe_int (fun _ _ => rfl)) (fun _ _ => rfl)) (pa_cons (pe_dget (hu_of hr) (pv 1) (pe_ix ix_tup (pv 0) pe_int (fun _ _ => rfl)) (fun _ _ => rfl)) pa_nil)))))
        (pss_one (ps_ret (pe_ifExp (pt_cmpR op_isN (pv 3) pe_non (nomark _)) (pe_lst (pa_cons pe_str pa_nil)) (pv 3))))) pss_nil)
        (pss_cons (ps_set (i := 4) sc__law_do.nd rfl (Or.inl rfl) (pe_dget (hu_of hr) (pv 1) (pe_ix ix_tup (pv 0) pe_int (fun _ _ => rfl)) (fun _ _ => rfl)))
        (pss_cons (ps_set (i := 5) sc__law_do.nd rfl (Or.inl rfl) (pe_dget (hu_of hr) (pv 1) (pe_ix ix_tup (pv 0) pe_int (fun _ _ => rfl)) (fun _ _ => rfl)))
        (pss_cons (ps_if (PW.pt (pw_or (pt_cmpR op_lt (pv 5) pe_int (nomark _)) (pw_or1 (pt_cmpR op_ge (pv 5) (pe_callB call_len_seq (by rfl) T.m_len (by decide +kernel) (pa_cons (pv 4) pa_nil)) (nomark _))))) (pss_one (ps_ret (pe_lst (pa_cons pe_str pa_nil)))) pss_nil)
        (pss_cons (ps_if (pt_cmpR op_eq (pv 2) pe_str (nomark _)) (pss_one (ps_ret (pe_ix ix_tup (pv 4) (pv 5) (fun _ _ => rfl)))) pss_nil)
        (pss_one (ps_ret (pe_op op_catA (pe_op op_catA (pe_slice sl_tupA (pv 4) po_none (po_some (pv 5))) (pe_tup (pa_cons (pe_dget (hu_of hr) (pv 1) (pe_ix ix_tup (pv 0) pe_int (fun _ _ => rfl)) (fun _ _ => rfl)) pa_nil))) (pe_slice sl_tupA (pv 4) (po_some (pe_op op_add (pv 5) pe_int)) po_none))))))))))))), ?_⟩
    obtain ⟨p, xs, rfl, hp, dxs⟩ := row_parts dr
    refine ⟨_, rfl, p, _, 1, _, rfl, rfl, hp, atI_nat (j := 1) rfl, ?_⟩
    dsimp only [gName, List.set]
    cases ok with
    | tell e => exact absurd e nt
    | num e v n er h =>
      subst er
      obtain ⟨v1, r1, rfl, d1, t1⟩ := dpAll_cons dxs
      rw [dp_int d1] at hp
      refine ⟨_, rfl, rfl, _, rfl, ifD rfl ⟨_, rfl, p, _, 2, _, rfl, rfl, hp, atI_nat (j := 2) rfl, q _ _ (Same.refl _) ?_⟩⟩
      rw [play_number]
      exact .int n
    | fresh e v n er n1 n8 =>
      subst er
      dsimp only
      obtain ⟨v1, r1, rfl, d1, t1⟩ := dpAll_cons dxs
      rw [dp_int d1] at hp
      refine ⟨_, rfl, rfl, _, rfl, ifN (by decide +kernel) ?_⟩
      refine ⟨_, rfl, rfl, _, rfl, ifD rfl ⟨one_le, fun t0 nt0 => ?_⟩⟩
      have s0 := same_new (o := .tup [V.int 0]) nt0
      have e : play ⟨v, "fresh", [n]⟩ ρ = .ok (.r (List.replicate n.toNat 0)) := play_fresh ..
      have fin : ∀ (u : Addr) (H' : Hp), Same H H' → SqT K H' u ((List.replicate n.toNat (0 : Int)).map V.int) → Q (.ref u) H' := fun u H' s' hu => by
        refine q _ _ s' ?_
        rw [e]
        exact .tup hu (ints_dpAll _)
      refine ⟨_, rfl, p, _, 2, _, rfl, rfl, sqT_sm s0 hp, atI_nat (j := 2) rfl, t0, n, _, rfl, rfl, .inl (.of upd_same), (fun z => nomatch z), n1, by omega, by simp, fun h1 => fin _ _ s0 ?_, fun _ u nu => fin _ _ (s0.trans (same_new nu)) ?_⟩
      · subst h1
        exact .inl (.of upd_same)
      · rw [repl_flat]
        exact .inl (.of upd_same)
    | no e v a i er ha =>
      subst er
      dsimp only
      obtain ⟨v1, r1, rfl, d1, t1⟩ := dpAll_cons dxs
      rw [dp_int d1] at hp
      obtain ⟨u, dg, du⟩ := en.get ha
      have eu := dp_int du
      subst eu
      refine ⟨_, rfl, rfl, _, rfl, ifN (by decide +kernel) ?_⟩
      refine ⟨_, rfl, rfl, _, rfl, ifN (by decide +kernel) ?_⟩
      refine ⟨_, rfl, rfl, _, rfl, ifD rfl ⟨_, rfl, _, rfl, p, _, 2, _, rfl, rfl, hp, atI_nat (j := 2) rfl, _, _, rfl, dg, rfl, .inr ⟨_, rfl, q _ _ (Same.refl _) ?_⟩⟩⟩
      rw [play_not, Env.num_of ha]
      show Dp K H (.int (b2n (decide (V.int i = V.int 0)))) (.int (b2n (decide (i = 0))))
      rw [show decide (V.int i = V.int 0) = decide (i = 0) by by_cases z : i = 0 <;> simp [z]]
      exact .int _
    | op e v wd a b i j er hw ha hb i1 j1 =>
      subst er
      obtain ⟨v1, r1, rfl, d1, t1⟩ := dpAll_cons dxs
      obtain ⟨v2, r2, rfl, d2, t2⟩ := dpAll_cons t1
      rw [dp_int d1, dp_int d2] at hp
      obtain ⟨u1, g1, du1⟩ := en.get ha
      have eu1 := dp_int du1
      subst eu1
      obtain ⟨u2, g2, du2⟩ := en.get hb
      have eu2 := dp_int du2
      subst eu2
      have nw : ∀ w ∈ wds, w ≠ "number" ∧ w ≠ "fresh" ∧ w ≠ "not" ∧ w ∉ (["get", "put"] : List Str) := by decide +kernel
      obtain ⟨n1, n2, n3, n4⟩ := nw wd hw
      refine ⟨_, rfl, rfl, _, rfl, ifN (fun z => n1 (V.str.inj z)) ?_⟩
      refine ⟨_, rfl, rfl, _, rfl, ifN (fun z => n2 (V.str.inj z)) ?_⟩
      refine ⟨_, rfl, rfl, _, rfl, ifN (fun z => n3 (V.str.inj z)) ?_⟩
      refine ⟨_, rfl, two_le, fun l nl => ?_⟩
      have s1 := same_new (o := .lst [V.str "get", .str "put"]) nl
      refine ⟨l, _, rfl, .inl (.of upd_same), rfl, rfl, _, rfl, ?_⟩
      refine ifT (by
        rw [show inV (.str wd) [.str "get", .str "put"] = decide (wd ∈ (["get", "put"] : List Str)) from in_words (l := ["get", "put"]), decide_eq_false n4]
        rfl) ?_
      have en1 := en.sm s1
      have hp1 := sqT_sm s1 hp
      obtain ⟨u1, g1, du1⟩ := en1.get ha
      have eu1 := dp_int du1
      subst eu1
      obtain ⟨u2, g2, du2⟩ := en1.get hb
      have eu2 := dp_int du2
      subst eu2
      refine ⟨_, rfl, _, rfl, _, rfl, p, _, 2, _, rfl, rfl, hp1, atI_nat (j := 2) rfl, _, _, rfl, g1, _, rfl, _, rfl, p, _, 3, _, rfl, rfl, hp1, atI_nat (j := 3) rfl, _, _, rfl, g2, ?_⟩
      refine ⟨wd, i, j, vOf (rck wd i j), rfl, i1, j1, due_rck hw, fun H1 s2 => ?_⟩
      dsimp only [gName, List.set]
      have e : play ⟨v, wd, [a, b]⟩ ρ = match rck wd i j with
          | none => .error "division"
          | some v => .ok (.n v) := by
        rw [play_op ρ v a b hw, Env.num_of ha, Env.num_of hb] <;> rfl
      cases hk : rck wd i j with
      | none =>
        rw [hk] at e
        refine ⟨_, rfl, rfl, _, rfl, ifD rfl ⟨one_le, fun t nt => q _ _ ((s1.trans s2).trans (same_new nt)) ?_⟩⟩
        rw [e]
        exact ⟨_, rfl, upd_same⟩
      | some z =>
        rw [hk] at e
        refine ⟨_, rfl, rfl, _, rfl, ifN (fun y => nomatch y) ⟨_, rfl, q _ _ (s1.trans s2) ?_⟩⟩
        rw [e]
        exact .int z
    | get e v h a i l er hh l8 ha =>
      subst er
      dsimp only
      obtain ⟨v1, r1, rfl, d1, t1⟩ := dpAll_cons dxs
      obtain ⟨v2, r2, rfl, d2, t2⟩ := dpAll_cons t1
      rw [dp_int d1, dp_int d2] at hp
      refine ⟨_, rfl, rfl, _, rfl, ifN (by decide +kernel) ?_⟩
      refine ⟨_, rfl, rfl, _, rfl, ifN (by decide +kernel) ?_⟩
      refine ⟨_, rfl, rfl, _, rfl, ifN (by decide +kernel) ?_⟩
      refine ⟨_, rfl, two_le, fun l0 nl0 => ?_⟩
      have s1 := same_new (o := .lst [V.str "get", .str "put"]) nl0
      refine ⟨l0, _, rfl, .inl (.of upd_same), rfl, rfl, _, rfl, ifF (by decide +kernel) ?_⟩
      generalize upd H l0 (.lst [V.str "get", .str "put"]) = H1 at s1 ⊢
      have en1 := en.sm s1
      have hp1 := sqT_sm s1 hp
      obtain ⟨u1, g1, du1⟩ := en1.get hh
      obtain ⟨pl, xl, rfl, hpl, dpl⟩ := dp_tup du1
      have exl := dpAll_ints dpl
      subst exl
      obtain ⟨u2, g2, du2⟩ := en1.get ha
      have eu2 := dp_int du2
      subst eu2
      have e : play ⟨v, "get", [h, a]⟩ ρ = if inRow l i then .ok (.n (l.getD i.toNat 0)) else .error "place" := by
        rw [play_get, Env.num_of ha, Env.row_of hh]
      have bad : ¬ inRow l i → ∀ t, H1 t = none → Q (.ref t) (upd H1 t (.lst [.str "place"])) := fun h t nt => by
        refine q _ _ (s1.trans (same_new nt)) ?_
        rw [e, if_neg h]
        exact ⟨_, rfl, upd_same⟩
      refine ⟨_, rfl, _, rfl, p, _, 2, _, rfl, rfl, hp1, atI_nat (j := 2) rfl, _, _, rfl, g1, ?_⟩
      refine ⟨_, rfl, _, rfl, p, _, 3, _, rfl, rfl, hp1, atI_nat (j := 3) rfl, _, _, rfl, g2, ?_⟩
      dsimp only [gName, List.set]
      refine ⟨_, rfl, _, _, rfl, rfl, _, rfl, ?_⟩
      by_cases c0 : i < 0
      · refine ifD c0 (ifT rfl ⟨one_le, bad fun z => absurd z.1 (by omega)⟩)
      · refine ifN c0 ⟨_, rfl, _, rfl, pl, _, rfl, .inr hpl, _, _, rfl, rfl, _, rfl, ?_⟩
        rw [List.length_map]
        by_cases c1 : (l.length : Int) ≤ i
        · refine ifD c1 ⟨one_le, bad fun z => absurd z.2 (by omega)⟩
        · refine ifN c1 ?_
          refine ⟨_, rfl, rfl, _, rfl, ifD rfl ⟨_, rfl, _, rfl, pl, _, i, _, rfl, rfl, hpl, at_intsR ⟨by omega, by omega⟩, q _ _ s1 ?_⟩⟩
          rw [e, if_pos ⟨by omega, by omega⟩]
          exact .int _
    | put e v h a y i j l er hh l8 ha hy =>
      subst er
      dsimp only
      obtain ⟨v1, r1, rfl, d1, t1⟩ := dpAll_cons dxs
      obtain ⟨v2, r2, rfl, d2, t2⟩ := dpAll_cons t1
      obtain ⟨v3, r3, rfl, d3, t3⟩ := dpAll_cons t2
      rw [dp_int d1, dp_int d2, dp_int d3] at hp
      refine ⟨_, rfl, rfl, _, rfl, ifN (by decide +kernel) ?_⟩
      refine ⟨_, rfl, rfl, _, rfl, ifN (by decide +kernel) ?_⟩
      refine ⟨_, rfl, rfl, _, rfl, ifN (by decide +kernel) ?_⟩
      refine ⟨_, rfl, two_le, fun l0 nl0 => ?_⟩
      have s1 := same_new (o := .lst [V.str "get", .str "put"]) nl0
      refine ⟨l0, _, rfl, .inl (.of upd_same), rfl, rfl, _, rfl, ifF (by decide +kernel) ?_⟩
      generalize upd H l0 (.lst [V.str "get", .str "put"]) = H1 at s1 ⊢
      have en1 := en.sm s1
      have hp1 := sqT_sm s1 hp
      obtain ⟨u1, g1, du1⟩ := en1.get hh
      obtain ⟨pl, xl, rfl, hpl, dpl⟩ := dp_tup du1
      have exl := dpAll_ints dpl
      subst exl
      obtain ⟨u2, g2, du2⟩ := en1.get ha
      have eu2 := dp_int du2
      subst eu2
      have e : play ⟨v, "put", [h, a, y]⟩ ρ = if inRow l i then .ok (.r (l.set i.toNat j)) else .error "place" := by
        rw [play_put, Env.num_of ha, Env.row_of hh, Env.num_of hy]
      have bad : ¬ inRow l i → ∀ t, H1 t = none → Q (.ref t) (upd H1 t (.lst [.str "place"])) := fun h t nt => by
        refine q _ _ (s1.trans (same_new nt)) ?_
        rw [e, if_neg h]
        exact ⟨_, rfl, upd_same⟩
      refine ⟨_, rfl, _, rfl, p, _, 2, _, rfl, rfl, hp1, atI_nat (j := 2) rfl, _, _, rfl, g1, ?_⟩
      refine ⟨_, rfl, _, rfl, p, _, 3, _, rfl, rfl, hp1, atI_nat (j := 3) rfl, _, _, rfl, g2, ?_⟩
      dsimp only [gName, List.set]
      refine ⟨_, rfl, _, _, rfl, rfl, _, rfl, ?_⟩
      by_cases c0 : i < 0
      · refine ifD c0 (ifT rfl ⟨one_le, bad fun z => absurd z.1 (by omega)⟩)
      · refine ifN c0 ⟨_, rfl, _, rfl, pl, _, rfl, .inr hpl, _, _, rfl, rfl, _, rfl, ?_⟩
        rw [List.length_map]
        by_cases c1 : (l.length : Int) ≤ i
        · refine ifD c1 ⟨one_le, bad fun z => absurd z.2 (by omega)⟩
        · refine ifN c1 ?_
          obtain ⟨m, rfl⟩ := Int.eq_ofNat_of_zero_le (show 0 ≤ i by omega)
          have ml : m < l.length := by omega
          refine ⟨_, rfl, rfl, _, rfl, ifN (by decide +kernel) ⟨_, rfl, ?_⟩⟩
          dsimp only [tNoPart]
          refine ⟨_, rfl, _, rfl, ?_⟩
          show rSlA K (.ref pl) none (some (m : Int)) H1 _
          refine slA_by hpl fun t1 H2 s2 h1 => ?_
          rw [cutV_to, ← List.map_take] at h1
          have en2 := en1.sm s2
          obtain ⟨u3, g3, du3⟩ := en2.get hy
          have eu3 := dp_int du3
          subst eu3
          refine ⟨_, rfl, _, rfl, p, _, 4, _, rfl, rfl, sqT_sm s2 hp1, atI_nat (j := 4) rfl, _, _, rfl, g3, one_le, fun t2 nt2 => ?_⟩
          have s3 := same_new (o := .tup [V.int j]) nt2
          refine catA_by (sqT_sm s3 h1) (.inl (.of upd_same)) (by rw [List.length_map, List.length_take, sizeLine_eq]; show _ + 1 ≤ _; omega) fun t3 H3 s4 h3 => ?_
          refine ⟨_, rfl, _, rfl, _, _, rfl, rfl, ?_⟩
          refine ⟨_, rfl, ?_⟩
          dsimp only [tNoPart]
          refine slA_by (sqT_sm (s2.trans (s3.trans s4)) hpl) fun t4 H4 s5 h4 => ?_
          rw [show ((m : Int) + 1) = ((m + 1 : Nat) : Int) from rfl, cutV_from, ← List.map_drop] at h4
          refine catA_by (sqT_sm s5 h3) h4 (by rw [List.length_append, List.length_map, List.length_map, List.length_take, List.length_drop, sizeLine_eq]; show _ + 1 + _ ≤ _; omega) fun t5 H5 s6 h5 => ?_
          rw [set_cut ml] at h5
          refine q _ _ (s1.trans ((((s2.trans s3).trans s4).trans s5).trans s6)) ?_
          rw [e, if_pos ⟨by omega, by omega⟩]
          exact .tup h5 (ints_dpAll _)
end

/-! the law's own going: rows, ways -/
section
variable {hs : List (Str × Nat × List Blk)}
theorem FinG.comp {c c' : MS} {k0 L k : Nat} {e : EndS} (f : FinG hs c' L k e) (h : mics hs k0 c = c') : FinG hs c (k0 + L) (k0 + k) e := by
  subst h
  rcases f with ⟨f1, j, rfl, f2⟩ | ⟨e1, e2, f2⟩
  · exact .inl ⟨by rw [mics_add]; exact f1, k0 + j, rfl, by rw [mics_add]; exact f2⟩
  · exact .inr ⟨e1, by rw [e2], by rw [mics_add]; exact f2⟩
end
/-- the run: how many steps are left, what was told -/
structure RunAt (H : Hp) (rd tl : Addr) (L : Nat) (told : List Int) : Prop where
  e : H rd = some (.dK [(.inr "left", .int (L : Nat)), (.inr "told", .ref tl)])
  t : H tl = some (.lst (told.map V.int))
theorem k_tl : (Sum.inr "told" : Key) ≠ .inr "left" := fun h => absurd (Sum.inr.inj h) (by decide +kernel)
theorem k_lt : (Sum.inr "left" : Key) ≠ .inr "told" := fun h => absurd (Sum.inr.inj h) (by decide +kernel)
theorem RunAt.left {H : Hp} {rd tl : Addr} {L : Nat} {told : List Int} (h : RunAt H rd tl L told) : DGet H rd (.str "left") (some (.int (L : Nat))) := by
  have := DGet.k (k := .inr "left") h.e
  rw [valV_pos rfl] at this
  exact this
theorem RunAt.tolds {H : Hp} {rd tl : Addr} {L : Nat} {told : List Int} (h : RunAt H rd tl L told) : DGet H rd (.str "told") (some (.ref tl)) := by
  have := DGet.k (k := .inr "told") h.e
  rw [valV_neg k_lt, valV_pos rfl] at this
  exact this
theorem RunAt.ne {H : Hp} {rd tl : Addr} {L : Nat} {told : List Int} (h : RunAt H rd tl L told) : rd ≠ tl := fun z => by
  have := h.e
  rw [z, h.t] at this
  cases this
theorem RunAt.sm {H H' : Hp} {rd tl : Addr} {L : Nat} {told : List Int} (h : RunAt H rd tl L told) (s : Same H H') : RunAt H' rd tl L told := ⟨s _ _ h.e, s _ _ h.t⟩
theorem put_left (a b c : V) : putK [((.inr "left" : Key), a), (.inr "told", b)] (.inr "left") c = [(.inr "left", c), (.inr "told", b)] := by
  unfold putK
  simp [k_tl]
  intro z
  exact absurd z (by decide +kernel)
theorem RunAt.dec {H : Hp} {rd tl : Addr} {L : Nat} {told : List Int} {z : Int} (h : RunAt H rd tl (L + 1) told) (ez : z = (L : Nat)) : ∃ H', DPut H rd (.str "left") (.int z) H' ∧ RunAt H' rd tl L told ∧ Kp (fun b => b = rd) H H' := by
  refine ⟨_, DPut.k (k := .inr "left") h.e (by rw [sizeLine_eq]; show 2 < 16777216; decide), ⟨?_, ?_⟩, Kp.upd h.e trivial rfl⟩
  · rw [upd_same, put_left, ez]
  · rw [upd_ne h.ne.symm]
    exact h.t
theorem RunAt.tell {H : Hp} {rd tl : Addr} {L : Nat} {told : List Int} {i : Int} (h : RunAt H rd tl L told) : RunAt (upd H tl (.lst (told.map V.int ++ [V.int i]))) rd tl L (told ++ [i]) ∧ Kp (fun b => b = tl) H (upd H tl (.lst (told.map V.int ++ [V.int i]))) := by
  refine ⟨⟨?_, ?_⟩, Kp.upd h.t trivial rfl⟩
  · rw [upd_ne h.ne]
    exact h.e
  · rw [upd_same, List.map_append]
    rfl
theorem RunAt.kp {S : Addr → Prop} {H H' : Hp} {rd tl : Addr} {L : Nat} {told : List Int} (h : RunAt H rd tl L told) (k : Kp S H H') (n1 : ¬ S rd) (n2 : ¬ S tl) : RunAt H' rd tl L told := ⟨k _ _ h.e fun z => absurd z n1, k _ _ h.t fun z => absurd z n2⟩
section
variable {P : Program} {w : World} {K : PySem.W.Frag} {mg : Str → Option Value} {base : Heap}
theorem EnvAt.kpn {S : Addr → Prop} {H H' : Hp} {d : Addr} {ρ : Env} (h : EnvAt K H d ρ) (k : Kp S H H') (n : ¬ S d) : EnvAt K H' d ρ := by
  obtain ⟨kvs, h1, _⟩ := id h.ex
  exact h.kp k ((k _ _ h1 fun z => absurd z n).trans h1.symm)
/-- how far a row of steps goes: to an end, or to none left -/
structure OutF (hs : List (Str × Nat × List Blk)) (c : MS) (L k : Nat) (e : EndS) (told : List Int) : Prop where
  l : k ≤ L
  f : FinG hs c L k e
  t : (mics hs k c).told = told
  s : e = .on ∨ ∃ w : Str, e = .fault w ∧ w.length ≤ 8 ∧ PyData.strOk w = true
def lrS (rd tl d : Addr) : Addr → Prop := fun b => b = rd ∨ b = tl ∨ b = d
def sp_lrows (K : PySem.W.Frag) : Sp := fun vs H Q _ => ∃ (bv : V) (d rd tl : Addr) (L : Nat) (told : List Int) (hs : List (Str × Nat × List Blk)) (hl : List (Str × Nat)) (f : Fr) (r : List Fr) (es : Nat → List (Int × Int)) (sz : Int → Int) (b : Blk) (sc : List (Int × Int)), vs = [bv, .ref d, .ref rd] ∧
  Dp K H bv (blkD b) ∧ FrIn hl f es sz b sc ∧ f.pc = 0 ∧ EnvAt K H d f.ρ ∧ RunAt H rd tl L told ∧ d ≠ rd ∧ L + told.length ≤ 100000 ∧
  (∀ H' f' told' k, Kp (lrS rd tl d) H H' → f'.g = f.g → f'.at_ = f.at_ → f'.pc = b.rs.length → FrIn hl f' es sz b sc → k ≤ L → mics hs k ⟨f :: r, told, none⟩ = ⟨f' :: r, told', none⟩ → EnvAt K H' d f'.ρ → RunAt H' rd tl (L - k) told' → told'.length ≤ told.length + k → Q .non H') ∧
  ∀ H' v e k told', Kp (lrS rd tl d) H H' → RunAt H' rd tl (L - k) told' → OutF hs ⟨f :: r, told, none⟩ L k e told' → Dp K H' v e.d → Q v H'
def lrI (K : PySem.W.Frag) (H : Hp) (rd tl d : Addr) (L : Nat) (told : List Int) (hs : List (Str × Nat × List Blk)) (hl : List (Str × Nat)) (f : Fr) (r : List Fr) (es : Nat → List (Int × Int)) (sz : Int → Int) (b : Blk) (sc : List (Int × Int)) (j : Nat) (H' : Hp) : Prop :=
  ∃ f' told', Kp (lrS rd tl d) H H' ∧ f'.g = f.g ∧ f'.at_ = f.at_ ∧ f'.pc = j ∧ FrIn hl f' es sz b sc ∧ j ≤ L ∧ mics hs j ⟨f :: r, told, none⟩ = ⟨f' :: r, told', none⟩ ∧ EnvAt K H' d f'.ρ ∧ RunAt H' rd tl (L - j) told' ∧ told'.length ≤ told.length + j
theorem fault8 {r : GRow} {ρ : Env} {w : Str} (h : play r ρ = .error w) : w.length ≤ 8 := by
  have h1 : ("place" : Str).length ≤ 8 := by decide +kernel
  have h2 : ("division" : Str).length ≤ 8 := by decide +kernel
  unfold play at h
  repeat' split at h
  all_goals first | (cases h; assumption) | (exact nomatch h)
theorem isL_vl {H : Hp} {v : V} {vl : Vl} (d : Dp K H v vl.d) : ∃ c : String, TyX K H v (.type c) ∧ PySem.W.kitOne K (.type c) (.type "list") = some false := by
  cases vl with
  | n i => exact ⟨_, dp_ty d, kit_ty (a := "int") (b := "list") (r := false) (by decide +kernel)⟩
  | r l => exact ⟨_, dp_ty d, kit_ty (a := "tuple") (b := "list") (r := false) (by decide +kernel)⟩
theorem dcls_tell {w : Str} (h : w ∈ words14) (n : w ≠ "tell") : dcls w ≠ "TellDeed" := by
  have e : ∀ w ∈ words14, w ≠ "tell" → dcls w ≠ "TellDeed" := by decide +kernel
  exact e w h n
theorem rowR_nt {sc : List (Int × Int)} : ∀ {w : Str} {as : List Int} {k : Int}, RowR sc w as k → w ≠ "tell"
  | _, _, _, .num _ _ => by decide +kernel
  | _, _, _, .fresh _ _ _ => by decide +kernel
  | _, _, _, .no _ _ => by decide +kernel
  | _, _, _, .op w _ _ hw _ _ => (show ∀ w ∈ wds7', w ≠ "tell" by decide +kernel) w hw
  | _, _, _, .get _ _ _ _ _ _ => by decide +kernel
  | _, _, _, .put _ _ _ _ _ _ _ _ => by decide +kernel
theorem FrIn.rowT {hl : List (Str × Nat)} {f : Fr} {es : Nat → List (Int × Int)} {sz : Int → Int} {b : Blk} {sc : List (Int × Int)} (h : FrIn hl f es sz b sc) {row : GRow} (hr : b.rs[f.pc]? = some row) :
    (∃ a i, row = ⟨-1, "tell", [a]⟩ ∧ f.ρ a = some (.n i) ∧ In32 i) ∨ (Smv row.v ∧ row.w ≠ "tell") := by
  obtain ⟨sci, h1, h2⟩ := h.rr.split _ _ hr
  rcases h2 with ⟨sv, k, rest, rr, e⟩ | ⟨a, rest, rfl, ha, e⟩
  · exact .inr ⟨sv, rowR_nt rr⟩
  · have l1 := h1.len
    have e1 : scAt (es f.at_ ++ b.ps) b.rs sc f.pc = sci := by
      unfold scAt
      rw [e, ← l1, List.take_left']
      rfl
    have en := h.en
    rw [e1] at en
    obtain ⟨i, hi, i32⟩ := en.num ha
    exact .inl ⟨a, i, rfl, hi, i32⟩
theorem ok__law_do_rows (T : Top K mg) : FnOk P w K mg base CX0 4 (He.ga K "_law_do_rows") T.fd__law_do_rows ["_law_block_here", "_law_values", "_law_run"] (sp_lrows K) := by
  have G__law_do := ok__law_do (P := P) (w := w) (base := base) T
  refine T.F__law_do_rows.ok sc__law_do_rows (fun vs H Q E h => ?_) (fun cdv A0 outer s0 H vs Q E hr h => ?_)
  · obtain ⟨bv, d, rd, tl, L, told, hs, hl, f, r, es, sz, b, sc, rfl, _⟩ := h
    rfl
  · obtain ⟨bv, d, rd, tl, L, told, hs, hl, f, r, es, sz, b, sc, rfl, db, fi, pc0, en, run, ndr, lt, qa, qb⟩ := h
    refine ⟨_, PSs.nox (pss_cons (ps_for PassesOwn.never (by rfl) (pi_tup (pe_ix ix_tup (pv 0) pe_int (fun _ _ => rfl))) (pg_name (i := 3) sc__law_do_rows.nd rfl (Or.inl rfl)) (pss_cons (ps_if (pt_cmpR op_eq (pe_dget (hu_of hr) (pv 2) pe_str (fun _ _ => rfl)) pe_int (nomark _)) (pss_one (ps_ret (pe_tup (pa_cons pe_str pa_nil)))) pss_nil)
        (pss_cons (ps_daug (hu_of hr) (pv 2) pe_str pe_int in_sub (fun _ _ _ => rfl))
        (pss_one (ps_if (pt_cmpR op_lt (pe_ix ix_tup (pv 3) pe_int (fun _ _ => rfl)) pe_int (nomark _)) (pss_one (ps_expr (pe_bm PySem.F.plainAttrs_list PySem.F.slot_list_append PySem.F.type_list_append mt_append (pe_dget (hu_of hr) (pv 2) pe_str (fun _ _ => rfl)) (pa_cons (pe_dget (hu_of hr) (pv 1) (pe_ix ix_tup (pv 3) pe_int (fun _ _ => rfl)) (fun _ _ => rfl)) pa_nil)))) (pss_cons (ps_set (i := 4) sc__law_do_rows.nd rfl (Or.inl rfl) (pe_call G__law_do (hr.mono (by omega)) (by rfl) T.g__law_do T.F__law_do.kp T.b__law_do .nil pass0 (pa_cons (pv 3) (pa_cons (pv 1) pa_nil))))
        (pss_cons (ps_if (pt_val (pe_callB call_isi (by rfl) T.m_isinstance (by decide +kernel) (pa_cons (pv 4) (pa_cons (pe_bltn (v := .ty "list") (by rfl) T.m_list (by decide +kernel) rfl) pa_nil)))) (pss_one (ps_ret (pe_tup (pa_cons pe_str (pa_cons (pe_ix ix_list (pv 4) pe_int (fun _ _ => rfl)) pa_nil))))) pss_nil)
        (pss_one (ps_dput (hu_of hr) (pv 1) (pe_ix ix_tup (pv 3) pe_int (fun _ _ => rfl)) (pv 4) (by rfl))))))))))
        (pss_one (ps_ret pe_non))), ?_⟩
    obtain ⟨pb, xb, rfl, hpb, dxb⟩ := dp_tup db
    obtain ⟨v1, r1, rfl, d1, t1⟩ := dpAll_cons dxb
    obtain ⟨v2, r2, rfl, d2, t2⟩ := dpAll_cons t1
    obtain ⟨v3, r3, rfl, d3, t3⟩ := dpAll_cons t2
    have e0 := dpAll_nil t3
    subst e0
    obtain ⟨pr, xr, rfl, hpr, dxr⟩ := dp_tup d2
    have lr := dpAll_len dxr
    rw [List.length_map] at lr
    have ndt : d ≠ tl := fun z => by
      obtain ⟨kvs, h1, _⟩ := en.ex
      rw [z, run.t] at h1
      cases h1
    refine ⟨_, rfl, pb, _, 1, _, rfl, rfl, hpb, atI_nat (j := 1) rfl, pr, rfl, ⟨_, hpr⟩, ?_⟩
    refine for_tup (K := K) (a := pr) (xs := xr) (fun j σ' H' => (∃ x3 x4, σ' = [some (.ref pb), some (.ref d), some (.ref rd), x3, x4]) ∧ lrI K H rd tl d L told hs hl f r es sz b sc j H') ⟨⟨_, _, rfl⟩, f, told, Kp.refl, rfl, rfl, pc0, fi, Nat.zero_le _, rfl, en, run, Nat.le_refl _⟩ ?_ ?_ ?_
    · rintro j σ' H' _ ⟨_, _, _, k', _⟩
      exact sqT_kp k' hpr
    · rintro j y σ' H1 hy ⟨⟨x3, x4, rfl⟩, f', told', k1, hg, ha, hpc, fi', jL, em, en1, run1, lt1⟩
      obtain ⟨rdd, hrd, dy⟩ := dpAll_getV dxr hy
      rw [List.getElem?_map] at hrd
      cases hrw : b.rs[j]? with
      | none => rw [hrw] at hrd; cases hrd
      | some row =>
        rw [hrw] at hrd
        cases hrd
        have dy1 := dp_kp k1 _ _ (GRow.nl row) dy
        dsimp only [gName, List.set]
        refine ⟨_, rfl, _, _, rfl, run1.left, rfl, _, rfl, ?_⟩
        by_cases c : j = L
        · refine ifD (by rw [c, Nat.sub_self]; rfl) ⟨one_le, fun t nt => ?_⟩
          have s2 := same_new (o := .tup [V.str "on"]) nt
          refine qb _ _ .on j told' (k1.trans (Kp.of_same s2)) (run1.sm s2) ⟨jL, .inr ⟨rfl, c, by rw [em]⟩, by rw [em], .inl rfl⟩ (.tup (.inl (.of upd_same)) (.cons (.str _) .nil))
        · have jl : j < L := by omega
          refine ifN (fun z => by injection z with z; omega) ?_
          obtain ⟨m, em'⟩ : ∃ m, L - j = m + 1 := ⟨L - j - 1, by omega⟩
          rw [em'] at run1
          obtain ⟨H2, dput, run2, k2⟩ := run1.dec (z := ((m + 1 : Nat) : Int) - 1) (by omega)
          refine ⟨_, rfl, _, _, rfl, run1.left, _, _, rfl, rfl, _, dput, ?_⟩
          have em1 : m = L - (j + 1) := by omega
          subst em1
          have nS2 : ∀ b, b = rd → lrS rd tl d b := fun b e => .inl e
          have k12 := k1.trans (k2.mono nS2)
          have en2 := en1.kpn k2 ndr
          have dy2 := dp_kp k2 _ _ (GRow.nl row) dy1
          obtain ⟨hw, pok, hpl⟩ := fi'.row (row := row) (by rw [hpc]; exact hrw)
          have em2 : mics hs (j + 1) ⟨f :: r, told, none⟩ = micRow f' r told' row := by
            show mic hs (mics hs j _) = _
            rw [em]
            exact mic_row (by rw [fi'.blk, hpc]; exact hrw)
          obtain ⟨py, xy, rfl, hpy, dxy⟩ := row_parts dy2
          refine ⟨_, rfl, py, _, 0, _, rfl, rfl, hpy, atI_nat (j := 0) rfl, _, _, rfl, rfl, _, rfl, ?_⟩
          rcases fi'.rowT (row := row) (by rw [hpc]; exact hrw) with ⟨a, i, rfl, hai, _⟩ | ⟨sv, nt⟩
          · -- a tell
            refine ifD (by show (-1 : Int) < 0; decide) ?_
            obtain ⟨u1, q1, rfl, f1, _⟩ := dpAll_cons dxy
            rw [dp_int f1] at hpy
            obtain ⟨u, dg, du⟩ := en2.get hai
            have eu := dp_int du
            subst eu
            have lt2 := run2.tell (i := i)
            refine ⟨_, rfl, _, _, rfl, run2.tolds, .inl ⟨rfl, _, .of run2.t⟩, _, rfl, _, rfl, py, _, 2, _, rfl, rfl, hpy, atI_nat (j := 2) rfl, _, _, rfl, dg, tl, _, _, rfl, rfl, run2.t, by rw [List.length_map, sizeLine_eq]; omega, ⟨_, _, rfl⟩, { f' with pc := f'.pc + 1 }, told' ++ [i], k12.trans (lt2.2.mono fun b e => .inr (.inl e)), hg, ha, by show f'.pc + 1 = j + 1; rw [hpc], ?_, jl, ?_, en2.kpn lt2.2 ndt, lt2.1, by rw [List.length_append]; show _ + 1 ≤ _; omega⟩
            · rcases hpl with ⟨_, i', e2, fi2⟩ | ⟨e1, _⟩
              · exact fi2
              · exact absurd e1.1 (by show ¬ (0 : Int) ≤ -1; decide)
            · rw [em2]
              unfold micRow
              rw [play_tell, Env.num_of hai]
              rfl
          · refine ifN (by have := sv.1; omega) ?_
            refine ⟨_, rfl, _, rfl, d, .ref py, row, f'.ρ, dcls row.w, rfl, dy2, en2, pok, dcls_tell hw nt, fun H3 v s3 dl => ?_⟩
            dsimp only [gName, List.set]
            have k13 := k12.trans (Kp.of_same s3)
            have run3 := run2.sm s3
            have en3 := en2.sm s3
            cases hp : play row f'.ρ with
            | error fw =>
              rw [hp] at dl
              obtain ⟨l, rfl, hl⟩ := dl
              refine ⟨_, rfl, _, _, _, _, true, rfl, .ty _, .base (.lst hl), kit_ty (a := "list") (b := "list") (r := true) (by decide +kernel), _, rfl, ifT rfl ?_⟩
              refine ⟨_, rfl, l, _, 0, _, rfl, rfl, .of hl, atI_nat (j := 0) rfl, two_le, fun t nt2 => ?_⟩
              have s4 := same_new (o := .tup [V.str "fault", .str fw]) nt2
              have em3 : mics hs (j + 1) ⟨f :: r, told, none⟩ = ⟨f' :: r, told', some (.fault fw)⟩ := by
                rw [em2]
                unfold micRow
                rw [hp]
              exact qb _ _ (.fault fw) (j + 1) told' (k13.trans (Kp.of_same s4)) (run3.sm s4) ⟨jl, .inl ⟨by rw [em3], j, rfl, by rw [em]⟩, by rw [em3], .inr ⟨fw, rfl, fault8 hp, play_err hp⟩⟩ (.tup (.inl (.of upd_same)) (.cons (.str _) (.cons (.str _) .nil)))
            | ok vl =>
              rw [hp] at dl
              obtain ⟨c, ty, kk⟩ := isL_vl dl
              refine ⟨_, rfl, _, _, _, _, false, rfl, .ty _, ty, kk, _, rfl, ifF rfl ?_⟩
              obtain ⟨kvs, hk, hput, en4⟩ := en3.put (a := row.v) sv dl
              have em3 : mics hs (j + 1) ⟨f :: r, told, none⟩ = ⟨{ f' with pc := f'.pc + 1, ρ := f'.ρ.put row.v vl } :: r, told', none⟩ := by
                rw [em2]
                unfold micRow
                rw [hp]
                simp only [if_pos sv.1]
              have k34 : Kp (fun b => b = d) H3 (upd H3 d (.dK (putK kvs (.inl row.v) v))) := Kp.upd hk trivial rfl
              refine ⟨_, rfl, _, rfl, _, rfl, py, _, 0, _, rfl, rfl, sqT_sm s3 hpy, atI_nat (j := 0) rfl, _, _, rfl, hput, ⟨_, _, rfl⟩, { f' with pc := f'.pc + 1, ρ := f'.ρ.put row.v vl }, told', k13.trans (k34.mono fun b e => .inr (.inr e)), hg, ha, by show f'.pc + 1 = j + 1; rw [hpc], ?_, jl, em3, en4, run3.kp k34 (fun z => ndr z.symm) (fun z => ndt z.symm), by omega⟩
              rcases hpl with ⟨e1, _⟩ | ⟨_, h⟩
              · exact absurd sv.1 (by rw [e1]; decide)
              · exact h vl hp
    · rintro σ' H1 ⟨_, f', told', k1, hg, ha, hpc, fi', jL, em, en1, run1, lt1⟩
      rw [lr] at hpc jL em run1 lt1
      exact qa H1 f' told' _ k1 hg ha hpc fi' jL em en1 run1 lt1
end

section
variable {P : Program} {w : World} {K : PySem.W.Frag} {mg : Str → Option Value} {base : Heap}
def sp_lgoes (K : PySem.W.Frag) : Sp := fun vs H Q _ => ∃ (gv wv : V) (d fa : Addr) (fvs : List V) (f : Fr) (w : Way) (first : List Vl) (b' : Blk), vs = [gv, .ref d, wv, .ref fa] ∧ Dp K H gv (grD f.g) ∧ EnvAt K H d f.ρ ∧ Dp K H wv w.d ∧ H fa = some (.lst fvs) ∧
  DpAll K H fvs (first.map Vl.d) ∧ first.length ≤ 1 ∧ f.g[w.t]? = some b' ∧ (first ++ vls f.ρ w.as).length = b'.ps.length ∧ b'.ps.length ≤ 10 ∧ (∀ p ∈ b'.ps, Smv p.1) ∧ (∀ a ∈ w.as, ∃ v, f.ρ a = some v) ∧
  ∀ H', Kp (fun b => b = d) H H' → EnvAt K H' d (f.lead w first).ρ → Q (.int (w.t : Nat)) H'
theorem ok__law_goes (T : Top K mg) : FnOk P w K mg base CX0 1 (He.ga K "_law_goes") T.fd__law_goes ["_law_graph_here", "_law_values", "_law_way", "_law_given"] (sp_lgoes K) := by
  refine T.F__law_goes.ok sc__law_goes (fun vs H Q E h => ?_) (fun cdv A0 outer s0 H vs Q E hr h => ?_)
  · obtain ⟨gv, wv, d, fa, fvs, f, w, first, b', rfl, _⟩ := h
    rfl
  · obtain ⟨gv, wv, d, fa, fvs, f, w, first, b', rfl, dg, he, dw, hfa, dfv, f1, hb, lb, l10, psm, has, q⟩ := h
    refine ⟨_, PSs.nox (pss_cons (ps_for PassesOwn.never (by rfl) (ZipM.pi_zipM (by rfl) T.m_zip (pa_cons (pe_ix ix_tup (pe_ix ix_tup (pv 0) (pe_ix ix_tup (pv 2) pe_int (fun _ _ => rfl)) (fun _ _ => rfl)) pe_int (fun _ _ => rfl)) (pa_cons (pe_op op_cat (pv 3) (pe_lc (own := [("_law_value", 6)]) (by rfl) sc__law_goes.nd (pi_tup (pe_ix ix_tup (pv 2) pe_int (fun _ _ => rfl))) (blkOk_by (own := [("_law_value", 6)]) (N := N__law_goes) (sc := defScope s__law_goes) (by decide +kernel)) (fun _ _ _ _ _ => (pg_name (i := 6) sc__law_goes.nd rfl (Or.inl rfl))) (fun _ _ _ _ _ => pts_nil) (fun _ _ _ _ _ => (pe_dget (hu_of hr) (pv 1) (pv 6) (fun _ _ => rfl))))) pa_nil))) (pg_tup (n := 2) (by rfl) (pgs_cons (pg_name (i := 4) sc__law_goes.nd rfl (Or.inl rfl)) (pgs_cons (pg_name (i := 5) sc__law_goes.nd rfl (Or.inl rfl)) pgs_nil))) (pss_one (ps_dput (hu_of hr) (pv 1) (pe_ix ix_tup (pv 4) pe_int (fun _ _ => rfl)) (pv 5) (by rfl))))
        (pss_one (ps_ret (pe_ix ix_tup (pv 2) pe_int (fun _ _ => rfl))))), ?_⟩
    obtain ⟨pw, xw, rfl, hpw, dxw⟩ := dp_tup dw
    obtain ⟨v1, r1, rfl, d1, t1⟩ := dpAll_cons dxw
    obtain ⟨v2, r2, rfl, d2, t2⟩ := dpAll_cons t1
    rw [dp_int d1, dpAll_nil t2] at hpw
    obtain ⟨pa, xa, rfl, hpa, dxa⟩ := dp_tup d2
    obtain ⟨pg, xg, pb, pv, rv, ev', rfl, hxg, hxgi, hpb, _, dpv, _, _⟩ := blk_at dg hb
    obtain ⟨pp, xp, rfl, hpp, lxp, atp⟩ := params_at dpv
    have las := dpAll_len dxa
    rw [List.length_map] at las
    have lv : (vls f.ρ w.as).length = w.as.length := by unfold vls; rw [List.length_map]
    rw [List.length_append, lv] at lb
    refine seq_by (fun σ' H' => (∃ x5 x6 x7, σ' = [some (.ref pg), some (.ref d), some (.ref pw), some (.ref fa), x5, x6, x7]) ∧ Kp (fun b => b = d) H H' ∧ EnvAt K H' d (bindE b'.ps (first ++ vls f.ρ w.as) f.ρ)) ?_ ?_
    rotate_left
    · intro N hN
      refine ⟨_, rfl, _, rfl, pw, _, 0, _, rfl, rfl, hpw, atI_nat (j := 0) rfl, pg, _, _, _, rfl, rfl, hxg, atI_nat hxgi, pb, _, 0, _, rfl, rfl, hpb, atI_nat (j := 0) rfl, ?_⟩
      refine ⟨_, rfl, _, rfl, pw, _, 1, _, rfl, rfl, hpw, atI_nat (j := 1) rfl, pa, rfl, ⟨_, hpa⟩, fun D nD => ?_⟩
      have gxa : ∀ {i : Nat} {y : V}, xa[i]? = some y → ∃ a, w.as[i]? = some a ∧ y = .int a := fun {i y} hy => by
        obtain ⟨d, hd, dy⟩ := dpAll_getV dxa hy
        rw [List.getElem?_map] at hd
        cases hq : w.as[i]? with
        | none => rw [hq] at hd; cases hd
        | some a =>
          rw [hq] at hd
          cases hd
          exact ⟨a, rfl, dp_int dy⟩
      refine lc_tup (K := K) (a := pa) (xs := xa) (fun i H' => Same H H' ∧ ∃ acc, H' D = some (.lst acc) ∧ DpAll K H' acc ((vls f.ρ (w.as.take i)).map Vl.d)) ?_ ?_ ?_ ?_
      · exact ⟨same_new nD, [], upd_same, .nil⟩
      · rintro i H' _ ⟨s', _⟩
        exact sqT_sm s' hpa
      · rintro i y H' hy ⟨s', acc, eD, dA⟩
        obtain ⟨a, ha, rfl⟩ := gxa hy
        have hi := (List.getElem?_eq_some_iff.mp ha).1
        obtain ⟨vl, ea⟩ := has a (List.mem_of_getElem? ha)
        obtain ⟨v, dg', dv⟩ := (he.sm s').get ea
        have la := dpAll_len dA
        rw [List.length_map] at la
        have lv2 : (vls f.ρ (w.as.take i)).length = i := by unfold vls; rw [List.length_map, List.length_take]; omega
        have tk : (vls f.ρ (w.as.take (i + 1))).map Vl.d = (vls f.ρ (w.as.take i)).map Vl.d ++ [vl.d] := by
          unfold vls
          rw [List.take_succ, ha, List.map_append, List.map_append]
          show _ ++ [((f.ρ a).getD (.n 0)).d] = _
          rw [ea]
          rfl
        refine ⟨rfl, _, rfl, _, rfl, d, v, rfl, dg', acc, eD, by rw [sizeLine_eq]; omega, same_upd s' nD, _, upd_same, ?_⟩
        rw [tk]
        refine dpAll_mine (dpAll_app dA (.cons dv .nil)) (noLs_all fun z hz => ?_) eD trivial
        rcases List.mem_append.mp hz with hz | hz
        · obtain ⟨u, _, rfl⟩ := List.mem_map.mp hz
          exact u.nl
        · rw [List.mem_singleton.mp hz]
          exact vl.nl
      · rintro H1 ⟨s1, acc, eD, dA⟩
        rw [las, List.take_length] at dA
        have lA := dpAll_len dA
        have lF := dpAll_len dfv
        rw [List.length_map] at lA lF
        refine ⟨fa, D, fvs, acc, rfl, rfl, s1 _ _ hfa, eD, by rw [sizeLine_eq]; omega, fun gl ngl => ?_⟩
        have s2 := same_new (o := .lst (fvs ++ acc)) ngl
        have s02 : Same H _ := s1.trans s2
        have dgl : DpAll K (upd H1 gl (.lst (fvs ++ acc))) (fvs ++ acc) ((first ++ vls f.ρ w.as).map Vl.d) := by
          rw [List.map_append]
          exact dpAll_app (DpAll.kp (Kp.of_same (S := fun _ => False) s02) dfv) (DpAll.kp (Kp.of_same (S := fun _ => False) s2) dA)
        have hgl : upd H1 gl (.lst (fvs ++ acc)) gl = some (.lst (fvs ++ acc)) := upd_same
        generalize fvs ++ acc = gvs at dgl hgl s02 s2 ⊢
        generalize upd H1 gl (.lst gvs) = H2 at dgl hgl s02 ⊢
        have he2 := he.sm s02
        have ngd : gl ≠ d := fun z => by
          obtain ⟨kvs, h1, _⟩ := he2.ex
          rw [← z, hgl] at h1
          cases h1
        have lg := dpAll_len dgl
        rw [List.length_map, List.length_append, lv, lb] at lg
        refine ⟨pp, gl, xp, gvs, rfl, .inl ⟨sqT_sm s02 hpp, .of hgl, ?_⟩⟩
        refine ZipM.for_zipM (K := K) (xs := xp) (ys := gvs) (by omega) (fun j σ' H' => (∃ x5 x6 x7, σ' = [some (.ref pg), some (.ref d), some (.ref pw), some (.ref fa), x5, x6, x7]) ∧ enI K (fun b => b = d) H2 d b'.ps (first ++ vls f.ρ w.as) f.ρ j H') ⟨⟨_, _, _, rfl⟩, Kp.refl, by rw [List.take_zero, List.take_zero]; exact he2⟩ ?_ ?_ ?_
        · rintro j σ' H' ⟨_, iv⟩
          exact ⟨sqT_kp iv.1 (sqT_sm s02 hpp), .of (iv.1 _ _ hgl fun z => absurd z ngd)⟩
        · rintro i x y T' σ' H' hx hy ⟨⟨x5, x6, x7, rfl⟩, iv⟩ hT
          have s1' := same_new (o := .tup [x, y]) hT
          obtain ⟨pr, q', hp, rfl, hq⟩ := atp i x hx
          obtain ⟨u, hu, du⟩ := kv_get dgl hy
          obtain ⟨kvs, hput, iv2⟩ := enI_step (x := .ref q') (v := y) iv hT rfl hp hu (psm _ (List.mem_of_getElem? hp)) (dp_kp iv.1 _ _ u.nl du)
          exact ⟨T', _, rfl, .inl (.inl upd_same), rfl, _, _, rfl, _, _, rfl, rfl, _, rfl, _, rfl, _, rfl, q', _, 0, _, rfl, rfl, sqT_sm s1' (sqT_kp iv.1 (sqT_sm s02 hq)), atI_nat (j := 0) rfl, _, _, rfl, hput, ⟨_, _, _, rfl⟩, iv2⟩
        · rintro σ' H' ⟨hσ, iv⟩
          have iv' := iv.2
          rw [lxp, List.take_length, ← lb, ← lv, ← List.length_append, List.take_length] at iv'
          exact hN _ _ ⟨hσ, (Kp.of_same s02).trans iv.1, iv'⟩
    rintro σ' H' ⟨⟨x5, x6, x7, rfl⟩, k', e'⟩
    refine ⟨_, rfl, pw, _, 0, _, rfl, rfl, sqT_kp k' hpw, atI_nat (j := 0) rfl, q _ k' ?_⟩
    show EnvAt K H' d (bindE (blkAt f.g w.t).ps (first ++ vls f.ρ w.as) f.ρ)
    rw [blkAt_some hb]
    exact e'
end
section
variable {P : Program} {w : World} {K : PySem.W.Frag} {mg : Str → Option Value} {base : Heap}
theorem envAt_merge {H : Hp} {d : Addr} : ∀ {ps : List (Int × Int)} {xs : List V} {us : List Vl} {kvs : List (Key × V)} {ρ : Env}, EnvAt K (upd H d (.dK kvs)) d ρ → (∀ p ∈ ps, Smv p.1) → ps.length = us.length → (∀ H' : Hp, DpAll K H' xs (us.map Vl.d)) →
    EnvAt K (upd H d (.dK (mergeK kvs ((ps.zip xs).map fun q => ((.inl q.1.1 : Key), q.2))))) d (bindE ps us ρ)
  | [], xs, us, kvs, ρ, e, _, _, _ => e
  | p :: ps, xs, [], kvs, ρ, _, _, h, _ => by simp at h
  | p :: ps, xs, u :: us, kvs, ρ, e, sm, h, dx => by
    obtain ⟨v, t, rfl, h1, h2⟩ := dpAll_cons (dx (fun _ => none))
    have dv : ∀ H' : Hp, Dp K H' v u.d := fun H' => by
      obtain ⟨_, _, ee, d1, _⟩ := dpAll_cons (dx H')
      cases ee
      exact d1
    have dt : ∀ H' : Hp, DpAll K H' t (us.map Vl.d) := fun H' => by
      obtain ⟨_, _, ee, _, d2⟩ := dpAll_cons (dx H')
      cases ee
      exact d2
    obtain ⟨kvs', e1, _, e2⟩ := e.put (a := p.1) (sm p (List.mem_cons_self ..)) (dv _)
    rw [upd_same] at e1
    cases e1
    rw [upd_upd] at e2
    exact envAt_merge (xs := t) (us := us) e2 (fun q hq => sm q (List.mem_cons_of_mem _ hq)) (by simpa using h) dt
theorem zip_fst : ∀ {ps : List (Int × Int)} {xs : List V}, ps.length = xs.length → ((ps.zip xs).map fun q => (q.1.1, q.2)).map (fun x => V.int x.1) = ps.map (fun p => V.int p.1)
  | [], [], _ => rfl
  | [], _ :: _, h => by simp at h
  | _ :: _, [], h => by simp at h
  | p :: ps, x :: xs, h => by
    have := zip_fst (ps := ps) (xs := xs) (by simpa using h)
    simp only [List.zip_cons_cons, List.map_cons] at this ⊢
    rw [this]
theorem zip_snd : ∀ {ps : List (Int × Int)} {xs : List V}, ps.length = xs.length → ((ps.zip xs).map fun q => (q.1.1, q.2)).map (·.2) = xs
  | [], [], _ => rfl
  | [], _ :: _, h => by simp at h
  | _ :: _, [], h => by simp at h
  | p :: ps, x :: xs, h => by
    have := zip_snd (ps := ps) (xs := xs) (by simpa using h)
    simp only [List.zip_cons_cons, List.map_cons] at this ⊢
    rw [this]
/-- helpers, each calling those ahead -/
structure WD (hs : List (Str × Nat × List Blk)) : Prop where
  nd : (hs.map (·.1)).Nodup
  ok : ∀ i h, hs[i]? = some h → h.2.1 ≤ 4 ∧ GOk (hlOf (hs.take i)) h.2.1 h.2.2
theorem Wk.wd {W : Wk} (h : WkOk W) : WD W.hs := ⟨h.nd, fun i x hi => by
  obtain ⟨a, b⟩ := h.hp i x hi
  exact ⟨a, b.ok (W.hl_le h i) a (by omega)⟩⟩
theorem WD.get {hs : List (Str × Nat × List Blk)} (W : WD hs) {n : Nat} {g : Str} {m : Nat} (hm : (g, m) ∈ hlOf (hs.take (n + 1))) : ∃ x ∈ hs, x.1 = g ∧ x.2.1 = m ∧ hgOf hs g = x.2.2 ∧ m ≤ 4 ∧ GOk (hlOf (hs.take n)) m x.2.2 := by
  obtain ⟨x, hx, e⟩ := List.mem_map.mp hm
  have e1 : x.1 = g := congrArg Prod.fst e
  have e2 : x.2.1 = m := congrArg Prod.snd e
  obtain ⟨i, hi⟩ := List.getElem?_of_mem hx
  have il : i < n + 1 := by
    have := (List.getElem?_eq_some_iff.mp hi).1
    rw [List.length_take] at this
    omega
  rw [List.getElem?_take_of_lt il] at hi
  obtain ⟨a, b⟩ := W.ok i x hi
  refine ⟨x, List.mem_of_getElem? hi, e1, e2, ?_, by omega, ?_⟩
  · have key : ∀ {l : List (Str × Nat × List Blk)}, (l.map (·.1)).Nodup → x ∈ l → (l.find? fun y => decide (y.1 = g)) = some x := by
      intro l nd hx
      induction l with
      | nil => cases hx
      | cons a r ih =>
        rw [List.map_cons] at nd
        have n := List.nodup_cons.mp nd
        rw [List.find?_cons]
        rcases List.mem_cons.mp hx with rfl | hx
        · rw [decide_eq_true e1]
        · have ne : a.1 ≠ g := fun z => n.1 (List.mem_map.mpr ⟨x, hx, by rw [e1, z]⟩)
          rw [decide_eq_false ne]
          exact ih n.2 hx
    unfold hgOf
    rw [key W.nd (List.mem_of_getElem? hi)]
  · rw [← e2]
    refine b.hl fun p hp => ?_
    obtain ⟨q, hq, rfl⟩ := List.mem_map.mp hp
    refine List.mem_map.mpr ⟨q, ?_, rfl⟩
    rw [show hs.take i = (hs.take n).take i by rw [List.take_take, Nat.min_eq_left (by omega)]] at hq
    exact List.mem_of_mem_take hq
def lgS (rd tl : Addr) : Addr → Prop := fun b => b = rd ∨ b = tl
theorem Kp.lg {H H' : Hp} {rd tl d : Addr} (k : Kp (lrS rd tl d) H H') (n : H d = none) : Kp (lgS rd tl) H H' := fun c o e h => k c o e fun z => by
  rcases z with z | z | z
  · exact h (.inl z)
  · exact h (.inr z)
  · rw [z, n] at e
    cases e
def sp_lgo (K : PySem.W.Frag) (n : Nat) : Sp := fun vs H Q _ => ∃ (pw ph pi rd tl : Addr) (gv vm : V) (ys : List V) (L : Nat) (told : List Int) (hs : List (Str × Nat × List Blk)) (g : List Blk) (m : Nat) (is : List Int) (r : List Fr), vs = [.ref pw, gv, .ref pi, .ref rd] ∧
  SqT K H pw [.ref ph, vm] ∧ TupZ H ph ys ∧ DpAll K H ys (hs.map ghD) ∧ hs.length ≤ 1000 ∧ WD hs ∧ Dp K H gv (grD g) ∧ GRun (hlOf (hs.take n)) m g ∧ H pi = some (.lst (is.map V.int)) ∧ pi ≠ tl ∧ is.length = m ∧ (∀ i ∈ is, In32 i) ∧ m ≤ 100 ∧ RunAt H rd tl L told ∧ L + told.length ≤ 100000 ∧
  (∀ H' i k told' v, Kp (lgS rd tl) H H' → RunAt H' rd tl (L - k) told' → k ≤ L → (∃ j, k = j + 1 ∧ (mics hs j ⟨enterF g (is.map Vl.n) :: r, told, none⟩).end_ = none) → In32 i → mics hs k ⟨enterF g (is.map Vl.n) :: r, told, none⟩ = ⟨(backF i r).1, told', (backF i r).2⟩ → Dp K H' v (.tuple [.str "gave", .int i]) → Q v H') ∧
  ∀ H' v e k told', Kp (lgS rd tl) H H' → RunAt H' rd tl (L - k) told' → OutF hs ⟨enterF g (is.map Vl.n) :: r, told, none⟩ L k e told' → Dp K H' v e.d → Q v H'
def spC (K : PySem.W.Frag) : Nat → Sp
  | 0 => fun _ _ _ _ => False
  | n + 1 => sp_lgo K n
structure LgJ (K : PySem.W.Frag) (H0 : Hp) (rd tl d : Addr) (L : Nat) (told : List Int) (hs : List (Str × Nat × List Blk)) (hl : List (Str × Nat)) (g : List Blk) (r : List Fr) (c : MS) (i : Nat) (at_ : Nat) (H' : Hp) (f : Fr) (told' : List Int) (kk : Nat) : Prop where
  i : i = L - kk
  kl : kk ≤ L
  g : f.g = g
  pc : f.pc = 0
  at_ : f.at_ = at_
  em : mics hs kk c = ⟨f :: r, told', none⟩
  ok : FrOk hl f
  en : EnvAt K H' d f.ρ
  k : Kp (lrS rd tl d) H0 H'
  run : RunAt H' rd tl (L - kk) told'
  lt : told'.length ≤ told.length + kk
def lgJ (K : PySem.W.Frag) (H0 : Hp) (rd tl d : Addr) (L : Nat) (told : List Int) (hs : List (Str × Nat × List Blk)) (hl : List (Str × Nat)) (g : List Blk) (r : List Fr) (c : MS) (a1 a2 a3 a4 : V) (i : Nat) (σ : L2.St) (H' : Hp) : Prop :=
  ∃ at_ f told' kk, LgJ K H0 rd tl d L told hs hl g r c i at_ H' f told' kk ∧ ∃ x6 x7 x8 x9 x10 x11, σ = [some a1, some a2, some a3, some a4, some (.ref d), some (.int (at_ : Nat)), x6, x7, x8, x9, x10, x11]
theorem ok_go_step (T : Top K mg) (n : Nat) (G__law_go : FnOk P w K mg base CX0 (5 + n) (He.ga K "_law_go") T.fd__law_go ["_law_works_here", "_law_graph_here", "_law_inputs_here", "_law_run"] (spC K n)) :
    FnOk P w K mg base CX0 (6 + n) (He.ga K "_law_go") T.fd__law_go ["_law_works_here", "_law_graph_here", "_law_inputs_here", "_law_run"] (sp_lgo K n) := by
  have G__law_do_rows := ok__law_do_rows (P := P) (w := w) (base := base) T
  have G__law_goes := ok__law_goes (P := P) (w := w) (base := base) T
  have key : FnOk P w K mg base CX0 (5 + n + 1) (He.ga K "_law_go") T.fd__law_go ["_law_works_here", "_law_graph_here", "_law_inputs_here", "_law_run"] (sp_lgo K n) := by
    refine T.F__law_go.ok sc__law_go (fun vs H Q E h => ?_) (fun cdv A0 outer s0 H vs Q E hr h => ?_)
    · obtain ⟨pw, ph, pi, rd, tl, gv, vm, ys, L, told, hs, g, m, is, r, rfl, _⟩ := h
      rfl
    · obtain ⟨pw, ph, pi, rd, tl, gv, vm, ys, L, told, hs, g, m, is, r, rfl, hpw, hz, dys, l1000, W, dg, gr, hpi, npt, li, i32, m100, run, lt, qa, qb⟩ := h
      refine ⟨_, PSs.nox (pss_cons (ps_set (i := 4) sc__law_go.nd rfl (Or.inr rfl) (ZipM.pe_dictzipI rfl (by rfl) T.m_dict (by rfl) T.m_zip (pa_cons (pe_lc (own := [("_law_value", 10), ("_law_size", 11)]) (by rfl) sc__law_go.nd (pi_tup (pe_ix ix_tup (pe_ix ix_tup (pv 1) pe_int (fun _ _ => rfl)) pe_int (fun _ _ => rfl))) (blkOk_by (own := [("_law_value", 10), ("_law_size", 11)]) (N := N__law_go) (sc := defScope s__law_go) (by decide +kernel)) (fun _ _ _ _ _ => (pg_tupK (K := K) (n := 2) rfl (by rfl) (pgs_cons (pg_name (i := 10) sc__law_go.nd rfl (Or.inl rfl)) (pgs_cons (pg_name (i := 11) sc__law_go.nd rfl (Or.inl rfl)) pgs_nil)))) (fun _ _ _ _ _ => pts_nil) (fun _ _ _ _ _ => (pv 10))) (pa_cons (pv 2) pa_nil))))
        (pss_cons (ps_set (i := 5) sc__law_go.nd rfl (Or.inl rfl) pe_int)
        (pss_one (ps_while PassesOwn.never (pt_val pe_bl) (pss_cons (ps_set (i := 6) sc__law_go.nd rfl (Or.inl rfl) (pe_call G__law_do_rows (hr.mono (by omega)) (by rfl) T.g__law_do_rows T.F__law_do_rows.kp T.b__law_do_rows .nil pass0 (pa_cons (pe_ix ix_tup (pv 1) (pv 5) (fun _ _ => rfl)) (pa_cons (pv 4) (pa_cons (pv 3) pa_nil)))))
        (pss_cons (ps_if (PW.pt (pw_or (pt_cmpR op_notN (pv 6) pe_non (nomark _)) (pw_or1 (pt_cmpR op_eq (pe_dget (hu_of hr) (pv 3) pe_str (fun _ _ => rfl)) pe_int (nomark _))))) (pss_one (ps_ret (pe_orT (pv 6) (pe_one (pe_tup (pa_cons pe_str pa_nil)))))) pss_nil)
        (pss_cons (ps_daug (hu_of hr) (pv 3) pe_str pe_int in_sub (fun _ _ _ => rfl))
        (pss_cons (ps_set (i := 7) sc__law_go.nd rfl (Or.inl rfl) (pe_ix ix_tup (pe_ix ix_tup (pv 1) (pv 5) (fun _ _ => rfl)) pe_int (fun _ _ => rfl)))
        (pss_cons (ps_if (pt_cmpR op_eq (pe_ix ix_tup (pv 7) pe_int (fun _ _ => rfl)) pe_str (nomark _)) (pss_one (ps_ret (pe_tup (pa_cons pe_str (pa_cons (pe_dget (hu_of hr) (pv 4) (pe_ix ix_tup (pv 7) pe_int (fun _ _ => rfl)) (fun _ _ => rfl)) pa_nil))))) pss_nil)
        (pss_cons (ps_if (pt_cmpR op_eq (pe_ix ix_tup (pv 7) pe_int (fun _ _ => rfl)) pe_str (nomark _)) (pss_one (ps_ret (pe_tup (pa_cons pe_str (pa_cons (pe_op op_add_str pe_str (pe_callTy call_str_int (by rfl) T.m_str (by decide +kernel) (pa_cons (pe_ix ix_tup (pv 7) pe_int (fun _ _ => rfl)) pa_nil))) pa_nil))))) pss_nil)
        (pss_cons (ps_set (i := 8) sc__law_go.nd rfl (Or.inl rfl) (pe_lst pa_nil))
        (pss_cons (ps_set (i := 9) sc__law_go.nd rfl (Or.inl rfl) (pe_ix ix_tup (pv 7) (pe_un un_neg pe_int) (fun _ _ => rfl)))
        (pss_cons (ps_if (PW.pt (pw_and (pt_cmpR op_eq (pe_ix ix_tup (pv 7) pe_int (fun _ _ => rfl)) pe_str (nomark _)) (pw_and1 (pt_cmpR op_ne (pe_dget (hu_of hr) (pv 4) (pe_ix ix_tup (pv 7) pe_int (fun _ _ => rfl)) (fun _ _ => rfl)) pe_int (nomark _))))) (pss_one (ps_set (i := 9) sc__law_go.nd rfl (Or.inl rfl) (pe_ix ix_tup (pv 7) pe_int (fun _ _ => rfl)))) pss_nil)
        (pss_cons (ps_if (pt_cmpR op_eq (pe_ix ix_tup (pv 7) pe_int (fun _ _ => rfl)) pe_str (nomark _)) (pss_cons (ps_set (i := 6) sc__law_go.nd rfl (Or.inl rfl) (pe_call G__law_go (hr.mono (by omega)) (by rfl) T.g__law_go T.F__law_go.kp T.b__law_go .nil pass0 (pa_cons (pv 0) (pa_cons (pe_dget (hu_of hr) (pe_callTy (call_dictTZ rfl) (by rfl) T.m_dict (by decide +kernel) (pa_cons (pe_ix ix_tup (pv 0) pe_int (fun _ _ => rfl)) pa_nil)) (pe_ix ix_tup (pv 7) pe_int (fun _ _ => rfl)) (fun _ _ => rfl)) (pa_cons (pe_lc (own := [("_law_value", 10)]) (by rfl) sc__law_go.nd (pi_tup (pe_ix ix_tup (pv 7) pe_int (fun _ _ => rfl))) (blkOk_by (own := [("_law_value", 10)]) (N := N__law_go) (sc := defScope s__law_go) (by decide +kernel)) (fun _ _ _ _ _ => (pg_name (i := 10) sc__law_go.nd rfl (Or.inl rfl))) (fun _ _ _ _ _ => pts_nil) (fun _ _ _ _ _ => (pe_dget (hu_of hr) (pv 4) (pv 10) (fun _ _ => rfl)))) (pa_cons (pv 3) pa_nil))))))
        (pss_cons (ps_if (pt_cmpR op_ne (pe_ix ix_tup (pv 6) pe_int (fun _ _ => rfl)) pe_str (nomark _)) (pss_one (ps_ret (pv 6))) pss_nil)
        (pss_one (ps_set (i := 8) sc__law_go.nd rfl (Or.inl rfl) (pe_lst (pa_cons (pe_ix ix_tup (pv 6) pe_int (fun _ _ => rfl)) pa_nil)))))) pss_nil)
        (pss_one (ps_set (i := 5) sc__law_go.nd rfl (Or.inl rfl) (pe_call G__law_goes (hr.mono (by omega)) (by rfl) T.g__law_goes T.F__law_goes.kp T.b__law_goes .nil pass0 (pa_cons (pv 1) (pa_cons (pv 4) (pa_cons (pv 9) (pa_cons (pv 8) pa_nil))))))))))))))))))))), ?_⟩
      obtain ⟨fo, b0, hb0, lb0⟩ := enter_ok gr li i32
      obtain ⟨pg, xg, pb0, pv0, rv0, ev0, rfl, hxg, hxgi0, hpb0, _, dpv0, _, _⟩ := blk_at dg hb0
      obtain ⟨pp, xp, rfl, hpp, lxp, atp⟩ := params_at dpv0
      -- the values
      refine ⟨_, rfl, pg, _, 0, _, rfl, rfl, hxg, atI_nat (j := 0) hxgi0, pb0, _, 0, _, rfl, rfl, hpb0, atI_nat (j := 0) rfl, pp, rfl, ⟨_, hpp⟩, fun D nD => ?_⟩
      refine lc_tup (K := K) (a := pp) (xs := xp) (fun i H' => Same H H' ∧ H' D = some (.lst ((b0.ps.take i).map fun p => V.int p.1))) ?_ ?_ ?_ ?_
      · exact ⟨same_new nD, upd_same⟩
      · rintro i H' _ ⟨s', _⟩
        exact sqT_sm s' hpp
      · rintro i y H' hy ⟨s', eD⟩
        obtain ⟨pr, q', hp, rfl, hq⟩ := atp i y hy
        have il := (List.getElem?_eq_some_iff.mp hp).1
        refine ⟨q', _, rfl, sqT_sm s' hq, rfl, _, _, rfl, _, _, rfl, rfl, rfl, _, rfl, _, eD, by rw [List.length_map, List.length_take, sizeLine_eq]; omega, same_upd s' nD, ?_⟩
        rw [upd_same, List.take_succ, hp, List.map_append]
        rfl
      · rintro H1 ⟨s1, eD⟩
        have lbi : b0.ps.length = (is.map V.int).length := by rw [List.length_map, lb0, li]
        rw [lxp, List.take_length] at eD
        refine ⟨_, rfl, D, pi, (b0.ps.zip (is.map V.int)).map fun q => (q.1.1, q.2), rfl, ?_, ?_, ?_, fun d nd => ?_⟩
        · rw [zip_fst lbi]
          exact .of eD
        · rw [zip_snd lbi]
          exact .of (s1 _ _ hpi)
        · rw [List.length_map, List.length_zip, ← lbi, lb0]
          omega
        have s2 := same_new (o := .dK (mergeK [] (((b0.ps.zip (is.map V.int)).map fun q => (q.1.1, q.2)).map fun x => ((.inl x.1 : Key), x.2)))) nd
        have psm : ∀ p ∈ b0.ps, Smv p.1 := fun p hp => gr.sm _ (List.mem_flatMap.mpr ⟨b0, List.mem_of_getElem? hb0, List.mem_append_left _ (List.mem_map.mpr ⟨p, hp, rfl⟩)⟩)
        have e0 : EnvAt K (upd H1 d (.dK (mergeK [] (((b0.ps.zip (is.map V.int)).map fun q => (q.1.1, q.2)).map fun x => ((.inl x.1 : Key), x.2))))) d (enterF g (is.map Vl.n)).ρ := by
          rw [List.map_map]
          show EnvAt K _ d (bindE (blkAt g 0).ps (is.map Vl.n) fun _ => none)
          rw [blkAt_some hb0]
          exact envAt_merge (EnvAt.new nd) psm (by rw [List.length_map, lb0, li]) fun H' => ints_vls is
        generalize upd H1 d (.dK (mergeK [] (((b0.ps.zip (is.map V.int)).map fun q => (q.1.1, q.2)).map fun x => ((.inl x.1 : Key), x.2)))) = H2 at s2 e0 ⊢
        have s02 := s1.trans s2
        have nd0 : H d = none := s1.free nd
        have run2 := run.sm s02
        have ndr : d ≠ rd := fun z => by rw [z, run.e] at nd0; cases nd0
        have ndt : d ≠ tl := fun z => by rw [z, run.t] at nd0; cases nd0
        dsimp only [gName, List.set]
        refine ⟨lgJ K H2 rd tl d L told hs (hlOf (hs.take n)) g r ⟨enterF g (is.map Vl.n) :: r, told, none⟩ (.ref pw) (.ref pg) (.ref pi) (.ref rd), ⟨L, 0, _, told, 0, ⟨rfl, Nat.zero_le _, rfl, rfl, rfl, rfl, fo, e0, Kp.refl, run2, Nat.le_refl _⟩, _, _, _, _, _, _, rfl⟩, ?_⟩
        rintro i σ' H3 ⟨at_, f, told', kk, J, y6, y7, y8, y9, y10, y11, rfl⟩
        obtain ⟨es, sz, b, sc, fi⟩ := J.ok
        have hbg : g[f.at_]? = some b := by rw [← J.g]; exact fi.hb
        have dg3 : Dp K H3 (.ref pg) (grD g) := dp_kp J.k _ _ (grD_nl g) (dp_sm s02 dg)
        obtain ⟨pg', xg', pb, pv, rv, evn, epg, hxg3, hxgi, hpb, dbl, dpv, drv, den⟩ := blk_at dg3 hbg
        cases epg
        have eat : at_ = f.at_ := J.at_.symm
        rw [eat] at J ⊢
        refine ⟨_, rfl, ifT rfl ?_⟩
        refine ⟨fun σ' H' => ∃ m', m' < i ∧ lgJ K H2 rd tl d L told hs (hlOf (hs.take n)) g r ⟨enterF g (is.map Vl.n) :: r, told, none⟩ (.ref pw) (.ref pg) (.ref pi) (.ref rd) m' σ' H', fun _ _ h => h, ?_⟩
        have jlt := J.lt
        have jkl := J.kl
        refine ⟨_, rfl, _, rfl, pg, _, _, _, rfl, rfl, hxg3, atI_nat hxgi, _, rfl, _, rfl, ?_⟩
        refine ⟨.ref pb, d, rd, tl, L - kk, told', hs, hlOf (hs.take n), f, r, es, sz, b, sc, rfl, dbl, fi, J.pc, J.en, J.run, ndr, by omega, fun H4 f4 told4 k4 kp4 hg4 ha4 hpc4 fi4 k4L em4 en4 run4 lt4 => ?_, fun H4 v e k4 told4 kp4 run4 out dv => ?_⟩
        rotate_left
        · obtain ⟨pt, xs, rfl, hpt, ne⟩ : ∃ pt xs, v = .ref pt ∧ SqT K H4 pt xs ∧ xs ≠ [] := by
            obtain ⟨ds, ed, nd⟩ : ∃ ds, e.d = .tuple ds ∧ ds ≠ [] := by cases e <;> exact ⟨_, rfl, by simp⟩
            rw [ed] at dv
            obtain ⟨pt, xs, rfl, hpt, dx⟩ := dp_tup dv
            refine ⟨pt, xs, rfl, hpt, fun z => nd ?_⟩
            have := dpAll_len dx
            rw [z] at this
            exact List.length_eq_zero_iff.mp this.symm
          dsimp only [gName, List.set]
          refine ⟨_, rfl, rfl, _, rfl, ifNT (fun z => nomatch z) (ifT rfl ?_)⟩
          refine ⟨_, rfl, true, .inr (.inl ⟨xs, hpt, by cases xs with | nil => exact absurd rfl ne | cons => rfl⟩), ifT rfl ?_⟩
          have ol := out.l
          have ff := out.f.comp J.em
          rw [show kk + (L - kk) = L by omega] at ff
          exact qb H4 _ e (kk + k4) told4 (((Kp.of_same s02).trans (J.k.trans kp4)).lg nd0) (by rw [show L - (kk + k4) = L - kk - k4 by omega]; exact run4) ⟨by omega, ff, by rw [mics_add, J.em]; exact out.t, out.s⟩ dv
        dsimp only [gName, List.set]
        have em5 : mics hs (kk + k4) ⟨enterF g (is.map Vl.n) :: r, told, none⟩ = ⟨f4 :: r, told4, none⟩ := by rw [mics_add, J.em, em4]
        refine ⟨_, rfl, rfl, _, rfl, ifNF rfl ?_⟩
        refine ⟨_, rfl, _, _, rfl, run4.left, rfl, _, rfl, ?_⟩
        by_cases c0 : L - kk - k4 = 0
        · refine ifD (by rw [c0]; rfl) ⟨_, rfl, false, rfl, ifF rfl ⟨one_le, fun t nt => ?_⟩⟩
          have s5 := same_new (o := .tup [V.str "on"]) nt
          refine qb _ _ .on (kk + k4) told4 (((Kp.of_same s02).trans ((J.k.trans kp4).trans (Kp.of_same s5))).lg nd0) (by rw [show L - (kk + k4) = L - kk - k4 by omega]; exact run4.sm s5) ⟨by omega, .inr ⟨rfl, by omega, by rw [em5]⟩, by rw [em5], .inl rfl⟩ (.tup (.inl (.of upd_same)) (.cons (.str _) .nil))
        refine ifN (fun z => by injection z with z; omega) ?_
        obtain ⟨mL, emL⟩ : ∃ mL, L - kk - k4 = mL + 1 := ⟨L - kk - k4 - 1, by omega⟩
        rw [emL] at run4
        obtain ⟨H5, dput, run5, k5⟩ := run4.dec (z := ((mL + 1 : Nat) : Int) - 1) (by omega)
        refine ⟨_, rfl, _, _, rfl, run4.left, _, _, rfl, rfl, _, dput, ?_⟩
        have k5' : Kp (lrS rd tl d) H4 H5 := k5.mono fun b e => .inl e
        have kp45 := kp4.trans k5'
        have kp25 := J.k.trans kp45
        have hp4 : b.rs.length ≤ f4.pc := Nat.le_of_eq hpc4.symm
        have em6 : mics hs (kk + k4 + 1) ⟨enterF g (is.map Vl.n) :: r, told, none⟩ = micEnd hs f4 r told4 b.en := by
          show mic hs (mics hs (kk + k4) _) = _
          rw [em5, mic_en (by rw [fi4.blk]; exact hp4), fi4.blk]
        have en5 := en4.kpn k5 ndr
        have enA := fi4.all hp4
        have er := fi4.er
        have de5 : Dp K H5 evn b.en.d := dp_kp kp45 _ _ (En.nl _) den
        have hxg5 := sqT_kp kp45 hxg3
        have hpb5 := sqT_kp kp45 hpb
        have runL : RunAt H5 rd tl (L - (kk + k4 + 1)) told4 := by rw [show L - (kk + k4 + 1) = mL by omega]; exact run5
        refine ⟨_, rfl, _, rfl, pg, _, _, _, rfl, rfl, hxg5, atI_nat hxgi, pb, _, 2, _, rfl, rfl, hpb5, atI_nat (j := 2) rfl, ?_⟩
        dsimp only [gName, List.set]
        have goOn : ∀ (w : Way) (wv : V) (fa : Addr) (fvs : List V) (first : List Vl) (fz : List Int) (H6 : Hp) (k6 : Nat) (told6 : List Int) (z6 z7 z8 z9 z10 z11 : Option V), WayR es f4.g sc fz w → VlsOk fz first → first.length ≤ 1 → Dp K H6 wv w.d → H6 fa = some (.lst fvs) → DpAll K H6 fvs (first.map Vl.d) → Kp (lrS rd tl d) H2 H6 → EnvAt K H6 d f4.ρ →
            RunAt H6 rd tl (L - (kk + k4 + k6)) told6 → 1 ≤ k6 → kk + k4 + k6 ≤ L → mics hs (kk + k4 + k6) ⟨enterF g (is.map Vl.n) :: r, told, none⟩ = ⟨f4.lead w first :: r, told6, none⟩ → told6.length ≤ told.length + (kk + k4 + k6) →
            sp_lgoes K [.ref pg, .ref d, wv, .ref fa] H6 (fun v H' => ∃ m', m' < i ∧ lgJ K H2 rd tl d L told hs (hlOf (hs.take n)) g r ⟨enterF g (is.map Vl.n) :: r, told, none⟩ (.ref pw) (.ref pg) (.ref pi) (.ref rd) m' [some (.ref pw), some (.ref pg), some (.ref pi), some (.ref rd), some (.ref d), some v, z6, z7, z8, z9, z10, z11] H') E0 := by
          intro w wv fa fvs first fz H6 k6 told6 z6 z7 z8 z9 z10 z11 hw hf f1 dw hfa dfv kp6 en6 run6 k61 k6L em7 lt7
          obtain ⟨⟨b', hb', lb', l10, psm'⟩, has⟩ := fi4.ld hp4 hw hf
          obtain ⟨fo', _, _⟩ := fi4.lead hp4 hw hf
          have dg6 : Dp K H6 (.ref pg) (grD f4.g) := by
            rw [hg4, J.g]
            exact dp_kp kp6 _ _ (grD_nl g) (dp_sm s02 dg)
          refine ⟨.ref pg, wv, d, fa, fvs, f4, w, first, b', rfl, dg6, en6, dw, hfa, dfv, f1, hb', lb', l10, psm', has, fun H7 k7 en7 => ⟨L - (kk + k4 + k6), by rw [J.i]; omega, w.t, f4.lead w first, told6, kk + k4 + k6, ⟨rfl, k6L, by show f4.g = g; rw [hg4, J.g], rfl, rfl, em7, fo', en7, kp6.trans (k7.mono fun b e => .inr (.inr e)), run6.kp k7 (fun z => ndr z.symm) (fun z => ndt z.symm), lt7⟩, _, _, _, _, _, _, rfl⟩⟩
        cases hen : b.en with
        | give v =>
          rw [hen] at de5 er
          obtain ⟨pe, xe, rfl, hpe, dxe⟩ := dp_tup de5
          obtain ⟨v1, r1, rfl, d1, t1⟩ := dpAll_cons dxe
          obtain ⟨v2, r2, rfl, d2, t2⟩ := dpAll_cons t1
          rw [dp_str d1, dp_int d2, dpAll_nil t2] at hpe
          refine ⟨_, rfl, pe, _, 0, _, rfl, rfl, hpe, atI_nat (j := 0) rfl, rfl, _, rfl, ifD rfl ?_⟩
          obtain ⟨i', hi, i32'⟩ := enA.num er
          obtain ⟨u, du, dv⟩ := en5.get hi
          rw [dp_int dv] at du
          refine ⟨_, rfl, _, rfl, pe, _, 1, _, rfl, rfl, hpe, atI_nat (j := 1) rfl, _, _, rfl, du, two_le, fun t nt => ?_⟩
          have s6 := same_new (o := .tup [V.str "gave", .int i']) nt
          refine qa _ i' (kk + k4 + 1) told4 _ (((Kp.of_same s02).trans (kp25.trans (Kp.of_same s6))).lg nd0) (runL.sm s6) (by omega) ⟨kk + k4, rfl, by rw [em5]⟩ i32' ?_ (.tup (.inl (.of upd_same)) (.cons (.str _) (.cons (.int _) .nil)))
          rw [em6, hen]
          show (⟨(backF (f4.ρ.num v) r).1, told4, (backF (f4.ρ.num v) r).2⟩ : MS) = _
          rw [Env.num_of hi]
        | fail n' =>
          rw [hen] at de5 er
          obtain ⟨pe, xe, rfl, hpe, dxe⟩ := dp_tup de5
          obtain ⟨v1, r1, rfl, d1, t1⟩ := dpAll_cons dxe
          obtain ⟨v2, r2, rfl, d2, t2⟩ := dpAll_cons t1
          rw [dp_str d1, dp_int d2, dpAll_nil t2] at hpe
          refine ⟨_, rfl, pe, _, 0, _, rfl, rfl, hpe, atI_nat (j := 0) rfl, rfl, _, rfl, ifN (by decide +kernel) ?_⟩
          refine ⟨_, rfl, pe, _, 0, _, rfl, rfl, hpe, atI_nat (j := 0) rfl, rfl, _, rfl, ifD rfl ?_⟩
          obtain ⟨tl1, tl2⟩ := ten_len n' er.1 er.2
          have l5 : (("fail " : Str)).length = 5 := by decide +kernel
          refine ⟨_, rfl, pe, _, 1, _, rfl, rfl, hpe, atI_nat (j := 1) rfl, n', rfl, tl2, _, _, rfl, rfl, ?_, two_le, fun t nt => ?_⟩
          · rw [sizeLine_eq]
            omega
          have s6 := same_new (o := .tup [V.str "fault", V.str (failT n')]) nt
          have em7 : mics hs (kk + k4 + 1) ⟨enterF g (is.map Vl.n) :: r, told, none⟩ = ⟨f4 :: r, told4, some (.fault (failT n'))⟩ := by
            rw [em6, hen]
            rfl
          have lf : (failT n').length ≤ 8 := by
            have : (failT n').length = ("fail " : Str).length + (Str.ofString (toString n')).length := strLen_append _ _
            omega
          exact qb _ _ (.fault (failT n')) (kk + k4 + 1) told4 (((Kp.of_same s02).trans (kp25.trans (Kp.of_same s6))).lg nd0) (runL.sm s6) ⟨by omega, .inl ⟨by rw [em7], kk + k4, rfl, by rw [em5]⟩, by rw [em7], .inr ⟨failT n', rfl, lf, strOk_app (by decide +kernel) (strOk_of _)⟩⟩ (.tup (.inl (.of upd_same)) (.cons (.str _) (.cons (.str _) .nil)))
        | jump w =>
          rw [hen] at de5 er
          obtain ⟨pe, xe, rfl, hpe, dxe⟩ := dp_tup de5
          obtain ⟨v1, r1, rfl, d1, t1⟩ := dpAll_cons dxe
          obtain ⟨v2, r2, rfl, d2, t2⟩ := dpAll_cons t1
          rw [dp_str d1, dpAll_nil t2] at hpe
          refine ⟨_, rfl, pe, _, 0, _, rfl, rfl, hpe, atI_nat (j := 0) rfl, rfl, _, rfl, ifN (by decide +kernel) ?_⟩
          refine ⟨_, rfl, pe, _, 0, _, rfl, rfl, hpe, atI_nat (j := 0) rfl, rfl, _, rfl, ifN (by decide +kernel) ?_⟩
          refine ⟨Nat.zero_le _, fun nl nnl => ?_⟩
          have s6 := same_new (o := .lst []) nnl
          have hpe6 := sqT_sm s6 hpe
          refine ⟨_, rfl, 1, rfl, pe, _, -1, _, rfl, rfl, hpe6, atI_last [_] _, ?_⟩
          dsimp only [gName, List.set]
          refine ⟨_, rfl, pe, _, 0, _, rfl, rfl, hpe6, atI_nat (j := 0) rfl, rfl, _, rfl, ifN (by decide +kernel) (ifF rfl ?_)⟩
          refine ⟨_, rfl, pe, _, 0, _, rfl, rfl, hpe6, atI_nat (j := 0) rfl, rfl, _, rfl, ifN (by decide +kernel) ?_⟩
          refine ⟨_, rfl, _, rfl, _, rfl, _, rfl, ?_⟩
          exact goOn w v2 nl [] [] [] _ 1 told4 _ _ _ _ _ _ er .nil (Nat.zero_le _) (dp_sm s6 d2) upd_same .nil (kp25.trans (Kp.of_same s6)) (en5.sm s6) (runL.sm s6) (Nat.le_refl _) (by omega) (by rw [em6, hen]; rfl) (by omega)
        | choose v wa wb =>
          rw [hen] at de5 er
          obtain ⟨pe, xe, rfl, hpe, dxe⟩ := dp_tup de5
          obtain ⟨v1, r1, rfl, d1, t1⟩ := dpAll_cons dxe
          obtain ⟨v2, r2, rfl, d2, t2⟩ := dpAll_cons t1
          obtain ⟨v3, r3, rfl, d3, t3⟩ := dpAll_cons t2
          obtain ⟨v4, r4, rfl, d4, t4⟩ := dpAll_cons t3
          rw [dp_str d1, dp_int d2, dpAll_nil t4] at hpe
          refine ⟨_, rfl, pe, _, 0, _, rfl, rfl, hpe, atI_nat (j := 0) rfl, rfl, _, rfl, ifN (by decide +kernel) ?_⟩
          refine ⟨_, rfl, pe, _, 0, _, rfl, rfl, hpe, atI_nat (j := 0) rfl, rfl, _, rfl, ifN (by decide +kernel) ?_⟩
          refine ⟨Nat.zero_le _, fun nl nnl => ?_⟩
          have s6 := same_new (o := .lst []) nnl
          have hpe6 := sqT_sm s6 hpe
          refine ⟨_, rfl, 1, rfl, pe, _, -1, _, rfl, rfl, hpe6, atI_last [_, _, _] _, ?_⟩
          dsimp only [gName, List.set]
          obtain ⟨i', hi, _⟩ := enA.num er.1
          obtain ⟨u, du, dv⟩ := (en5.sm s6).get hi
          rw [dp_int dv] at du
          have e1 : micEnd hs f4 r told4 b.en = ⟨f4.lead (if i' = 0 then wb else wa) [] :: r, told4, none⟩ := by
            rw [hen]
            show (⟨f4.lead (if f4.ρ.num v = 0 then wb else wa) [] :: r, told4, none⟩ : MS) = _
            rw [Env.num_of hi]
          refine ⟨_, rfl, pe, _, 0, _, rfl, rfl, hpe6, atI_nat (j := 0) rfl, rfl, _, rfl, ifD rfl ?_⟩
          refine ⟨_, rfl, _, rfl, pe, _, 1, _, rfl, rfl, hpe6, atI_nat (j := 1) rfl, _, _, rfl, du, rfl, _, rfl, ?_⟩
          by_cases i0 : i' = 0
          · rw [if_pos i0] at e1
            refine ifNF (by rw [i0]) ?_
            refine ⟨_, rfl, pe, _, 0, _, rfl, rfl, hpe6, atI_nat (j := 0) rfl, rfl, _, rfl, ifN (by decide +kernel) ?_⟩
            refine ⟨_, rfl, _, rfl, _, rfl, _, rfl, ?_⟩
            exact goOn wb v4 nl [] [] [] _ 1 told4 _ _ _ _ _ _ er.2.2 .nil (Nat.zero_le _) (dp_sm s6 d4) upd_same .nil (kp25.trans (Kp.of_same s6)) (en5.sm s6) (runL.sm s6) (Nat.le_refl _) (by omega) (by rw [em6, e1]) (by omega)
          · rw [if_neg i0] at e1
            refine ifNT (fun z => i0 (V.int.inj z)) ?_
            refine ⟨_, rfl, pe, _, 2, _, rfl, rfl, hpe6, atI_nat (j := 2) rfl, ?_⟩
            dsimp only [gName, List.set]
            refine ⟨_, rfl, pe, _, 0, _, rfl, rfl, hpe6, atI_nat (j := 0) rfl, rfl, _, rfl, ifN (by decide +kernel) ?_⟩
            refine ⟨_, rfl, _, rfl, _, rfl, _, rfl, ?_⟩
            exact goOn wa v3 nl [] [] [] _ 1 told4 _ _ _ _ _ _ er.2.1 .nil (Nat.zero_le _) (dp_sm s6 d3) upd_same .nil (kp25.trans (Kp.of_same s6)) (en5.sm s6) (runL.sm s6) (Nat.le_refl _) (by omega) (by rw [em6, e1]) (by omega)
        | call gn as w =>
          rw [hen] at de5 er
          obtain ⟨pe, xe, rfl, hpe, dxe⟩ := dp_tup de5
          obtain ⟨v1, r1, rfl, d1, t1⟩ := dpAll_cons dxe
          obtain ⟨v2, r2, rfl, d2, t2⟩ := dpAll_cons t1
          obtain ⟨v3, r3, rfl, d3, t3⟩ := dpAll_cons t2
          obtain ⟨v4, r4, rfl, d4, t4⟩ := dpAll_cons t3
          rw [dp_str d1, dp_str d2, dpAll_nil t4] at hpe
          obtain ⟨pa, xa, rfl, hpa, dxa⟩ := dp_tup d3
          obtain ⟨n', rfl⟩ : ∃ n', n = n' + 1 := by
            cases n with
            | zero =>
              have := er.1
              rw [List.take_zero] at this
              exact nomatch this
            | succ n' => exact ⟨n', rfl⟩
          obtain ⟨x, hx, ex, ex2, ex3, m4, gx⟩ := W.get er.1
          refine ⟨_, rfl, pe, _, 0, _, rfl, rfl, hpe, atI_nat (j := 0) rfl, rfl, _, rfl, ifN (by decide +kernel) ?_⟩
          refine ⟨_, rfl, pe, _, 0, _, rfl, rfl, hpe, atI_nat (j := 0) rfl, rfl, _, rfl, ifN (by decide +kernel) ?_⟩
          refine ⟨Nat.zero_le _, fun nl nnl => ?_⟩
          have s6 := same_new (o := .lst []) nnl
          have hpe6 := sqT_sm s6 hpe
          refine ⟨_, rfl, 1, rfl, pe, _, -1, _, rfl, rfl, hpe6, atI_last [_, _, _] _, ?_⟩
          dsimp only [gName, List.set]
          refine ⟨_, rfl, pe, _, 0, _, rfl, rfl, hpe6, atI_nat (j := 0) rfl, rfl, _, rfl, ifN (by decide +kernel) (ifF rfl ?_)⟩
          refine ⟨_, rfl, pe, _, 0, _, rfl, rfl, hpe6, atI_nat (j := 0) rfl, rfl, _, rfl, ifD rfl ?_⟩
          have kp26 := kp25.trans (Kp.of_same (S := lrS rd tl d) s6)
          have k06 : Kp (lrS rd tl d) H (upd H5 nl (.lst [])) := (Kp.of_same s02).trans kp26
          have s06' : ∀ c o, H c = some o → ¬ lgS rd tl c → upd H5 nl (.lst []) c = some o := fun c o e h => (k06.lg nd0) c o e fun z => absurd z h
          obtain ⟨ps, vs, eys, pr, dvs⟩ := help_pairs dys
          subst eys
          have lvs := dpAll_len dvs
          rw [List.length_map] at lvs
          have lps := dpAll_len dys
          rw [List.length_map, List.length_map] at lps
          have nk : (((hs.zip vs).map fun q => ((.inr q.1.1 : Key), q.2)).map (·.1)).Nodup := by
            rw [zip_keys (hs := hs) (by omega)]
            have e : (hs.map fun x => (Sum.inr x.1 : Key)) = (hs.map (·.1)).map Sum.inr := by rw [List.map_map]; rfl
            rw [e, List.nodup_iff_pairwise_ne, List.pairwise_map]
            exact (List.nodup_iff_pairwise_ne.mp W.nd).imp fun h z => h (Sum.inr.inj z)
          have hpw6 : SqT K (upd H5 nl (.lst [])) pw [.ref ph, vm] := sqT_kp k06 hpw
          have hz6 : TupZ (upd H5 nl (.lst [])) ph (ps.map V.ref) := TupZ.kp k06 hz
          have pr6 : Paired (fun p (kv : Key × V) => SqT K (upd H5 nl (.lst [])) p [kV kv.1, kv.2]) ps ((hs.zip vs).map fun q => ((.inr q.1.1 : Key), q.2)) := Paired.mapP pr fun _ _ h => sqT_kp k06 h
          have hnl : nLs (hs.map fun h => grD h.2.2) = true := noLs_all fun z hz => by
            obtain ⟨q, _, rfl⟩ := List.mem_map.mp hz
            exact grD_nl _
          refine ⟨_, rfl, _, rfl, pw, _, 0, _, rfl, rfl, hpw6, atI_nat (j := 0) rfl, ph, ps, _, rfl, hz6, pr6, by omega, fun hd nhd => ?_⟩
          rw [mergeK_val nk]
          have hv := help_val W.nd (dpAll_kp k06 _ _ hnl dvs)
          obtain ⟨gv', gv1, gv2⟩ := hv x hx
          have s7 := same_new (o := .dK ((hs.zip vs).map fun q => ((.inr q.1.1 : Key), q.2))) nhd
          have hdg : DGet (upd (upd H5 nl (.lst [])) hd (.dK ((hs.zip vs).map fun q => ((.inr q.1.1 : Key), q.2)))) hd (.str gn) (some gv') := by
            have := DGet.k (k := .inr gn) (upd_same (H := upd H5 nl (.lst [])) (a := hd) (o := .dK ((hs.zip vs).map fun q => ((.inr q.1.1 : Key), q.2))))
            rw [← ex, gv1] at this
            rw [← ex]
            exact this
          have las := dpAll_len dxa
          rw [List.length_map] at las
          have l4 : as.length ≤ 4 := m4
          have vn := vls_nums enA er.2.1
          generalize upd (upd H5 nl (.lst [])) hd (.dK ((hs.zip vs).map fun q => ((.inr q.1.1 : Key), q.2))) = H7 at s7 hdg ⊢
          have s57 := s6.trans s7
          have en7 := en5.sm s57
          have hpe7 := sqT_sm s7 hpe6
          have hpa7 := sqT_sm s57 hpa
          refine ⟨_, rfl, pe, _, 1, _, rfl, rfl, hpe7, atI_nat (j := 1) rfl, hd, gv', rfl, hdg, _, rfl, pe, _, 2, _, rfl, rfl, hpe7, atI_nat (j := 2) rfl, pa, rfl, ⟨_, hpa7⟩, fun D nD => ?_⟩
          have gxa : ∀ {i : Nat} {y : V}, xa[i]? = some y → ∃ a, as[i]? = some a ∧ y = .int a := fun {i y} hy => by
            obtain ⟨d, hd, dy⟩ := dpAll_getV dxa hy
            rw [List.getElem?_map] at hd
            cases hq : as[i]? with
            | none => rw [hq] at hd; cases hd
            | some a =>
              rw [hq] at hd
              cases hd
              exact ⟨a, rfl, dp_int dy⟩
          refine lc_tup (K := K) (a := pa) (xs := xa) (fun i H' => Same H7 H' ∧ H' D = some (.lst (((as.take i).map f4.ρ.num).map V.int))) ?_ ?_ ?_ ?_
          · exact ⟨same_new nD, upd_same⟩
          · rintro i H' _ ⟨s', _⟩
            exact sqT_sm s' hpa7
          · rintro i y H' hy ⟨s', eD⟩
            obtain ⟨a, ha, rfl⟩ := gxa hy
            have hi := (List.getElem?_eq_some_iff.mp ha).1
            obtain ⟨i0, ea, _⟩ := enA.num (er.2.1 a (List.mem_of_getElem? ha))
            obtain ⟨v, dg', dv⟩ := (en7.sm s').get ea
            rw [dp_int dv] at dg'
            refine ⟨rfl, _, rfl, _, rfl, d, _, rfl, dg', _, eD, by rw [List.length_map, List.length_map, List.length_take, sizeLine_eq]; omega, same_upd s' nD, ?_⟩
            rw [upd_same, List.take_succ, ha, List.map_append, List.map_append]
            show some (HO.lst (_ ++ [V.int i0])) = some (HO.lst (_ ++ [V.int (f4.ρ.num a)]))
            rw [Env.num_of ea]
          · rintro H8 ⟨s8, eD⟩
            rw [las, List.take_length] at eD
            have s58 := s57.trans s8
            have nDt : D ≠ tl := fun z => by
              have := s57 _ _ runL.t
              rw [← z, nD] at this
              cases this
            have e1 : micEnd hs f4 r told4 b.en = ⟨enterF x.2.2 ((as.map f4.ρ.num).map Vl.n) :: f4 :: r, told4, none⟩ := by
              rw [hen]
              show (⟨enterF (hgOf hs gn) (vls f4.ρ as) :: f4 :: r, told4, none⟩ : MS) = _
              rw [ex3, vn.1]
            rw [e1] at em6
            have k08 : Kp (lrS rd tl d) H H8 := ((Kp.of_same s02).trans kp25).trans (Kp.of_same s58)
            have run8 := runL.sm s58
            refine ⟨_, rfl, ?_⟩
            refine ⟨pw, ph, D, rd, tl, gv', vm, ps.map V.ref, L - (kk + k4 + 1), told4, hs, x.2.2, as.length, as.map f4.ρ.num, f4 :: r, rfl, sqT_kp k08 hpw, TupZ.kp k08 hz, dpAll_kp k08 _ _ (hsD_nl hs) dys, l1000, W, ?_, gx.run, eD, nDt, by rw [List.length_map], vn.2, by omega, run8, by omega, fun H9 i' k9 told9 v9 kp9 run9 k9L j9 i32' em9 dv9 => ?_, fun H9 v9 e9 k9 told9 kp9 run9 out dv9 => ?_⟩
            · exact dp_sm (s7.trans s8) gv2
            · obtain ⟨pt, xs, rfl, hpt, dx⟩ := dp_tup dv9
              obtain ⟨w1, q1, rfl, g1, u1⟩ := dpAll_cons dx
              obtain ⟨w2, q2, rfl, g2, u2⟩ := dpAll_cons u1
              rw [dp_str g1, dp_int g2, dpAll_nil u2] at hpt
              dsimp only [gName, List.set]
              refine ⟨_, rfl, pt, _, 0, _, rfl, rfl, hpt, atI_nat (j := 0) rfl, rfl, _, rfl, ifNF rfl ?_⟩
              refine ⟨_, rfl, pt, _, 1, _, rfl, rfl, hpt, atI_nat (j := 1) rfl, one_le, fun fa nfa => ?_⟩
              have s10 := same_new (o := .lst [V.int i']) nfa
              dsimp only [gName, List.set]
              have kp9' : Kp (lrS rd tl d) H8 H9 := kp9.mono fun b z => z.elim .inl fun e => .inr (.inl e)
              have em10 : mics hs (kk + k4 + (1 + k9)) ⟨enterF g (is.map Vl.n) :: r, told, none⟩ = ⟨f4.lead w [.n i'] :: r, told9, none⟩ := by
                rw [show kk + k4 + (1 + k9) = (kk + k4 + 1) + k9 by omega, mics_add, em6, em9]
                show (⟨f4.lead f4.blk.en.cway [.n i'] :: r, told9, none⟩ : MS) = _
                rw [fi4.blk, hen]
                rfl
              have lt9 : told9.length ≤ told4.length + k9 := by
                have h1 := mics_len (hs := hs) (c := ⟨enterF x.2.2 ((as.map f4.ρ.num).map Vl.n) :: f4 :: r, told4, none⟩) k9
                rw [em9] at h1
                exact h1
              refine ⟨_, rfl, _, rfl, _, rfl, _, rfl, ?_⟩
              have dwv : Dp K (upd H9 fa (.lst [V.int i'])) v4 w.d := dp_sm s10 (dp_kp kp9' _ _ (Way.nl w) (dp_sm s58 d4))
              have en9 : EnvAt K H9 d f4.ρ := (en5.sm s58).kpn kp9 fun z => z.elim ndr ndt
              exact goOn w v4 fa [V.int i'] [.n i'] [0] _ (1 + k9) told9 _ _ _ _ _ _ er.2.2 (.cons ⟨rfl, i32'⟩ .nil) (Nat.le_refl _) dwv upd_same (.cons (.int _) .nil) (((kp25.trans (Kp.of_same s58)).trans kp9').trans (Kp.of_same s10)) (en9.sm s10) (by rw [show L - (kk + k4 + (1 + k9)) = L - (kk + k4 + 1) - k9 by omega]; exact run9.sm s10) (by omega) (by omega) em10 (by omega)
            · obtain ⟨pt, xs, rfl, hpt, w1, q1, rfl, ne⟩ : ∃ pt xs, v9 = .ref pt ∧ SqT K H9 pt xs ∧ ∃ (s1 : Str) (q : List V), xs = .str s1 :: q ∧ s1 ≠ "gave" := by
                rcases out.s with rfl | ⟨fw, rfl, _⟩
                · obtain ⟨pt, xs, rfl, hpt, dx⟩ := dp_tup dv9
                  obtain ⟨w1, q1, rfl, g1, u1⟩ := dpAll_cons dx
                  rw [dp_str g1] at hpt
                  exact ⟨pt, _, rfl, hpt, _, _, rfl, by decide +kernel⟩
                · obtain ⟨pt, xs, rfl, hpt, dx⟩ := dp_tup dv9
                  obtain ⟨w1, q1, rfl, g1, u1⟩ := dpAll_cons dx
                  rw [dp_str g1] at hpt
                  exact ⟨pt, _, rfl, hpt, _, _, rfl, by decide +kernel⟩
              dsimp only [gName, List.set]
              refine ⟨_, rfl, pt, _, 0, _, rfl, rfl, hpt, atI_nat (j := 0) rfl, rfl, _, rfl, ifNT (fun z => ne (V.str.inj z)) ⟨_, rfl, ?_⟩⟩
              have kp9' : Kp (lrS rd tl d) H8 H9 := kp9.mono fun b z => z.elim .inl fun e => .inr (.inl e)
              have ol := out.l
              have ff := out.f.comp em6
              rw [show kk + k4 + 1 + (L - (kk + k4 + 1)) = L by omega] at ff
              exact qb H9 _ e9 (kk + k4 + 1 + k9) told9 ((k08.trans kp9').lg nd0) (by rw [show L - (kk + k4 + 1 + k9) = L - (kk + k4 + 1) - k9 by omega]; exact run9) ⟨by omega, ff, by rw [mics_add, em6]; exact out.t, out.s⟩ dv9
  have e : 5 + n + 1 = 6 + n := by omega
  rw [e] at key
  exact key
end

section
variable {P : Program} {w : World} {K : PySem.W.Frag} {mg : Str → Option Value} {base : Heap}
theorem ok__law_go (T : Top K mg) : ∀ n : Nat, FnOk P w K mg base CX0 (6 + n) (He.ga K "_law_go") T.fd__law_go ["_law_works_here", "_law_graph_here", "_law_inputs_here", "_law_run"] (sp_lgo K n)
  | 0 => ok_go_step T 0 ⟨fun _ _ _ _ h => False.elim h, fun _ _ _ _ _ _ _ _ _ _ _ _ _ h => False.elim h⟩
  | n + 1 => ok_go_step T (n + 1) ((ok__law_go T n).mono (by omega))
theorem dInt {H : Hp} {i j : Int} (h : i = j) : Dp K H (.int i) (.int j) := h ▸ .int i
/-- an end with small words -/
def EsW (e : EndS) : Prop := e = .on ∨ (∃ w : Str, e = .fault w ∧ w.length ≤ 8 ∧ PyData.strOk w = true) ∨ ∃ i, e = .gave i ∧ In32 i
structure GWk (K : PySem.W.Frag) (H : Hp) (pw : Addr) (hs : List (Str × Nat × List Blk)) (main : List Blk) (k : Nat) : Prop where
  wa : WkAt K H pw hs main k
  wd : WD hs
  l4 : hs.length ≤ 4
theorem GWk.sm {H H' : Hp} {pw : Addr} {hs : List (Str × Nat × List Blk)} {main : List Blk} {k : Nat} (h : GWk K H pw hs main k) (s : Same H H') : GWk K H' pw hs main k := ⟨h.wa.sm s, h.wd, h.l4⟩
def sp_lgone (K : PySem.W.Frag) : Sp := fun vs H Q _ => ∃ (pw pi : Addr) (M : Nat) (hs : List (Str × Nat × List Blk)) (main : List Blk) (m : Nat) (is : List Int), vs = [.ref pw, .ref pi, .int (M : Nat)] ∧ GWk K H pw hs main m ∧ H pi = some (.lst (is.map V.int)) ∧ is.length = m ∧ (∀ i ∈ is, In32 i) ∧ m ≤ 100 ∧ M ≤ 1000 ∧
  ∀ H' t told e k, Same H H' → FinG hs (c0Of main is) M k e → (mics hs k (c0Of main is)).told = told → k ≤ M → EsW e → Dp K H' (.ref t) (goneD told e k) → Q (.ref t) H'
theorem ok__law_gone (T : Top K mg) : FnOk P w K mg base CX0 11 (He.ga K "_law_gone") T.fd__law_gone ["_law_works_here", "_law_inputs_here", "_law_most"] (sp_lgone K) := by
  have G__law_go := ok__law_go (P := P) (w := w) (base := base) T 4
  refine T.F__law_gone.ok sc__law_gone (fun vs H Q E h => ?_) (fun cdv A0 outer s0 H vs Q E hr h => ?_)
  · obtain ⟨pw, pi, M, hs, main, m, is, rfl, _⟩ := h
    rfl
  · obtain ⟨pw, pi, M, hs, main, m, is, rfl, gw, hpi, li, i32, m100, m1000, q⟩ := h
    refine ⟨_, PSs.nox (pss_cons (ps_set (i := 3) sc__law_gone.nd rfl (Or.inl rfl) (pe_disp (pps_cons pe_str (pv 2) (pps_cons pe_str (pe_lst pa_nil) pps_nil)) (by rfl) (by rfl) (fun z => by cases z) (by decide)))
        (pss_cons (ps_set (i := 4) sc__law_gone.nd rfl (Or.inl rfl) (pe_call G__law_go (hr.mono (by omega)) (by rfl) T.g__law_go T.F__law_go.kp T.b__law_go .nil pass0 (pa_cons (pv 0) (pa_cons (pe_ix ix_tup (pv 0) pe_int (fun _ _ => rfl)) (pa_cons (pv 1) (pa_cons (pv 3) pa_nil))))))
        (pss_one (ps_ret (pe_tup (pa_cons (pe_callTy call_tuple_of (by rfl) T.m_tuple (by decide +kernel) (pa_cons (pe_dget (hu_of hr) (pv 3) pe_str (fun _ _ => rfl)) pa_nil)) (pa_cons (pv 4) (pa_cons (pe_op op_sub (pv 2) (pe_dget (hu_of hr) (pv 3) pe_str (fun _ _ => rfl))) pa_nil)))))))), ?_⟩
    intro rd nrd
    refine ⟨_, rfl, Nat.zero_le _, fun tl ntl => ?_⟩
    have s1 := same_new (o := .dK []) nrd
    have s2 := same_new (o := .lst []) ntl
    have ner : rd ≠ tl := fun z => by rw [← z, upd_same] at ntl; cases ntl
    have ntl0 : H tl = none := s1.free ntl
    have er : upd (upd H rd (.dK [])) tl (.lst []) rd = some (.dK []) := (upd_ne ner).trans upd_same
    refine ⟨er, [(.inr "left", _), (.inr "told", _)], rfl, (by show 2 ≤ 15; decide), ?_⟩
    have k3 : Kp (fun b => b = rd) (upd (upd H rd (.dK [])) tl (.lst [])) (upd (upd (upd H rd (.dK [])) tl (.lst [])) rd (.dK (mergeK [] [((.inr "left" : Key), V.int (M : Nat)), (.inr "told", .ref tl)]))) := Kp.upd er trivial rfl
    have s3 : Same H (upd (upd (upd H rd (.dK [])) tl (.lst [])) rd (.dK (mergeK [] [((.inr "left" : Key), V.int (M : Nat)), (.inr "told", .ref tl)]))) := Kp.same (s1.trans s2) k3 fun b e => by rw [e]; exact nrd
    have mk : mergeK [] [((.inr "left" : Key), V.int (M : Nat)), (.inr "told", .ref tl)] = [(.inr "left", .int (M : Nat)), (.inr "told", .ref tl)] := mergeK_val (by simp [k_lt]; decide +kernel)
    have run : RunAt (upd (upd (upd H rd (.dK [])) tl (.lst [])) rd (.dK (mergeK [] [((.inr "left" : Key), V.int (M : Nat)), (.inr "told", .ref tl)]))) rd tl M [] := ⟨by rw [upd_same, mk], by rw [upd_ne ner.symm, upd_same]; rfl⟩
    generalize upd (upd (upd H rd (.dK [])) tl (.lst [])) rd (.dK (mergeK [] [((.inr "left" : Key), V.int (M : Nat)), (.inr "told", .ref tl)])) = H3 at s3 run ⊢
    dsimp only [gName, List.set]
    obtain ⟨⟨ph, vm, ys, hpw, hz, dys, dvm⟩, l1000, W, gr⟩ := (gw.sm s3).wa
    have hpi3 := s3 _ _ hpi
    have npt : pi ≠ tl := fun z => by rw [z, ntl0] at hpi; cases hpi
    have tk4 : hs.take 4 = hs := List.take_of_length_le gw.l4
    have sameK : ∀ {H'}, Kp (lgS rd tl) H3 H' → Same H H' := fun k => Kp.same s3 k fun b e => by
      rcases e with rfl | rfl
      · exact nrd
      · exact ntl0
    refine ⟨_, rfl, _, rfl, pw, _, 1, _, rfl, rfl, hpw, atI_nat (j := 1) rfl, _, rfl, _, rfl, ?_⟩
    refine ⟨pw, ph, pi, rd, tl, vm, vm, ys, M, [], hs, main, m, is, [], rfl, hpw, hz, dys, l1000, gw.wd, dvm, by rw [tk4]; exact gr, hpi3, npt, li, i32, m100, run, by show M + 0 ≤ _; omega, fun H4 i k told v kp run4 kM j4 i32' em dv => ?_, fun H4 v e k told kp run4 out dv => ?_⟩
    · dsimp only [gName, List.set]
      refine ⟨_, rfl, _, _, rfl, run4.tolds, tl, _, rfl, .inl ⟨.of run4.t, fun t1 nt1 => ?_⟩⟩
      have s5 := same_new (o := .tup (told.map V.int)) nt1
      refine ⟨_, rfl, _, rfl, _, rfl, _, _, rfl, (run4.sm s5).left, _, _, rfl, rfl, three_le, fun t nt => ?_⟩
      have s6 := same_new (o := .tup [.ref t1, v, .int ((M : Int) - ((M - k : Nat) : Int))]) nt
      obtain ⟨j, rfl, ej⟩ := j4
      exact q _ t told (.gave i) (j + 1) ((sameK kp).trans (s5.trans s6)) (.inl ⟨by rw [show mics hs (j + 1) (c0Of main is) = _ from em]; rfl, j, rfl, ej⟩) (by rw [show mics hs (j + 1) (c0Of main is) = _ from em]) kM (.inr (.inr ⟨i, rfl, i32'⟩)) (.tup (.inl (.of upd_same)) (.cons (dp_sm s6 (.tup (.inl (.of upd_same)) (ints_pd told))) (.cons (dp_sm (s5.trans s6) dv) (.cons (dInt (by omega)) .nil))))
    · dsimp only [gName, List.set]
      refine ⟨_, rfl, _, _, rfl, run4.tolds, tl, _, rfl, .inl ⟨.of run4.t, fun t1 nt1 => ?_⟩⟩
      have s5 := same_new (o := .tup (told.map V.int)) nt1
      refine ⟨_, rfl, _, rfl, _, rfl, _, _, rfl, (run4.sm s5).left, _, _, rfl, rfl, three_le, fun t nt => ?_⟩
      have s6 := same_new (o := .tup [.ref t1, v, .int ((M : Int) - ((M - k : Nat) : Int))]) nt
      have ol := out.l
      exact q _ t told e k ((sameK kp).trans (s5.trans s6)) out.f out.t ol (out.s.elim .inl fun h => .inr (.inl h)) (.tup (.inl (.of upd_same)) (.cons (dp_sm s6 (.tup (.inl (.of upd_same)) (ints_pd told))) (.cons (dp_sm (s5.trans s6) dv) (.cons (dInt (by omega)) .nil))))
end

/-! defs that ask for a repr: nothing is being shown around them -/
structure FnG (P : Program) (w : World) (K : PySem.W.Frag) (mg : Str → Option Value) (base : Heap) (CX : CXT) (k : Nat) (f : Addr) (fd : FuncData) (ps : List Str) (sp : Sp) : Prop where
  len : ∀ vs H Q E, sp vs H Q E → vs.length = ps.length
  run : ∀ (A : Around) (outer : List PySem.Env) (s : Shared) (H : Hp) (args : Args) (us : List Value) (vs : List V) (Q : VK) (E : XK), A.guards = some [] → Room k A →
    Env0 P w K mg base A outer s H → BindsTo s fd args (ps.zip us) → Vals vs us → sp vs H Q E → codeAny (model P w) A (.call (.ref f) args) (CR CX outer P w H s Q E) s
theorem FnG.of {P : Program} {w : World} {K : PySem.W.Frag} {mg : Str → Option Value} {base : Heap} {CX : CXT} {k : Nat} {f : Addr} {fd : FuncData} {ps : List Str} {sp : Sp} (G : FnOk P w K mg base CX k f fd ps sp) : FnG P w K mg base CX k f fd ps sp :=
  ⟨G.len, fun A outer s H args us vs Q E _ => G.run A outer s H args us vs Q E⟩
section
variable {P : Program} {w : World} {K : PySem.W.Frag} {mg : Str → Option Value} {base : Heap} {x qual : Str} {params : Arguments} {body : List Stmt} {scope : Scope} {dvs : List V} {kws : List (Str × V)} {f : Addr} {fd : FuncData}
theorem FnG.mk' {CX : CXT} {N ps : List Str} {k : Nat} {sp : Sp} (F : FunD K x qual params body scope dvs kws f fd) (S : FnScope N ps scope) (len : ∀ vs H Q E, sp vs H Q E → vs.length = ps.length)
    (hbody : ∀ (cdv : Value) (A : Around) (outer : List PySem.Env) (s : Shared) (H : Hp) (vs : List V) (Q : VK) (E : XK), A.guards = some [] → Room k (A.deeper (envOfC qual scope s.heap.objs.size f cdv)) →
      sp vs H Q E → ∃ t, PSs (cxOf CX P w K mg base N qual scope f cdv A outer s H E) body t ∧ t { nx := fun _ H' => Q .non H', rt := Q } (start N vs) H) : FnG P w K mg base CX (k + 1) f fd ps sp := by
  obtain ⟨oc, od, dV, kV, doc, pm, an, cdv, ct, osl, rfl, at_, code, -, -⟩ := F.ex
  refine ⟨len, fun A outer s H args us vs Q E gd room e0 bind rel want => ?_⟩
  have kin : K.In s.heap := e0.mod.kin.keeps fun b o e => (e0.bs b o e).1
  have nol : s.heap.NoLimit := e0.mod.nolimit.keeps fun b o e => (e0.bs b o e).1
  refine codeAny_call_function room.depth (kin _ _ at_) rfl S.co S.gen rfl (PySem.W.codeRec_of kin code) (bind _ _ _ _ ?_)
  refine wpAny_newFunctionEnv_cells S.kind ?pars fun env he s1 y => ?go
  case pars =>
    rintro ⟨n, v⟩ hn
    exact (S.par n (List.of_mem_zip hn).1).imp id fun c => ⟨c, PySem.W.cellsFrom_some _ _ _ (.inl c)⟩
  case go =>
    subst he
    obtain ⟨t, ht, go⟩ := hbody cdv A outer s H vs Q E gd (room.deeper _) want
    have I := L2.inv_start (CX := CX) (E := E) (cd := cdv) (qual := qual) (f := f) S room.hd e0 (len _ _ _ _ want) rel y
    refine ⟨nol.keeps y.toInCall.keep, codeAny_func (wpAny_mono (ht.run [] s1 (start N vs) H _ I go) (fun fl s' z => ?_) fun e s' z => z)⟩
    cases fl with
    | ret u => obtain ⟨v, σ', H', J, rv, qv⟩ := z; exact ⟨v, H', J.os, J.bare, J.base, J.hok, rv, qv⟩
    | next => obtain ⟨σ', H', J, qv⟩ := z; exact ⟨.non, H', J.os, J.bare, J.base, J.hok, rfl, qv⟩
    | brk => exact z.elim fun _ h => h.elim fun _ h => h.2.elim
    | cont => exact z.elim fun _ h => h.elim fun _ h => h.2.elim
end
section
variable {X : Cx} {CX : CXT} {k : Nat} {f : Addr} {fd : FuncData} {ps : List Str} {sp : Sp} {dvs : List V} {ds : List Value} {E : XK} {x : Str} {p pos : Pos} {e : Expr} {es : List Expr} {t : TA}
theorem run_fnG {pins : List (Addr × Obj)} {σ : L2.St} {H : Hp} {s : Shared} {us : List Value} {vs : List V} {Q : VK} (F : FnG X.prog X.w X.K X.mg X.base CX k f fd ps sp) (gd : X.A.guards = some []) (hr : Room k X.A) (hb : Binds X.K fd ps ds) (hd : Vals dvs ds)
    (hx : Passes CX X E) (I : L2.Inv X pins σ H s) (r : Vals vs us) (q : sp (vs ++ dvs) H Q E) : wpAny (model X.prog X.w) X.A (call (.ref f) us) (EP X pins σ Q) X.xe s := by
  have both := r.append hd
  have ln : (us ++ ds).length = ps.length := both.length.symm.trans (F.len _ _ _ _ q)
  apply wpAny_call
  refine codeAny_mono (F.run X.A X.stack s H ⟨us, []⟩ _ _ Q E gd hr I.env0 (hb s us I.kIn ln) both q) ?_
  rintro (e | fl) s' z
  · exact hx pins σ H s e s' I z
  · cases fl with
    | ret u => exact I.after z
    | _ => exact z.elim
theorem pe_callG (F : FnG X.prog X.w X.K X.mg X.base CX k f fd ps sp) (gd : X.A.guards = some []) (hr : Room k X.A) (hg : Gl X x) (hm : X.mg x = some (.ref f)) (hk : PySem.W.keepIn X.K (.ref f) = true) (hb : Binds X.K fd ps ds) (hd : Vals dvs ds) (hx : Passes CX X E)
    (ha : PA X (e :: es) t) (hdb : (x == ("__debug__" : Str)) = false := by decide) (he : starEach (e :: es) X.env = (false, eval e X.env) :: starEach es X.env := by rfl) (hpl : (backTo pos (starEach es X.env)).any (·.1) = false := by rfl) :
    PE X (.Call (.Name x p) (e :: es) [] pos) (tCall sp dvs E t) := ⟨fun pins s σ H Q I h => wpAny_Call_Name_kw (ld_glob I hg hm
      (PySem.W.callWith_K (h₀ := X.base) I.ok.mod.kin hk (thn (ha.run pos pins s σ H _ I h) fun us s1 ⟨vs, H1, I1, r, q⟩ => ⟨I1.kIn, run_fnG F gd hr hb hd hx I1 r q⟩) he hpl) hdb)⟩
/-- repr of data -/
def rRepr (K : PySem.W.Frag) : List V → Hp → VK → Prop := fun xs H Q => ∃ (v : V) (ds : List PyData), xs = [v] ∧ Dp K H v (.tuple ds) ∧ (PyData.tuple ds).showable = true ∧ (PyData.tuple ds).canLay0 = true ∧ (PyData.tuple ds).depth ≤ 60 ∧
  (PyData.tuple ds).shown.length ≤ sizeLine ∧ Q (.str (PyData.tuple ds).shown) H
theorem call_reprD (gd : X.A.guards = some []) (hr : Room k X.A) : CallR X (.builtin "repr") (rRepr X.K) := by
  intro pins s σ H xs us Q I r h
  obtain ⟨v, ds, rfl, dp, sh, cl, de, sz, q⟩ := h
  obtain ⟨u, rfl, ru⟩ := vals1 r
  obtain ⟨as, rd⟩ := Dp.reads I _ v u dp ru
  obtain ⟨a, xs, rfl, -, -⟩ := dp_tup dp
  cases ru
  have un := hr.un
  refine repr_of_reads' rd sh (PyData.noDict_hsm (PyData.hasDict_of_canLay _ cl)) gd (by omega) (fun _ _ e => e) (fun h' z tk keep => ?_) sz
  exact ⟨.str _, H, I.kept keep, ⟨_, rfl⟩, q⟩
end
/-- a law's end for a law that asks for a repr -/
theorem walk_bitsG {l : PySem.W.OpenLaw} {n k : Nat} {q : Program} {loose : List Str} {XP : (Str → Option Value) → Heap → Prop} {YP : World → Heap → Prop} {d : DefRec} {CX : CXT} {x : Str}
    (hn : l.most = some n) (hn2 : n ≤ sizeLine) (hdf : d.params.defaults = []) (hr : Room k callerA)
    (F : ∀ (w : World) (mg : Str → Option Value) (fa : Addr) (h : Heap), YP w h → h.Ns mainGlobals mg → mg d.name = some (.ref fa) →
      ∃ (K : PySem.W.Frag) (fd : FuncData) (sp : Sp), K.In h ∧ (∀ (s : Shared) (u : Value), BindsTo s fd ⟨[u], []⟩ [(x, u)]) ∧
        (∀ (H : Hp) (a : Addr) (ns : List Int), ns.length ≤ n → (∀ z ∈ ns, Builtin.Int.intBits z ≤ 1048576) → Only H → SqL K H a (ns.map V.int) →
          sp [.ref a] H (fun v _ => v = .bl true) fun _ _ _ => False) ∧
        ∀ base : Heap, K.In base → base.Ns mainGlobals mg → FnG l.prog w K mg base CX k fa fd [x] sp)
    (hCX : ∀ (H : Hp) (s : Shared) (e : Value) (s' : Shared), CX [] H s (fun _ _ _ => False) e s' → False) :
    PySem.W.WalkO q loose XP YP l.row.toRowW d [] (fun f vs => PySem.call f vs) := by
  apply Att.attach_callB hn hdf
  intro w s0 s1 mg mb fa o pm cd doc a vs ns G Y ho hd hcd hmg hobj hints hlen hbits hg
  obtain ⟨K, fd, sp, KX, hb, hsp, hF⟩ := F w mg fa _ Y G.T.g hmg
  -- from an abstract heap that tracks the script at most
  have core : ∀ H : Hp, Only H → SqL K H a (ns.map V.int) → HOk l.prog w H s1.heap → (∀ b u, H b = some u → b = a) → ((∃ u, H a = some u) → K.lookup a = none) →
      codeAny (model l.prog w) callerA (.call (.ref fa) ⟨[.ref a], []⟩) (fun r s' => r = .ok (.ret (.bool true)) ∧ OldK s1.heap s'.heap ∧ s'.os = s1.os ∧ AllBare s'.gens) s1 := by
    intro H hO hS hok only own
    have dict : ∀ {b : Addr} {ob : Obj} {es : Array DictEntry} {ep : Nat}, s1.heap.get? b = some ob → ob.data = .dict es ep → H b = none := by
      intro b ob es ep e de
      cases z : H b with
      | none => rfl
      | some u =>
        obtain rfl := only b u z
        cases hobj.symm.trans e
        cases de
    have ns_ : ∀ {b : Addr} {m : Str → Option Value}, s1.heap.Ns b m → (hidT s1.heap H).Ns b m := by
      rintro b m ⟨ob, es, ep, e, de, z⟩
      exact ⟨ob, es, ep, hidT_get e (dict e de), de, z⟩
    have kin : K.In (hidT s1.heap H) := by
      intro b ob e
      refine hidT_get (KX b ob e) ?_
      cases z : H b with
      | none => rfl
      | some u =>
        obtain rfl := only b u z
        cases (own ⟨u, z⟩).symm.trans e
    obtain ⟨mc, c1, c2⟩ := G.T.nolimit
    have e0 : Env0 l.prog w K mg (hidT s1.heap H) callerA [] s1 H :=
      ⟨rfl, ⟨kin, ns_ G.T.g, ⟨mb, ns_ G.T.b, G.T.builtins⟩, mc, ns_ c1, c2⟩, fun b ob e => of_hidT e, Nat.le_of_eq (hidT_size _ _), trivial, (fun b z => nomatch z), hok, .of_eq hg⟩
    refine codeAny_mono ((hF _ kin (ns_ G.T.g)).run callerA [] s1 H ⟨[.ref a], []⟩ [.ref a] [.ref a] _ _ rfl hr e0 (hb s1 (.ref a)) (.cons rfl .nil) (hsp H a ns hlen hbits hO hS)) ?_
    rintro (e | fl) s' z
    · exact (hCX H s1 e s' z).elim
    · cases fl with
      | ret u =>
        obtain ⟨v, H', os, bare, un, ok', rv, rfl⟩ := z
        cases rv
        refine ⟨rfl, OldK.of_keep fun b ob e => ?_, os, bare⟩
        rcases hO b with y | ⟨oz, xs, y⟩
        · exact un.keep b ob e y (fun z => nomatch z) (fun z => nomatch z)
        · have t1 := (hok b _ y).1
          have t2 := (ok' b _ (un.frzs b oz _ y)).1
          cases e.symm.trans t1
          exact t2
      | _ => exact z.elim
  have rv := vals_ints hints
  have bound : (ns.map V.int).length ≤ sizeLine := by rw [List.length_map]; exact Nat.le_trans hlen hn2
  cases hk : K.lookup a with
  | some ob =>
    cases hobj.symm.trans (KX a ob hk)
    exact core (fun _ => none) (fun _ => .inl rfl) (.inr ⟨_, vs.toArray, _, hk, rfl, rfl, rfl, by rw [List.size_toArray, ← rv.length]; exact bound, by simpa using rv⟩) (fun b u z => nomatch z) (fun b u z => nomatch z) (fun ⟨u, z⟩ => nomatch z)
  | none =>
    refine core (fun b => if b = a then some (.frz { cls := .type "list", data := .seq vs.toArray } (.lst (ns.map V.int))) else none) (fun b => ?_) (.inl (.inr ⟨_, if_pos rfl⟩)) (fun b u z => ?_) (fun b u z => ?_) fun _ => hk
    · by_cases e : b = a
      · exact .inr ⟨_, _, if_pos e⟩
      · exact .inl (if_neg e)
    · by_cases e : b = a
      · subst e
        cases (if_pos rfl).symm.trans z
        exact ⟨hobj, bound, vs, _, rv, hobj⟩
      · cases (if_neg e).symm.trans z
    · by_cases e : b = a
      · exact e
      · cases (if_neg e).symm.trans z

/-! what is told are numbers of 32 bits -/
section
variable {hs : List (Str × Nat × List Blk)}
theorem mic_t32 {c : MS} (st : StOk (hlOf hs) c.frs) (h : ∀ x ∈ c.told, In32 x) : ∀ x ∈ (mic hs c).told, In32 x := by
  obtain ⟨frs, told, e0⟩ := c
  cases e0 with
  | some e => exact h
  | none =>
    cases frs with
    | nil => exact h
    | cons f r =>
      cases hr : f.blk.rs[f.pc]? with
      | some row =>
        rw [mic_row hr]
        unfold micRow
        obtain ⟨es, sz, b, sc, fi⟩ := st.ok f (List.mem_cons_self ..)
        rw [fi.blk] at hr
        rcases fi.rowT hr with ⟨a, i, rfl, hai, i32⟩ | ⟨sv, nt⟩
        · rw [play_tell, Env.num_of hai]
          show ∀ x ∈ (if (0 : Int) ≤ -1 then _ else _ : MS).told, In32 x
          rw [if_neg (by decide)]
          intro x hx
          rcases List.mem_append.mp hx with hx | hx
          · exact h x hx
          · rw [List.mem_singleton.mp hx]
            exact i32
        · cases hp : play row f.ρ with
          | error w => exact h
          | ok vl =>
            simp only [if_pos sv.1]
            exact h
      | none =>
        rw [mic_en (List.getElem?_eq_none_iff.mp hr)]
        cases he : f.blk.en <;> exact h
theorem mics_st {c : MS} (W : WR hs) (st : StOk (hlOf hs) c.frs) : ∀ k, StOk (hlOf hs) (mics hs k c).frs
  | 0 => st
  | k + 1 => StOk.mic W (mics_st W st k)
theorem mics_t32 {c : MS} (W : WR hs) (st : StOk (hlOf hs) c.frs) (h : ∀ x ∈ c.told, In32 x) : ∀ k, ∀ x ∈ (mics hs k c).told, In32 x
  | 0 => h
  | k + 1 => mic_t32 (mics_st W st k) (mics_t32 W st h k)
theorem play_errW {r : GRow} {ρ : Env} {w : Str} (h : play r ρ = .error w) : w = "place" ∨ w = "division" := by
  unfold play at h
  repeat' (split at h)
  all_goals first
    | (cases h; done)
    | (cases h; exact .inl rfl)
    | (cases h; exact .inr rfl)
theorem mic_esw {c : MS} (st : StOk (hlOf hs) c.frs) (h : ∀ e, c.end_ = some e → EsW e) : ∀ e, (mic hs c).end_ = some e → EsW e := by
  obtain ⟨frs, told, e0⟩ := c
  cases e0 with
  | some e => exact h
  | none =>
    cases frs with
    | nil => exact h
    | cons f r =>
      obtain ⟨es, sz, b, sc, fi⟩ := st.ok f (List.mem_cons_self ..)
      intro e he
      cases hr : f.blk.rs[f.pc]? with
      | some row =>
        rw [mic_row hr] at he
        unfold micRow at he
        cases hp : play row f.ρ with
        | error w =>
          simp only [hp] at he
          cases he
          rcases play_errW hp with z | z
          · exact .inr (.inl ⟨_, rfl, by rw [z]; decide +kernel, by rw [z]; decide +kernel⟩)
          · exact .inr (.inl ⟨_, rfl, by rw [z]; decide +kernel, by rw [z]; decide +kernel⟩)
        | ok vl =>
          simp only [hp] at he
          split at he <;> cases he
      | none =>
        have hp := List.getElem?_eq_none_iff.mp hr
        rw [mic_en hp] at he
        rw [fi.blk] at hp he
        have en := fi.all hp
        have er := fi.er
        cases hen : b.en with
        | fail n =>
          rw [hen] at er he
          cases he
          obtain ⟨tl1, tl2⟩ := ten_len n er.1 er.2
          have l5 : (("fail " : Str)).length = 5 := by decide +kernel
          have lf : (failT n).length ≤ 8 := by
            have : (failT n).length = ("fail " : Str).length + (Str.ofString (toString n)).length := strLen_append _ _
            omega
          exact .inr (.inl ⟨_, rfl, lf, strOk_app (by decide +kernel) (strOk_of _)⟩)
        | give v =>
          rw [hen] at er he
          obtain ⟨i, hi, i32⟩ := en.num er
          cases r with
          | nil =>
            cases he
            exact .inr (.inr ⟨_, rfl, by rw [Env.num_of hi]; exact i32⟩)
          | cons f' r' => cases he
        | jump w => rw [hen] at he; cases he
        | choose v a b => rw [hen] at he; cases he
        | call g as w => rw [hen] at he; cases he
theorem mics_esw {c : MS} (W : WR hs) (st : StOk (hlOf hs) c.frs) (h : ∀ e, c.end_ = some e → EsW e) : ∀ k, ∀ e, (mics hs k c).end_ = some e → EsW e
  | 0 => h
  | k + 1 => mic_esw (mics_st W st k) (mics_esw W st h k)
theorem fin_esw {c0 : MS} {M m : Nat} {e : EndS} (W : WR hs) (st : StOk (hlOf hs) c0.frs) (h0 : c0.end_ = none) (f : FinG hs c0 M m e) : EsW e := by
  rcases f with ⟨h, _⟩ | ⟨h, _⟩
  · exact mics_esw W st (fun e he => by rw [h0] at he; cases he) m e h
  · exact .inl h
theorem fin_uniq {c0 : MS} {M m m' : Nat} {e e' : EndS} (f : FinG hs c0 M m e) (f' : FinG hs c0 M m' e') (l : m ≤ M) (l' : m' ≤ M) : m' = m ∧ e' = e := by
  rcases f with ⟨f1, j, rfl, f2⟩ | ⟨rfl, rfl, f2⟩
  · exact Ends.on (k := j) ⟨f1, f2⟩ l f'
  · exact fin_more f2 l' f'
end
theorem ints_okdL {l : List Int} (h : ∀ a ∈ l, In32 a) : OkdL 0 (41 * l.length) (l.map PyData.int) := all_okd (f := PyData.int) (w := 40) fun x hx => Okd.int (h x hx)
theorem EsW.okd {e : EndS} (h : EsW e) : Okd 1 100 e.d := by
  rcases h with rfl | ⟨w, rfl, l, k⟩ | ⟨i, rfl, h⟩
  · exact (Okd.tup (OkdL.cons (n := 0) (Okd.kw (z := "on") (by decide +kernel) (by decide +kernel)) (OkdL.nil (w := 0)))).mono (by decide) (by decide)
  · exact (Okd.tup (OkdL.cons (n := 0) (Okd.kw (z := "fault") (by decide +kernel) (by decide +kernel)) (OkdL.cons (Okd.kw k l) (OkdL.nil (w := 0))))).mono (by decide) (by decide)
  · exact (Okd.tup (OkdL.cons (n := 0) (Okd.kw (z := "gave") (by decide +kernel) (by decide +kernel)) (OkdL.cons (Okd.int h) (OkdL.nil (w := 0))))).mono (by decide) (by decide)
theorem goneD_okd {told : List Int} {e : EndS} {m : Nat} (h : ∀ x ∈ told, In32 x) (l : told.length ≤ 1000) (es : EsW e) (m1 : m ≤ 1000) : Okd 2 100000 (goneD told e m) := by
  have h1 : Okd 1 41000 (.tuple (told.map PyData.int)) := (Okd.tup (ints_okdL h)).mono (Nat.le_refl _) (by omega)
  have h3 : Okd 1 40 (.int (m : Nat)) := Okd.int (by unfold In32; omega)
  exact (Okd.tup (OkdL.cons h1 (OkdL.cons es.okd (OkdL.cons h3 (OkdL.nil (w := 0)))))).mono (Nat.le_refl _) (by decide)
section
variable {P : Program} {w : World} {K : PySem.W.Frag} {mg : Str → Option Value} {base : Heap}
theorem Okd.rep {H : Hp} {K : PySem.W.Frag} {n m : Nat} {v : V} {ds : List PyData} {Q : VK} (h : Okd n m (.tuple ds)) (hn : n ≤ 60) (hm : m ≤ 1000000) (d : Dp K H v (.tuple ds)) (q : Q (.str (PyData.tuple ds).shown) H) : rRepr K [v] H Q :=
  ⟨v, ds, rfl, d, h.1, h.2.1, Nat.le_trans h.2.2.2.1 hn, (h.mono (Nat.le_refl _) hm).shown_len (by omega), q⟩
def sp_law (K : PySem.W.Frag) : Sp := fun vs H Q _ => ∃ (a : Addr) (ns : List Int), vs = [.ref a] ∧ SqL K H a (ns.map V.int) ∧ ∀ H', Q (.bl true) H'
theorem law_start {K : PySem.W.Frag} {H : Hp} {a : Addr} {ns : List Int} (hl : ns.length ≤ 63) (hb : ∀ z ∈ ns, Builtin.Int.intBits z ≤ 1048576) (hS : SqL K H a (ns.map V.int)) : sp_law K [.ref a] H (fun v _ => v = .bl true) fun _ _ _ => False := ⟨a, ns, rfl, hS, fun _ => rfl⟩
theorem wkIn {H : Hp} {p ph : Addr} {ys : List V} {vm : V} {W : Wk} (wok : WkOk W) (hp : SqT K H p [.ref ph, vm]) (hz : TupZ H ph ys) (dys : DpAll K H ys (W.hs.map ghD)) (dvm : Dp K H vm (grD W.main)) : ∃ k ≤ 4, GWk K H p W.hs W.main k := by
  obtain ⟨wr, m, m4, gr⟩ := Wk.wr wok
  exact ⟨m, m4, ⟨⟨ph, vm, ys, hp, hz, dys, dvm⟩, by have := wok.ln; omega, wr, gr.run⟩, Wk.wd wok, wok.ln⟩
theorem ints_shapedL (a : List Int) : SeqAt.shaped (.list (a.map PyData.int)) = true := by
  have h : PyData.canLayAll0 (a.map PyData.int) = true ∧ PyData.depthAll (a.map PyData.int) = 0 := by
    induction a with
    | nil => exact ⟨by simp only [List.map_nil, PyData.canLayAll0], by simp only [List.map_nil, PyData.depthAll]⟩
    | cons x r ih => exact ⟨by simp only [List.map_cons, PyData.canLayAll0, PyData.canLay0, ih.1]; rfl, by simp only [List.map_cons, PyData.depthAll, PyData.depth, ih.2]; rfl⟩
  unfold SeqAt.shaped
  simp only [PyData.canLay0, PyData.depth, h.1, h.2]
  rfl
theorem int3 {a b : Addr} {i j : Int} (h : i = j) : [V.ref a, .ref b, .int i] = [V.ref a, .ref b, .int j] := by rw [h]
theorem gone_parts {H : Hp} {t : Addr} {told : List Int} {e : EndS} {m : Nat} (h : Dp K H (.ref t) (goneD told e m)) : ∃ vt ve, SqT K H t [vt, ve, .int (m : Nat)] ∧ Dp K H vt (.tuple (told.map PyData.int)) ∧ Dp K H ve e.d := by
  obtain ⟨a, xs, ea, hp, dx⟩ := dp_tup h
  cases ea
  obtain ⟨v1, r1, rfl, d1, t1⟩ := dpAll_cons dx
  obtain ⟨v2, r2, rfl, d2, t2⟩ := dpAll_cons t1
  obtain ⟨v3, r3, rfl, d3, t3⟩ := dpAll_cons t2
  rw [dpAll_nil t3, dp_int d3] at hp
  exact ⟨v1, v2, hp, d1, d2⟩
theorem ok_law (T : Top K mg) : FnG P w K mg base CX0 100 (He.ga K "law") T.fd_law ["_law_script"] (sp_law K) := by
  have G__law_cell_at := ok__law_cell_at (P := P) (w := w) (base := base) T
  have G__law_works := ok__law_works (P := P) (w := w) (base := base) T
  have G__law_inputs := ok__law_inputs (P := P) (w := w) (base := base) T
  have G__law_gone := ok__law_gone (P := P) (w := w) (base := base) T
  have G_gone := ok_gone (P := P) (w := w) (base := base) T
  refine FnG.mk' T.F_law sc_law (fun vs H Q E h => ?_) (fun cdv A outer s H vs Q E gd hr h => ?_)
  · obtain ⟨a, ns, rfl, _⟩ := h
    rfl
  · obtain ⟨a, ns, rfl, hS, q⟩ := h
    refine ⟨_, PSs.nox (pss_cons (ps_set (i := 1) sc_law.nd rfl (Or.inl rfl) (pe_call G__law_works (hr.mono (by omega)) (by rfl) T.g__law_works T.F__law_works.kp T.b__law_works .nil pass0 (pa_cons (pe_call G__law_cell_at (hr.mono (by omega)) (by rfl) T.g__law_cell_at T.F__law_cell_at.kp T.b__law_cell_at .nil pass0 (pa_cons (pv 0) (pa_cons pe_int pa_nil))) (pa_cons pe_int pa_nil))))
        (pss_cons (ps_set (i := 2) sc_law.nd rfl (Or.inl rfl) (pe_call G__law_inputs (hr.mono (by omega)) (by rfl) T.g__law_inputs T.F__law_inputs.kp T.b__law_inputs .nil pass0 (pa_cons (pv 1) (pa_cons (pe_call G__law_cell_at (hr.mono (by omega)) (by rfl) T.g__law_cell_at T.F__law_cell_at.kp T.b__law_cell_at .nil pass0 (pa_cons (pv 0) (pa_cons pe_int pa_nil))) (pa_cons pe_int pa_nil)))))
        (pss_cons (ps_set (i := 3) sc_law.nd rfl (Or.inl rfl) (pe_callTy call_list_of (by rfl) T.m_list (by decide +kernel) (pa_cons (pv 2) pa_nil)))
        (pss_cons (ps_set (i := 4) sc_law.nd rfl (Or.inl rfl) (pe_call G__law_gone (hr.mono (by omega)) (by rfl) T.g__law_gone T.F__law_gone.kp T.b__law_gone .nil pass0 (pa_cons (pv 1) (pa_cons (pv 2) (pa_cons pe_int pa_nil)))))
        (pss_cons (ps_if (PW.pt (pw_or (pt_cmpR op_ne (pe_callB (call_reprD gd hr) (by rfl) T.m_repr (by decide +kernel) (pa_cons (pe_call G_gone (hr.mono (by omega)) (by rfl) T.g_gone T.F_gone.kp T.b_gone.choose_spec.2 T.b_gone.choose_spec.1 pass0 (pa_cons (pv 1) (pa_cons (pv 3) (pa_cons pe_int pa_nil)))) pa_nil)) (pe_callB (call_reprD gd hr) (by rfl) T.m_repr (by decide +kernel) (pa_cons (pv 4) pa_nil)) (nomark _)) (pw_or1 (pt_cmpR (op_neD hr.units) (pv 3) (pv 2) (nomark _))))) (pss_one (ps_ret pe_bl)) pss_nil)
        (pss_cons (ps_set (i := 5) sc_law.nd rfl (Or.inl rfl) (pe_op op_mod (pe_call G__law_cell_at (hr.mono (by omega)) (by rfl) T.g__law_cell_at T.F__law_cell_at.kp T.b__law_cell_at .nil pass0 (pa_cons (pv 0) (pa_cons pe_int pa_nil))) (pe_op op_add (pe_ix ix_tup (pv 4) pe_int (fun _ _ => rfl)) pe_int)))
        (pss_one (ps_ret (pe_cmpR op_eq (pe_callB (call_reprD gd hr) (by rfl) T.m_repr (by decide +kernel) (pa_cons (pe_call G_gone (hr.mono (by omega)) (by rfl) T.g_gone T.F_gone.kp T.b_gone.choose_spec.2 T.b_gone.choose_spec.1 pass0 (pa_cons (pv 1) (pa_cons (pe_callTy call_tuple_of (by rfl) T.m_tuple (by decide +kernel) (pa_cons (pv 2) pa_nil)) (pa_cons (pv 5) pa_nil)))) pa_nil)) (pe_callB (call_reprD gd hr) (by rfl) T.m_repr (by decide +kernel) (pa_cons (pe_call G__law_gone (hr.mono (by omega)) (by rfl) T.g__law_gone T.F__law_gone.kp T.b__law_gone .nil pass0 (pa_cons (pv 1) (pa_cons (pv 2) (pa_cons (pv 5) pa_nil)))) pa_nil)) (nomark _)))))))))), ?_⟩
    refine ⟨_, rfl, a, ns, 0, rfl, by decide, hS, cellA ns 0, 0, rfl, fun H2 pw ph ys vm W s2 wok dW hpw hz dys dvm => ?_⟩
    obtain ⟨k, k4, wa⟩ := wkIn wok hpw hz dys dvm
    have hS2 := s2.seq hS
    dsimp only [gName, List.set]
    refine ⟨_, rfl, _, rfl, a, ns, 1, rfl, by decide, hS2, pw, cellA ns 1, 7, W.hs, W.main, k, rfl, wa.wa, by omega, fun H3 pi is s3 ei ni li i32 => ?_⟩
    have wa3 := wa.sm s3
    have hS3 := s3.seq hS2
    dsimp only [gName, List.set]
    refine ⟨_, rfl, pi, _, rfl, .inl (.of ei), fun L nL => ?_⟩
    have s4 := same_new (o := .lst (is.map V.int)) nL
    have eL := upd_same (H := H3) (a := L) (o := .lst (is.map V.int))
    generalize upd H3 L (.lst (is.map V.int)) = H4 at s4 eL ⊢
    have wa4 := wa3.sm s4
    have ei4 := s4 _ _ ei
    have hS4 := s4.seq hS3
    dsimp only [gName, List.set]
    -- the law's own going
    refine ⟨_, rfl, _, rfl, pw, pi, 400, W.hs, W.main, k, is, rfl, wa4, ei4, li, i32, by omega, by decide, fun H5 t5 told e m s5 fin et lm es dd => ?_⟩
    obtain ⟨vt, ve, ht, dvt, dve⟩ := gone_parts dd
    dsimp only [gName, List.set]
    obtain ⟨fo, _⟩ := enter_ok wa.wa.g li i32
    have st : StOk (hlOf W.hs) (c0Of W.main is).frs := ⟨fun f hf => by rw [List.mem_singleton.mp hf]; exact fo, fun f hf => nomatch hf⟩
    have t32 : ∀ k, ∀ x ∈ (mics W.hs k (c0Of W.main is)).told, In32 x := mics_t32 wa.wa.W st fun x hx => nomatch hx
    have okr : ∀ {told e m}, (mics W.hs m (c0Of W.main is)).told = told → m ≤ 500 → EsW e → Okd 2 100000 (goneD told e m) := fun {told e m} et lm es => by
      refine goneD_okd (fun x hx => t32 m x (by rw [et]; exact hx)) ?_ es (by omega)
      have := mics_len (hs := W.hs) (c := c0Of W.main is) m
      rw [et] at this
      have : told.length ≤ 0 + m := this
      omega
    have wa5 := wa4.sm s5
    have ei5 := s5 _ _ ei4
    have eL5 := s5 _ _ eL
    have hS5 := s5.seq hS4
    -- the program's
    refine ⟨_, rfl, _, rfl, pw, L, 400, W.hs, W.main, k, is, rfl, wa5.wa, .inl (.inl (.of eL5)), li, i32, by omega, by decide, fun H6 t6 told' e' m' s6 fin' et' lm' dd' => ?_⟩
    obtain ⟨rfl, rfl⟩ := fin_uniq fin fin' lm lm'
    obtain rfl : told' = told := by rw [← et', ← et]
    dsimp only [tNil]
    refine (okr et' (by omega) es).rep (by decide) (by decide) dd' ?_
    refine ⟨_, rfl, ?_⟩
    dsimp only [tNil]
    refine (okr et' (by omega) es).rep (by decide) (by decide) (dp_sm s6 dd) ?_
    refine ne_use rfl rfl ?_
    refine ⟨_, rfl, ifF rfl ?_⟩
    have ei6 := s6 _ _ ei5
    have eL6 := s6 _ _ eL5
    refine ⟨_, rfl, _, rfl, _, _, .lst (.inl (.of eL6)) (ints_pd is), .lst (.inl (.of ei6)) (ints_pd is), ints_shapedL is, ints_shapedL is, _, rfl, ?_⟩
    rw [SeqAt.eqv_refl _ (SeqAt.canLay_of_shaped (ints_shapedL is))]
    refine ifF rfl ?_
    have wa6 := wa5.sm s6
    refine ⟨_, rfl, a, ns, 2, rfl, by decide, s6.seq hS5, _, rfl, t5, _, 2, _, rfl, rfl, sqT_sm s6 ht, atI_nat (j := 2) rfl, _, _, rfl, rfl, _, _, rfl, rfl, (by show (0 : Int) < (m' : Int) + 2; omega), ?_⟩
    have b1 := Int.emod_nonneg (cellA ns 2) (b := (m' : Int) + 2) (by omega)
    have b2 := Int.emod_lt_of_pos (cellA ns 2) (b := (m' : Int) + 2) (by omega)
    obtain ⟨M, eM⟩ : ∃ M : Nat, cellA ns 2 % ((m' : Int) + 2) = M := ⟨(cellA ns 2 % ((m' : Int) + 2)).toNat, by omega⟩
    dsimp only [gName, List.set]
    rw [eM]
    have M4 : M ≤ 401 := by omega
    refine ⟨_, rfl, _, rfl, pi, _, rfl, .inl ⟨.of ei6, fun tp ntp => ?_⟩⟩
    have s7 := same_new (o := .tup (is.map V.int)) ntp
    refine ⟨_, rfl, pw, tp, M, W.hs, W.main, k, is, rfl, (wa6.sm s7).wa, .inr (.inl (.of upd_same)), li, i32, by omega, by omega, fun H8 t8 told8 e8 m8 s8 fin8 et8 lm8 dd8 => ?_⟩
    have s68 := s7.trans s8
    have es8 : EsW e8 := fin_esw wa.wa.W st rfl fin8
    have wa8 := wa6.sm s68
    have ei8 := s68 _ _ ei6
    dsimp only [tNil]
    refine (okr et8 (by omega) es8).rep (by decide) (by decide) dd8 ?_
    refine ⟨_, rfl, _, rfl, _, rfl, pw, pi, M, W.hs, W.main, k, is, rfl, wa8, ei8, li, i32, by omega, by omega, fun H9 t9 told9 e9 k9 s9 f9 et9 lm9 es9 dd9 => ?_⟩
    obtain ⟨rfl, rfl⟩ := fin_uniq fin8 f9 lm8 lm9
    obtain rfl : told9 = told8 := by rw [← et9, ← et8]
    dsimp only [tNil]
    refine (okr et9 (by omega) es9).rep (by decide) (by decide) dd9 ?_
    exact eq_use rfl rfl (q _)
end

end K26
namespace K26
open PySem PySem.Spec PyProof.Rows L2
theorem law_F (w : World) (mg : Str → Option Value) (fa : Addr) (h : Heap) (Y : hk.says w h) (G : h.Ns mainGlobals mg) (hmg : mg "law" = some (.ref fa)) :
    ∃ (K : PySem.W.Frag) (fd : FuncData) (sp : Sp), K.In h ∧ (∀ (s : Shared) (u : Value), BindsTo s fd ⟨[u], []⟩ [("_law_script", u)]) ∧
        (∀ (H : Hp) (a : Addr) (ns : List Int), ns.length ≤ 63 → (∀ z ∈ ns, Builtin.Int.intBits z ≤ 1048576) → Only H → SqL K H a (ns.map V.int) → sp [.ref a] H (fun v _ => v = .bl true) fun _ _ _ => False) ∧
        ∀ base : Heap, K.In base → base.Ns mainGlobals mg → FnG (PySem.Challenge.rw_passworks_k26_gone_by_hand).prog w K mg base L2.CX0 100 fa fd ["_law_script"] sp := by
  obtain ⟨K, KX, c⟩ := Y
  obtain ⟨T⟩ := top_of KX G c
  obtain rfl : He.ga K "law" = fa := by
    have e := T.g_law.symm.trans hmg
    injection e with e
    injection e
  exact ⟨K, T.fd_law, sp_law K, KX, law_binds T, fun H a ns hl hb _ hS => law_start hl hb hS, fun base _ _ => ok_law T⟩
end K26
open PySem PySem.W PySem.Calls PyProof.Rows
theorem K26.law_nm : (HandSHeadRun.topDef (OpenLaw.row PySem.Challenge.rw_passworks_k26_gone_by_hand).prog 62).name = ("law" : PySem.Str) := by kernel_rfl
theorem K26.law_walk : PySem.W.WalkO (view (OpenLaw.row PySem.Challenge.rw_passworks_k26_gone_by_hand).prog [62]) K26.lo (XL (view (OpenLaw.row PySem.Challenge.rw_passworks_k26_gone_by_hand).prog [62]) []) K26.hk.says (OpenLaw.row PySem.Challenge.rw_passworks_k26_gone_by_hand).toRowW (HandSHeadRun.topDef (OpenLaw.row PySem.Challenge.rw_passworks_k26_gone_by_hand).prog 62) [] (fun f vs => PySem.call f vs) :=
  K26.walk_bitsG (l := PySem.Challenge.rw_passworks_k26_gone_by_hand) (n := 63) (k := 100) (x := "_law_script") (CX := L2.CX0) rfl (by decide) (by kernel_rfl) ⟨rfl, by decide, by decide⟩ (fun w mg fa h Y G hmg0 => K26.law_F w mg fa h Y G (K26.law_nm ▸ hmg0)) (fun _ _ _ _ z => z)
theorem PySem.Challenge.cw_passworks_k26_gone_by_hand_holds : PySem.Challenge.rw_passworks_k26_gone_by_hand.Holds := by
  w_on; o_law
  refine HandSHeadRun.head_any (r := OpenLaw.row PySem.Challenge.rw_passworks_k26_gone_by_hand) (q := view (OpenLaw.row PySem.Challenge.rw_passworks_k26_gone_by_hand).prog [62]) (H := K26.hk) (ob := K26.ob) (M := 9000) (loose := K26.lo) (d := HandSHeadRun.topDef (OpenLaw.row PySem.Challenge.rw_passworks_k26_gone_by_hand).prog 62) (kwd := []) K26.ob_eq
    (by kernel_rfl) (fun s => by kernel_rfl) K26.run (by kernel_rfl) (by kernel_rfl) (by kernel_rfl) (by rfl) (by first | assumption | decide +kernel) (by decide +kernel) ⟨rfl, rfl, rfl, rfl, rfl, by decide +kernel⟩ ?hw K26.law_walk
  case hw => w_witness2

