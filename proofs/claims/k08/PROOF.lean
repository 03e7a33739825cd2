import PyProof.Rows.All
import Wide.All
import OpenK.AllK
import Wide.FinOn
import KE.KStateDown
import KE.KRevSl
import Lean
import HandS.ForMost
import HandS.Wide
import KE.GoesEnum
import HandS.Iter
import HandS.Walk
import HandS.WideBits
import HandS.IsInst
import HandS.Flow
import HandS.Style
import HandS.Exc
import HandS.ExcOwn
import HandS.TryMany
import HandS.TryOnly
import HandS.WordsExc
import HandS.ForExc
import HandS.FStr
import HandS.RaiseMore
import HandS.TupAny
import HandS.Defaults
import HandS.Zip
import HandS.CallSlots
import HandS.TupMul
import HandS.More
import HandS.ExcInit
import HandS.ExcField
import KE.GoesNew
import KE.GoesMore
import KE.KDictZip
import HandS.ExcIs
import HandS.ExcValue
import HandS.EndBits
import HandS.Head0
import HandS.Head1
import HandS.Head2
import HandS.HeadEnd
import HandS.HeadHook1
import HandS.HeadHook2
import HandS.StrMore
import HandS.WordsDict
import PySem.Challenge.RW_passworks_k08_lacking
set_option Elab.async false
set_option linter.all false
set_option maxRecDepth 100000
set_option maxHeartbeats 4000000
namespace K08
/-! what the head shows: defs, facts by names, one more Bool -/
open PySem PySem.Spec PyProof.Rows L2
def obsE (n : Nat) (fa : List He.Fa) (fn : List He.DefD) (ex : PySem.W.Frag → Bool) (g : Addr → Option Obj) : He.AlD × Bool :=
  (He.obsD fa fn (He.frG g (He.asD g n ++ [cStatics])), ex (He.frG g (He.asD g n ++ [cStatics])))
def SaysE (fa : List He.Fa) (fn : List He.DefD) (ex : PySem.W.Frag → Bool) (K : PySem.W.Frag) : Prop := He.SaysD fa fn K ∧ ex K = true
def hookE (n : Nat) (fa : List He.Fa) (fn : List He.DefD) (ex : PySem.W.Frag → Bool) : PySem.W.Hook where
  α := He.AlD × Bool
  obs := fun s => obsE n fa fn ex s.heap.get?
  val := fun _ => (He.valD fn, true)
  says := fun _ h => ∃ K : PySem.W.Frag, K.In h ∧ SaysE fa fn ex K
  of := fun _ _ z => ⟨_, He.frG_in, congrArg Prod.fst z, congrArg Prod.snd z⟩
  keeps := fun _ _ _ ⟨K, a, c⟩ k => ⟨K, a.keeps k, c⟩
theorem obsE_eq {n : Nat} {fa : List He.Fa} {fn : List He.DefD} {ex : PySem.W.Frag → Bool} {g : Addr → Option Obj} {s : Shared} (z : ∀ a, g a = s.heap.get? a) :
    obsE n fa fn ex g = (hookE n fa fn ex).obs s := by
  obtain rfl : g = s.heap.get? := funext z
  rfl
/-- a law's end, the bits of the script's numbers told -/
theorem walk_bits {l : PySem.W.OpenLaw} {n k : Nat} {q : Program} {loose : List Str} {XP : (Str → Option Value) → Heap → Prop} {YP : World → Heap → Prop} {d : DefRec} {CX : CXT} {x : Str}
    (hn : l.most = some n) (hn2 : n ≤ sizeLine) (hdf : d.params.defaults = []) (hr : Room k callerA)
    (F : ∀ (w : World) (mg : Str → Option Value) (fa : Addr) (h : Heap), YP w h → h.Ns mainGlobals mg → mg d.name = some (.ref fa) →
      ∃ (K : PySem.W.Frag) (fd : FuncData) (sp : Sp), K.In h ∧ (∀ (s : Shared) (u : Value), BindsTo s fd ⟨[u], []⟩ [(x, u)]) ∧
        (∀ (H : Hp) (a : Addr) (ns : List Int), ns.length ≤ n → (∀ z ∈ ns, Builtin.Int.intBits z ≤ 1048576) → Only H → SqL K H a (ns.map V.int) →
          sp [.ref a] H (fun v _ => v = .bl true) fun _ _ _ => False) ∧
        ∀ base : Heap, K.In base → base.Ns mainGlobals mg → FnOk l.prog w K mg base CX k fa fd [x] sp)
    (hCX : ∀ (H : Hp) (s : Shared) (e : Value) (s' : Shared), CX [] H s (fun _ _ _ => False) e s' → False) :
    PySem.W.WalkO q loose XP YP l.row.toRowW d [] (fun f vs => PySem.call f vs) := by
  apply Att.attach_callB hn hdf
  intro w s0 s1 mg mb fa o pm cd doc a vs ns G Y ho hd hcd hmg hobj hints hlen hbits hg
  obtain ⟨K, fd, sp, KX, hb, hsp, hF⟩ := F w mg fa _ Y G.T.g hmg
  exact law_call KX G.T.g G.T.b G.T.builtins G.T.nolimit hg hobj hints (Nat.le_trans hlen hn2) hr hF hb (fun H z1 z2 => hsp H a ns hlen hbits z1 z2)
    (fun H e s' => hCX H s1 e s')
/-! heaps -/
theorem same_new {H : Hp} {p : Addr} {o : HO} (z : H p = none) : Same H (upd H p o) := by
  intro b x e
  rw [upd_ne (ne_of_none e z)]
  exact e
theorem at_ints {ns : List Int} {i : Int} (h0 : 0 ≤ i) (h1 : i < ns.length) : atI (ns.map V.int) i = some (.int (ns.getD i.toNat 0)) := by
  obtain ⟨j, rfl⟩ := Int.eq_ofNat_of_zero_le h0
  have hj : j < ns.length := by omega
  refine atI_nat ?_
  rw [List.getElem?_map, List.getElem?_eq_getElem hj]
  simp [List.getD, hj]
/-- what stands behind a statement, once for all its ways -/
theorem seq_by {t u : TS} {D : Ends} {σ : L2.St} {H : Hp} (Pv : L2.St → Hp → Prop) (fin : ∀ σ' H', Pv σ' H' → u D σ' H')
    (first : ∀ N : L2.St → Hp → Prop, (∀ σ' H', Pv σ' H' → N σ' H') → t { D with nx := N } σ H) : tSeq t u D σ H := first _ fin
theorem ifs_by {c : TT} {t1 t2 u : TS} {D : Ends} {σ : L2.St} {H : Hp} (Pv : L2.St → Hp → Prop) (fin : ∀ σ' H', Pv σ' H' → u D σ' H')
    (first : ∀ N : L2.St → Hp → Prop, (∀ σ' H', Pv σ' H' → N σ' H') → tIfS c t1 t2 { D with nx := N } σ H) : tSeq (tIfS c t1 t2) u D σ H := first _ fin
theorem ifD {c A B : Prop} [Decidable c] (hc : c) (h : A) : if decide c = true then A else B := by
  rw [if_pos (decide_eq_true hc)]
  exact h
theorem ifN {c A B : Prop} [Decidable c] (hc : ¬ c) (h : B) : if decide c = true then A else B := by
  rw [if_neg (by rw [decide_eq_true_eq]; exact hc)]
  exact h
theorem blD {c : Prop} [Decidable c] {Q : VK} {H : Hp} (hc : c) (h : Q (.bl true) H) : Q (.bl (decide c)) H := by
  rw [decide_eq_true hc]
  exact h
theorem blN {c : Prop} [Decidable c] {Q : VK} {H : Hp} (hc : ¬ c) (h : Q (.bl false) H) : Q (.bl (decide c)) H := by
  rw [decide_eq_false hc]
  exact h
theorem getD_all {α : Type} {Pr : α → Prop} {ns : List α} {d : α} (h : ∀ x ∈ ns, Pr x) {j : Int} (h0 : 0 ≤ j) (h1 : j < ns.length) : Pr (ns.getD j.toNat d) := by
  have hi : j.toNat < ns.length := by omega
  have e : ns.getD j.toNat d = ns[j.toNat]'hi := by simp [List.getD, hi]
  rw [e]
  exact h _ (List.getElem_mem _)
theorem ifNF {c A B : Prop} [Decidable c] (hc : c) (h : B) : if (!decide c) = true then A else B := by
  rw [decide_eq_true hc]
  exact h
theorem ifNT {c A B : Prop} [Decidable c] (hc : ¬ c) (h : A) : if (!decide c) = true then A else B := by
  rw [decide_eq_false hc]
  exact h
theorem at_list {α : Type} {ns : List α} {i : Int} (h0 : 0 ≤ i) (h1 : i < ns.length) : ∃ x ∈ ns, atI ns i = some x := by
  obtain ⟨j, rfl⟩ := Int.eq_ofNat_of_zero_le h0
  have hj : j < ns.length := by omega
  exact ⟨ns[j], List.getElem_mem _, atI_nat (List.getElem?_eq_getElem hj)⟩
theorem ite_share {c A R : Prop} [Decidable c] (leaf : A) (rest : ¬ c → A → R) : if c then A else R := by
  split
  · exact leaf
  · exact rest (by assumption) leaf
theorem ite_else {c A R : Prop} [Decidable c] (leaf : R) (rest : c → R → A) : if c then A else R := by
  split
  · exact rest (by assumption) leaf
  · exact leaf

/-! own rules: // and divmod by any divisor of few bits, a list turned about -/
section
variable {X : Cx}
theorem op_fdivG : OpR X (binaryOp .FloorDiv) (rI (fun _ j => j ≠ 0 ∧ j.natAbs.log2 < 9000) fun i j => .int (i.fdiv j)) :=
  opI fun _ _ _ _ _ _ _ hc q => floordiv_int hc.1 q (.inl (PyProof.noPylong_of_log2 hc.2))
theorem call_divmodG : CallR X (.builtin "divmod") (fun xs H Q => ∃ i j, xs = [.int i, .int j] ∧ (j ≠ 0 ∧ j.natAbs.log2 < 9000) ∧ ∀ p, H p = none → Q (.ref p) (upd H p (.tup [.int (i.fdiv j), .int (i.fmod j)]))) := by
  intro pins s σ H xs us Q I r h
  obtain ⟨i, j, rfl, hc, q⟩ := h
  obtain ⟨u1, u2, rfl, ⟨t1, rfl⟩, ⟨t2, rfl⟩⟩ := vals2 r
  refine divmod_int hc.1 ?_ (.inl (PyProof.noPylong_of_log2 hc.2))
  refine ⟨.ref s.heap.objs.size, _, ?_, rfl, q _ (I.hok.fresh (Nat.le_refl _))⟩
  refine I.laid (fun b o e => Heap.get?_push_of_some _ e) (Nat.le_refl _) ⟨by show 2 ≤ sizeLine; rw [sizeLine_eq]; decide, [.int (i.fdiv j) s.toks, .int (i.fmod j) (s.toks + 1)], .cons ⟨_, rfl⟩ (.cons ⟨_, rfl⟩ .nil), ?_⟩
  exact ⟨_, Heap.get?_push_size s.heap rfl, rfl, 0, rfl⟩
def tRevL (K : PySem.W.Frag) (te tk : TE) : TE := fun σ H Q => te σ H fun x H1 => tk σ H1 fun y H2 => y = .int (-1) ∧ ∃ a xs, x = .ref a ∧ SqL K H2 a xs ∧ ∀ p, H2 p = none → Q (.ref p) (upd H2 p (.lst xs.reverse))
theorem vals_rev : ∀ {xs : List V} {us : List Value}, Vals xs us → Vals xs.reverse us.reverse
  | _, _, .nil => .nil
  | _, _, .cons r t => by
    rw [List.reverse_cons, List.reverse_cons]
    exact (vals_rev t).append (.cons r .nil)
theorem pe_revL {e k : Expr} {te tk : TE} {p2 pos : Pos} (he : PE X e te) (hk : PE X k tk) : PE X (.Subscript e (.Slice none none (some k) p2) pos) (tRevL X.K te tk) := by
  refine ⟨fun pins s σ H Q I h => ?_⟩
  refine Subscript_ (thn (he.run pins s σ H _ I h) fun v s1 ⟨x, H1, I1, r1, q1⟩ => ?_)
  refine wpAny_Slice ?_
  rw [evalPart_none]
  refine wpAny_pure (wpAny_pure ?_)
  rw [evalPart_some]
  refine thn (hk.run pins s1 σ H1 _ I1 q1) fun vk s2 ⟨y, H2, I2, r2, ey, a, xs, ex, hx, q⟩ => ?_
  subst ey ex
  obtain ⟨t, rfl⟩ := r2
  cases r1
  have I4 : Inv X pins σ H2 { s2 with heap := s2.heap.push { cls := .type "slice", data := .fields #[.none, .none, .int (-1) t] } } := I2.kept (t' := s2.toks) fun b ob q => Heap.get?_push_of_some _ q
  obtain ⟨its, r, ht, hz⟩ := I4.list hx
  have hlen := r.length
  refine tail_any (ops := [.ref a, .ref s2.heap.objs.size]) ht.isList.typeIs slot_list_getitem.lookup ?_ (by with_unfolding_all rfl)
  refine wpAny_getItem_list_slice ht.isList (Heap.IsSliceOf.new ..) .none .none (.int (-1) t) (by decide) ?_ (by rw [List.size_toArray]; omega)
  rw [PySem.W.krv_pick]
  refine ⟨.ref _, _, I4.laid (t' := s2.toks) (o := .lst xs.reverse) (fun b ob q => Heap.get?_push_of_some _ q) (Nat.le_refl _) ?_, rfl, q _ (I4.hok.fresh (Nat.le_refl _))⟩
  exact ⟨by rw [List.length_reverse]; exact hz, its.reverse, 0, vals_rev r, Heap.get?_push_size _ rfl⟩
end

/-! what is kept: all but the mutable things of a set -/
def Kp (S : Addr → Prop) (H H' : Hp) : Prop := ∀ b o, H b = some o → (S b → ¬ Mut (some o)) → H' b = some o
theorem Kp.refl {S : Addr → Prop} {H : Hp} : Kp S H H := fun _ _ h _ => h
theorem Kp.trans {S : Addr → Prop} {H H1 H2 : Hp} (a : Kp S H H1) (b : Kp S H1 H2) : Kp S H H2 := fun c o h k => b c o (a c o h k) k
theorem Kp.mono {S S' : Addr → Prop} {H H' : Hp} (a : Kp S H H') (h : ∀ b, S b → S' b) : Kp S' H H' := fun c o e k => a c o e fun z => k (h c z)
theorem Kp.of_same {S : Addr → Prop} {H H' : Hp} (a : Same H H') : Kp S H H' := fun c o e _ => a c o e
theorem Kp.same {S : Addr → Prop} {H H1 H2 : Hp} (a : Same H H1) (b : Kp S H1 H2) (h : ∀ b, S b → H b = none) : Same H H2 := fun c o e => b c o (a c o e) fun z => by
  rw [h c z] at e
  cases e
theorem Kp.upd {S : Addr → Prop} {H : Hp} {p : Addr} {o u : HO} (h : H p = some o) (m : Mut (some o)) (hp : S p) : Kp S H (upd H p u) := fun c x e k => by
  by_cases z : c = p
  · subst z
    rw [h] at e
    cases e
    exact absurd m (k hp)
  · rw [upd_ne z]
    exact e
/-- the script: read, never written -/
def Scr (K : PySem.W.Frag) (H : Hp) (a : Addr) (xs : List V) : Prop := SqL K H a xs ∧ ¬ Mut (H a)
theorem Scr.kp {K : PySem.W.Frag} {S : Addr → Prop} {H H' : Hp} {a : Addr} {xs : List V} (h : Scr K H a xs) (k : Kp S H H') : SqL K H' a xs := by
  obtain ⟨h1, h2⟩ := h
  rcases h1 with (e | ⟨o, e⟩) | e
  · rw [e] at h2
    exact absurd trivial h2
  · exact .inl (.inr ⟨o, k _ _ e fun _ => by rw [← e]; exact h2⟩)
  · exact .inr e
/-! an own rule: a text some times over -/
section
variable {X : Cx}
theorem op_rep_str : OpR X (binaryOp .Mult) (fun x y H Q => ∃ (z : Str) (n : Int), x = .str z ∧ y = .int n ∧ 0 < z.length ∧ z.length ≤ 1000 ∧ 2 ≤ n ∧ n ≤ 1000 ∧ ∀ u : Str, u.length = n.toNat * z.length → Q (.str u) H) := by
  intro pins s σ H x y v u Q I rx ry h
  obtain ⟨z, n, rfl, rfl, z0, z1, n0, n1, q⟩ := h
  obtain ⟨t, rfl⟩ := rx
  obtain ⟨t', rfl⟩ := ry
  have hn : ¬ n < 1 := by omega
  have hq : (n == 1 || z.length == 0) = false := by
    rw [Bool.or_eq_false_iff]
    exact ⟨beq_eq_false_iff_ne.mpr (by omega), beq_eq_false_iff_ne.mpr (by omega)⟩
  have le : ∀ (k : Nat) (acc : Array Nat), ((List.replicate k z.cps).foldl (· ++ ·) acc).size = acc.size + k * z.length := by
    intro k
    induction k with
    | zero => intro acc; simp
    | succ k ih =>
      intro acc
      rw [List.replicate_succ, List.foldl_cons, ih, Array.size_append]
      show acc.size + z.length + k * z.length = acc.size + (k + 1) * z.length
      rw [Nat.add_mul]
      omega
  have l2 : (⟨(List.replicate n.toNat z.cps).foldl (· ++ ·) #[]⟩ : Str).length = n.toNat * z.length := by
    show ((List.replicate n.toNat z.cps).foldl (· ++ ·) #[]).size = _
    rw [le]
    simp
  have mm : z.length * n.toNat ≤ 1000 * 1000 := Nat.mul_le_mul z1 (by omega)
  have tl : Builtin.Str.tooLong (z.length * n.toNat) = false := by
    unfold Builtin.Str.tooLong
    rw [sizeLine_eq]
    exact decide_eq_false (by omega)
  refine PySem.P.mul_str ?_ (fun _ _ => ?_) (fun _ _ => tl) ?_
  · rw [decide_eq_false (by omega), decide_eq_false (by omega)]
    rfl
  · have : (1000 : Int) * n ≤ 2 ^ 63 - 1 := by omega
    have h3 : (1000 : Int) ≤ (2 ^ 63 - 1) / n := (Int.le_ediv_iff_mul_le (by omega)).mpr this
    omega
  · rw [if_neg hn, hq]
    exact ⟨by rw [l2, Nat.mul_comm, sizeLine_eq]; omega, .str _, H, I.tok _, ⟨_, rfl⟩, q _ l2⟩
end
/-- a comprehension over a text's signs -/
theorem lc_str {x : Str} {g : TG} {tt : TT} {te : TE} {vs : List Nat} {σ : L2.St} {H1 : Hp} {D : Addr} {Qd : Hp → Prop} (Pv : Nat → Hp → Prop) (h0 : Pv 0 (upd H1 D (.lst [])))
    (hs : ∀ i c H, x.cps.toList[i]? = some c → Pv i H → g (.str ⟨#[c]⟩) (wipe σ vs) H fun σ2 H2 => wipe σ2 vs = wipe σ vs ∧ tt σ2 H2 fun b H3 =>
      if b = true then te σ2 H3 fun y H4 => ∃ acc, H4 D = some (.lst acc) ∧ acc.length < sizeLine ∧ Pv (i + 1) (upd H4 D (.lst (acc ++ [y]))) else Pv (i + 1) H3) (hd : ∀ H, Pv x.cps.toList.length H → Qd H) :
    ∃ W : Nat → Nat → Hp → Prop, (∃ m, W 0 m (upd H1 D (.lst []))) ∧ ∀ i m H, W i m H →
      ((Its x).stop i H ∧ Qd H) ∨ ((Its x).go i H ∧ ∃ Nx : Hp → Prop, (∀ H', Nx H' → ∃ m', m' < m ∧ W (i + 1) m' H') ∧ ∀ y H', (Its x).yld i H y H' → g y (wipe σ vs) H' fun σ2 H2 => wipe σ2 vs = wipe σ vs ∧ tt σ2 H2 fun b H3 =>
        if b = true then te σ2 H3 fun y H4 => ∃ acc, H4 D = some (.lst acc) ∧ acc.length < sizeLine ∧ Nx (upd H4 D (.lst (acc ++ [y]))) else Nx H3) := by
  have hl : x.cps.toList.length = x.cps.size := by simp
  refine ⟨fun i m H => m = x.cps.size - i ∧ i ≤ x.cps.size ∧ Pv i H, ⟨x.cps.size, by simp, Nat.zero_le _, h0⟩, ?_⟩
  rintro i m H ⟨rfl, hi, p⟩
  by_cases hlt : i < x.cps.size
  · refine .inr ⟨hlt, Pv (i + 1), fun H' p' => ⟨x.cps.size - (i + 1), by omega, rfl, hlt, p'⟩, fun y H' hy => ?_⟩
    obtain ⟨rfl, c, hc, rfl⟩ := hy
    exact hs i c H' (by rw [Array.getElem?_toList]; exact hc) p
  · refine .inl ⟨Nat.le_of_not_lt hlt, hd H ?_⟩
    rw [hl, show x.cps.size = i by omega]
    exact p
section
variable {X : Cx}
theorem call_str_any : CallR X (.type "str") (fun xs H Q => (∃ i : Int, xs = [.int i] ∧ i.natAbs.log2 < 1920 ∧ Q (.str (toString i)) H) ∨ ∃ a : Str, xs = [.str a] ∧ Q (.str a) H) := by
  intro pins s σ H xs us Q I r h
  rcases h with h | h
  · exact call_str_int pins s σ H xs us Q I r h
  · exact SkE.call_str_str pins s σ H xs us Q I r h
end

/-! rules for use within a comprehension: the written part named -/
section
variable {X : Cx} {K : PySem.W.Frag}
theorem ix_listK (h : X.K = K) : IxR X (rIxL K) := by subst h; exact ix_list
theorem ix_tupK (h : X.K = K) : IxR X (rIxT K) := by subst h; exact ix_tup
theorem op_in_seqK (h : X.K = K) : OpR X (compareOp .In) (rIn K false) := by subst h; exact op_in_seq
theorem op_notIn_seqK (h : X.K = K) : OpR X (compareOp .NotIn) (rIn K true) := by subst h; exact op_notIn_seq
theorem call_isiK (h : X.K = K) : CallR X (.builtin "isinstance") (rIsi K) := by subst h; exact call_isi
theorem call_len_seqK (h : X.K = K) : CallR X (.builtin "len") (fun xs H Q => ∃ p ys, xs = [.ref p] ∧ (SqL K H p ys ∨ SqT K H p ys) ∧ Q (.int ys.length) H) := by subst h; exact call_len_seq
end

/-! an own exception class over an own one: what the head shows of it; Base.__init__(self, ..) -/
section
open PySem.W
def oexB (K : PySem.W.Frag) (C : Addr) : Bool := (match K.lookup C with
  | some ⟨.type "type", _, .cls cd, sl⟩ => (match cd.mro, sl.toList with
    | .ref C' :: bm, [_, _, _, _, some (.builtin n), _] => C' == C && n == "ValueError.__new__" && !cd.hasDel && cd.hasDict && PySem.HandSPX.refsVE bm
    | _, _ => false)
  | _ => false) && (decide (PySem.W.findIn K (.ref C) "__setattr__" = some (some (.builtin "object.__setattr__"))) && (decide (PySem.W.subIn K (.ref C) (.type "BaseException") = some true) && (decide (PySem.W.typeIn K (.ref C) = some (.type "type")) && PySem.W.keepIn K (.ref C))))
theorem oexB_ok {K : PySem.W.Frag} {C : Addr} (h : oexB K C = true) : OexC K C := by
  obtain ⟨h1, h⟩ := Bool.and_eq_true_iff.mp h
  obtain ⟨h2, h⟩ := Bool.and_eq_true_iff.mp h
  obtain ⟨h3, h⟩ := Bool.and_eq_true_iff.mp h
  obtain ⟨h4, h5⟩ := Bool.and_eq_true_iff.mp h
  refine ⟨?_, of_decide_eq_true h2, of_decide_eq_true h3, of_decide_eq_true h4, h5⟩
  split at h1
  · rename_i dd cd sl ho
    split at h1
    · rename_i C' bm k0 k1 k2 k3 n k5 hm hs
      simp only [Bool.and_eq_true, beq_iff_eq, Bool.not_eq_true'] at h1
      obtain ⟨⟨⟨⟨rfl, rfl⟩, hdl⟩, hdc⟩, hb⟩ := h1
      obtain ⟨nm, bs, mro, ns, qn, hd, sn, sb, ab, col, del⟩ := cd
      dsimp only at hm hdl hdc
      subst hm hdl hdc
      obtain ⟨sl⟩ := sl
      dsimp only at hs
      subst hs
      exact ⟨nm, qn, ns, bs, bm, sn, sb, ab, col, dd, k0, k1, k2, k3, k5, ho, hb⟩
    · cases h1
  · cases h1
/-- W.__init__ is ValueError's -/
structure WeI (K : PySem.W.Frag) (W : Addr) : Prop where
  rd : PySem.W.readsIn K W (.type "type") = true
  ga : PySem.W.specialIn K (.ref W) "__getattribute__" = some (some (.builtin "type.__getattribute__"))
  at_ : PySem.W.findCls K (.ref W) (.type "type") "__init__" = some (.val (.builtin "ValueError.__init__"))
def weB (K : PySem.W.Frag) (W : Addr) : Bool := PySem.W.readsIn K W (.type "type") && (decide (PySem.W.specialIn K (.ref W) "__getattribute__" = some (some (.builtin "type.__getattribute__"))) && (match PySem.W.findCls K (.ref W) (.type "type") "__init__" with
  | some (.val v) => decide (v = .builtin "ValueError.__init__")
  | _ => false))
theorem weB_ok {K : PySem.W.Frag} {W : Addr} (h : weB K W = true) : WeI K W := by
  obtain ⟨h1, h⟩ := Bool.and_eq_true_iff.mp h
  obtain ⟨h2, h3⟩ := Bool.and_eq_true_iff.mp h
  refine ⟨h1, of_decide_eq_true h2, ?_⟩
  split at h3
  · rename_i v e
    rw [e, of_decide_eq_true h3]
  · cases h3
/-- __init__ of C is the def at f -/
structure OIn (K : PySem.W.Frag) (C f : Addr) : Prop where
  iC : PySem.W.findIn K (.ref C) "__init__" = some (some (.ref f))
  tI : PySem.W.typeIn K (.ref f) = some (.type "function")
def oinB (K : PySem.W.Frag) (C f : Addr) : Bool := decide (PySem.W.findIn K (.ref C) "__init__" = some (some (.ref f))) && decide (PySem.W.typeIn K (.ref f) = some (.type "function"))
theorem oinB_ok {K : PySem.W.Frag} {C f : Addr} (h : oinB K C f = true) : OIn K C f := by
  obtain ⟨h1, h2⟩ := Bool.and_eq_true_iff.mp h
  exact ⟨of_decide_eq_true h1, of_decide_eq_true h2⟩
def nofB (K : PySem.W.Frag) (C : Addr) (f : Str) : Bool := decide (PySem.W.findIn K (.ref C) f = some none)
theorem nofB_ok {K : PySem.W.Frag} {C : Addr} {f : Str} (h : nofB K C f = true) : PySem.W.findIn K (.ref C) f = some none := of_decide_eq_true h
end
section
variable {X : Cx} {e : Expr} {es : List Expr} {ta : TA} {x : Str} {W : Addr} {p1 p2 pos : Pos}
theorem pe_weinit {pl : Sem Bool} (hg : Gl X x) (hm : X.mg x = some (.ref W)) (T : WeI X.K W) (ha : PA X (e :: es) ta) (hdb : (x == ("__debug__" : Str)) = false := by decide)
    (hc : eval (.Call (.Attribute (.Name x p1) "__init__" p2) (e :: es) [] pos) X.env = (do
      let ov ← eval (.Name x p1) X.env
      standAt p2.atName
      let (f, first) ← holding [ov] (getMethod ov "__init__" pl)
      callWith pos f first (backTo pos (starEach (e :: es) X.env)) (backToKw pos (keywordEach [] X.env))) := by rfl)
    (he : starEach (e :: es) X.env = (false, eval e X.env) :: starEach es X.env := by rfl) (hpl : (backTo pos (starEach es X.env)).any (·.1) = false := by rfl) :
    PE X (.Call (.Attribute (.Name x p1) "__init__" p2) (e :: es) [] pos) (tVeI X.K ta) := by
  refine ⟨fun pins s σ H Q I h => ?_⟩
  refine PySem.W.methodCall_KW (ld_glob I hg hm ?_ hdb) hc
  refine PySem.W.method_cls I.kIn T.ga (PySem.W.cls_value I.kIn T.rd T.at_ (by decide +kernel) ?_)
  show wpAny _ _ (callWith pos (Value.builtin "ValueError.__init__") [] (backTo pos (starEach (e :: es) X.env)) []) _ _ _
  refine PyProof.Rows.callWith_method1 (thn (ha.run pos pins _ σ H _ (I.tok _) h) fun us s1 ⟨vs, H1, I1, r1, a, C, ws, ev, hl, T, ea, q⟩ => ?_) he hpl
  subst ev
  cases r1 with
  | @cons _ u0 _ ur ra rw' =>
    obtain rfl : u0 = Value.ref a := ra
    have hlen : ur.length ≤ sizeLine := by
      rw [← Paired.length rw', sizeLine_eq]
      omega
    exact oinit_ok T I1 ea hlen fun s' J => ⟨.non, H1, J, rfl, q⟩
end

/-! except clauses whose exception is kept behind them: own rule -/
namespace TryK
open PySem PySem.Spec PyProof.Rows L2
/-- an exception that was caught -/
def ExK (cls : Value) (d : Option Addr) (a : Addr) : HO := .ext fun h => ∃ (oe : Obj) (vs : Array Value), h.get? a = some oe ∧ Zc cls d oe ∧ oe.data = .fields vs
theorem exK_ok {P : Program} {w : World} {H : Hp} {h : Heap} {a : Addr} {cls : Value} {d : Option Addr} {oe : Obj} {vs : Array Value} (e : h.get? a = some oe) (z : Zc cls d oe) (f : oe.data = .fields vs) : ObjOk P w H h a (ExK cls d a) :=
  ⟨⟨oe, vs, e, z, f⟩, ⟨oe, e⟩, fun _ _ ⟨o, v, q, r⟩ k => ⟨o, v, k o q, r⟩⟩
/-- an object that stands there since a later state is tracked from now on -/
theorem adopt {X : Cx} {pins : List (Addr × Obj)} {σ σI : L2.St} {H HI : Hp} {s sI : Shared} {a : Addr} {o : HO} (I : L2.Inv X pins σ H s) (J : L2.Inv X pins σI HI sI) (n : sI.heap.get? a = none) (hn : H a = none) (hL : a ≠ X.env.locals)
    (nc : ∃ oe, s.heap.get? a = some oe ∧ ∀ v, oe.data ≠ .cell v) (new : ObjOk X.prog X.w (upd H a o) s.heap a o) : L2.Inv X pins σ (upd H a o) s := by
  have ne0 : ∀ b u, X.s_0.heap.get? b = some u → b ∉ X.ex → b ≠ a := fun b u e hx z => by
    obtain ⟨o', q⟩ := J.base.there b u e hx
    rw [z, n] at q
    cases q
  refine ⟨I.ok, I.os, I.bare, ⟨I.base.keep, I.base.slot, fun b u e h0 hx => ?_, I.base.there, fun b xs e => ?_, fun b u xs e => ?_, fun b ps e => ?_⟩, I.loc, I.cell, ?_, fun x c e => ?_, fun p hp => ?_, I.hok.laidN (fun _ _ z => z) hn new, I.len⟩
  · rw [upd_ne (ne0 b u e hx)]
    exact I.base.free b u e h0 hx
  · have q := I.base.tups b xs e
    rw [upd_ne (ne_of_none q hn)]
    exact q
  · have q := I.base.frzs b u xs e
    rw [upd_ne (ne_of_none q hn)]
    exact q
  · obtain ⟨m, q⟩ := I.base.tbls b ps e
    exact ⟨m, by rw [upd_ne (ne_of_none q hn)]; exact q⟩
  · rw [upd_ne hL.symm]
    exact I.free
  · have hc : c ≠ a := fun z => by
      obtain ⟨v, oc, e1, e2⟩ := I.cell x c e
      obtain ⟨oe, e3, e4⟩ := nc
      rw [z, e3] at e1
      cases e1
      exact e4 _ e2
    rw [upd_ne hc]
    exact I.freeC x c e
  · obtain ⟨e, h1, h2, h3, h4⟩ := I.pin p hp
    have hpa : p.1 ≠ a := fun z => by
      have := (J.pin p hp).1
      rw [z, n] at this
      cases this
    exact ⟨e, by rw [upd_ne hpa]; exact h1, h2, h3, h4⟩
end TryK
namespace TryK
open PySem PySem.Spec PyProof.Rows L2
def endsOff (i : Nat) (D : Ends) : Ends := { nx := fun σ' H' => D.nx (σ'.set i none) H', rt := D.rt, bk := fun σ' H' => D.bk (σ'.set i none) H', ct := fun σ' H' => D.ct (σ'.set i none) H' }
/-- behind the clause: the name is gone, the exception is kept -/
def endsKeep (i : Nat) (a : Addr) (cls : Value) (d : Option Addr) (D : Ends) : Ends := { nx := fun σ' H' => D.nx (σ'.set i none) (upd H' a (ExK cls d a)), rt := D.rt, bk := fun σ' H' => D.bk (σ'.set i none) H', ct := fun σ' H' => D.ct (σ'.set i none) H' }
def wNam (K : PySem.W.Frag) (Wout : WX) (D : Ends) : List (Value × Option Nat × (Addr → Value → Option Addr → TS)) → WX
  | [] => Wout
  | (c, none, ts) :: r => fun cls d σ H => ∃ b, PySem.W.exmOne K cls c = some b ∧ (b = true → ∀ a, H a = none → ts a cls d D σ H) ∧ (b = false → wNam K Wout D r cls d σ H)
  | (c, some i, ts) :: r => fun cls d σ H => ∃ b, PySem.W.exmOne K cls c = some b ∧ (b = true → ∀ a, H a = none → ts a cls d (endsKeep i a cls d D) (σ.set i (some (.ref a))) H) ∧ (b = false → wNam K Wout D r cls d σ H)
inductive HdsN (X : Cx) : List ExceptHandler → List (Value × Option Nat × (Addr → Value → Option Addr → TS)) → Prop
  | nil : HdsN X [] []
  | cons {x : Str} {c : Value} {ts : Addr → Value → Option Addr → TS} {b₀ : Stmt} {suite : List Stmt} {np pos' : Pos} {hds : List ExceptHandler} {l : List (Value × Option Nat × (Addr → Value → Option Addr → TS))} (hc : Names X x c)
      (hsu : ∀ (a : Addr) (oe : Obj) (cls : Value) (d : Option Addr) (pn : List (Addr × Obj)), Zc cls d oe → (∃ vs, oe.data = .fields vs) → PSs (X.suite a ((a, oe) :: pn)) (b₀ :: suite) (ts a cls d)) (r : HdsN X hds l) :
      HdsN X (.ExceptHandler (some (.Name x np)) none (b₀ :: suite) pos' :: hds) ((c, none, ts) :: l)
  | as {x n : Str} {i : Nat} {c : Value} {ts : Addr → Value → Option Addr → TS} {b₀ : Stmt} {suite : List Stmt} {np pos' : Pos} {hds : List ExceptHandler} {l : List (Value × Option Nat × (Addr → Value → Option Addr → TS))} (hc : Names X x c)
      (hi : X.N[i]? = some n) (hln : X.env.kindOf n = some .local)
      (hsu : ∀ (a : Addr) (oe : Obj) (cls : Value) (d : Option Addr) (pn : List (Addr × Obj)), Zc cls d oe → (∃ vs, oe.data = .fields vs) → PSs (X.suite a ((a, oe) :: pn)) (b₀ :: suite) (ts a cls d)) (r : HdsN X hds l) :
      HdsN X (.ExceptHandler (some (.Name x np)) (some n) (b₀ :: suite) pos' :: hds) ((c, some i, ts) :: l)
section
variable {X : Cx} {body : List Stmt} {h₀ : ExceptHandler} {hds : List ExceptHandler} {l : List (Value × Option Nat × (Addr → Value → Option Addr → TS))} {pos : Pos} {tb : WX → TS} {Wout : WX}
theorem ps_try_nam (hs : X.stack = X.env :: X.outer) (hf : X.env.frame = some X.env.locals) (hN : X.N.Nodup) (tk : Takes X Wout)
    (hb : ∀ (W : WX) (pn : List (Addr × Obj)) (xe : Value → Shared → Prop), Takes (X.tr pn xe) W → PassesOwn (model X.prog X.w) X.A X.env xe → PSs (X.tr pn xe) body (tb W))
    (hh : HdsN X (h₀ :: hds) l) : PS X (.Try body (h₀ :: hds) [] [] pos) (fun D σ H => tb (wNam X.K Wout D l) D σ H) := by
  refine ⟨fun pins s σ H D I h => ?_⟩
  have ok := I.ok
  have hfr : X.A.frames = some (X.env :: X.outer) := by rw [ok.frames, hs]
  refine wpAny_Try_except ?_
  refine wpAny_mono ((hb (wNam X.K Wout D l) (X.pn ++ pins) (fun e s₁ => wpAny (model X.prog X.w) X.A (noteFrame e X.env) (fun _ s₂ => wpAny (model X.prog X.w) X.A (setFlight e none) (fun _ s₃ =>
    wpAny (model X.prog X.w) X.A (handleBy e X.env (h₀ :: hds)) (SP X pins D) X.xe s₃) X.xe s₂) X.xe s₁) (fun u s' xx => ?_) PassesOwn.looking).run [] s σ H D (I.toTry _) h) (fun f s1 hsp => ?_) (fun e s1 he => he)
  · obtain ⟨a, B, sI, pins', σ', H', cls, d, rfl, J', nb, up, sky, na, os, ag, w⟩ := xx
    have J : Inv X pins σ' H' sI := J'.ofTry ok
    have sky' : Sky B (X.env :: X.outer) a (Zc cls d) X.env.locals s'.heap := by rw [← hs]; exact sky
    show wpAny (model X.prog X.w) X.A (noteFrame (.ref a) X.env) _ _ _
    refine Sky.land Zc.steady hfr hf sky' fun h3 fl3 up3 => ?_
    have J3 : Inv X pins σ' H' { s' with heap := h3 } := J.landed nb fl3.1 (up.trans up3) os ag
    obtain ⟨oe3, vs3, he3, hz3, hd3⟩ := fl3.there
    have nfr : a ∉ frs (X.env :: X.outer) := fun hm => by
      obtain ⟨_, o', e', hnf⟩ := fl3.2.2.1.mem hm
      rw [he3] at e'
      cases e'
      exact hnf _ hd3
    have nL : a ≠ X.env.locals := fun z => nfr (List.mem_filterMap.mpr ⟨X.env, List.mem_cons_self, by rw [hf, z]⟩)
    have nF : a ∉ X.fs := fun hm => by
      obtain ⟨e, he, q⟩ := List.mem_filterMap.mp hm
      exact nfr (List.mem_filterMap.mpr ⟨e, List.mem_cons_of_mem _ he, q⟩)
    have S3 := J3.suite he3 hd3 na nL nF
    have na0 : sI.heap.get? a = none := by
      cases e : sI.heap.get? a with
      | none => rfl
      | some o =>
        have q := nb a o e (by rw [hs]; exact nfr)
        rw [fl3.2.1] at q
        cases q
    have LT : PySem.W.Looks (model X.prog X.w) h3 (typeOf (.ref a)) cls := fun A Q E s k q => wpAny_typeOf_ref (k _ _ he3) (by rw [hz3.1]; exact q)
    have test : ∀ {x : Str} {np : Pos} {c : Value} {Q : Value → Shared → Prop} {E : Value → Shared → Prop}, Names X x c → Q c { s' with heap := h3 } → wpAny (model X.prog X.w) (X.A.mark (some (.ref a))) (eval (.Name x np) X.env) Q E { s' with heap := h3 } := fun {x np c Q E} hc q => by
      obtain ⟨hg, hdbg, hm | ⟨hm, hv, hnn⟩⟩ := hc
      · exact ld_glob (X := X.suite a ((a, oe3) :: (X.pn ++ pins))) S3 hg hm q hdbg
      · exact ld_blt (X := X.suite a ((a, oe3) :: (X.pn ++ pins))) S3 hg hm hv q hnn hdbg
    have go : ∀ {hds' : List ExceptHandler} {l' : List (Value × Option Nat × (Addr → Value → Option Addr → TS))}, HdsN X hds' l' → wNam X.K Wout D l' cls d σ' H' →
        wpAny (model X.prog X.w) X.A (handleBy (.ref a) X.env hds') (SP X pins D) X.xe { s' with heap := h3 } := by
      intro hds' l' hk
      induction hk with
      | nil =>
        intro w
        refine wpAny_handleBy_nil ?_
        obtain ⟨k1, k2, k3, oe, vs, T, oT, ts', he, hz, hd, h1, hr⟩ := id fl3
        unfold PySem.passOn
        refine wpAny_bind (wpAny_field he hd h1 ?_)
        rw [if_neg (show ¬ ((Value.ref T == Value.none) = true) from by simp)]
        have fin : wpAny (model X.prog X.w) X.A (setFlight (.ref a) X.env.frame) (fun _ s4 => wpAny (model X.prog X.w) X.A (throw (.ref a) : Sem Flow) (SP X pins D) X.xe s4) X.xe { s' with heap := h3 } := by
          rw [hf]
          refine HandSPX.setFlight_upZ fl3 fun h4 hh4 up4 => wpAny_throw (tk _ _ ?_)
          exact ⟨a, B, sI, pins, σ', H', cls, d, rfl, J, nb, (up.trans up3).trans up4, .inr (.inr (by rw [hs]; exact hh4)), na, os, ag, w⟩
        first
          | exact wpAny_bind (wpAny_pure (wpAny_bind fin))
          | exact wpAny_bind fin
      | @cons x c ts b₀ suite np pos' hds2 l2 hc hsu r ih =>
        intro w
        obtain ⟨b, hb1, hyes, hno⟩ := w
        refine wpAny_handleBy_cons (codeAny_handlers_test ?_) (by intro q; cases q)
        refine test hc ((PySem.W.exm_one (M := model X.prog X.w) (J3.kIn) LT hb1).here ?_)
        cases b with
        | true =>
          refine codeAny_handlers_suite ?_
          refine HandSPX.lands_againZ fl3 fun h4 fl4 up4 => ?_
          have J4 : Inv X pins σ' H' { s' with heap := h4 } := J.landed nb fl4.1 ((up.trans up3).trans up4) os ag
          obtain ⟨oe4, vs4, he4, hz4, hd4⟩ := fl4.there
          have S4 := J4.suite he4 hd4 na nL nF
          refine wpAny_mono ((hsu a oe4 cls d (X.pn ++ pins) hz4 ⟨_, hd4⟩).run [] _ _ H' _ S4 (hyes rfl a na)) (fun f s6 hsp => ?_) (fun _ _ z => False.elim z)
          cases f with
          | next => obtain ⟨σ6, H6, S6, q6⟩ := hsp; exact ⟨_, _, S6.unsuite ok, q6⟩
          | brk => obtain ⟨σ6, H6, S6, q6⟩ := hsp; exact ⟨_, _, S6.unsuite ok, q6⟩
          | cont => obtain ⟨σ6, H6, S6, q6⟩ := hsp; exact ⟨_, _, S6.unsuite ok, q6⟩
          | ret u => obtain ⟨v6, σ6, H6, S6, r6, q6⟩ := hsp; exact ⟨_, _, _, S6.unsuite ok, r6, q6⟩
        | false =>
          show wpAny _ X.A (handleBy (.ref a) X.env hds2) _ _ _
          exact ih (hno rfl)
      | @as x n i c ts b₀ suite np pos' hds2 l2 hc hi hln hsu r ih =>
        intro w
        obtain ⟨b, hb1, hyes, hno⟩ := w
        refine wpAny_handleBy_cons (codeAny_handlers_test ?_) (by intro q; cases q)
        refine test hc ((PySem.W.exm_one (M := model X.prog X.w) (J3.kIn) LT hb1).here ?_)
        cases b with
        | true =>
          refine codeAny_handlers_suite_as ?_
          refine HandSPX.lands_againZ fl3 fun h4 fl4 up4 => ?_
          have J4 : Inv X pins σ' H' { s' with heap := h4 } := J.landed nb fl4.1 ((up.trans up3).trans up4) os ag
          obtain ⟨oe4, vs4, he4, hz4, hd4⟩ := fl4.there
          have S4 := J4.suite he4 hd4 na nL nF
          refine store_ok (X := X.suite a ((a, oe4) :: (X.pn ++ pins))) (v := .ref a) S4 hN hi (.inl hln) rfl (fun s5 S5 => ?_) (.inr hln)
          refine wpAny_mono ((hsu a oe4 cls d (X.pn ++ pins) hz4 ⟨_, hd4⟩).run [] s5 _ H' _ S5 (hyes rfl a na)) (fun f s6 hsp => ?_) (fun _ _ z => False.elim z)
          have end_ : ∀ {σ6 : L2.St} {H6 : Hp} {Q : Shared → Prop}, Inv (X.suite a ((a, oe4) :: (X.pn ++ pins))) [] σ6 H6 s6 → (∀ s7, Inv X pins (σ6.set i none) H6 s7 → Q s7) →
              wpAny (model X.prog X.w) X.A (do bindName X.env n .none; unbindBehindTheSuite X.env n pos') (fun _ s7 => Q s7) X.xe s6 := fun {σ6 H6 Q} S6 hq => gone_ok (S6.unsuite ok) hN hi hln hq
          cases f with
          | next =>
            obtain ⟨σ6, H6, S6, q6⟩ := hsp
            have hp := S6.pin (a, oe4) (List.mem_append.mpr (.inl List.mem_cons_self))
            have J6 : L2.Inv X pins σ6 (upd H6 a (ExK cls d a)) s6 := adopt (S6.unsuite ok) J na0 hp.2.1 nL ⟨oe4, hp.1, hp.2.2.2.2⟩ (exK_ok hp.1 hz4 hd4)
            exact gone_ok J6 hN hi hln fun s7 J7 => ⟨_, _, J7, q6⟩
          | brk => obtain ⟨σ6, H6, S6, q6⟩ := hsp; exact end_ S6 fun s7 J7 => ⟨_, _, J7, q6⟩
          | cont => obtain ⟨σ6, H6, S6, q6⟩ := hsp; exact end_ S6 fun s7 J7 => ⟨_, _, J7, q6⟩
          | ret u => obtain ⟨v6, σ6, H6, S6, r6, q6⟩ := hsp; exact end_ S6 fun s7 J7 => ⟨_, _, _, J7, r6, q6⟩
        | false =>
          show wpAny _ X.A (handleBy (.ref a) X.env hds2) _ _ _
          exact ih (hno rfl)
    exact go hh w
  · cases f with
    | next => obtain ⟨σ', H', J', q⟩ := hsp; exact wpAny_execs_nil ⟨σ', H', J'.ofTry ok, q⟩
    | brk => obtain ⟨σ', H', J', q⟩ := hsp; exact ⟨σ', H', J'.ofTry ok, q⟩
    | cont => obtain ⟨σ', H', J', q⟩ := hsp; exact ⟨σ', H', J'.ofTry ok, q⟩
    | ret u => obtain ⟨v, σ', H', J', r, q⟩ := hsp; exact ⟨v, σ', H', J'.ofTry ok, r, q⟩
end
/-- isinstance of an exception that was kept -/
def rIsX (K : PySem.W.Frag) (D : Addr) : List V → Hp → VK → Prop := fun xs H Q => ∃ (a : Addr) (c : V) (cv : Value) (b : Bool), xs = [.ref a, c] ∧ H a = some (ExK (.ref D) none a) ∧ (∀ u, RelV c u → u = cv) ∧ PySem.W.kitOne K (.ref D) cv = some b ∧ Q (.bl b) H
theorem call_isX {X : Cx} {D : Addr} (C : ExcC X.K D) : CallR X (.builtin "isinstance") (rIsX X.K D) := by
  intro pins s σ H xs us Q I r h
  obtain ⟨a, c, cv, b, rfl, ha, hcv, e, q⟩ := h
  obtain ⟨u1, u2, rfl, rx, rt⟩ := vals2 r
  cases (show u1 = Value.ref a from rx)
  have ec := hcv _ rt
  subst ec
  obtain ⟨⟨oe, vs, hget, hz, hv⟩, _⟩ := I.hok a _ ha
  have J : PySem.W.InstAt s.heap a oe D none := by
    obtain ⟨oc, od, oda, osl⟩ := oe
    obtain ⟨h1, h2⟩ := hz
    dsimp only at h1 h2 hv
    subst h1 h2 hv
    exact ⟨hget, rfl, rfl, trivial⟩
  exact PySem.W.kia_one (PySem.W.handS_kitx_exc C.hg C.hk C.hs C.hd C.ha C.hn C.ht C.hm) I.kIn J e (fun z => nomatch z) fun tk => ⟨.bl b, H, I.kept (t' := tk) fun _ _ z => z, rfl, q⟩
def eicB (K : PySem.W.Frag) (D : Addr) : Bool := decide (PySem.W.findIn K (.ref D) "__getattribute__" = some (some (.builtin "BaseException.__getattribute__"))) && (decide (PySem.W.findIn K (.ref D) "__getattr__" = some none) && (decide (PySem.W.subIn K (.ref D) (.type "BaseException") = some true) && (PySem.W.hasDictIn K D && (decide (PySem.W.findIn K (.ref D) "__class__" = some (some (.builtin "object.__class__"))) &&
  (decide (PySem.W.specialIn K (.builtin "object.__class__") "__get__" = some (some (.builtin "getset_descriptor.__get__"))) && (decide (PySem.W.takesIn K (.builtin "object.__class__") = some true) && decide (PySem.W.mroIn K D (.type "object") = some true)))))))
theorem eicB_ok {K : PySem.W.Frag} {D : Addr} (h : eicB K D = true) : ExcC K D := by
  obtain ⟨h1, h⟩ := Bool.and_eq_true_iff.mp h
  obtain ⟨h2, h⟩ := Bool.and_eq_true_iff.mp h
  obtain ⟨h3, h⟩ := Bool.and_eq_true_iff.mp h
  obtain ⟨h4, h⟩ := Bool.and_eq_true_iff.mp h
  obtain ⟨h5, h⟩ := Bool.and_eq_true_iff.mp h
  obtain ⟨h6, h⟩ := Bool.and_eq_true_iff.mp h
  obtain ⟨h7, h8⟩ := Bool.and_eq_true_iff.mp h
  exact ⟨of_decide_eq_true h1, of_decide_eq_true h2, of_decide_eq_true h3, h4, of_decide_eq_true h5, of_decide_eq_true h6, of_decide_eq_true h7, of_decide_eq_true h8⟩
/-- how many are equal, of flat values -/
def rCntF (K : PySem.W.Frag) : V → List V → Hp → VK → Prop := fun x xs H Q => ∃ (a : Addr) (ys : List V) (y : V), x = .ref a ∧ xs = [y] ∧ SqL K H a ys ∧ flatV y = true ∧ ys.all flatV = true ∧ Q (.int (ys.countP fun z => eqV z y : Nat)) H
theorem cntF_eq {y : V} {uy : Value} : ∀ {ys : List V} {us : List Value}, Vals ys us → ys.all flatV = true → us.countP (eqU y) = ys.countP fun z => eqV z y
  | _, _, .nil, _ => rfl
  | _, _, .cons (a := x) (b := u) r t, f => by
    rw [List.all_cons, Bool.and_eq_true] at f
    rw [List.countP_cons, List.countP_cons, cntF_eq (uy := uy) t f.2, eqU_of r f.1]
theorem mt_countF {X : Cx} : MtR X "list.count" (rCntF X.K) := by
  intro pins s σ H x xs v us Q I rx rxs h
  obtain ⟨a, ys, y, rfl, rfl, hs, fy, fys, q⟩ := h
  cases rx
  obtain ⟨uy, rfl, ry⟩ := rxs.one
  obtain ⟨its, rv, ⟨⟨cls, dd, data, sl⟩, n, ho, hc, hdn, hd⟩, hlen⟩ := I.list hs
  simp only at hc hd
  subst hc hd
  refine call_meets PySem.F.slot_list_count ⟨_, ho, rfl⟩ PySem.F.entry_list_count (PySem.F.args_list_count_2 _ _)
    (SeqAt.list_countAt a its.toArray n dd sl uy (eqU y)) ⟨ho, fun u' hu' => mem_eqAt ry fy rv fys u' (by simpa using hu'), ?_⟩
  have ec : its.toArray.toList.countP (eqU y) = ys.countP fun z => eqV z y := cntF_eq (uy := uy) rv fys
  refine ⟨.int (ys.countP fun z => eqV z y : Nat), H, I.tok _, ⟨s.toks, ?_⟩, q⟩
  show Value.int ((its.toArray.toList.countP (eqU y) : Nat) : Int) s.toks = _
  rw [ec]
end TryK

/-! a kept exception that has its own dict: isinstance of it, its fields: own rules -/
namespace XfK
open PySem PySem.Spec PyProof.Rows L2 TryK
def tXfK (C : Addr) (f : Str) (te : TE) : TE := fun σ H Q => te σ H fun x H1 => ∃ (a dd : Addr) (fs : List (Str × V)) (v : V), x = .ref a ∧ H1 a = some (ExK (.ref C) (some dd) a) ∧ H1 dd = some (.xd fs) ∧ fs.lookup f = some v ∧ Q v H1
theorem inst_at {P : Program} {w : World} {H : Hp} {h : Heap} {a C dd : Addr} {fs : List (Str × V)} (ok : HOk P w H h) (ea : H a = some (ExK (.ref C) (some dd) a)) (ed : H dd = some (.xd fs)) : ∃ oe od, PySem.W.InstAt h a oe C (some od) ∧ h.get? dd = some od ∧ ∃ mA, h.Ns1 dd mA ∧ ∀ f, RelO (fs.lookup f) (mA f) := by
  obtain ⟨⟨oe, vs, hget, hz, hv⟩, _⟩ := ok a _ ea
  have hx : ObjOk P w H h dd (.xd fs) := ok dd _ ed
  obtain ⟨mA, hns, hr⟩ := hx
  obtain ⟨od, ho, hl⟩ := lookIn_ns hns
  exact ⟨oe, od, ⟨hget, hz.1, by unfold PySem.W.notCls; rw [hv] <;> rfl, by rw [hz.2]; exact ho⟩, ho, mA, hns, hr⟩
theorem pe_xfK {X : Cx} {C : Addr} {e : Expr} {te : TE} {pos : Pos} {n : Str} (T : XfC X.K C) (hno : PySem.W.findIn X.K (.ref C) n = some none)
    (he : PE X e te) (hb : attributeBase e n X.env (eval e X.env) = eval e X.env := by rfl) : PE X (.Attribute e n pos) (tXfK C n te) := by
  refine ⟨fun pins s σ H Q I h => ?_⟩
  refine attr_of hb (thn (he.run pins s σ H _ I h) fun u s1 hh => ?_)
  obtain ⟨x, H1, I1, rx, a, dd, fs, v, ex, ea, ed, l, q⟩ := hh
  subst ex
  obtain rfl : u = Value.ref a := rx
  obtain ⟨oe, od0, J0, ho0, mA, hns, hr⟩ := inst_at I1.hok ea ed
  obtain ⟨od, ho, hl⟩ := lookIn_ns hns
  rw [ho] at ho0
  cases ho0
  obtain ⟨u, hu, ru⟩ := RelO.some_of (v := v) (o := mA n) (by rw [← l]; exact hr n)
  exact HandSPX.exc_get I1.kIn J0 T.ga T.gg T.exC (PySem.W.findObj_own T.hdC hno rfl (by rw [hl, hu])) (handed_of ru) ⟨v, H1, I1.tok _, ru, q⟩
section
open PySem.W PySem.Calls
variable {prog : Program} {w : World} {K : PySem.W.Frag} {x D : Addr} {ox od : Obj}
/-- the class of an exception that has its dict, asked by its name -/
theorem cls_asked (C : ExcC K D) {A : Around} {E : Value → Shared → Prop} {Q : Option Value → Shared → Prop} {s : Shared} (Y : K.In s.heap) (J : InstAt s.heap x ox D (some od)) (q : Q (some (.ref D)) { s with toks := s.toks + 1 }) :
    wpAny (model prog w) A (getAttr? (.ref x) "__class__") Q E s := by
  have fo : findObj K D (some od) "__class__" = some (.bind (.builtin "getset_descriptor.__get__") (.builtin "object.__class__")) := by
    obtain ⟨cd, e, _⟩ := any_some C.hd
    unfold findObj
    simp [e, C.ha, C.hn, C.ht]
  obtain ⟨hp, g, d, t, os⟩ := s
  have typ := J.type (M := model prog w)
  have own := looks_findIn (M := model prog w) Y C.hg
  have none_ := looks_findIn (M := model prog w) Y C.hk
  have found := looks_find (M := model prog w) Y J fo
  have isB : Looks (model prog w) hp (isInstance (.ref x) (.type "BaseException")) true := typ.andThen (looks_subIn Y C.hs)
  have n2 : (Value.builtin "BaseException.__getattribute__" == Value.builtin "object.__getattribute__") = false := by decide +kernel
  unfold getAttr? getAttrBy? getAttrBy
  refine wpAny_bind (wpAny_mkText (wpAny_bind (wpAny_attempt (wpAny_holding (wpAny_bind (typ.at (wpAny_bind (own.at ?cont))))))))
  case cont =>
    dsimp only
    rw [n2, Bool.and_false, if_neg Bool.false_ne_true]
    unfold getAttrByItsOwn hookBefore
    refine wpAny_bind ?_
    rw [show onTheHeap (Value.ref D) = true from rfl]
    refine none_.at (wpAny_bind (wpAny_attempt (wpAny_holding ?call)))
    case call =>
      unfold callGetattribute
      show wpAny _ _ (boundAndCalled _ _ _) _ _ _
      unfold boundAndCalled
      rw [PySem.F.excAttr_ValueError.ga.bind (.ref x)]
      refine wpAny_bind (wpAny_pure (?step : wpAny _ _ (call (.builtin "BaseException.__getattribute__") [.ref x, .str "__class__" t]) _ _ _))
      case step =>
        refine wpAny_call (codeAny_call_builtin PySem.F.excAttr_ValueError.ga.plain PySem.F.entry_bexc_ga (@check_slot (model prog w) _ _ ⟨hp, g, d, t + 1, os⟩ "BaseException.__getattribute__" "BaseException" "__getattribute__" (.ref x) [.str "__class__" t] [] _ (by decide +kernel) (by decide +kernel) isB (PySem.F.args_bexc_ga (.ref x) (.str "__class__" t)) ?body))
        case body =>
          unfold Builtin.«object.__getattribute__»
          refine wpAny_bind (wpAny_of_eq (a := ((Value.ref x : Value), [Value.str "__class__" t])) (by first | rfl | (simp only [slotArgs]; rfl)) (wpAny_bind (wpAny_pure (wpAny_bind (typ.at (wpAny_bind (found.at (?get : wpAny _ _ (holding [Value.builtin "object.__class__"] (call (.builtin "getset_descriptor.__get__") [.builtin "object.__class__", .ref x, .ref D]) >>= ret) _ _ _))))))))
          case get =>
            refine wpAny_bind (wpAny_holding (wpAny_call (class_get (s := ⟨hp, g, d, t + 1, os⟩) (ox := ox) (od := some od) Y J C.hm (wpAny_pure ?out))))
            case out =>
              show wpAny _ _ (handedOut (.ref D)) _ _ _
              rw [handedOut_of (v := .ref D) rfl]
              first
                | exact wpAny_pure (wpAny_pure q)
                | exact wpAny_pure q
                | exact wpAny_pure (wpAny_bind (wpAny_pure (wpAny_pure q)))
/-- what isinstance wants to know of it -/
theorem kit_d (C : ExcC K D) : KitX K (.ref x) (.ref D) (fun h => InstAt h x ox D (some od)) := by
  obtain ⟨cd, e, _⟩ := any_some C.hd
  unfold clsIn at e
  split at e
  · rename_i a1 a2 a3 a4 ho
    exact ⟨(fun _ _ _ J => J.type), (fun M h Y _ A Q E s k q => by
        unfold isType loadHead
        exact wpAny_bind (wpAny_loadPart (k _ _ (Y _ _ ho)) (wpAny_pure q))), (fun h tp dd its n sl Y t => by
        by_cases z : D = tp
        · subst z
          exact absurd ((Y _ _ ho).symm.trans t) (fun z => by cases z)
        · exact Bool.eq_false_iff.mpr fun b => z (Value.ref.inj (beq_iff_eq.mp b))), (fun Y J q => cls_asked C Y J q)⟩
  · cases e
end
def rIsXd (K : PySem.W.Frag) (D : Addr) : List V → Hp → VK → Prop := fun xs H Q => ∃ (a dd : Addr) (fs : List (Str × V)) (c : V) (cv : Value) (b : Bool), xs = [.ref a, c] ∧ H a = some (ExK (.ref D) (some dd) a) ∧ H dd = some (.xd fs) ∧ (∀ u, RelV c u → u = cv) ∧ PySem.W.kitOne K (.ref D) cv = some b ∧ Q (.bl b) H
theorem call_isXd {X : Cx} {D : Addr} (C : ExcC X.K D) : CallR X (.builtin "isinstance") (rIsXd X.K D) := by
  intro pins s σ H xs us Q I r h
  obtain ⟨a, dd, fs, c, cv, b, rfl, ha, hd, hcv, e, q⟩ := h
  obtain ⟨u1, u2, rfl, rx, rt⟩ := vals2 r
  cases (show u1 = Value.ref a from rx)
  have ec := hcv _ rt
  subst ec
  obtain ⟨oe, od, J, _⟩ := inst_at I.hok ha hd
  exact PySem.W.kia_one (kit_d C) I.kIn J e (fun z => nomatch z) fun tk => ⟨.bl b, H, I.kept (t' := tk) fun _ _ z => z, rfl, q⟩
end XfK

def topS (i : Nat) : Stmt := PySem.Challenge.pw_passworks_k08_lacking.main.body.getD i (.Pass ⟨0, 0, 0, 0⟩)
abbrev s_NoText___init__ : Stmt := inClass (topS 3) 0
abbrev N_NoText___init__ : List Str := ["self", "words", "row"]
theorem sc_NoText___init__ : FnScope N_NoText___init__ ["self", "words", "row"] (defScope s_NoText___init__) := ⟨rfl, rfl, rfl, by decide +kernel, rfl, by decide +kernel, by decide +kernel⟩
abbrev s_is_number : Stmt := topS 10
abbrev N_is_number : List Str := ["thing"]
theorem sc_is_number : FnScope N_is_number ["thing"] (defScope s_is_number) := ⟨rfl, rfl, rfl, by decide +kernel, rfl, by decide +kernel, by decide +kernel⟩
abbrev s_is_name : Stmt := topS 23
abbrev N_is_name : List Str := ["thing", "sign"]
theorem sc_is_name : FnScope N_is_name ["thing"] (defScope s_is_name) := ⟨rfl, rfl, rfl, by decide +kernel, rfl, by decide +kernel, by decide +kernel⟩
abbrev s_ends_there : Stmt := topS 24
abbrev N_ends_there : List Str := ["statement"]
theorem sc_ends_there : FnScope N_ends_there ["statement"] (defScope s_ends_there) := ⟨rfl, rfl, rfl, by decide +kernel, rfl, by decide +kernel, by decide +kernel⟩
abbrev s_Scope___init__ : Stmt := inClass (topS 25) 0
abbrev N_Scope___init__ : List Str := ["self", "params", "rows", "heads", "name"]
theorem sc_Scope___init__ : FnScope N_Scope___init__ ["self", "params", "rows", "heads"] (defScope s_Scope___init__) := ⟨rfl, rfl, rfl, by decide +kernel, rfl, by decide +kernel, by decide +kernel⟩
abbrev s_Scope_is_variable : Stmt := inClass (topS 25) 1
abbrev N_Scope_is_variable : List Str := ["self", "thing"]
theorem sc_Scope_is_variable : FnScope N_Scope_is_variable ["self", "thing"] (defScope s_Scope_is_variable) := ⟨rfl, rfl, rfl, by decide +kernel, rfl, by decide +kernel, by decide +kernel⟩
abbrev s_Scope_is_row : Stmt := inClass (topS 25) 2
abbrev N_Scope_is_row : List Str := ["self", "thing"]
theorem sc_Scope_is_row : FnScope N_Scope_is_row ["self", "thing"] (defScope s_Scope_is_row) := ⟨rfl, rfl, rfl, by decide +kernel, rfl, by decide +kernel, by decide +kernel⟩
abbrev s_Scope_is_expression : Stmt := inClass (topS 25) 3
abbrev N_Scope_is_expression : List Str := ["self", "thing", "deep", "word"]
theorem sc_Scope_is_expression : FnScope N_Scope_is_expression ["self", "thing", "deep"] (defScope s_Scope_is_expression) := ⟨rfl, rfl, rfl, by decide +kernel, rfl, by decide +kernel, by decide +kernel⟩
abbrev s_Scope_is_call : Stmt := inClass (topS 25) 4
abbrev N_Scope_is_call : List Str := ["self", "thing", "one"]
theorem sc_Scope_is_call : FnScope N_Scope_is_call ["self", "thing"] (defScope s_Scope_is_call) := ⟨rfl, rfl, rfl, by decide +kernel, rfl, by decide +kernel, by decide +kernel⟩
abbrev s_Scope_is_plain : Stmt := inClass (topS 25) 5
abbrev N_Scope_is_plain : List Str := ["self", "thing", "word"]
theorem sc_Scope_is_plain : FnScope N_Scope_is_plain ["self", "thing"] (defScope s_Scope_is_plain) := ⟨rfl, rfl, rfl, by decide +kernel, rfl, by decide +kernel, by decide +kernel⟩
abbrev s_Scope_takes_one : Stmt := inClass (topS 25) 6
abbrev N_Scope_takes_one : List Str := ["self"]
theorem sc_Scope_takes_one : FnScope N_Scope_takes_one ["self"] (defScope s_Scope_takes_one) := ⟨rfl, rfl, rfl, by decide +kernel, rfl, by decide +kernel, by decide +kernel⟩
abbrev s_are_params : Stmt := topS 26
abbrev N_are_params : List Str := ["thing", "one"]
theorem sc_are_params : FnScope N_are_params ["thing"] (defScope s_are_params) := ⟨rfl, rfl, rfl, by decide +kernel, rfl, by decide +kernel, by decide +kernel⟩
abbrev s_is_size : Stmt := topS 27
abbrev N_is_size : List Str := ["thing"]
theorem sc_is_size : FnScope N_is_size ["thing"] (defScope s_is_size) := ⟨rfl, rfl, rfl, by decide +kernel, rfl, by decide +kernel, by decide +kernel⟩
abbrev s_number_by : Stmt := topS 31
abbrev N_number_by : List Str := ["word", "body", "sign"]
theorem sc_number_by : FnScope N_number_by ["word"] (defScope s_number_by) := ⟨rfl, rfl, rfl, by decide +kernel, rfl, by decide +kernel, by decide +kernel⟩
abbrev s_expression_at : Stmt := topS 32
abbrev N_expression_at : List Str := ["words", "place", "deep", "word", "parts"]
theorem sc_expression_at : FnScope N_expression_at ["words", "place", "deep"] (defScope s_expression_at) := ⟨rfl, rfl, rfl, by decide +kernel, rfl, by decide +kernel, by decide +kernel⟩
abbrev s_expressions_at : Stmt := topS 33
abbrev N_expressions_at : List Str := ["words", "place", "many", "deep", "found", "turn", "pair"]
theorem sc_expressions_at : FnScope N_expressions_at ["words", "place", "many", "deep"] (defScope s_expressions_at) := ⟨rfl, rfl, rfl, by decide +kernel, rfl, by decide +kernel, by decide +kernel⟩
abbrev s_all_expressions : Stmt := topS 34
abbrev N_all_expressions : List Str := ["words", "many", "found", "place", "pair"]
theorem sc_all_expressions : FnScope N_all_expressions ["words", "many"] (defScope s_all_expressions) := ⟨rfl, rfl, rfl, by decide +kernel, rfl, by decide +kernel, by decide +kernel⟩
abbrev s_plain_by : Stmt := topS 35
abbrev N_plain_by : List Str := ["words", "word", "names", "es"]
theorem sc_plain_by : FnScope N_plain_by ["words"] (defScope s_plain_by) := ⟨rfl, rfl, rfl, by decide +kernel, rfl, by decide +kernel, by decide +kernel⟩
abbrev s_Open___init__ : Stmt := inClass (topS 36) 0
abbrev N_Open___init__ : List Str := ["self", "kind", "asked"]
theorem sc_Open___init__ : FnScope N_Open___init__ ["self", "kind", "asked"] (defScope s_Open___init__) := ⟨rfl, rfl, rfl, by decide +kernel, rfl, by decide +kernel, by decide +kernel⟩
abbrev s_Open_there : Stmt := inClass (topS 36) 1
abbrev N_Open_there : List Str := ["self"]
theorem sc_Open_there : FnScope N_Open_there ["self"] (defScope s_Open_there) := ⟨rfl, rfl, rfl, by decide +kernel, rfl, by decide +kernel, by decide +kernel⟩
abbrev s_Open_closed : Stmt := inClass (topS 36) 2
abbrev N_Open_closed : List Str := ["self"]
theorem sc_Open_closed : FnScope N_Open_closed ["self"] (defScope s_Open_closed) := ⟨rfl, rfl, rfl, by decide +kernel, rfl, by decide +kernel, by decide +kernel⟩
abbrev s_Reader___init__ : Stmt := inClass (topS 37) 0
abbrev N_Reader___init__ : List Str := ["self"]
theorem sc_Reader___init__ : FnScope N_Reader___init__ ["self"] (defScope s_Reader___init__) := ⟨rfl, rfl, rfl, by decide +kernel, rfl, by decide +kernel, by decide +kernel⟩
abbrev s_Reader_takes : Stmt := inClass (topS 37) 1
abbrev N_Reader_takes : List Str := ["self", "words"]
theorem sc_Reader_takes : FnScope N_Reader_takes ["self", "words"] (defScope s_Reader_takes) := ⟨rfl, rfl, rfl, by decide +kernel, rfl, by decide +kernel, by decide +kernel⟩
abbrev s_Reader_takes_head : Stmt := inClass (topS 37) 2
abbrev N_Reader_takes_head : List Str := ["self", "words", "params"]
theorem sc_Reader_takes_head : FnScope N_Reader_takes_head ["self", "words"] (defScope s_Reader_takes_head) := ⟨rfl, rfl, rfl, by decide +kernel, rfl, by decide +kernel, by decide +kernel⟩
abbrev s_Reader_takes_row : Stmt := inClass (topS 37) 3
abbrev N_Reader_takes_row : List Str := ["self", "words"]
theorem sc_Reader_takes_row : FnScope N_Reader_takes_row ["self", "words"] (defScope s_Reader_takes_row) := ⟨rfl, rfl, rfl, by decide +kernel, rfl, by decide +kernel, by decide +kernel⟩
abbrev s_Reader_takes_end : Stmt := inClass (topS 37) 4
abbrev N_Reader_takes_end : List Str := ["self", "frame"]
theorem sc_Reader_takes_end : FnScope N_Reader_takes_end ["self"] (defScope s_Reader_takes_end) := ⟨rfl, rfl, rfl, by decide +kernel, rfl, by decide +kernel, by decide +kernel⟩
abbrev s_Reader_takes_else : Stmt := inClass (topS 37) 5
abbrev N_Reader_takes_else : List Str := ["self", "frame"]
theorem sc_Reader_takes_else : FnScope N_Reader_takes_else ["self"] (defScope s_Reader_takes_else) := ⟨rfl, rfl, rfl, by decide +kernel, rfl, by decide +kernel, by decide +kernel⟩
abbrev s_Reader_takes_statement : Stmt := inClass (topS 37) 6
abbrev N_Reader_takes_statement : List Str := ["self", "words", "there", "es", "statement"]
theorem sc_Reader_takes_statement : FnScope N_Reader_takes_statement ["self", "words"] (defScope s_Reader_takes_statement) := ⟨rfl, rfl, rfl, by decide +kernel, rfl, by decide +kernel, by decide +kernel⟩
abbrev s_read : Stmt := topS 38
abbrev N_read : List Str := ["text", "lines", "reader", "number", "line", "words", "word"]
theorem sc_read : FnScope N_read ["text"] (defScope s_read) := ⟨rfl, rfl, rfl, by decide +kernel, rfl, by decide +kernel, by decide +kernel⟩
abbrev s__law_cell_at : Stmt := topS 40
abbrev N__law_cell_at : List Str := ["_law_script", "_law_k"]
theorem sc__law_cell_at : FnScope N__law_cell_at ["_law_script", "_law_k"] (defScope s__law_cell_at) := ⟨rfl, rfl, rfl, by decide +kernel, rfl, by decide +kernel, by decide +kernel⟩
abbrev s__law_whole : Stmt := topS 41
abbrev N__law_whole : List Str := ["_law_found"]
theorem sc__law_whole : FnScope N__law_whole ["_law_found"] (defScope s__law_whole) := ⟨rfl, rfl, rfl, by decide +kernel, rfl, by decide +kernel, by decide +kernel⟩
abbrev s__law_held : Stmt := topS 42
abbrev N__law_held : List Str := ["_law_cell"]
theorem sc__law_held : FnScope N__law_held ["_law_cell"] (defScope s__law_held) := ⟨rfl, rfl, rfl, by decide +kernel, rfl, by decide +kernel, by decide +kernel⟩
abbrev s__law_mixed : Stmt := topS 43
abbrev N__law_mixed : List Str := ["_law_cell", "_law_k", "_law_many", "_law_left", "_law_some", "_law_made"]
theorem sc__law_mixed : FnScope N__law_mixed ["_law_cell", "_law_k", "_law_many"] (defScope s__law_mixed) := ⟨rfl, rfl, rfl, by decide +kernel, rfl, by decide +kernel, by decide +kernel⟩
abbrev s__law_kept : Stmt := topS 44
abbrev N__law_kept : List Str := ["_law_words"]
theorem sc__law_kept : FnScope N__law_kept [] (defScope s__law_kept) := ⟨rfl, rfl, rfl, by decide +kernel, rfl, by decide +kernel, by decide +kernel⟩
abbrev s__law_letter : Stmt := topS 45
abbrev N__law_letter : List Str := ["_law_k"]
theorem sc__law_letter : FnScope N__law_letter ["_law_k"] (defScope s__law_letter) := ⟨rfl, rfl, rfl, by decide +kernel, rfl, by decide +kernel, by decide +kernel⟩
abbrev s__law_names : Stmt := topS 46
abbrev N__law_names : List Str := ["_law_cell", "_law_near", "_law_at", "_law_root", "_law_names_here", "_law_start", "_law_k", "_law_letter_here", "_law_name", "_law_j"]
theorem sc__law_names : FnScope N__law_names ["_law_cell"] (defScope s__law_names) := ⟨rfl, rfl, rfl, by decide +kernel, rfl, by decide +kernel, by decide +kernel⟩
abbrev s__law_number_by : Stmt := topS 47
abbrev N__law_number_by : List Str := ["_law_cell", "_law_k", "_law_some"]
theorem sc__law_number_by : FnScope N__law_number_by ["_law_cell", "_law_k"] (defScope s__law_number_by) := ⟨rfl, rfl, rfl, by decide +kernel, rfl, by decide +kernel, by decide +kernel⟩
abbrev s__law_within : Stmt := topS 48
abbrev N__law_within : List Str := ["_law_cell", "_law_k"]
theorem sc__law_within : FnScope N__law_within ["_law_cell", "_law_k"] (defScope s__law_within) := ⟨rfl, rfl, rfl, by decide +kernel, rfl, by decide +kernel, by decide +kernel⟩
abbrev s__law_expression : Stmt := topS 49
abbrev N__law_expression : List Str := ["_law_cell", "_law_deep", "_law_info", "_law_names_here", "_law_rows", "_law_kind", "_law_one", "_law_word", "_law_other"]
theorem sc__law_expression : FnScope N__law_expression ["_law_cell", "_law_deep", "_law_info"] (defScope s__law_expression) := ⟨rfl, rfl, rfl, by decide +kernel, rfl, by decide +kernel, by decide +kernel⟩
abbrev s__law_expressions : Stmt := topS 50
abbrev N__law_expressions : List Str := ["_law_cell", "_law_many", "_law_info", "_law_k"]
theorem sc__law_expressions : FnScope N__law_expressions ["_law_cell", "_law_many", "_law_info"] (defScope s__law_expressions) := ⟨rfl, rfl, rfl, by decide +kernel, rfl, by decide +kernel, by decide +kernel⟩
abbrev s__law_plain : Stmt := topS 51
abbrev N__law_plain : List Str := ["_law_cell", "_law_info", "_law_names_here", "_law_rows", "_law_heads", "_law_word", "_law_es", "_law_x", "_law_place", "_law_head"]
theorem sc__law_plain : FnScope N__law_plain ["_law_cell", "_law_info"] (defScope s__law_plain) := ⟨rfl, rfl, rfl, by decide +kernel, rfl, by decide +kernel, by decide +kernel⟩
abbrev s__law_nest : Stmt := topS 52
abbrev N__law_nest : List Str := ["_law_cell", "_law_way", "_law_cells", "_law_deep", "_law_info", "_law_asked", "_law_yes", "_law_no", "_law_first", "_law_x"]
theorem sc__law_nest : FnScope N__law_nest ["_law_cell", "_law_way", "_law_cells", "_law_deep", "_law_info"] (defScope s__law_nest) := ⟨rfl, rfl, rfl, by decide +kernel, rfl, by decide +kernel, by decide +kernel⟩
abbrev s__law_body : Stmt := topS 53
abbrev N__law_body : List Str := ["_law_cells", "_law_deep", "_law_info", "_law_found", "_law_cell", "_law_way"]
theorem sc__law_body : FnScope N__law_body ["_law_cells", "_law_deep", "_law_info"] (defScope s__law_body) := ⟨rfl, rfl, rfl, by decide +kernel, rfl, by decide +kernel, by decide +kernel⟩
abbrev s__law_inner_cell : Stmt := topS 54
abbrev N__law_inner_cell : List Str := ["_law_script", "_law_first", "_law_k", "_law_j", "_law_late"]
theorem sc__law_inner_cell : FnScope N__law_inner_cell ["_law_script", "_law_first", "_law_k", "_law_j"] (defScope s__law_inner_cell) := ⟨rfl, rfl, rfl, by decide +kernel, rfl, by decide +kernel, by decide +kernel⟩
abbrev s__law_program : Stmt := topS 55
abbrev N__law_program : List Str := ["_law_script", "_law_first", "_law_cell", "_law_names_here", "_law_head", "_law_most", "_law_rows", "_law_helpers", "_law_heads", "_law_k", "_law_own", "_law_params", "_law_cells", "_law_variables", "_law_name", "_law_info", "_law_j", "_law_row"]
theorem sc__law_program : FnScope N__law_program ["_law_script", "_law_first"] (defScope s__law_program) := ⟨rfl, rfl, rfl, by decide +kernel, rfl, by decide +kernel, by decide +kernel⟩
abbrev s__law_words_of : Stmt := topS 56
abbrev N__law_words_of : List Str := ["_law_e", "_law_words", "_law_one"]
theorem sc__law_words_of : FnScope N__law_words_of ["_law_e"] (defScope s__law_words_of) := ⟨rfl, rfl, rfl, by decide +kernel, rfl, by decide +kernel, by decide +kernel⟩
abbrev s__law_statement_lines : Stmt := topS 57
abbrev N__law_statement_lines : List Str := ["_law_s", "_law_words", "_law_part", "_law_e", "_law_lines_here", "_law_one"]
theorem sc__law_statement_lines : FnScope N__law_statement_lines ["_law_s"] (defScope s__law_statement_lines) := ⟨rfl, rfl, rfl, by decide +kernel, rfl, by decide +kernel, by decide +kernel⟩
abbrev s__law_lines : Stmt := topS 58
abbrev N__law_lines : List Str := ["_law_program_here", "_law_lines_here", "_law_name", "_law_params", "_law_body_here", "_law_one", "_law_size"]
theorem sc__law_lines : FnScope N__law_lines ["_law_program_here"] (defScope s__law_lines) := ⟨rfl, rfl, rfl, by decide +kernel, rfl, by decide +kernel, by decide +kernel⟩
abbrev s__law_alike : Stmt := topS 59
abbrev N__law_alike : List Str := ["_law_found", "_law_due", "_law_k"]
theorem sc__law_alike : FnScope N__law_alike ["_law_found", "_law_due"] (defScope s__law_alike) := ⟨rfl, rfl, rfl, by decide +kernel, rfl, by decide +kernel, by decide +kernel⟩
abbrev s__law_class : Stmt := topS 60
abbrev N__law_class : List Str := ["_law_e", "_law_kinds"]
theorem sc__law_class : FnScope N__law_class ["_law_e"] (defScope s__law_class) := ⟨rfl, rfl, rfl, by decide +kernel, rfl, by decide +kernel, by decide +kernel⟩
abbrev s__law_read : Stmt := topS 61
abbrev N__law_read : List Str := ["_law_text", "_law_error", "_law_found", "_law_e"]
theorem sc__law_read : FnScope N__law_read ["_law_text"] (defScope s__law_read) := ⟨rfl, rfl, rfl, by decide +kernel, rfl, by decide +kernel, by decide +kernel⟩
abbrev s_law : Stmt := topS 62
abbrev N_law : List Str := ["_law_script", "_law_program_here", "_law_cell", "_law_lines_here", "_law_at", "_law_told", "_law_more", "_law_line"]
theorem sc_law : FnScope N_law ["_law_script"] (defScope s_law) := ⟨rfl, rfl, rfl, by decide +kernel, rfl, by decide +kernel, by decide +kernel⟩
abbrev FnP (K : PySem.W.Frag) (x : Str) (st : Stmt) (f : Addr) (fd : FuncData) : Prop := FunD K x x (defArgs st) (defBody st) (defScope st) [] [] f fd
abbrev FnM (K : PySem.W.Frag) (x q : Str) (st : Stmt) (f : Addr) (fd : FuncData) : Prop := FunD K x q (defArgs st) (defBody st) (defScope st) [] [] f fd
structure Top (K : PySem.W.Frag) (mg : Str → Option Value) where
  fd_NoText___init__ : FuncData
  F_NoText___init__ : FunD K "__init__" "NoText.__init__" (defArgs s_NoText___init__) (defBody s_NoText___init__) (defScope s_NoText___init__) [.int 0] [] (He.ma K (He.ga K "NoText") "__init__") fd_NoText___init__
  b2_NoText___init__ : ∃ ds, Vals [.int 0] ds ∧ Binds K fd_NoText___init__ ["self", "words", "row"] ds
  b_NoText___init__ : ∃ ds, Vals [] ds ∧ Binds K fd_NoText___init__ ["self", "words", "row"] ds
  fd_is_number : FuncData
  F_is_number : FnP K "is_number" s_is_number (He.ga K "is_number") fd_is_number
  b_is_number : Binds K fd_is_number ["thing"] []
  g_is_number : mg "is_number" = some (.ref (He.ga K "is_number"))
  fd_is_name : FuncData
  F_is_name : FnP K "is_name" s_is_name (He.ga K "is_name") fd_is_name
  b_is_name : Binds K fd_is_name ["thing"] []
  g_is_name : mg "is_name" = some (.ref (He.ga K "is_name"))
  fd_ends_there : FuncData
  F_ends_there : FnP K "ends_there" s_ends_there (He.ga K "ends_there") fd_ends_there
  b_ends_there : Binds K fd_ends_there ["statement"] []
  g_ends_there : mg "ends_there" = some (.ref (He.ga K "ends_there"))
  fd_Scope___init__ : FuncData
  F_Scope___init__ : FnM K "__init__" "Scope.__init__" s_Scope___init__ (He.ma K (He.ga K "Scope") "__init__") fd_Scope___init__
  me_Scope___init__ : Meth K (He.ga K "Scope") "__init__" (He.ma K (He.ga K "Scope") "__init__")
  b_Scope___init__ : Binds K fd_Scope___init__ ["self", "params", "rows", "heads"] []
  fd_Scope_is_variable : FuncData
  F_Scope_is_variable : FnM K "is_variable" "Scope.is_variable" s_Scope_is_variable (He.ma K (He.ga K "Scope") "is_variable") fd_Scope_is_variable
  me_Scope_is_variable : Meth K (He.ga K "Scope") "is_variable" (He.ma K (He.ga K "Scope") "is_variable")
  b_Scope_is_variable : Binds K fd_Scope_is_variable ["self", "thing"] []
  fd_Scope_is_row : FuncData
  F_Scope_is_row : FnM K "is_row" "Scope.is_row" s_Scope_is_row (He.ma K (He.ga K "Scope") "is_row") fd_Scope_is_row
  me_Scope_is_row : Meth K (He.ga K "Scope") "is_row" (He.ma K (He.ga K "Scope") "is_row")
  b_Scope_is_row : Binds K fd_Scope_is_row ["self", "thing"] []
  fd_Scope_is_expression : FuncData
  F_Scope_is_expression : FunD K "is_expression" "Scope.is_expression" (defArgs s_Scope_is_expression) (defBody s_Scope_is_expression) (defScope s_Scope_is_expression) [.int 1] [] (He.ma K (He.ga K "Scope") "is_expression") fd_Scope_is_expression
  me_Scope_is_expression : Meth K (He.ga K "Scope") "is_expression" (He.ma K (He.ga K "Scope") "is_expression")
  b2_Scope_is_expression : ∃ ds, Vals [.int 1] ds ∧ Binds K fd_Scope_is_expression ["self", "thing", "deep"] ds
  b_Scope_is_expression : ∃ ds, Vals [] ds ∧ Binds K fd_Scope_is_expression ["self", "thing", "deep"] ds
  fd_Scope_is_call : FuncData
  F_Scope_is_call : FnM K "is_call" "Scope.is_call" s_Scope_is_call (He.ma K (He.ga K "Scope") "is_call") fd_Scope_is_call
  me_Scope_is_call : Meth K (He.ga K "Scope") "is_call" (He.ma K (He.ga K "Scope") "is_call")
  b_Scope_is_call : Binds K fd_Scope_is_call ["self", "thing"] []
  fd_Scope_is_plain : FuncData
  F_Scope_is_plain : FnM K "is_plain" "Scope.is_plain" s_Scope_is_plain (He.ma K (He.ga K "Scope") "is_plain") fd_Scope_is_plain
  me_Scope_is_plain : Meth K (He.ga K "Scope") "is_plain" (He.ma K (He.ga K "Scope") "is_plain")
  b_Scope_is_plain : Binds K fd_Scope_is_plain ["self", "thing"] []
  fd_Scope_takes_one : FuncData
  F_Scope_takes_one : FnM K "takes_one" "Scope.takes_one" s_Scope_takes_one (He.ma K (He.ga K "Scope") "takes_one") fd_Scope_takes_one
  me_Scope_takes_one : Meth K (He.ga K "Scope") "takes_one" (He.ma K (He.ga K "Scope") "takes_one")
  b_Scope_takes_one : Binds K fd_Scope_takes_one ["self"] []
  fd_are_params : FuncData
  F_are_params : FnP K "are_params" s_are_params (He.ga K "are_params") fd_are_params
  b_are_params : Binds K fd_are_params ["thing"] []
  g_are_params : mg "are_params" = some (.ref (He.ga K "are_params"))
  fd_is_size : FuncData
  F_is_size : FnP K "is_size" s_is_size (He.ga K "is_size") fd_is_size
  b_is_size : Binds K fd_is_size ["thing"] []
  g_is_size : mg "is_size" = some (.ref (He.ga K "is_size"))
  fd_number_by : FuncData
  F_number_by : FnP K "number_by" s_number_by (He.ga K "number_by") fd_number_by
  b_number_by : Binds K fd_number_by ["word"] []
  g_number_by : mg "number_by" = some (.ref (He.ga K "number_by"))
  fd_expression_at : FuncData
  F_expression_at : FunD K "expression_at" "expression_at" (defArgs s_expression_at) (defBody s_expression_at) (defScope s_expression_at) [.int 1] [] (He.ga K "expression_at") fd_expression_at
  b2_expression_at : ∃ ds, Vals [.int 1] ds ∧ Binds K fd_expression_at ["words", "place", "deep"] ds
  b_expression_at : ∃ ds, Vals [] ds ∧ Binds K fd_expression_at ["words", "place", "deep"] ds
  g_expression_at : mg "expression_at" = some (.ref (He.ga K "expression_at"))
  fd_expressions_at : FuncData
  F_expressions_at : FunD K "expressions_at" "expressions_at" (defArgs s_expressions_at) (defBody s_expressions_at) (defScope s_expressions_at) [.int 1] [] (He.ga K "expressions_at") fd_expressions_at
  b3_expressions_at : ∃ ds, Vals [.int 1] ds ∧ Binds K fd_expressions_at ["words", "place", "many", "deep"] ds
  b_expressions_at : ∃ ds, Vals [] ds ∧ Binds K fd_expressions_at ["words", "place", "many", "deep"] ds
  g_expressions_at : mg "expressions_at" = some (.ref (He.ga K "expressions_at"))
  fd_all_expressions : FuncData
  F_all_expressions : FunD K "all_expressions" "all_expressions" (defArgs s_all_expressions) (defBody s_all_expressions) (defScope s_all_expressions) [.non] [] (He.ga K "all_expressions") fd_all_expressions
  b1_all_expressions : ∃ ds, Vals [.non] ds ∧ Binds K fd_all_expressions ["words", "many"] ds
  b_all_expressions : ∃ ds, Vals [] ds ∧ Binds K fd_all_expressions ["words", "many"] ds
  g_all_expressions : mg "all_expressions" = some (.ref (He.ga K "all_expressions"))
  fd_plain_by : FuncData
  F_plain_by : FnP K "plain_by" s_plain_by (He.ga K "plain_by") fd_plain_by
  b_plain_by : Binds K fd_plain_by ["words"] []
  g_plain_by : mg "plain_by" = some (.ref (He.ga K "plain_by"))
  fd_Open___init__ : FuncData
  F_Open___init__ : FnM K "__init__" "Open.__init__" s_Open___init__ (He.ma K (He.ga K "Open") "__init__") fd_Open___init__
  me_Open___init__ : Meth K (He.ga K "Open") "__init__" (He.ma K (He.ga K "Open") "__init__")
  b_Open___init__ : Binds K fd_Open___init__ ["self", "kind", "asked"] []
  fd_Open_there : FuncData
  F_Open_there : FnM K "there" "Open.there" s_Open_there (He.ma K (He.ga K "Open") "there") fd_Open_there
  me_Open_there : Meth K (He.ga K "Open") "there" (He.ma K (He.ga K "Open") "there")
  b_Open_there : Binds K fd_Open_there ["self"] []
  fd_Open_closed : FuncData
  F_Open_closed : FnM K "closed" "Open.closed" s_Open_closed (He.ma K (He.ga K "Open") "closed") fd_Open_closed
  me_Open_closed : Meth K (He.ga K "Open") "closed" (He.ma K (He.ga K "Open") "closed")
  b_Open_closed : Binds K fd_Open_closed ["self"] []
  fd_Reader___init__ : FuncData
  F_Reader___init__ : FnM K "__init__" "Reader.__init__" s_Reader___init__ (He.ma K (He.ga K "Reader") "__init__") fd_Reader___init__
  me_Reader___init__ : Meth K (He.ga K "Reader") "__init__" (He.ma K (He.ga K "Reader") "__init__")
  b_Reader___init__ : Binds K fd_Reader___init__ ["self"] []
  fd_Reader_takes : FuncData
  F_Reader_takes : FnM K "takes" "Reader.takes" s_Reader_takes (He.ma K (He.ga K "Reader") "takes") fd_Reader_takes
  me_Reader_takes : Meth K (He.ga K "Reader") "takes" (He.ma K (He.ga K "Reader") "takes")
  b_Reader_takes : Binds K fd_Reader_takes ["self", "words"] []
  fd_Reader_takes_head : FuncData
  F_Reader_takes_head : FnM K "takes_head" "Reader.takes_head" s_Reader_takes_head (He.ma K (He.ga K "Reader") "takes_head") fd_Reader_takes_head
  me_Reader_takes_head : Meth K (He.ga K "Reader") "takes_head" (He.ma K (He.ga K "Reader") "takes_head")
  b_Reader_takes_head : Binds K fd_Reader_takes_head ["self", "words"] []
  fd_Reader_takes_row : FuncData
  F_Reader_takes_row : FnM K "takes_row" "Reader.takes_row" s_Reader_takes_row (He.ma K (He.ga K "Reader") "takes_row") fd_Reader_takes_row
  me_Reader_takes_row : Meth K (He.ga K "Reader") "takes_row" (He.ma K (He.ga K "Reader") "takes_row")
  b_Reader_takes_row : Binds K fd_Reader_takes_row ["self", "words"] []
  fd_Reader_takes_end : FuncData
  F_Reader_takes_end : FnM K "takes_end" "Reader.takes_end" s_Reader_takes_end (He.ma K (He.ga K "Reader") "takes_end") fd_Reader_takes_end
  me_Reader_takes_end : Meth K (He.ga K "Reader") "takes_end" (He.ma K (He.ga K "Reader") "takes_end")
  b_Reader_takes_end : Binds K fd_Reader_takes_end ["self"] []
  fd_Reader_takes_else : FuncData
  F_Reader_takes_else : FnM K "takes_else" "Reader.takes_else" s_Reader_takes_else (He.ma K (He.ga K "Reader") "takes_else") fd_Reader_takes_else
  me_Reader_takes_else : Meth K (He.ga K "Reader") "takes_else" (He.ma K (He.ga K "Reader") "takes_else")
  b_Reader_takes_else : Binds K fd_Reader_takes_else ["self"] []
  fd_Reader_takes_statement : FuncData
  F_Reader_takes_statement : FnM K "takes_statement" "Reader.takes_statement" s_Reader_takes_statement (He.ma K (He.ga K "Reader") "takes_statement") fd_Reader_takes_statement
  me_Reader_takes_statement : Meth K (He.ga K "Reader") "takes_statement" (He.ma K (He.ga K "Reader") "takes_statement")
  b_Reader_takes_statement : Binds K fd_Reader_takes_statement ["self", "words"] []
  fd_read : FuncData
  F_read : FnP K "read" s_read (He.ga K "read") fd_read
  b_read : Binds K fd_read ["text"] []
  g_read : mg "read" = some (.ref (He.ga K "read"))
  fd__law_cell_at : FuncData
  F__law_cell_at : FnP K "_law_cell_at" s__law_cell_at (He.ga K "_law_cell_at") fd__law_cell_at
  b__law_cell_at : Binds K fd__law_cell_at ["_law_script", "_law_k"] []
  g__law_cell_at : mg "_law_cell_at" = some (.ref (He.ga K "_law_cell_at"))
  fd__law_whole : FuncData
  F__law_whole : FnP K "_law_whole" s__law_whole (He.ga K "_law_whole") fd__law_whole
  b__law_whole : Binds K fd__law_whole ["_law_found"] []
  g__law_whole : mg "_law_whole" = some (.ref (He.ga K "_law_whole"))
  fd__law_held : FuncData
  F__law_held : FnP K "_law_held" s__law_held (He.ga K "_law_held") fd__law_held
  b__law_held : Binds K fd__law_held ["_law_cell"] []
  g__law_held : mg "_law_held" = some (.ref (He.ga K "_law_held"))
  fd__law_mixed : FuncData
  F__law_mixed : FnP K "_law_mixed" s__law_mixed (He.ga K "_law_mixed") fd__law_mixed
  b__law_mixed : Binds K fd__law_mixed ["_law_cell", "_law_k", "_law_many"] []
  g__law_mixed : mg "_law_mixed" = some (.ref (He.ga K "_law_mixed"))
  fd__law_kept : FuncData
  F__law_kept : FnP K "_law_kept" s__law_kept (He.ga K "_law_kept") fd__law_kept
  b__law_kept : Binds K fd__law_kept [] []
  g__law_kept : mg "_law_kept" = some (.ref (He.ga K "_law_kept"))
  fd__law_letter : FuncData
  F__law_letter : FnP K "_law_letter" s__law_letter (He.ga K "_law_letter") fd__law_letter
  b__law_letter : Binds K fd__law_letter ["_law_k"] []
  g__law_letter : mg "_law_letter" = some (.ref (He.ga K "_law_letter"))
  fd__law_names : FuncData
  F__law_names : FnP K "_law_names" s__law_names (He.ga K "_law_names") fd__law_names
  b__law_names : Binds K fd__law_names ["_law_cell"] []
  g__law_names : mg "_law_names" = some (.ref (He.ga K "_law_names"))
  fd__law_number_by : FuncData
  F__law_number_by : FnP K "_law_number_by" s__law_number_by (He.ga K "_law_number_by") fd__law_number_by
  b__law_number_by : Binds K fd__law_number_by ["_law_cell", "_law_k"] []
  g__law_number_by : mg "_law_number_by" = some (.ref (He.ga K "_law_number_by"))
  fd__law_within : FuncData
  F__law_within : FnP K "_law_within" s__law_within (He.ga K "_law_within") fd__law_within
  b__law_within : Binds K fd__law_within ["_law_cell", "_law_k"] []
  g__law_within : mg "_law_within" = some (.ref (He.ga K "_law_within"))
  fd__law_expression : FuncData
  F__law_expression : FnP K "_law_expression" s__law_expression (He.ga K "_law_expression") fd__law_expression
  b__law_expression : Binds K fd__law_expression ["_law_cell", "_law_deep", "_law_info"] []
  g__law_expression : mg "_law_expression" = some (.ref (He.ga K "_law_expression"))
  fd__law_expressions : FuncData
  F__law_expressions : FnP K "_law_expressions" s__law_expressions (He.ga K "_law_expressions") fd__law_expressions
  b__law_expressions : Binds K fd__law_expressions ["_law_cell", "_law_many", "_law_info"] []
  g__law_expressions : mg "_law_expressions" = some (.ref (He.ga K "_law_expressions"))
  fd__law_plain : FuncData
  F__law_plain : FnP K "_law_plain" s__law_plain (He.ga K "_law_plain") fd__law_plain
  b__law_plain : Binds K fd__law_plain ["_law_cell", "_law_info"] []
  g__law_plain : mg "_law_plain" = some (.ref (He.ga K "_law_plain"))
  fd__law_nest : FuncData
  F__law_nest : FnP K "_law_nest" s__law_nest (He.ga K "_law_nest") fd__law_nest
  b__law_nest : Binds K fd__law_nest ["_law_cell", "_law_way", "_law_cells", "_law_deep", "_law_info"] []
  g__law_nest : mg "_law_nest" = some (.ref (He.ga K "_law_nest"))
  fd__law_body : FuncData
  F__law_body : FnP K "_law_body" s__law_body (He.ga K "_law_body") fd__law_body
  b__law_body : Binds K fd__law_body ["_law_cells", "_law_deep", "_law_info"] []
  g__law_body : mg "_law_body" = some (.ref (He.ga K "_law_body"))
  fd__law_inner_cell : FuncData
  F__law_inner_cell : FnP K "_law_inner_cell" s__law_inner_cell (He.ga K "_law_inner_cell") fd__law_inner_cell
  b__law_inner_cell : Binds K fd__law_inner_cell ["_law_script", "_law_first", "_law_k", "_law_j"] []
  g__law_inner_cell : mg "_law_inner_cell" = some (.ref (He.ga K "_law_inner_cell"))
  fd__law_program : FuncData
  F__law_program : FnP K "_law_program" s__law_program (He.ga K "_law_program") fd__law_program
  b__law_program : Binds K fd__law_program ["_law_script", "_law_first"] []
  g__law_program : mg "_law_program" = some (.ref (He.ga K "_law_program"))
  fd__law_words_of : FuncData
  F__law_words_of : FnP K "_law_words_of" s__law_words_of (He.ga K "_law_words_of") fd__law_words_of
  b__law_words_of : Binds K fd__law_words_of ["_law_e"] []
  g__law_words_of : mg "_law_words_of" = some (.ref (He.ga K "_law_words_of"))
  fd__law_statement_lines : FuncData
  F__law_statement_lines : FnP K "_law_statement_lines" s__law_statement_lines (He.ga K "_law_statement_lines") fd__law_statement_lines
  b__law_statement_lines : Binds K fd__law_statement_lines ["_law_s"] []
  g__law_statement_lines : mg "_law_statement_lines" = some (.ref (He.ga K "_law_statement_lines"))
  fd__law_lines : FuncData
  F__law_lines : FnP K "_law_lines" s__law_lines (He.ga K "_law_lines") fd__law_lines
  b__law_lines : Binds K fd__law_lines ["_law_program_here"] []
  g__law_lines : mg "_law_lines" = some (.ref (He.ga K "_law_lines"))
  fd__law_alike : FuncData
  F__law_alike : FnP K "_law_alike" s__law_alike (He.ga K "_law_alike") fd__law_alike
  b__law_alike : Binds K fd__law_alike ["_law_found", "_law_due"] []
  g__law_alike : mg "_law_alike" = some (.ref (He.ga K "_law_alike"))
  fd__law_class : FuncData
  F__law_class : FnP K "_law_class" s__law_class (He.ga K "_law_class") fd__law_class
  b__law_class : Binds K fd__law_class ["_law_e"] []
  g__law_class : mg "_law_class" = some (.ref (He.ga K "_law_class"))
  fd__law_read : FuncData
  F__law_read : FnP K "_law_read" s__law_read (He.ga K "_law_read") fd__law_read
  b__law_read : Binds K fd__law_read ["_law_text"] []
  g__law_read : mg "_law_read" = some (.ref (He.ga K "_law_read"))
  fd_law : FuncData
  F_law : FnP K "law" s_law (He.ga K "law") fd_law
  b_law : Binds K fd_law ["_law_script"] []
  g_law : mg "law" = some (.ref (He.ga K "law"))
  g_WorkError : mg "WorkError" = some (.ref (He.ga K "WorkError"))
  we_WorkError : WeI K (He.ga K "WorkError")
  x_WorkError : PySem.W.excIn K (He.ga K "WorkError") He.veBase "ValueError.__new__" = true ∧ PySem.W.keepIn K (.ref (He.ga K "WorkError")) = true ∧ PySem.W.subIn K (.ref (He.ga K "WorkError")) (.type "BaseException") = some true ∧ PySem.W.typeIn K (.ref (He.ga K "WorkError")) = some (.type "type")
  g_NoText : mg "NoText" = some (.ref (He.ga K "NoText"))
  o_NoText : OexC K (He.ga K "NoText")
  in_NoText : OIn K (He.ga K "NoText") (He.ma K (He.ga K "NoText") "__init__")
  xf_NoText : XfC K (He.ga K "NoText")
  nf_NoText_row : PySem.W.findIn K (.ref (He.ga K "NoText")) "row" = some none
  g_NoInputs : mg "NoInputs" = some (.ref (He.ga K "NoInputs"))
  x_NoInputs : PySem.W.excIn K (He.ga K "NoInputs") He.veBase "ValueError.__new__" = true ∧ PySem.W.keepIn K (.ref (He.ga K "NoInputs")) = true ∧ PySem.W.subIn K (.ref (He.ga K "NoInputs")) (.type "BaseException") = some true ∧ PySem.W.typeIn K (.ref (He.ga K "NoInputs")) = some (.type "type")
  g_NoPass : mg "NoPass" = some (.ref (He.ga K "NoPass"))
  x_NoPass : PySem.W.excIn K (He.ga K "NoPass") He.veBase "ValueError.__new__" = true ∧ PySem.W.keepIn K (.ref (He.ga K "NoPass")) = true ∧ PySem.W.subIn K (.ref (He.ga K "NoPass")) (.type "BaseException") = some true ∧ PySem.W.typeIn K (.ref (He.ga K "NoPass")) = some (.type "type")
  g_NoBoxes : mg "NoBoxes" = some (.ref (He.ga K "NoBoxes"))
  x_NoBoxes : PySem.W.excIn K (He.ga K "NoBoxes") He.veBase "ValueError.__new__" = true ∧ PySem.W.keepIn K (.ref (He.ga K "NoBoxes")) = true ∧ PySem.W.subIn K (.ref (He.ga K "NoBoxes")) (.type "BaseException") = some true ∧ PySem.W.typeIn K (.ref (He.ga K "NoBoxes")) = some (.type "type")
  g_Scope : mg "Scope" = some (.ref (He.ga K "Scope"))
  cl_Scope : Cls K (He.ga K "Scope")
  no_Scope_rows : NoAttr K (He.ga K "Scope") "rows"
  no_Scope_heads : NoAttr K (He.ga K "Scope") "heads"
  no_Scope_known : NoAttr K (He.ga K "Scope") "known"
  no_Scope_many : NoAttr K (He.ga K "Scope") "many"
  mk_Scope : Mk K (He.ga K "Scope") (He.ma K (He.ga K "Scope") "__init__")
  g_Open : mg "Open" = some (.ref (He.ga K "Open"))
  cl_Open : Cls K (He.ga K "Open")
  no_Open_kind : NoAttr K (He.ga K "Open") "kind"
  no_Open_asked : NoAttr K (He.ga K "Open") "asked"
  no_Open_first : NoAttr K (He.ga K "Open") "first"
  no_Open_second : NoAttr K (He.ga K "Open") "second"
  no_Open_turned : NoAttr K (He.ga K "Open") "turned"
  mk_Open : Mk K (He.ga K "Open") (He.ma K (He.ga K "Open") "__init__")
  g_Reader : mg "Reader" = some (.ref (He.ga K "Reader"))
  cl_Reader : Cls K (He.ga K "Reader")
  no_Reader_helpers : NoAttr K (He.ga K "Reader") "helpers"
  no_Reader_heads : NoAttr K (He.ga K "Reader") "heads"
  no_Reader_head : NoAttr K (He.ga K "Reader") "head"
  no_Reader_scope : NoAttr K (He.ga K "Reader") "scope"
  no_Reader_rows : NoAttr K (He.ga K "Reader") "rows"
  no_Reader_frames : NoAttr K (He.ga K "Reader") "frames"
  no_Reader_program : NoAttr K (He.ga K "Reader") "program"
  mk_Reader : Mk K (He.ga K "Reader") (He.ma K (He.ga K "Reader") "__init__")
  em_NoText_WorkError : PySem.W.exmOne K (.ref (He.ga K "NoText")) (.ref (He.ga K "WorkError")) = some true
  xi_NoText : ExcC K (He.ga K "NoText")
  ki_NoText_NoText : PySem.W.kitOne K (.ref (He.ga K "NoText")) (.ref (He.ga K "NoText")) = some true
  ki_NoText_NoInputs : PySem.W.kitOne K (.ref (He.ga K "NoText")) (.ref (He.ga K "NoInputs")) = some false
  ki_NoText_NoPass : PySem.W.kitOne K (.ref (He.ga K "NoText")) (.ref (He.ga K "NoPass")) = some false
  ki_NoText_NoBoxes : PySem.W.kitOne K (.ref (He.ga K "NoText")) (.ref (He.ga K "NoBoxes")) = some false
  ki_NoText_VE : PySem.W.kitOne K (.ref (He.ga K "NoText")) (.type "ValueError") = some true
  m_ValueError : mg "ValueError" = none
  m_all : mg "all" = none
  m_bool : mg "bool" = none
  m_dict : mg "dict" = none
  m_enumerate : mg "enumerate" = none
  m_int : mg "int" = none
  m_isinstance : mg "isinstance" = none
  m_len : mg "len" = none
  m_list : mg "list" = none
  m_max : mg "max" = none
  m_min : mg "min" = none
  m_range : mg "range" = none
  m_set : mg "set" = none
  m_str : mg "str" = none
  m_tuple : mg "tuple" = none
  t_HALF : Tok
  c_HALF : mg "HALF" = some (.int 2147483648 t_HALF)
  c_WORDS : mg "WORDS" = some (.ref (He.ga K "WORDS"))
  q_WORDS : ∀ H : Hp, SqT K H (He.ga K "WORDS") [.str "add", .str "sub", .str "mul", .str "div", .str "rem", .str "less", .str "same"]
  t_LETTERS : Tok
  c_LETTERS : mg "LETTERS" = some (.str "abcdefghijklmnopqrstuvwxyz" t_LETTERS)
  t_MOST_LETTERS : Tok
  c_MOST_LETTERS : mg "MOST_LETTERS" = some (.int 8 t_MOST_LETTERS)
  t_MOST_DEEP : Tok
  c_MOST_DEEP : mg "MOST_DEEP" = some (.int 4 t_MOST_DEEP)
  t_MOST_STATEMENTS : Tok
  c_MOST_STATEMENTS : mg "MOST_STATEMENTS" = some (.int 25 t_MOST_STATEMENTS)
  t_MOST_VARIABLES : Tok
  c_MOST_VARIABLES : mg "MOST_VARIABLES" = some (.int 12 t_MOST_VARIABLES)
  t_MOST_FAIL : Tok
  c_MOST_FAIL : mg "MOST_FAIL" = some (.int 99 t_MOST_FAIL)
  t_MOST_HELPERS : Tok
  c_MOST_HELPERS : mg "MOST_HELPERS" = some (.int 4 t_MOST_HELPERS)
  t_MOST_PARAMS : Tok
  c_MOST_PARAMS : mg "MOST_PARAMS" = some (.int 4 t_MOST_PARAMS)
  t_MOST_ROWS : Tok
  c_MOST_ROWS : mg "MOST_ROWS" = some (.int 3 t_MOST_ROWS)
  t_MOST_SIZE : Tok
  c_MOST_SIZE : mg "MOST_SIZE" = some (.int 8 t_MOST_SIZE)
  c_KEPT : mg "KEPT" = some (.ref (He.ga K "KEPT"))
  q_KEPT : ∀ H : Hp, SqT K H (He.ga K "KEPT") [.str "number", .str "not", .str "at", .str "add", .str "sub", .str "mul", .str "div", .str "rem", .str "less", .str "same", .str "set", .str "put", .str "tell", .str "if", .str "else", .str "end", .str "while", .str "call", .str "fail", .str "give", .str "row", .str "helper", .str "main"]
  t_FIGURES : Tok
  c_FIGURES : mg "FIGURES" = some (.str "0123456789" t_FIGURES)
  t_MOST_SIGNS : Tok
  c_MOST_SIGNS : mg "MOST_SIGNS" = some (.int 11 t_MOST_SIGNS)
/-! data without lists stays -/
mutual
def nLd : PyData → Bool
  | .list _ => false
  | .dict _ => false
  | .tuple xs => nLs xs
  | .none => true
  | .bool _ => true
  | .int _ => true
  | .str _ => true
def nLs : List PyData → Bool
  | [] => true
  | x :: r => nLd x && nLs r
end
theorem sqT_kp {K : PySem.W.Frag} {S : Addr → Prop} {H H' : Hp} {a : Addr} {xs : List V} (k : Kp S H H') (h : SqT K H a xs) : SqT K H' a xs := by
  rcases h with (e | ⟨o, e⟩) | e
  · exact .inl (.inl (k _ _ e fun _ z => z))
  · exact .inl (.inr ⟨o, k _ _ e fun _ z => z⟩)
  · exact .inr e
mutual
theorem dp_kp {K : PySem.W.Frag} {S : Addr → Prop} {H H' : Hp} (k : Kp S H H') : ∀ (d : PyData) (v : V), nLd d = true → Dp K H v d → Dp K H' v d
  | .none, _, _, h => by cases h; exact .non
  | .bool b, _, _, h => by cases h; exact .bl b
  | .int i, _, _, h => by cases h; exact .int i
  | .str x, _, _, h => by cases h; exact .str x
  | .list _, _, n, _ => by cases n
  | .dict _, _, n, _ => by cases n
  | .tuple ds, _, n, h => by
    cases h with
    | tup hs ha => exact .tup (sqT_kp k hs) (dpAll_kp k ds _ n ha)
theorem dpAll_kp {K : PySem.W.Frag} {S : Addr → Prop} {H H' : Hp} (k : Kp S H H') : ∀ (ds : List PyData) (vs : List V), nLs ds = true → DpAll K H vs ds → DpAll K H' vs ds
  | [], _, _, h => by cases h; exact .nil
  | d :: ds, _, n, h => by
    have n2 : nLd d = true ∧ nLs ds = true := by
      unfold nLs at n
      exact Bool.and_eq_true_iff.mp n
    cases h with
    | cons h1 h2 => exact .cons (dp_kp k d _ n2.1 h1) (dpAll_kp k ds _ n2.2 h2)
end
section
variable {K : PySem.W.Frag} {H : Hp}
theorem dp_tup {v : V} {ds : List PyData} (h : Dp K H v (.tuple ds)) : ∃ a xs, v = .ref a ∧ SqT K H a xs ∧ DpAll K H xs ds := by
  cases h with
  | tup h1 h2 => exact ⟨_, _, rfl, h1, h2⟩
theorem dp_str {v : V} {z : Str} (h : Dp K H v (.str z)) : v = .str z := by cases h; rfl
theorem dp_int {v : V} {z : Int} (h : Dp K H v (.int z)) : v = .int z := by cases h; rfl
theorem dpAll_cons {vs : List V} {d : PyData} {ds : List PyData} (h : DpAll K H vs (d :: ds)) : ∃ v r, vs = v :: r ∧ Dp K H v d ∧ DpAll K H r ds := by
  cases h with
  | cons h1 h2 => exact ⟨_, _, rfl, h1, h2⟩
theorem dpAll_nil {vs : List V} (h : DpAll K H vs []) : vs = [] := by cases h; rfl
theorem dpAll_len : ∀ {vs : List V} {ds : List PyData}, DpAll K H vs ds → vs.length = ds.length
  | _, _, .nil => rfl
  | _, _, .cons _ t => by rw [List.length_cons, List.length_cons, dpAll_len t]
theorem dpAll_get : ∀ {vs : List V} {ds : List PyData} {i : Nat} {d : PyData}, DpAll K H vs ds → ds[i]? = some d → ∃ v, vs[i]? = some v ∧ Dp K H v d
  | _, _, _, _, .nil, e => by simp at e
  | _, _, 0, _, .cons h _, e => ⟨_, rfl, (Option.some.inj e) ▸ h⟩
  | _, _, i + 1, _, .cons _ t, e => dpAll_get (i := i) t e
theorem dpAll_getV : ∀ {vs : List V} {ds : List PyData} {i : Nat} {v : V}, DpAll K H vs ds → vs[i]? = some v → ∃ d, ds[i]? = some d ∧ Dp K H v d
  | _, _, _, _, .nil, e => by simp at e
  | _, _, 0, _, .cons h _, e => ⟨_, rfl, (Option.some.inj e) ▸ h⟩
  | _, _, i + 1, _, .cons _ t, e => dpAll_getV (i := i) t e
theorem dpAll_app : ∀ {vs ws : List V} {ds es : List PyData}, DpAll K H vs ds → DpAll K H ws es → DpAll K H (vs ++ ws) (ds ++ es)
  | _, _, _, _, .nil, s => s
  | _, _, _, _, .cons h t, s => .cons h (dpAll_app t s)
theorem dpAll_take : ∀ {vs : List V} {ds : List PyData} (n : Nat), DpAll K H vs ds → DpAll K H (vs.take n) (ds.take n)
  | _, _, 0, _ => .nil
  | _, _, _ + 1, .nil => .nil
  | _, _, n + 1, .cons h t => .cons h (dpAll_take n t)
theorem dpAll_drop : ∀ {vs : List V} {ds : List PyData} (n : Nat), DpAll K H vs ds → DpAll K H (vs.drop n) (ds.drop n)
  | _, _, 0, h => h
  | _, _, _ + 1, .nil => .nil
  | _, _, n + 1, .cons _ t => dpAll_drop n t
theorem dpAll_strs : ∀ {vs : List V} {zs : List Str}, DpAll K H vs (zs.map PyData.str) → vs = zs.map V.str
  | _, [], h => dpAll_nil h
  | _, z :: zs, h => by
    obtain ⟨v, r, rfl, h1, h2⟩ := dpAll_cons h
    rw [dp_str h1, dpAll_strs h2]
    rfl
theorem strs_dpAll : ∀ (zs : List Str), DpAll K H (zs.map V.str) (zs.map PyData.str)
  | [] => .nil
  | z :: zs => .cons (.str z) (strs_dpAll zs)
end

section
variable {P : Program} {w : World} {K : PySem.W.Frag} {mg : Str → Option Value} {base : Heap}
def isB : PyData → Bool
  | .bool _ => true
  | _ => false
def tyS : PyData → String
  | .none => "NoneType"
  | .bool _ => "bool"
  | .int _ => "int"
  | .str _ => "str"
  | .list _ => "list"
  | .tuple _ => "tuple"
  | .dict _ => "dict"
theorem ty_lst {H : Hp} {a : Addr} {xs : List V} (h : SqL K H a xs) : TyX K H (.ref a) (.type "list") := by
  rcases h with (h | ⟨ob, h⟩) | ⟨o, its, n, hk, hc, _⟩
  · exact .base (.lst h)
  · exact .base (.frz h)
  · exact .kList hk hc
theorem ty_tup {H : Hp} {a : Addr} {xs : List V} (h : SqT K H a xs) : TyX K H (.ref a) (.type "tuple") := by
  rcases h with (h | ⟨ob, h⟩) | ⟨o, its, n, hk, hc, _⟩
  · exact .base (.tup h)
  · exact .fTuple h
  · exact .kTuple hk hc
theorem dp_ty {H : Hp} {v : V} {d : PyData} (h : Dp K H v d) : TyX K H v (.type (tyS d)) := by
  cases h with
  | non => exact .base .non
  | bl b => exact .base (.bl b)
  | int i => exact .base (.int i)
  | str x => exact .base (.str x)
  | lst h _ => exact ty_lst h
  | tup h _ => exact ty_tup h
def isI : PyData → Bool
  | .int _ => true
  | .bool _ => true
  | _ => false
def isT : PyData → Bool
  | .tuple _ => true
  | _ => false
def isS : PyData → Bool
  | .str _ => true
  | _ => false
theorem kit_int : ∀ d : PyData, PySem.W.kitOne K (.type (tyS d)) (.type "int") = some (isI d)
  | .none => kit_ty (a := "NoneType") (b := "int") (r := false) (by decide +kernel)
  | .bool _ => kit_ty (a := "bool") (b := "int") (r := true) (by decide +kernel)
  | .int _ => kit_ty (a := "int") (b := "int") (r := true) (by decide +kernel)
  | .str _ => kit_ty (a := "str") (b := "int") (r := false) (by decide +kernel)
  | .list _ => kit_ty (a := "list") (b := "int") (r := false) (by decide +kernel)
  | .tuple _ => kit_ty (a := "tuple") (b := "int") (r := false) (by decide +kernel)
  | .dict _ => kit_ty (a := "dict") (b := "int") (r := false) (by decide +kernel)
theorem kit_bool : ∀ d : PyData, PySem.W.kitOne K (.type (tyS d)) (.type "bool") = some (isB d)
  | .none => kit_ty (a := "NoneType") (b := "bool") (r := false) (by decide +kernel)
  | .bool _ => kit_ty (a := "bool") (b := "bool") (r := true) (by decide +kernel)
  | .int _ => kit_ty (a := "int") (b := "bool") (r := false) (by decide +kernel)
  | .str _ => kit_ty (a := "str") (b := "bool") (r := false) (by decide +kernel)
  | .list _ => kit_ty (a := "list") (b := "bool") (r := false) (by decide +kernel)
  | .tuple _ => kit_ty (a := "tuple") (b := "bool") (r := false) (by decide +kernel)
  | .dict _ => kit_ty (a := "dict") (b := "bool") (r := false) (by decide +kernel)
theorem kit_tup : ∀ d : PyData, PySem.W.kitOne K (.type (tyS d)) (.type "tuple") = some (isT d)
  | .none => kit_ty (a := "NoneType") (b := "tuple") (r := false) (by decide +kernel)
  | .bool _ => kit_ty (a := "bool") (b := "tuple") (r := false) (by decide +kernel)
  | .int _ => kit_ty (a := "int") (b := "tuple") (r := false) (by decide +kernel)
  | .str _ => kit_ty (a := "str") (b := "tuple") (r := false) (by decide +kernel)
  | .list _ => kit_ty (a := "list") (b := "tuple") (r := false) (by decide +kernel)
  | .tuple _ => kit_ty (a := "tuple") (b := "tuple") (r := true) (by decide +kernel)
  | .dict _ => kit_ty (a := "dict") (b := "tuple") (r := false) (by decide +kernel)
theorem kit_str : ∀ d : PyData, PySem.W.kitOne K (.type (tyS d)) (.type "str") = some (isS d)
  | .none => kit_ty (a := "NoneType") (b := "str") (r := false) (by decide +kernel)
  | .bool _ => kit_ty (a := "bool") (b := "str") (r := false) (by decide +kernel)
  | .int _ => kit_ty (a := "int") (b := "str") (r := false) (by decide +kernel)
  | .str _ => kit_ty (a := "str") (b := "str") (r := true) (by decide +kernel)
  | .list _ => kit_ty (a := "list") (b := "str") (r := false) (by decide +kernel)
  | .tuple _ => kit_ty (a := "tuple") (b := "str") (r := false) (by decide +kernel)
  | .dict _ => kit_ty (a := "dict") (b := "str") (r := false) (by decide +kernel)
mutual
theorem dp_sm {H H' : Hp} (k : Same H H') : ∀ {v : V} {d : PyData}, Dp K H v d → Dp K H' v d
  | _, _, .non => .non
  | _, _, .bl b => .bl b
  | _, _, .int i => .int i
  | _, _, .str x => .str x
  | _, _, .lst h da => .lst (k.seq h) (dpAll_sm k da)
  | _, _, .tup h da => .tup (sqT_kp (Kp.of_same (S := fun _ => False) k) h) (dpAll_sm k da)
theorem dpAll_sm {H H' : Hp} (k : Same H H') : ∀ {vs : List V} {ds : List PyData}, DpAll K H vs ds → DpAll K H' vs ds
  | _, _, .nil => .nil
  | _, _, .cons h r => .cons (dp_sm k h) (dpAll_sm k r)
end
/-- a value != a shallow one -/
def rNeE (K : PySem.W.Frag) : R2 := fun x y H Q => ∃ d e, Dp K H x d ∧ Dp K H y e ∧ d.canLay0 = true ∧ e.canLay0 = true ∧ e.depth ≤ 64 ∧ Q (.bl (!PyData.eqv d e)) H
theorem op_neE {X : Cx} (hu : X.A.units + 64 < cLine) : OpR X (compareOp .NotEq) (rNeE X.K) := by
  intro pins s σ H x y v u Q I rx ry h
  obtain ⟨d, e, hd, he, sd, se, de, q⟩ := h
  obtain ⟨as, r1⟩ := Dp.reads I d x v hd rx
  obtain ⟨bs, r2⟩ := Dp.reads I e y u he ry
  refine SeqAt.compareNe_reads r1 r2 sd se ?_ ⟨.bl _, H, I, rfl, q⟩
  have : min d.depth e.depth ≤ e.depth := Nat.min_le_right _ _
  omega
theorem in_strs {z : Str} {ws : List Str} : inV (.str z) (ws.map V.str) = decide (z ∈ ws) := by
  unfold inV
  rw [List.any_map]
  by_cases h : z ∈ ws
  · rw [decide_eq_true h]
    refine List.any_eq_true.mpr ⟨z, h, ?_⟩
    show (z == z) = true
    exact beq_self_eq_true z
  · rw [decide_eq_false h]
    refine List.any_eq_false.mpr fun x hx e => h ?_
    have e2 : (x == z) = true := e
    rw [← eq_of_beq e2]
    exact hx
theorem ifT {c : Bool} {A B : Prop} (hc : c = true) (h : A) : if c = true then A else B := by rw [if_pos hc]; exact h
theorem ifF {c : Bool} {A B : Prop} (hc : c = false) (h : B) : if c = true then A else B := by rw [if_neg (by rw [hc]; exact Bool.false_ne_true)]; exact h
theorem cd {i j : Int} (h0 : 0 < j) (h1 : j < 2 ^ 64) : CDivW i j := wide_div (b := 64) h0 (by omega) (by decide) (by decide)
theorem at_ints2 {ns : List Int} {i : Int} (h0 : 0 ≤ i) (h1 : i < ns.length) : ∃ z, atI (ns.map V.int) i = some (.int z) := ⟨_, at_ints h0 h1⟩
theorem strs_at {zs : List Str} {i : Int} (h0 : 0 ≤ i) (h1 : i < zs.length) : ∃ z ∈ zs, atI (zs.map V.str) i = some (.str z) := by
  obtain ⟨x, hx, e⟩ := at_list (ns := zs.map V.str) h0 (by rw [List.length_map]; exact h1)
  obtain ⟨z, hz, rfl⟩ := List.mem_map.mp hx
  exact ⟨z, hz, e⟩
def Scp (K : PySem.W.Frag) (H : Hp) (a : Addr) (ns : List Int) : Prop := ns.length ≤ 63 ∧ (∀ z ∈ ns, Builtin.Int.intBits z ≤ 1048576) ∧ SqL K H a (ns.map V.int)
theorem Scp.sm {H H' : Hp} {a : Addr} {ns : List Int} (h : Scp K H a ns) (k : Same H H') : Scp K H' a ns := ⟨h.1, h.2.1, k.seq h.2.2⟩
theorem same_upd {H H' : Hp} {D : Addr} {o : HO} (s : Same H H') (n : H D = none) : Same H (upd H' D o) := fun b x hb => by
  rw [upd_ne (ne_of_none hb n)]
  exact s _ _ hb
theorem tail_no {x : V} {zs : List V} : ¬ (HT.sIx (x :: zs).length 0 (some 1) = 0 ∧ HT.sIx (x :: zs).length (x :: zs).length none = (x :: zs).length) := by
  have e1 : HT.sIx (x :: zs).length 0 (some 1) = 1 := by
    show min 1 (zs.length + 1) = 1
    omega
  rw [e1]
  exact fun z => absurd z.1 (by decide)
theorem cut_tail {x : V} {zs : List V} : cutV (x :: zs) (some 1) none = zs := by
  have e1 : HT.sIx (x :: zs).length 0 (some 1) = 1 := by
    show min 1 (zs.length + 1) = 1
    omega
  have e2 : HT.sIx (x :: zs).length (x :: zs).length none = zs.length + 1 := rfl
  unfold cutV
  rw [e1, e2]
  simp
theorem sqT_sm {H H' : Hp} {a : Addr} {xs : List V} (s : Same H H') (h : SqT K H a xs) : SqT K H' a xs := sqT_kp (Kp.of_same (S := fun _ => False) s) h
end

/-! programs, in plain words -/
inductive Ex where
  | num (n : Int)
  | nam (x : Str)
  | at_ (r : Str) (e : Ex)
  | no (e : Ex)
  | op (w : Str) (a b : Ex)
inductive Sm where
  | set (x : Str) (e : Ex)
  | put (r : Str) (e f : Ex)
  | tell (e : Ex)
  | ite (e : Ex) (ys ns : List Sm)
  | loop (e : Ex) (b : List Sm)
  | call (x h : Str) (es : List Ex)
  | fail (n : Int)
  | give (e : Ex)
def Ex.d : Ex → PyData
  | .num n => .tuple [.str "number", .int n]
  | .nam x => .tuple [.str "name", .str x]
  | .at_ r e => .tuple [.str "at", .str r, e.d]
  | .no e => .tuple [.str "not", e.d]
  | .op w a b => .tuple [.str w, a.d, b.d]
mutual
def Sm.d : Sm → PyData
  | .set x e => .tuple [.str "set", .str x, e.d]
  | .put r e f => .tuple [.str "put", .str r, e.d, f.d]
  | .tell e => .tuple [.str "tell", e.d]
  | .ite e ys ns => .tuple [.str "if", e.d, .tuple (Sm.ds ys), .tuple (Sm.ds ns)]
  | .loop e b => .tuple [.str "while", e.d, .tuple (Sm.ds b)]
  | .call x h es => .tuple [.str "call", .str x, .str h, .tuple (es.map Ex.d)]
  | .fail n => .tuple [.str "fail", .int n]
  | .give e => .tuple [.str "give", e.d]
def Sm.ds : List Sm → List PyData
  | [] => []
  | s :: r => s.d :: Sm.ds r
end
theorem Sm.ds_eq : ∀ l : List Sm, Sm.ds l = l.map Sm.d
  | [] => by simp [Sm.ds]
  | s :: r => by rw [Sm.ds, Sm.ds_eq r]; rfl
theorem noLs_all {l : List PyData} (h : ∀ x ∈ l, nLd x = true) : nLs l = true := by
  induction l with
  | nil => rfl
  | cons x r ih =>
    unfold nLs
    rw [h x (List.mem_cons_self ..), ih fun y hy => h y (List.mem_cons_of_mem _ hy)]
    rfl
theorem Ex.noL : ∀ e : Ex, nLd e.d = true
  | .num _ => rfl
  | .nam _ => rfl
  | .at_ r e => by simp [Ex.d, nLd, nLs, Ex.noL e]
  | .no e => by simp [Ex.d, nLd, nLs, Ex.noL e]
  | .op w a b => by simp [Ex.d, nLd, nLs, Ex.noL a, Ex.noL b]
mutual
theorem Sm.noL : ∀ s : Sm, nLd s.d = true
  | .set x e => by simp [Sm.d, nLd, nLs, Ex.noL e]
  | .put r e f => by simp [Sm.d, nLd, nLs, Ex.noL e, Ex.noL f]
  | .tell e => by simp [Sm.d, nLd, nLs, Ex.noL e]
  | .ite e ys ns => by simp [Sm.d, nLd, nLs, Ex.noL e, Sm.noLs ys, Sm.noLs ns]
  | .loop e b => by simp [Sm.d, nLd, nLs, Ex.noL e, Sm.noLs b]
  | .call x h es => by
    have : nLs (es.map Ex.d) = true := noLs_all fun x hx => by
      obtain ⟨e, _, rfl⟩ := List.mem_map.mp hx
      exact Ex.noL e
    simp [Sm.d, nLd, nLs, this]
  | .fail n => rfl
  | .give e => by simp [Sm.d, nLd, nLs, Ex.noL e]
theorem Sm.noLs : ∀ l : List Sm, nLs (Sm.ds l) = true
  | [] => by simp [Sm.ds, nLs]
  | s :: r => by simp [Sm.ds, nLs, Sm.noL s, Sm.noLs r]
end

/-- a number of 32 bits -/
def In32 (a : Int) : Prop := -2147483648 ≤ a ∧ a ≤ 2147483647

/-! cells: a number, or a list of digits that are left and of what goes on behind them -/
def CellOk (H : Hp) (v : V) : Prop := (∃ c : Int, v = .int c) ∨ ∃ (a : Addr) (l t : Int), v = .ref a ∧ H a = some (.lst [.int l, .int t]) ∧ 0 ≤ l ∧ 0 ≤ t
def cellS (v : V) : Addr → Prop := fun b => v = .ref b
section
variable {P : Program} {w : World} {K : PySem.W.Frag} {mg : Str → Option Value} {base : Heap}
def cellA (ns : List Int) (k : Int) : Int := ns.getD k.toNat 0
def sp__law_cell_at (K : PySem.W.Frag) : Sp := fun vs H Q _ => ∃ (a : Addr) (ns : List Int) (k : Int), vs = [.ref a, .int k] ∧ 0 ≤ k ∧ SqL K H a (ns.map V.int) ∧ Q (.int (cellA ns k)) H
theorem ok__law_cell_at (T : Top K mg) : FnOk P w K mg base CX0 1 (He.ga K "_law_cell_at") T.fd__law_cell_at ["_law_script", "_law_k"] (sp__law_cell_at K) := by
  refine T.F__law_cell_at.ok sc__law_cell_at (fun vs H Q E h => ?_) (fun cdv A outer s H vs Q E hr h => ?_)
  · obtain ⟨a, ns, k, rfl, _⟩ := h
    rfl
  · obtain ⟨a, ns, k, rfl, h0, hS, q⟩ := h
    refine ⟨_, PSs.nox (pss_cons (ps_if (pt_cmpR op_lt (pv 1) (pe_callB call_len_seq (by rfl) T.m_len (by decide +kernel) (pa_cons (pv 0) pa_nil)) (nomark _)) (pss_one (ps_ret (pe_ix ix_list (pv 0) (pv 1) (fun _ _ => rfl)))) pss_nil)
        (pss_one (ps_ret pe_int))), ?_⟩
    refine ⟨_, rfl, _, rfl, a, _, rfl, .inl hS, _, _, rfl, rfl, _, rfl, ite2 (fun e => ?_) (fun e => ?_)⟩
    · have e1 : k < (ns.map V.int).length := of_decide_eq_true e
      rw [List.length_map] at e1
      exact ⟨_, rfl, _, rfl, a, _, _, _, rfl, rfl, hS, at_ints h0 e1, q⟩
    · have e1 : ¬ k < (ns.map V.int).length := fun z => e (decide_eq_true z)
      rw [List.length_map] at e1
      have e2 : cellA ns k = 0 := by
        unfold cellA
        have : ns.length ≤ k.toNat := by omega
        simp [List.getD, this]
      rw [e2] at q
      exact q
/-- a number or a new list of two -/
def sp__law_held : Sp := fun vs H Q _ => ∃ c : Int, vs = [.int c] ∧ ∀ H' v, Same H H' → CellOk H' v → (∀ p, v = .ref p → H p = none) → Q v H'
theorem ok__law_held (T : Top K mg) : FnOk P w K mg base CX0 1 (He.ga K "_law_held") T.fd__law_held ["_law_cell"] sp__law_held := by
  refine T.F__law_held.ok sc__law_held (fun vs H Q E h => ?_) (fun cdv A outer s H vs Q E hr h => ?_)
  · obtain ⟨c, rfl, _⟩ := h
    rfl
  · obtain ⟨c, rfl, q⟩ := h
    refine ⟨_, PSs.nox (pss_cons (ps_if (pt_cmpR op_ge (pv 0) (pe_op op_pow pe_int pe_int) (nomark _)) (pss_one (ps_ret (pe_lst (pa_cons (pe_op op_fdivW (pv 0) (pe_op op_pow pe_int pe_int)) (pa_cons (pe_op op_mod (pv 0) pe_int) pa_nil))))) pss_nil)
        (pss_one (ps_ret (pv 0)))), ?_⟩
    have p10 : CDivW c (10 ^ (18 : Int).toNat) := wide_div (b := 64) (by decide) (by decide) (by decide) (by decide)
    refine ⟨_, rfl, _, _, rfl, rfl, ⟨by decide, by decide, by decide⟩, _, _, rfl, rfl, _, rfl, ite2 (fun e => ?_) (fun e => ?_)⟩
    · have e1 : (10 : Int) ^ (18 : Int).toNat ≤ c := of_decide_eq_true e
      have e2 : (0 : Int) < 10 ^ (18 : Int).toNat := by decide
      refine ⟨_, rfl, _, _, rfl, rfl, ⟨by decide, by decide, by decide⟩, _, _, rfl, rfl, p10, ?_⟩
      refine ⟨_, rfl, _, _, rfl, rfl, (by show (0 : Int) < 2147483647; decide), (by show 2 ≤ sizeLine; rw [sizeLine_eq]; decide), fun p np => ?_⟩
      refine q _ _ (same_new np) (.inr ⟨p, _, _, rfl, upd_same, Int.ediv_nonneg (by omega) (Int.le_of_lt e2), Int.emod_nonneg _ (by decide)⟩) fun p' e => ?_
      cases e
      exact np
    · exact ⟨_, rfl, q _ _ (Same.refl _) (.inl ⟨_, rfl⟩) fun p e => nomatch e⟩
def mx : List Int := [99991, 99989, 99971, 99961, 99929, 99923, 99907, 99901, 99881, 99877, 99871]
/-- a draw below many; a list of digits is changed -/
def sp__law_mixed : Sp := fun vs H Q _ => ∃ (v : V) (k m : Int), vs = [v, .int k, .int m] ∧ CellOk H v ∧ 0 ≤ k ∧ k < 2 ^ 20 ∧ 0 < m ∧ m < 2 ^ 64 ∧ ∀ H' r, Kp (cellS v) H H' → CellOk H' v → 0 ≤ r → r < m → Q (.int r) H'
theorem ok__law_mixed (T : Top K mg) : FnOk P w K mg base CX0 1 (He.ga K "_law_mixed") T.fd__law_mixed ["_law_cell", "_law_k", "_law_many"] sp__law_mixed := by
  refine T.F__law_mixed.ok sc__law_mixed (fun vs H Q E h => ?_) (fun cdv A outer s H vs Q E hr h => ?_)
  · obtain ⟨v, k, m, rfl, _⟩ := h
    rfl
  · obtain ⟨v, k, m, rfl, hv, h0, h1, hm, hm2, q⟩ := h
    refine ⟨_, PSs.nox (pss_cons (ps_if (pt_val (pe_callB call_isi (by rfl) T.m_isinstance (by decide +kernel) (pa_cons (pv 0) (pa_cons (pe_bltn (v := .ty "list") (by rfl) T.m_list (by decide +kernel) rfl) pa_nil)))) (pss_cons (ps_set (i := 3) sc__law_mixed.nd rfl (Or.inl rfl) (pe_ix ix_list (pv 0) pe_int (fun _ _ => rfl)))
        (pss_cons (ps_asg (pe_op op_fdivW (pv 3) (pv 2)) (pg_sub (pv 0) pe_int set_list))
        (pss_cons (ps_asg (pe_op op_mod (pe_op op_add (pe_op op_mul (pe_ix ix_list (pv 0) pe_int (fun _ _ => rfl)) pe_int) pe_int) pe_int) (pg_sub (pv 0) pe_int set_list))
        (pss_one (ps_ret (pe_op op_mod (pe_ifExp (pt_cmpR op_gt (pv 3) pe_int (nomark _)) (pv 3) (pe_op op_fdivW (pe_ix ix_list (pv 0) pe_int (fun _ _ => rfl)) pe_int)) (pv 2))))))) pss_nil)
        (pss_cons (ps_set (i := 4) sc__law_mixed.nd rfl (Or.inl rfl) (pe_lst (pa_cons pe_int (pa_cons pe_int (pa_cons pe_int (pa_cons pe_int (pa_cons pe_int (pa_cons pe_int (pa_cons pe_int (pa_cons pe_int (pa_cons pe_int (pa_cons pe_int (pa_cons pe_int pa_nil)))))))))))))
        (pss_cons (ps_set (i := 5) sc__law_mixed.nd rfl (Or.inl rfl) (pe_op op_mod (pe_op op_pow (pe_op op_mod (pe_op op_mul (pe_op op_add (pv 0) (pe_op op_mul pe_int (pv 1))) pe_int) pe_int) pe_int) (pe_ix ix_list (pv 4) (pe_op op_mod (pv 1) pe_int) (fun _ _ => rfl))))
        (pss_one (ps_ret (pe_op op_mod (pe_op op_mod (pe_op op_add (pe_op op_add (pe_op op_mul (pe_op op_mul (pv 5) (pv 5)) pe_int) (pv 5)) (pv 1)) pe_int) (pv 2))))))), ?_⟩
    rcases hv with ⟨c, rfl⟩ | ⟨a, l, t, rfl, ha, hl, ht⟩
    · refine ⟨_, rfl, _, _, _, _, false, rfl, .ty _, .base (.int c), kit_ty (by decide +kernel), false, rfl, ?_⟩
      refine ⟨(by show 11 ≤ sizeLine; rw [sizeLine_eq]; decide), fun p np => ?_⟩
      have hL : SqL K (upd H p (.lst (mx.map V.int))) p (mx.map V.int) := .of upd_same
      have r0 : 0 ≤ k % 11 := Int.emod_nonneg _ (by decide)
      have r1 : k % 11 < 11 := Int.emod_lt_of_pos _ (by decide)
      have hy : ∀ i : Nat, i < 11 → 0 < mx.getD i 0 ∧ mx.getD i 0 < 100000 := by decide
      obtain ⟨y0, y1⟩ := hy (k % 11).toNat (by omega)
      generalize hyy : mx.getD (k % 11).toNat 0 = y at y0 y1
      have a0 : 0 ≤ (c + 104729 * k) * 48271 % 2147483647 := Int.emod_nonneg _ (by decide)
      have a1 : (c + 104729 * k) * 48271 % 2147483647 < 2147483647 := Int.emod_lt_of_pos _ (by decide)
      generalize hx : (c + 104729 * k) * 48271 % 2147483647 = x at a0 a1
      have b0 : 0 ≤ x ^ (5 : Int).toNat % y := Int.emod_nonneg _ (by omega)
      have b1 : x ^ (5 : Int).toNat % y < y := Int.emod_lt_of_pos _ y0
      generalize hd : x ^ (5 : Int).toNat % y = d at b0 b1
      have d0 : 0 ≤ d * d := Int.mul_nonneg b0 b0
      have d1 : d * d ≤ 100000 * 100000 := Int.mul_le_mul (by omega) (by omega) b0 (by decide)
      refine ⟨_, rfl, _, rfl, _, _, rfl, rfl, .inl ⟨by decide, by decide⟩, _, _, rfl, rfl, _, _, rfl, rfl, .inr ⟨by decide, by decide⟩, _, _, rfl, rfl, (by show (0 : Int) < 2147483647; decide), _, _, rfl, rfl, ⟨by decide, by decide, ?_⟩, ?_⟩
      · show ((c + 104729 * k) * 48271 % 2147483647).natAbs < 2 ^ 64
        rw [hx]
        omega
      refine ⟨_, rfl, _, rfl, _, _, rfl, rfl, (by show (0 : Int) < 11; decide), p, _, _, _, rfl, rfl, hL, at_ints r0 (by rw [show (mx.length : Int) = 11 from rfl]; exact r1), _, _, rfl, rfl, ?_, ?_⟩
      · show 0 < mx.getD (k % 11).toNat 0
        rw [hyy]
        exact y0
      simp only [hx, hyy, hd]
      refine ⟨_, rfl, _, rfl, _, _, rfl, rfl, .inl ⟨by omega, by omega⟩, _, _, rfl, rfl, .inr ⟨by decide, by decide⟩, _, rfl, _, _, rfl, rfl, _, rfl, _, _, rfl, rfl, _, _, rfl, rfl, (by show (0 : Int) < 1000003; decide), _, rfl, _, _, rfl, rfl, hm, ?_⟩
      exact q _ _ (.of_same (same_new np)) (.inl ⟨_, rfl⟩) (Int.emod_nonneg _ (by omega)) (Int.emod_lt_of_pos _ hm)
    · refine ⟨_, rfl, _, _, _, _, true, rfl, .ty _, .base (.lst ha), kit_ty (by decide +kernel), true, rfl, ?_⟩
      have mw : CDivW l m := wide_div (b := 64) hm (by omega) (by decide) (by decide)
      have l1 : 0 ≤ l / m := Int.ediv_nonneg hl (Int.le_of_lt hm)
      have t1 : 0 ≤ (t * 48271 + 11) % 2147483647 := Int.emod_nonneg _ (by decide)
      refine ⟨_, rfl, a, _, 0, _, rfl, rfl, .of ha, atI_nat (j := 0) rfl, ?_⟩
      refine ⟨_, rfl, _, rfl, _, _, rfl, rfl, mw, _, rfl, a, _, 0, 0, rfl, rfl, ha, rfl, ?_⟩
      refine ⟨_, rfl, a, _, 1, _, rfl, rfl, .of upd_same, atI_nat (j := 1) rfl, _, _, rfl, rfl, .inr ⟨by decide, by decide⟩, _, _, rfl, rfl, _, _, rfl, rfl, (by show (0 : Int) < 2147483647; decide), _, rfl, a, _, 1, 1, rfl, rfl, upd_same, rfl, ?_⟩
      rw [upd_upd]
      have k1 : Kp (cellS (.ref a)) H (upd H a (.lst [.int (l / m), .int ((t * 48271 + 11) % 2147483647)])) := Kp.upd ha trivial rfl
      have c1 : CellOk (upd H a (.lst [.int (l / m), .int ((t * 48271 + 11) % 2147483647)])) (.ref a) := .inr ⟨a, _, _, rfl, upd_same, l1, t1⟩
      have fin : ∀ x : Int, 0 ≤ x % m ∧ x % m < m := fun x => ⟨Int.emod_nonneg _ (by omega), Int.emod_lt_of_pos _ hm⟩
      refine ⟨_, rfl, _, _, rfl, rfl, _, rfl, ite2 (fun e => ?_) (fun e => ?_)⟩
      · exact ⟨_, rfl, _, rfl, _, _, rfl, rfl, hm, q _ _ k1 c1 (fin _).1 (fin _).2⟩
      · exact ⟨_, rfl, a, _, 1, _, rfl, rfl, .of upd_same, atI_nat (j := 1) rfl, _, _, rfl, rfl, ⟨by decide, by decide⟩, _, rfl, _, _, rfl, rfl, hm, q _ _ k1 c1 (fin _).1 (fin _).2⟩
def keptW : List Str := ["number", "not", "at", "add", "sub", "mul", "div", "rem", "less", "same", "set", "put", "tell", "if", "else", "end", "while", "call", "fail", "give", "row", "helper", "main"]
def sp__law_kept : Sp := fun vs H Q _ => vs = [] ∧ ∀ H' p, Same H H' → H p = none → H' p = some (.lst (keptW.map V.str)) → Q (.ref p) H'
theorem ok__law_kept (T : Top K mg) : FnOk P w K mg base CX0 1 (He.ga K "_law_kept") T.fd__law_kept [] sp__law_kept := by
  refine T.F__law_kept.ok sc__law_kept (fun vs H Q E h => ?_) (fun cdv A outer s H vs Q E hr h => ?_)
  · obtain ⟨rfl, _⟩ := h
    rfl
  · obtain ⟨rfl, q⟩ := h
    refine ⟨_, PSs.nox (pss_cons (ps_set (i := 0) sc__law_kept.nd rfl (Or.inl rfl) (pe_lst (pa_cons pe_str (pa_cons pe_str (pa_cons pe_str (pa_cons pe_str (pa_cons pe_str (pa_cons pe_str (pa_cons pe_str (pa_cons pe_str (pa_cons pe_str (pa_cons pe_str (pa_cons pe_str (pa_cons pe_str (pa_cons pe_str (pa_cons pe_str pa_nil))))))))))))))))
        (pss_one (ps_ret (pe_op op_cat (pv 0) (pe_lst (pa_cons pe_str (pa_cons pe_str (pa_cons pe_str (pa_cons pe_str (pa_cons pe_str (pa_cons pe_str (pa_cons pe_str (pa_cons pe_str (pa_cons pe_str pa_nil)))))))))))))), ?_⟩
    refine ⟨(by show 14 ≤ sizeLine; rw [sizeLine_eq]; decide), fun p1 n1 => ?_⟩
    refine ⟨_, rfl, (by show 9 ≤ sizeLine; rw [sizeLine_eq]; decide), fun p2 n2 => ?_⟩
    have e2 : p1 ≠ p2 := fun z => by
      rw [← z, upd_same] at n2
      cases n2
    refine ⟨p1, p2, _, _, rfl, rfl, by rw [upd_ne e2]; exact upd_same, upd_same, (by show 23 ≤ sizeLine; rw [sizeLine_eq]; decide), fun p3 n3 => ?_⟩
    have s1 := same_new (o := .lst ((keptW.take 14).map V.str)) n1
    have s2 := same_new (o := .lst ((keptW.drop 14).map V.str)) n2
    have s3 := same_new (o := .lst (keptW.map V.str)) n3
    exact q _ p3 (s1.trans (s2.trans s3)) ((s1.trans s2).free n3) upd_same
def abc : Str := "abcdefghijklmnopqrstuvwxyz"
def letr (k : Int) : Nat := 97 + (k % 26).toNat
theorem abc_at : ∀ i : Nat, i < 26 → abc.cps.toList[i]? = some (97 + i) := by decide +kernel
def sp__law_letter : Sp := fun vs H Q _ => ∃ k : Int, vs = [.int k] ∧ Q (.str ⟨#[letr k]⟩) H
theorem ok__law_letter (T : Top K mg) : FnOk P w K mg base CX0 1 (He.ga K "_law_letter") T.fd__law_letter ["_law_k"] sp__law_letter := by
  refine T.F__law_letter.ok sc__law_letter (fun vs H Q E h => ?_) (fun cdv A outer s H vs Q E hr h => ?_)
  · obtain ⟨k, rfl, _⟩ := h
    rfl
  · obtain ⟨k, rfl, q⟩ := h
    refine ⟨_, PSs.nox (pss_one (ps_ret (pe_ix ix_str pe_str (pe_op op_mod (pv 0) pe_int) (fun _ _ => rfl)))), ?_⟩
    have r0 : 0 ≤ k % 26 := Int.emod_nonneg _ (by decide)
    have r1 : k % 26 < 26 := Int.emod_lt_of_pos _ (by decide)
    refine ⟨_, rfl, _, _, rfl, rfl, (by show (0 : Int) < 26; decide), abc, k % 26, letr k, rfl, rfl, (by rw [sizeLine_eq]; decide +kernel), ?_, q⟩
    obtain ⟨i, hi⟩ := Int.eq_ofNat_of_zero_le r0
    unfold letr
    rw [hi]
    exact atI_nat (abc_at i (by omega))
end

/-! names, in plain words -/
def toS (l : List Nat) : Str := ⟨l.toArray⟩
theorem toS_list (l : List Nat) : (toS l).cps.toList = l := by simp [toS]
theorem toS_len (l : List Nat) : (toS l).length = l.length := by simp [toS, Str.length]
theorem of_toS (z : Str) : toS z.cps.toList = z := by
  cases z
  simp [toS]
theorem toS_inj {l m : List Nat} (h : toS l = toS m) : l = m := by rw [← toS_list l, h, toS_list]
theorem len_list (z : Str) : z.length = z.cps.toList.length := by simp [Str.length]
def isLet (c : Nat) : Prop := 97 ≤ c ∧ c ≤ 122
instance (c : Nat) : Decidable (isLet c) := inferInstanceAs (Decidable (97 ≤ c ∧ c ≤ 122))
structure IsNm (z : Str) : Prop where
  lo : 1 ≤ z.length
  hi : z.length ≤ 8
  let_ : ∀ c ∈ z.cps.toList, isLet c
  out : z ∉ keptW
theorem letr_let (k : Int) : isLet (letr k) := by
  unfold isLet letr
  have r0 : 0 ≤ k % 26 := Int.emod_nonneg _ (by decide)
  have r1 : k % 26 < 26 := Int.emod_lt_of_pos _ (by decide)
  omega
def nm1 (root : List Nat) (j c : Nat) : Str := toS (root.take j ++ [c] ++ root.drop j)
def nm2 (root : List Nat) (c : Nat) : Str := toS (c :: c :: root)
def nmF (root : List Nat) (j c : Nat) : Str := if nm1 root j c ∈ keptW then nm2 root c else nm1 root j c
theorem kept_two : ∀ x ∈ keptW, ∀ (c : Nat) (r : List Nat), x.cps.toList ≠ c :: c :: r := by
  have h : (keptW.all fun x => match x.cps.toList with | a :: b :: _ => a != b | _ => true) = true := by decide +kernel
  intro x hx c r e
  have := List.all_eq_true.mp h x hx
  rw [e] at this
  simp at this
theorem nm1_len {root : List Nat} {j c : Nat} : (nm1 root j c).length = root.length + 1 := by
  unfold nm1
  rw [toS_len]
  simp only [List.length_append, List.length_take, List.length_drop, List.length_cons, List.length_nil]
  omega
theorem nmF_ok {root : List Nat} {j c : Nat} (hr : ∀ x ∈ root, isLet x) (hl : root.length ≤ 6) (hc : isLet c) : IsNm (nmF root j c) := by
  unfold nmF
  split
  · refine ⟨?_, ?_, ?_, ?_⟩
    · unfold nm2
      rw [toS_len, List.length_cons]
      omega
    · unfold nm2
      rw [toS_len, List.length_cons, List.length_cons]
      omega
    · unfold nm2
      rw [toS_list]
      intro x hx
      rcases List.mem_cons.mp hx with rfl | hx
      · exact hc
      rcases List.mem_cons.mp hx with rfl | hx
      · exact hc
      exact hr x hx
    · intro h
      exact kept_two _ h c root (by unfold nm2; rw [toS_list])
  · rename_i h
    refine ⟨?_, ?_, ?_, h⟩
    · rw [nm1_len]
      omega
    · rw [nm1_len]
      omega
    · unfold nm1
      rw [toS_list]
      intro x hx
      rcases List.mem_append.mp hx with hx | hx
      · rcases List.mem_append.mp hx with hx | hx
        · exact hr x (List.mem_of_mem_take hx)
        · rw [List.mem_singleton.mp hx]
          exact hc
      · exact hr x (List.mem_of_mem_drop hx)
theorem nmF_inj {root : List Nat} {j c d : Nat} (hj : j ≤ root.length) (h : nmF root j c = nmF root j d) : c = d := by
  have l2 : ∀ x, (nm2 root x).length = root.length + 2 := fun x => by
    unfold nm2
    rw [toS_len]
    rfl
  unfold nmF at h
  split at h <;> split at h
  · have := toS_inj h
    injection this
  · have := congrArg Str.length h
    rw [l2, nm1_len] at this
    omega
  · have := congrArg Str.length h
    rw [l2, nm1_len] at this
    omega
  · have e := toS_inj h
    rw [List.append_assoc, List.append_assoc] at e
    have := List.append_cancel_left e
    injection this
def nameL (root : List Nat) (j : Nat) (st : Int) (n : Nat) : List Str := (List.range n).map fun k : Nat => nmF root j (letr (st + 5 * (k : Int)))
theorem letr_inj {st : Int} {k l : Nat} (hk : k < 16) (hl : l < 16) (h : letr (st + 5 * (k : Int)) = letr (st + 5 * (l : Int))) : k = l := by
  unfold letr at h
  omega
/-- sixteen unlike names -/
structure Nms (ns : List Str) : Prop where
  len : ns.length = 16
  nm : ∀ z ∈ ns, IsNm z
  nd : ns.Nodup
theorem nameL_ok {root : List Nat} {j : Nat} {st : Int} (hr : ∀ x ∈ root, isLet x) (hl : root.length ≤ 6) (hj : j ≤ root.length) : Nms (nameL root j st 16) := by
  refine ⟨by simp [nameL], fun z hz => ?_, ?_⟩
  · obtain ⟨k, _, rfl⟩ := List.mem_map.mp hz
    exact nmF_ok hr hl (letr_let _)
  · unfold nameL
    refine List.pairwise_map.mpr ?_
    refine List.Pairwise.imp_of_mem ?_ List.nodup_range
    intro a b ha hb hne e
    exact hne (letr_inj (List.mem_range.mp ha) (List.mem_range.mp hb) (nmF_inj hj e))
def nearW : List Str := ["adds", "en", "nota", "sett", "rows", "mai", "iff", "elses", "calls", "failed", "gives", "tel"]
def nearX : List Str := ["x", "xx", "xxx", "xxxx"]
def nmB (z : Str) : Bool := decide (1 ≤ z.length) && decide (z.length ≤ 8) && z.cps.toList.all (fun c => decide (isLet c)) && !(keptW.any fun x => decide (x = z))
theorem nmB_ok {z : Str} : nmB z = true ↔ IsNm z := by
  unfold nmB
  simp only [Bool.and_eq_true, decide_eq_true_eq, List.all_eq_true, Bool.not_eq_true', List.any_eq_false]
  constructor
  · rintro ⟨⟨⟨a, b⟩, c⟩, d⟩
    exact ⟨a, b, c, fun h => d z h rfl⟩
  · rintro ⟨a, b, c, d⟩
    exact ⟨⟨⟨a, b⟩, c⟩, fun x hx e => d (e ▸ hx)⟩
theorem near_ok : ∀ j : Nat, j < 12 → Nms (nearW.drop j ++ nearW.take j ++ nearX) := by
  have h1 : (List.range 12).all (fun j => decide ((nearW.drop j ++ nearW.take j ++ nearX).length = 16)) = true := by decide +kernel
  have h2 : (List.range 12).all (fun j => (nearW.drop j ++ nearW.take j ++ nearX).all nmB) = true := by decide +kernel
  have h3 : (List.range 12).all (fun j => decide ((nearW.drop j ++ nearW.take j ++ nearX).Nodup)) = true := by decide +kernel
  intro j hj
  refine ⟨of_decide_eq_true (List.all_eq_true.mp h1 j (List.mem_range.mpr hj)), fun z hz => nmB_ok.mp (List.all_eq_true.mp (List.all_eq_true.mp h2 j (List.mem_range.mpr hj)) z hz), of_decide_eq_true (List.all_eq_true.mp h3 j (List.mem_range.mpr hj))⟩
/-! texts cut and put together -/
theorem cutS_to (z : Str) (j : Nat) : cutS z none (some (j : Int)) = toS (z.cps.toList.take j) := by
  unfold cutS toS
  rw [HT.sIx_none, HT.sIx_nat, List.drop_zero, len_list, Nat.sub_zero]
  congr 2
  rw [← List.take_take, List.take_length]
theorem cutS_from (z : Str) (j : Nat) : cutS z (some (j : Int)) none = toS (z.cps.toList.drop j) := by
  unfold cutS toS
  rw [HT.sIx_none, HT.sIx_nat, len_list]
  congr 2
  rcases Nat.le_total j z.cps.toList.length with h | h
  · rw [Nat.min_eq_left h, List.take_of_length_le (by rw [List.length_drop]; omega)]
  · rw [Nat.min_eq_right h, List.drop_length, List.drop_of_length_le h, List.take_nil]
theorem add_toS (l m : List Nat) : toS l ++ toS m = toS (l ++ m) := by
  show (⟨l.toArray ++ m.toArray⟩ : Str) = _
  simp [toS]
theorem flat_strs (ws : List Str) : (ws.map V.str).all flatV = true := by
  rw [List.all_map]
  exact List.all_eq_true.mpr fun _ _ => rfl

theorem CellOk.same {H H' : Hp} {v : V} (h : CellOk H v) (k : Same H H') : CellOk H' v := by
  rcases h with h | ⟨a, l, t, e, ha, h1, h2⟩
  · exact .inl h
  · exact .inr ⟨a, l, t, e, k _ _ ha, h1, h2⟩
theorem CellOk.fresh {H : Hp} {v : V} {p : Addr} (h : CellOk H v) (k : H p = none) : ¬ cellS v p := by
  rcases h with ⟨c, rfl⟩ | ⟨a, l, t, rfl, ha, h1, h2⟩
  · intro z
    cases z
  · intro z
    cases z
    rw [k] at ha
    cases ha
theorem CellOk.upd {H : Hp} {v : V} {p : Addr} {o : HO} (h : CellOk H v) (k : ¬ cellS v p) : CellOk (upd H p o) v := by
  rcases h with h | ⟨a, l, t, rfl, ha, h1, h2⟩
  · exact .inl h
  · refine .inr ⟨a, l, t, rfl, ?_, h1, h2⟩
    rw [upd_ne (fun z => k (by rw [z]; rfl))]
    exact ha
theorem cutV_to (xs : List V) (j : Nat) : cutV xs none (some (j : Int)) = xs.take j := by
  unfold cutV
  rw [HT.sIx_none, HT.sIx_nat, List.drop_zero, Nat.sub_zero, ← List.take_take, List.take_length]
theorem cutV_from (xs : List V) (j : Nat) : cutV xs (some (j : Int)) none = xs.drop j := by
  unfold cutV
  rw [HT.sIx_none, HT.sIx_nat]
  rcases Nat.le_total j xs.length with h | h
  · rw [Nat.min_eq_left h, List.take_of_length_le (by rw [List.length_drop]; omega)]
  · rw [Nat.min_eq_right h, List.drop_length, List.drop_of_length_le h, List.take_nil]
theorem Str_len_append (a b : Str) : (a ++ b).length = a.length + b.length := by
  show (a.cps ++ b.cps).size = _
  rw [Array.size_append]
  rfl
theorem join_ones (ls : List Nat) : Txt.join Str.empty (ls.map fun c => toS [c]) = toS ls := by
  rw [TL.join_eq]
  have h : ∀ l : List Nat, (Str.join Str.empty (l.map fun c => toS [c])).cps.toList = l := by
    intro l
    induction l with
    | nil => rfl
    | cons x r ih =>
      cases r with
      | nil => rfl
      | cons y r =>
        show ((toS [x] ++ Str.empty) ++ Str.join Str.empty ((y :: r).map fun c => toS [c])).cps.toList = _
        show (((toS [x]).cps ++ Str.empty.cps) ++ (Str.join Str.empty ((y :: r).map fun c => toS [c])).cps).toList = _
        rw [Array.toList_append, Array.toList_append, ih]
        rfl
  rw [← of_toS (Str.join _ _), h]
section
variable {P : Program} {w : World} {K : PySem.W.Frag} {mg : Str → Option Value} {base : Heap}
def sp__law_names : Sp := fun vs H Q _ => ∃ c : Int, vs = [.int c] ∧ ∀ H' p ns, Same H H' → H p = none → H' p = some (.lst (ns.map V.str)) → Nms ns → Q (.ref p) H'
theorem ok__law_names (T : Top K mg) : FnOk P w K mg base CX0 2 (He.ga K "_law_names") T.fd__law_names ["_law_cell"] sp__law_names := by
  have G__law_held := ok__law_held (P := P) (w := w) (base := base) T
  have G__law_mixed := ok__law_mixed (P := P) (w := w) (base := base) T
  have G__law_kept := ok__law_kept (P := P) (w := w) (base := base) T
  have G__law_letter := ok__law_letter (P := P) (w := w) (base := base) T
  refine T.F__law_names.ok sc__law_names (fun vs H Q E h => ?_) (fun cdv A outer s H vs Q E hr h => ?_)
  · obtain ⟨c, rfl, _⟩ := h
    rfl
  · obtain ⟨c, rfl, q⟩ := h
    refine ⟨_, PSs.nox (pss_cons (ps_set (i := 0) sc__law_names.nd rfl (Or.inr rfl) (pe_call G__law_held (hr.mono (by omega)) (by rfl) T.g__law_held T.F__law_held.kp T.b__law_held .nil pass0 (pa_cons (pv 0) pa_nil)))
        (pss_cons (ps_if (pt_cmpR op_eq (pe_call G__law_mixed (hr.mono (by omega)) (by rfl) T.g__law_mixed T.F__law_mixed.kp T.b__law_mixed .nil pass0 (pa_cons (pv 0) (pa_cons pe_int (pa_cons pe_int pa_nil)))) pe_int (nomark _)) (pss_cons (ps_set (i := 1) sc__law_names.nd rfl (Or.inl rfl) (pe_lst (pa_cons pe_str (pa_cons pe_str (pa_cons pe_str (pa_cons pe_str (pa_cons pe_str (pa_cons pe_str (pa_cons pe_str (pa_cons pe_str (pa_cons pe_str (pa_cons pe_str (pa_cons pe_str (pa_cons pe_str pa_nil))))))))))))))
        (pss_cons (ps_set (i := 2) sc__law_names.nd rfl (Or.inl rfl) (pe_call G__law_mixed (hr.mono (by omega)) (by rfl) T.g__law_mixed T.F__law_mixed.kp T.b__law_mixed .nil pass0 (pa_cons (pv 0) (pa_cons pe_int (pa_cons pe_int pa_nil)))))
        (pss_one (ps_ret (pe_op op_cat (pe_op op_cat (pe_slice sl_list (pv 1) (po_some (pv 2)) po_none) (pe_slice sl_list (pv 1) po_none (po_some (pv 2)))) (pe_lst (pa_cons pe_str (pa_cons pe_str (pa_cons pe_str (pa_cons pe_str pa_nil)))))))))) pss_nil)
        (pss_cons (ps_set (i := 3) sc__law_names.nd rfl (Or.inl rfl) (pe_join pe_str (pe_lc (own := [("_law_j", 9)]) (by rfl) sc__law_names.nd (pi_range1 (by rfl) T.m_range (pa_cons (pe_call G__law_mixed (hr.mono (by omega)) (by rfl) T.g__law_mixed T.F__law_mixed.kp T.b__law_mixed .nil pass0 (pa_cons (pv 0) (pa_cons pe_int (pa_cons pe_int pa_nil)))) pa_nil)) (blkOk_by (own := [("_law_j", 9)]) (N := N__law_names) (sc := defScope s__law_names) (by decide +kernel)) (fun _ _ _ _ _ => (pg_name (i := 9) sc__law_names.nd rfl (Or.inl rfl))) (fun _ _ _ _ _ => pts_nil) (fun _ _ _ _ _ => (pe_call G__law_letter (hr.mono (by omega)) (by rfl) T.g__law_letter T.F__law_letter.kp T.b__law_letter .nil pass0 (pa_cons (pe_call G__law_mixed (hr.mono (by omega)) (by rfl) T.g__law_mixed T.F__law_mixed.kp T.b__law_mixed .nil pass0 (pa_cons (pv 0) (pa_cons (pe_op op_add pe_int (pv 9)) (pa_cons pe_int pa_nil)))) pa_nil))))))
        (pss_cons (ps_set (i := 2) sc__law_names.nd rfl (Or.inl rfl) (pe_call G__law_mixed (hr.mono (by omega)) (by rfl) T.g__law_mixed T.F__law_mixed.kp T.b__law_mixed .nil pass0 (pa_cons (pv 0) (pa_cons pe_int (pa_cons (pe_op op_add (pe_callB call_len_str (by rfl) T.m_len (by decide +kernel) (pa_cons (pv 3) pa_nil)) pe_int) pa_nil)))))
        (pss_cons (ps_set (i := 4) sc__law_names.nd rfl (Or.inl rfl) (pe_lst pa_nil))
        (pss_cons (ps_set (i := 5) sc__law_names.nd rfl (Or.inl rfl) (pe_call G__law_mixed (hr.mono (by omega)) (by rfl) T.g__law_mixed T.F__law_mixed.kp T.b__law_mixed .nil pass0 (pa_cons (pv 0) (pa_cons pe_int (pa_cons pe_int pa_nil)))))
        (pss_cons (ps_for PassesOwn.never (by rfl) (pi_range1 (by rfl) T.m_range (pa_cons pe_int pa_nil)) (pg_name (i := 6) sc__law_names.nd rfl (Or.inl rfl)) (pss_cons (ps_set (i := 7) sc__law_names.nd rfl (Or.inl rfl) (pe_call G__law_letter (hr.mono (by omega)) (by rfl) T.g__law_letter T.F__law_letter.kp T.b__law_letter .nil pass0 (pa_cons (pe_op op_add (pv 5) (pe_op op_mul pe_int (pv 6))) pa_nil)))
        (pss_cons (ps_set (i := 8) sc__law_names.nd rfl (Or.inl rfl) (pe_op op_add_str (pe_op op_add_str (pe_slice sl_str (pv 3) po_none (po_some (pv 2))) (pv 7)) (pe_slice sl_str (pv 3) (po_some (pv 2)) po_none)))
        (pss_cons (ps_if (pt_cmpR op_in_seq (pv 8) (pe_call0 G__law_kept (hr.mono (by omega)) (by rfl) T.g__law_kept T.F__law_kept.kp T.b__law_kept .nil pass0) (by rfl)) (pss_one (ps_set (i := 8) sc__law_names.nd rfl (Or.inl rfl) (pe_op op_add_str (pe_op op_add_str (pv 7) (pv 7)) (pv 3)))) pss_nil)
        (pss_one (ps_expr (pe_bm PySem.F.plainAttrs_list PySem.F.slot_list_append PySem.F.type_list_append mt_append (pv 4) (pa_cons (pv 8) pa_nil))))))))
        (pss_one (ps_ret (pv 4)))))))))), ?_⟩
    refine ⟨_, rfl, c, rfl, fun H1 v s1 c1 f1 => ?_⟩
    have nS : ∀ b, cellS v b → H b = none := fun b e => f1 b e
    refine ⟨_, rfl, v, 1, 5, rfl, c1, by decide, by decide, by decide, by decide, fun H2 r k2 c2 _ _ => ?_⟩
    have s2 := Kp.same s1 k2 nS
    refine ⟨rfl, _, rfl, ite2 (fun _ => ?_) (fun _ => ?_)⟩
    · refine ⟨(by show 12 ≤ sizeLine; rw [sizeLine_eq]; decide), fun p1 n1 => ?_⟩
      have s3 := s2.trans (same_new (o := .lst (nearW.map V.str)) n1)
      have c3 : CellOk (upd H2 p1 (.lst (nearW.map V.str))) v := c2.same (same_new n1)
      have nc : ¬ cellS v p1 := c2.fresh n1
      refine ⟨_, rfl, v, 2, 12, rfl, c3, by decide, by decide, by decide, by decide, fun H4 j k4 c4 j0 j1 => ?_⟩
      have s4 := Kp.same s3 k4 nS
      have e4 : H4 p1 = some (.lst (nearW.map V.str)) := k4 _ _ upd_same fun z => absurd z nc
      obtain ⟨j, rfl⟩ := Int.eq_ofNat_of_zero_le j0
      refine ⟨_, rfl, _, rfl, _, rfl, p1, _, rfl, .of e4, fun p2 n2 => ?_⟩
      have s5 := same_new (o := .lst (cutV (nearW.map V.str) (some (j : Int)) none)) n2
      refine ⟨_, rfl, _, rfl, _, rfl, p1, _, rfl, .of (s5 _ _ e4), fun p3 n3 => ?_⟩
      have s6 := same_new (o := .lst (cutV (nearW.map V.str) none (some (j : Int)))) n3
      have l1 : ∀ a b, (cutV (nearW.map V.str) a b).length ≤ 12 := fun a b => cutV_length _ _ _
      have b1 := l1 (some (j : Int)) none
      have b2 := l1 none (some (j : Int))
      refine ⟨p2, p3, _, _, rfl, rfl, s6 _ _ upd_same, upd_same, (by rw [sizeLine_eq]; omega), fun p4 n4 => ?_⟩
      have s7 := same_new (o := .lst (cutV (nearW.map V.str) (some (j : Int)) none ++ cutV (nearW.map V.str) none (some (j : Int)))) n4
      refine ⟨(by show 4 ≤ sizeLine; rw [sizeLine_eq]; decide), fun p5 n5 => ?_⟩
      have s8 := same_new (o := .lst (nearX.map V.str)) n5
      refine ⟨p4, p5, _, _, rfl, rfl, s8 _ _ upd_same, upd_same, (by rw [sizeLine_eq, List.length_append]; simp only [List.length_cons, List.length_nil]; omega), fun p6 n6 => ?_⟩
      have s9 := (s4.trans (s5.trans (s6.trans (s7.trans s8))))
      refine q _ p6 (nearW.drop j ++ nearW.take j ++ nearX) (s9.trans (same_new n6)) (s9.free n6) ?_ (near_ok j (by omega))
      rw [upd_same, cutV_from, cutV_to, List.map_append, List.map_append, List.map_drop, List.map_take]
      rfl
    · have s3 : ∀ H3, Kp (cellS v) H2 H3 → Same H H3 := fun H3 k3 => Kp.same s2 k3 nS
      refine ⟨⟨_, rfl⟩, _, rfl, v, 2, 7, rfl, c2, by decide, by decide, by decide, by decide, fun H3 n k3 c3 n0 n1 => ?_⟩
      refine ⟨n, rfl, by omega, by omega, fun D nD => ?_⟩
      have nc : ¬ cellS v D := c3.fresh nD
      have nH : H D = none := (s3 _ k3).free nD
      refine lc_range (lo := 0) (n := n.toNat) (fun i H' => Kp (cellS v) H2 H' ∧ CellOk H' v ∧ ∃ ls : List Nat, ls.length = i ∧ (∀ x ∈ ls, isLet x) ∧ H' D = some (.lst ((ls.map fun c => toS [c]).map V.str))) ?_ ?_ ?_
      · exact ⟨k3.trans (.of_same (same_new nD)), c3.same (same_new nD), [], rfl, by simp, upd_same⟩
      · rintro i H' hi ⟨k4, c4, ls, l1, l2, l3⟩
        refine ⟨rfl, _, rfl, _, rfl, _, _, rfl, rfl, v, 3 + (0 + (i : Int)), 26, rfl, c4, by omega, by omega, by decide, by decide, fun H5 r5 k5 c5 r50 r51 => ?_⟩
        have e5 : H5 D = some (.lst ((ls.map fun c => toS [c]).map V.str)) := k5 _ _ l3 fun z => absurd z nc
        refine ⟨r5, rfl, _, e5, ?_, ?_, ?_, ls ++ [letr r5], ?_, ?_, ?_⟩
        · rw [List.length_map, List.length_map, l1, sizeLine_eq]
          omega
        · refine fun b o hb hk => ?_
          have nb : b ≠ D := fun z => by
            subst z
            have h2 : H3 b = some o := k3 b o hb hk
            rw [nD] at h2
            cases h2
          rw [upd_ne nb]
          exact (k4.trans k5) b o hb hk
        · exact c5.upd nc
        · rw [List.length_append, l1]
          rfl
        · intro x hx
          rcases List.mem_append.mp hx with hx | hx
          · exact l2 x hx
          · rw [List.mem_singleton.mp hx]
            exact letr_let _
        · rw [upd_same, List.map_append, List.map_append]
          rfl
      · rintro H' ⟨k4, c4, root, l1, l2, l3⟩
        have hl : root.length ≤ 6 := by omega
        refine ⟨Str.empty, D, _, rfl, rfl, .inl (.of l3), ?_, ?_⟩
        · rw [List.map_map]
          have e1 : (root.map ((·.length) ∘ fun c => toS [c])) = root.map fun _ => 1 := by
            apply List.map_congr_left
            intro x _
            rw [Function.comp_apply, toS_len]
            rfl
          rw [e1]
          have e2 : ∀ l : List Nat, (l.map fun _ => 1).sum = l.length := by
            intro l
            induction l with
            | nil => rfl
            | cons x r ih => rw [List.map_cons, List.sum_cons, ih, List.length_cons]; omega
          rw [e2]
          have e3 : Str.empty.length = 0 := rfl
          rw [e3]
          omega
        rw [join_ones]
        generalize hz : toS root = z
        have zl : z.length = root.length := by rw [← hz, toS_len]
        have zc : z.cps.toList = root := by rw [← hz, toS_list]
        refine ⟨_, rfl, _, rfl, z, rfl, by rw [zl, sizeLine_eq]; omega, _, _, rfl, rfl, v, 9, (z.length : Int) + 1, rfl, c4, by decide, by decide, by omega, by rw [zl]; omega, fun H5 j k5 c5 j0 j1 => ?_⟩
        obtain ⟨j, rfl⟩ := Int.eq_ofNat_of_zero_le j0
        have hj : j ≤ root.length := by omega
        refine ⟨Nat.zero_le _, fun L nL => ?_⟩
        have k6 : Kp (cellS v) H2 (upd H5 L (.lst [])) := (k4.trans k5).trans (.of_same (same_new nL))
        have c6 : CellOk (upd H5 L (.lst [])) v := c5.same (same_new nL)
        have ncL : ¬ cellS v L := c5.fresh nL
        have nHL : H L = none := (s3 _ (k4.trans k5)).free nL
        refine ⟨_, rfl, v, 10, 26, rfl, c6, by decide, by decide, by decide, by decide, fun H7 st k7 c7 st0 st1 => ?_⟩
        have e7 : H7 L = some (.lst []) := k7 _ _ upd_same fun z => absurd z ncL
        have sm7 := s3 _ (k6.trans k7)
        refine ⟨16, rfl, by decide, by decide, for_range (lo := 0) (n := 16) (fun i σ' H' => Same H H' ∧ H' L = some (.lst ((nameL root j st i).map V.str)) ∧ ∃ x6 x7 x8 x9, σ' = [some v, none, some (.int j), some (.str z), some (.ref L), some (.int st), x6, x7, x8, x9]) ?_ ?_ ?_⟩
        · exact ⟨sm7, e7, none, none, none, none, rfl⟩
        · rintro i σ' H8 hi ⟨s8, e8, x6, x7, x8, x9, rfl⟩
          refine ⟨_, rfl, _, rfl, _, _, rfl, rfl, .inl ⟨by decide, by decide⟩, _, _, rfl, rfl, _, rfl, ?_⟩
          generalize hc : letr (st + 5 * (0 + (i : Int))) = c
          have zb : z.length ≤ sizeLine := by rw [zl, sizeLine_eq]; omega
          have hcs : ∀ a b, (cutS z a b).length ≤ 6 := fun a b => by
            unfold cutS
            show (List.toArray _).size ≤ 6
            rw [List.size_toArray, List.length_take, List.length_drop, ← len_list]
            omega
          have h1 := hcs none (some (j : Int))
          have h2 := hcs (some (j : Int)) none
          have h3 : (⟨#[c]⟩ : Str).length = 1 := rfl
          refine ⟨_, rfl, _, rfl, _, rfl, z, rfl, zb, _, rfl, _, _, rfl, rfl, by rw [h3, sizeLine_eq]; omega, ?_⟩
          refine ⟨_, rfl, _, rfl, _, rfl, z, rfl, zb, _, _, rfl, rfl, ?_, ?_⟩
          · have := Str_len_append (cutS z none (some (j : Int))) ⟨#[c]⟩
            rw [this, h3, sizeLine_eq]
            omega
          rw [show (cutS z none (some (j : Int)) ++ (⟨#[c]⟩ : Str)) ++ cutS z (some (j : Int)) none = nm1 root j c by
            rw [cutS_to, cutS_from, show (⟨#[c]⟩ : Str) = toS [c] from rfl, add_toS, add_toS, zc]
            rfl]
          dsimp only [gName]
          refine ifs_by (fun σ' H' => Same H H' ∧ H' L = some (.lst ((nameL root j st i).map V.str)) ∧ ∃ x6 x7, σ' = [some v, none, some (.int j), some (.str z), some (.ref L), some (.int st), x6, x7, some (.str (nmF root j c)), x9]) ?_ ?_
          · rintro σ' H9 ⟨s9, e9, x6, x7, rfl⟩
            refine ⟨_, rfl, .inl ⟨rfl, _, .of e9⟩, _, rfl, L, _, _, rfl, rfl, e9, ?_, ?_, ?_, ?_⟩
            · unfold nameL
              rw [List.length_map, List.length_map, List.length_range, sizeLine_eq]
              omega
            · intro b o hb
              rw [upd_ne (ne_of_none hb nHL)]
              exact s9 b o hb
            · rw [upd_same]
              unfold nameL
              rw [List.range_succ, List.map_append, List.map_append, ← hc, Int.zero_add]
              rfl
            · exact ⟨_, _, _, _, rfl⟩
          · intro N hN
            refine ⟨_, rfl, rfl, fun H9 pk s9 npk epk => ?_⟩
            have e9 := s9 _ _ e8
            refine ⟨pk, _, rfl, .inl (.of epk), rfl, flat_strs _, _, rfl, ?_⟩
            dsimp only
            rw [if_neg Bool.false_ne_true, in_strs]
            refine ite2 (fun e => ?_) (fun e => ?_)
            · have ek := of_decide_eq_true e
              refine ⟨_, rfl, _, rfl, _, _, rfl, rfl, by rw [h3, sizeLine_eq]; decide, _, rfl, _, _, rfl, rfl, ?_, ?_⟩
              · have := Str_len_append (⟨#[c]⟩ : Str) ⟨#[c]⟩
                rw [this, h3, zl, sizeLine_eq]
                omega
              · refine hN _ _ ⟨s8.trans s9, e9, some (.int (0 + (i : Int))), some (.str ⟨#[c]⟩), ?_⟩
                rw [show nmF root j c = nm2 root c from if_pos ek]
                rw [show ((⟨#[c]⟩ : Str) ++ ⟨#[c]⟩) ++ z = nm2 root c by
                  rw [← hz, show (⟨#[c]⟩ : Str) = toS [c] from rfl, add_toS, add_toS]
                  rfl]
                rfl
            · have ek : ¬ nm1 root j c ∈ keptW := fun z => e (decide_eq_true z)
              refine hN _ _ ⟨s8.trans s9, e9, some (.int (0 + (i : Int))), some (.str ⟨#[c]⟩), ?_⟩
              rw [show nmF root j c = nm1 root j c from if_neg ek]
              rfl
        · rintro σ' H8 ⟨s8, e8, x6, x7, x8, x9, rfl⟩
          exact ⟨_, rfl, q _ L _ s8 nHL e8 (nameL_ok l2 hl hj)⟩
end

def wds7 : List Str := ["add", "sub", "mul", "div", "rem", "less", "same"]
def Ex.Wf (nms rws : List Str) : Nat → Ex → Prop
  | 0, _ => False
  | _ + 1, .num n => In32 n
  | _ + 1, .nam x => x ∈ nms
  | d + 1, .at_ r e => r ∈ rws ∧ e.Wf nms rws d
  | d + 1, .no e => e.Wf nms rws d
  | d + 1, .op w a b => w ∈ wds7 ∧ a.Wf nms rws d ∧ b.Wf nms rws d
theorem Ex.Wf.mono {nms rws : List Str} : ∀ {d k : Nat} {e : Ex}, d ≤ k → e.Wf nms rws d → e.Wf nms rws k
  | 0, _, _, _, h => h.elim
  | d + 1, 0, _, hk, _ => by omega
  | d + 1, k + 1, .num n, _, h => h
  | d + 1, k + 1, .nam x, _, h => h
  | d + 1, k + 1, .at_ r e, hk, h => ⟨h.1, Ex.Wf.mono (d := d) (by omega) h.2⟩
  | d + 1, k + 1, .no e, hk, h => Ex.Wf.mono (d := d) (e := e) (by omega) h
  | d + 1, k + 1, .op w a b, hk, h => ⟨h.1, Ex.Wf.mono (d := d) (by omega) h.2.1, Ex.Wf.mono (d := d) (by omega) h.2.2⟩
/-- names, rows and heads that a drawer is handed -/
structure Info (K : PySem.W.Frag) (H : Hp) (v : V) (nms rws : List Str) (hds : List (Str × Nat)) (a b c : Addr) : Prop where
  tup : ∃ p, v = .ref p ∧ SqT K H p [.ref a, .ref b, .ref c]
  a : H a = some (.lst (nms.map V.str))
  b : H b = some (.lst (rws.map V.str))
  c : ∃ hs, H c = some (.lst hs) ∧ DpAll K H hs (hds.map fun q => .tuple [.str q.1, .int q.2])
theorem heads_noL (hds : List (Str × Nat)) : nLs (hds.map fun q => .tuple [.str q.1, .int q.2]) = true := noLs_all fun x hx => by
  obtain ⟨q, _, rfl⟩ := List.mem_map.mp hx
  rfl
def Off (S : Addr → Prop) (a b c : Addr) : Prop := ¬ S a ∧ ¬ S b ∧ ¬ S c
theorem Info.kp {K : PySem.W.Frag} {H H' : Hp} {v : V} {nms rws : List Str} {hds : List (Str × Nat)} {a b c : Addr} {S : Addr → Prop} (h : Info K H v nms rws hds a b c) (k : Kp S H H') (o : Off S a b c) : Info K H' v nms rws hds a b c := by
  obtain ⟨⟨p, rfl, h1⟩, h2, h3, hs, h4, h5⟩ := h
  exact ⟨⟨p, rfl, sqT_kp k h1⟩, k _ _ h2 fun z => absurd z o.1, k _ _ h3 fun z => absurd z o.2.1, hs, k _ _ h4 fun z => absurd z o.2.2, dpAll_kp k _ _ (heads_noL hds) h5⟩
section
variable {P : Program} {w : World} {K : PySem.W.Frag} {mg : Str → Option Value} {base : Heap}
def sp__law_number_by : Sp := fun vs H Q _ => ∃ (v : V) (k : Int), vs = [v, .int k] ∧ CellOk H v ∧ 0 ≤ k ∧ k < 1000 ∧ ∀ H' n, Kp (cellS v) H H' → CellOk H' v → In32 n → Q (.int n) H'
theorem ok__law_number_by (T : Top K mg) : FnOk P w K mg base CX0 2 (He.ga K "_law_number_by") T.fd__law_number_by ["_law_cell", "_law_k"] sp__law_number_by := by
  have G__law_mixed := ok__law_mixed (P := P) (w := w) (base := base) T
  refine T.F__law_number_by.ok sc__law_number_by (fun vs H Q E h => ?_) (fun cdv A outer s H vs Q E hr h => ?_)
  · obtain ⟨v, k, rfl, _⟩ := h
    rfl
  · obtain ⟨v, k, rfl, hv, h0, h1, q⟩ := h
    refine ⟨_, PSs.nox (pss_cons (ps_set (i := 2) sc__law_number_by.nd rfl (Or.inl rfl) (pe_lst (pa_cons pe_int (pa_cons pe_int (pa_cons (pe_un un_neg pe_int) (pa_cons pe_int (pa_cons pe_int (pa_cons pe_int (pa_cons pe_int (pa_cons (pe_un un_neg pe_int) (pa_cons (pe_op op_sub (pe_call G__law_mixed (hr.mono (by omega)) (by rfl) T.g__law_mixed T.F__law_mixed.kp T.b__law_mixed .nil pass0 (pa_cons (pv 0) (pa_cons (pv 1) (pa_cons pe_int pa_nil)))) pe_int) (pa_cons pe_int (pa_cons (pe_call G__law_mixed (hr.mono (by omega)) (by rfl) T.g__law_mixed T.F__law_mixed.kp T.b__law_mixed .nil pass0 (pa_cons (pv 0) (pa_cons (pv 1) (pa_cons pe_int pa_nil)))) pa_nil)))))))))))))
        (pss_cons (ps_if (pt_val (pe_callB call_isi (by rfl) T.m_isinstance (by decide +kernel) (pa_cons (pv 0) (pa_cons (pe_bltn (v := .ty "list") (by rfl) T.m_list (by decide +kernel) rfl) pa_nil)))) (pss_one (ps_asg (pe_op op_sub (pe_call G__law_mixed (hr.mono (by omega)) (by rfl) T.g__law_mixed T.F__law_mixed.kp T.b__law_mixed .nil pass0 (pa_cons (pv 0) (pa_cons (pv 1) (pa_cons pe_int pa_nil)))) pe_int) (pg_sub (pv 2) pe_int set_list))) pss_nil)
        (pss_one (ps_ret (pe_ix ix_list (pv 2) (pe_call G__law_mixed (hr.mono (by omega)) (by rfl) T.g__law_mixed T.F__law_mixed.kp T.b__law_mixed .nil pass0 (pa_cons (pv 0) (pa_cons (pe_op op_add (pv 1) pe_int) (pa_cons pe_int pa_nil)))) (fun _ _ => rfl)))))), ?_⟩
    refine ⟨_, rfl, _, rfl, _, rfl, _, rfl, v, k, 200, rfl, hv, h0, by omega, by decide, by decide, fun H1 r1 k1 c1 r10 r11 => ?_⟩
    refine ⟨_, _, rfl, rfl, _, rfl, _, rfl, v, k, 10, rfl, c1, h0, by omega, by decide, by decide, fun H2 r2 k2 c2 r20 r21 => ?_⟩
    refine ⟨(by show 11 ≤ sizeLine; rw [sizeLine_eq]; decide), fun L nL => ?_⟩
    have k3 : Kp (cellS v) H (upd H2 L (.lst (([0, 1, -1, 2, 3, 5, 2147483647, -2147483648, r1 - 100, 65536, r2] : List Int).map V.int))) := (k1.trans k2).trans (.of_same (same_new nL))
    have c3 : CellOk (upd H2 L (.lst (([0, 1, -1, 2, 3, 5, 2147483647, -2147483648, r1 - 100, 65536, r2] : List Int).map V.int))) v := c2.same (same_new nL)
    have nc : ¬ cellS v L := c2.fresh nL
    have nH : ∀ H', Kp (cellS v) H H' → H' L = none → H L = none := fun H' k' e => by
      cases z : H L with
      | none => rfl
      | some o =>
        have := k' _ _ z fun y => absurd y nc
        rw [e] at this
        cases this
    have nHL := nH _ (k1.trans k2) nL
    dsimp only [gName]
    refine ifs_by (fun σ' H' => Kp (cellS v) H H' ∧ CellOk H' v ∧ ∃ x : Int, In32 x ∧ H' L = some (.lst (([0, 1, -1, 2, x, 5, 2147483647, -2147483648, r1 - 100, 65536, r2] : List Int).map V.int)) ∧ σ' = [some v, some (.int k), some (.ref L)]) ?_ ?_
    · rintro σ' H4 ⟨k4, c4, x, hx, e4, rfl⟩
      refine ⟨_, rfl, _, rfl, _, rfl, _, _, rfl, rfl, v, k + 1, 11, rfl, c4, by omega, by omega, by decide, by decide, fun H5 j k5 c5 j0 j1 => ?_⟩
      have e5 : H5 L = some (.lst (([0, 1, -1, 2, x, 5, 2147483647, -2147483648, r1 - 100, 65536, r2] : List Int).map V.int)) := k5 _ _ e4 fun z => absurd z nc
      refine ⟨L, _, j, _, rfl, rfl, .of e5, at_ints j0 j1, q _ _ (k4.trans k5) c5 ?_⟩
      refine getD_all (fun y hy => ?_) j0 j1
      simp only [List.mem_cons, List.not_mem_nil, or_false] at hy
      obtain ⟨x1, x2⟩ := hx
      unfold In32
      omega
    · intro N hN
      rcases c3 with ⟨c, rfl⟩ | ⟨a, l, t, rfl, ha, hl, ht⟩
      · refine ⟨_, rfl, _, _, _, _, false, rfl, .ty _, .base (.int c), kit_ty (by decide +kernel), false, rfl, ?_⟩
        exact hN _ _ ⟨k3, .inl ⟨_, rfl⟩, 3, by unfold In32; decide, upd_same, rfl⟩
      · refine ⟨_, rfl, _, _, _, _, true, rfl, .ty _, .base (.lst ha), kit_ty (by decide +kernel), true, rfl, ?_⟩
        refine ⟨_, rfl, _, rfl, .ref a, k, 4294967296, rfl, .inr ⟨a, l, t, rfl, ha, hl, ht⟩, h0, by omega, by decide, by decide, fun H5 r k5 c5 r0 r1 => ?_⟩
        have e5 := k5 _ _ (upd_same (H := H2) (a := L)) fun z => absurd z nc
        refine ⟨_, _, rfl, rfl, _, rfl, L, _, 4, 4, rfl, rfl, e5, rfl, ?_⟩
        refine hN _ _ ⟨?_, c5.upd nc, r - 2147483648, ⟨by omega, by omega⟩, upd_same, rfl⟩
        intro b o hb hk
        have nb : b ≠ L := ne_of_none hb nHL
        rw [upd_ne nb]
        exact (k3.trans k5) b o hb hk
def sp__law_within : Sp := fun vs H Q _ => ∃ (v : V) (k : Int), vs = [v, .int k] ∧ CellOk H v ∧ 0 ≤ k ∧ k < 1000 ∧ ∀ H' v', Kp (cellS v) H H' → CellOk H' v → CellOk H' v' → (v' = v ∨ ∃ c, v' = .int c) → Q v' H'
theorem ok__law_within (T : Top K mg) : FnOk P w K mg base CX0 2 (He.ga K "_law_within") T.fd__law_within ["_law_cell", "_law_k"] sp__law_within := by
  have G__law_mixed := ok__law_mixed (P := P) (w := w) (base := base) T
  refine T.F__law_within.ok sc__law_within (fun vs H Q E h => ?_) (fun cdv A outer s H vs Q E hr h => ?_)
  · obtain ⟨v, k, rfl, _⟩ := h
    rfl
  · obtain ⟨v, k, rfl, hv, h0, h1, q⟩ := h
    refine ⟨_, PSs.nox (pss_cons (ps_if (pt_val (pe_callB call_isi (by rfl) T.m_isinstance (by decide +kernel) (pa_cons (pv 0) (pa_cons (pe_bltn (v := .ty "list") (by rfl) T.m_list (by decide +kernel) rfl) pa_nil)))) (pss_one (ps_ret (pv 0))) pss_nil)
        (pss_one (ps_ret (pe_call G__law_mixed (hr.mono (by omega)) (by rfl) T.g__law_mixed T.F__law_mixed.kp T.b__law_mixed .nil pass0 (pa_cons (pv 0) (pa_cons (pv 1) (pa_cons pe_int pa_nil))))))), ?_⟩
    rcases hv with ⟨c, rfl⟩ | ⟨a, l, t, rfl, ha, hl, ht⟩
    · refine ⟨_, rfl, _, _, _, _, false, rfl, .ty _, .base (.int c), kit_ty (by decide +kernel), false, rfl, ?_⟩
      exact ⟨_, rfl, _, rfl, .int c, k, 1000003, rfl, .inl ⟨_, rfl⟩, h0, by omega, by decide, by decide, fun H1 r k1 c1 _ _ => q _ _ k1 c1 (.inl ⟨_, rfl⟩) (.inr ⟨_, rfl⟩)⟩
    · refine ⟨_, rfl, _, _, _, _, true, rfl, .ty _, .base (.lst ha), kit_ty (by decide +kernel), true, rfl, ?_⟩
      exact ⟨_, rfl, q _ _ Kp.refl (.inr ⟨a, l, t, rfl, ha, hl, ht⟩) (.inr ⟨a, l, t, rfl, ha, hl, ht⟩) (.inl rfl)⟩
theorem cellS_sub {v v' : V} (h : v' = v ∨ ∃ c, v' = .int c) : ∀ b, cellS v' b → cellS v b := by
  rcases h with rfl | ⟨c, rfl⟩
  · exact fun b z => z
  · intro b z
    cases z
end

section
variable {P : Program} {w : World} {K : PySem.W.Frag} {mg : Str → Option Value} {base : Heap}
theorem CellOk.or {H : Hp} {v v' : V} (h : v' = v ∨ ∃ c, v' = .int c) (c : CellOk H v) : CellOk H v' := by
  rcases h with rfl | ⟨c, rfl⟩
  · exact c
  · exact .inl ⟨_, rfl⟩
theorem Off.sub {S S' : Addr → Prop} {a b c : Addr} (o : Off S a b c) (h : ∀ x, S' x → S x) : Off S' a b c := ⟨fun z => o.1 (h _ z), fun z => o.2.1 (h _ z), fun z => o.2.2 (h _ z)⟩
theorem dp_same {H H' : Hp} {v : V} {d : PyData} (h : Dp K H v d) (k : Same H H') (n : nLd d = true) : Dp K H' v d := dp_kp (Kp.of_same (S := fun _ => False) k) d v n h
theorem dpAll_same {H H' : Hp} {v : List V} {d : List PyData} (h : DpAll K H v d) (k : Same H H') (n : nLs d = true) : DpAll K H' v d := dpAll_kp (Kp.of_same (S := fun _ => False) k) d v n h
theorem in_strs_at {zs : List Str} {i : Int} (h0 : 0 ≤ i) (h1 : i < zs.length) : ∃ z ∈ zs, atI (zs.map V.str) i = some (.str z) := by
  obtain ⟨x, hx, e⟩ := at_list (ns := zs.map V.str) h0 (by rw [List.length_map]; exact h1)
  obtain ⟨z, hz, rfl⟩ := List.mem_map.mp hx
  exact ⟨z, hz, e⟩
theorem cell_after {H H' : Hp} {v v1 : V} (h : v1 = v ∨ ∃ c, v1 = .int c) (c : CellOk H v) (k : Kp (cellS v1) H H') (c1 : CellOk H' v1) : CellOk H' v := by
  rcases h with rfl | ⟨n, rfl⟩
  · exact c1
  · exact c.same fun b o e => k b o e fun z => nomatch z
def sp_ex (K : PySem.W.Frag) (D : Nat) : Sp := fun vs H Q _ => ∃ (v vi : V) (d : Int) (nms rws : List Str) (hds : List (Str × Nat)) (a b c : Addr), vs = [v, .int d, vi] ∧ CellOk H v ∧ 1 ≤ d ∧ d ≤ D ∧ Info K H vi nms rws hds a b c ∧
  nms.length ≤ 16 ∧ rws.length ≤ 16 ∧ Off (cellS v) a b c ∧ ∀ H' r (e : Ex), Kp (cellS v) H H' → CellOk H' v → Dp K H' r e.d → e.Wf nms rws d.toNat → Q r H'
theorem ok__law_expression (T : Top K mg) : ∀ D : Nat, FnOk P w K mg base CX0 (D + 3) (He.ga K "_law_expression") T.fd__law_expression ["_law_cell", "_law_deep", "_law_info"] (sp_ex K D)
  | 0 => by
    refine T.F__law_expression.ok sc__law_expression (fun vs H Q E h => ?_) (fun cdv A outer s H vs Q E hr h => ?_)
    · obtain ⟨v, vi, d, nms, rws, hds, a, b, c, rfl, hv, h1, h2, _⟩ := h
      rfl
    · obtain ⟨v, vi, d, nms, rws, hds, a, b, c, rfl, hv, h1, h2, _⟩ := h
      exfalso
      have : d ≤ 0 := h2
      omega
  | D + 1 => by
    have G__law_mixed := ok__law_mixed (P := P) (w := w) (base := base) T
    have G__law_within := ok__law_within (P := P) (w := w) (base := base) T
    have G__law_number_by := ok__law_number_by (P := P) (w := w) (base := base) T
    have G__law_expression := ok__law_expression T D
    refine T.F__law_expression.ok sc__law_expression (fun vs H Q E h => ?_) (fun cdv A outer s H vs Q E hr h => ?_)
    · obtain ⟨v, vi, d, nms, rws, hds, a, b, c, rfl, _⟩ := h
      rfl
    · obtain ⟨v, vi, d, nms, rws, hds, a, b, c, rfl, hv, hd1, hd2, hI, hn, hw, ho, q⟩ := h
      refine ⟨_, PSs.nox (pss_cons (ps_par (i := 3) (j := 4) (by rfl) sc__law_expression.nd rfl rfl (by decide) rfl rfl (pa_cons (pe_ix ix_tup (pv 2) pe_int (fun _ _ => rfl)) (pa_cons (pe_ix ix_tup (pv 2) pe_int (fun _ _ => rfl)) pa_nil)) (by rfl))
        (pss_cons (ps_set (i := 5) sc__law_expression.nd rfl (Or.inl rfl) (pe_call G__law_mixed (hr.mono (by omega)) (by rfl) T.g__law_mixed T.F__law_mixed.kp T.b__law_mixed .nil pass0 (pa_cons (pv 0) (pa_cons pe_int (pa_cons pe_int pa_nil)))))
        (pss_cons (ps_set (i := 6) sc__law_expression.nd rfl (Or.inl rfl) (pe_call G__law_within (hr.mono (by omega)) (by rfl) T.g__law_within T.F__law_within.kp T.b__law_within .nil pass0 (pa_cons (pv 0) (pa_cons pe_int pa_nil))))
        (pss_cons (ps_if (PW.pt (pw_or (pt_cmpR op_lt (pv 1) pe_int (nomark _)) (pw_or1 (pt_cmpR op_lt (pv 5) pe_int (nomark _))))) (pss_cons (ps_if (PW.pt (pw_or (pt_cmpR op_eq (pe_callB call_len_seq (by rfl) T.m_len (by decide +kernel) (pa_cons (pv 3) pa_nil)) pe_int (nomark _)) (pw_or1 (pt_cmpR op_eq (pe_op op_mod (pv 5) pe_int) pe_int (nomark _))))) (pss_one (ps_ret (pe_tup (pa_cons pe_str (pa_cons (pe_call G__law_number_by (hr.mono (by omega)) (by rfl) T.g__law_number_by T.F__law_number_by.kp T.b__law_number_by .nil pass0 (pa_cons (pv 0) (pa_cons pe_int pa_nil))) pa_nil))))) pss_nil)
        (pss_one (ps_ret (pe_tup (pa_cons pe_str (pa_cons (pe_ix ix_list (pv 3) (pe_call G__law_mixed (hr.mono (by omega)) (by rfl) T.g__law_mixed T.F__law_mixed.kp T.b__law_mixed .nil pass0 (pa_cons (pv 0) (pa_cons pe_int (pa_cons (pe_callB call_len_seq (by rfl) T.m_len (by decide +kernel) (pa_cons (pv 3) pa_nil)) pa_nil)))) (fun _ _ => rfl)) pa_nil)))))) pss_nil)
        (pss_cons (ps_if (PW.pt (pw_and (pt_cmpR op_eq (pv 5) pe_int (nomark _)) (pw_and1 (pt_cmpR op_gt (pe_callB call_len_seq (by rfl) T.m_len (by decide +kernel) (pa_cons (pv 4) pa_nil)) pe_int (nomark _))))) (pss_one (ps_ret (pe_tup (pa_cons pe_str (pa_cons (pe_ix ix_list (pv 4) (pe_call G__law_mixed (hr.mono (by omega)) (by rfl) T.g__law_mixed T.F__law_mixed.kp T.b__law_mixed .nil pass0 (pa_cons (pv 0) (pa_cons pe_int (pa_cons (pe_callB call_len_seq (by rfl) T.m_len (by decide +kernel) (pa_cons (pv 4) pa_nil)) pa_nil)))) (fun _ _ => rfl)) (pa_cons (pe_call G__law_expression (hr.mono (by omega)) (by rfl) T.g__law_expression T.F__law_expression.kp T.b__law_expression .nil pass0 (pa_cons (pv 6) (pa_cons (pe_op op_sub (pv 1) pe_int) (pa_cons (pv 2) pa_nil)))) pa_nil)))))) pss_nil)
        (pss_cons (ps_if (pt_cmpR op_eq (pv 5) pe_int (nomark _)) (pss_one (ps_ret (pe_tup (pa_cons pe_str (pa_cons (pe_call G__law_expression (hr.mono (by omega)) (by rfl) T.g__law_expression T.F__law_expression.kp T.b__law_expression .nil pass0 (pa_cons (pv 6) (pa_cons (pe_op op_sub (pv 1) pe_int) (pa_cons (pv 2) pa_nil)))) pa_nil))))) pss_nil)
        (pss_cons (ps_set (i := 7) sc__law_expression.nd rfl (Or.inl rfl) (pe_ix ix_list (pe_lst (pa_cons pe_str (pa_cons pe_str (pa_cons pe_str (pa_cons pe_str (pa_cons pe_str (pa_cons pe_str (pa_cons pe_str pa_nil)))))))) (pe_call G__law_mixed (hr.mono (by omega)) (by rfl) T.g__law_mixed T.F__law_mixed.kp T.b__law_mixed .nil pass0 (pa_cons (pv 0) (pa_cons pe_int (pa_cons pe_int pa_nil)))) (fun _ _ => rfl)))
        (pss_cons (ps_set (i := 8) sc__law_expression.nd rfl (Or.inl rfl) (pe_call G__law_expression (hr.mono (by omega)) (by rfl) T.g__law_expression T.F__law_expression.kp T.b__law_expression .nil pass0 (pa_cons (pe_call G__law_within (hr.mono (by omega)) (by rfl) T.g__law_within T.F__law_within.kp T.b__law_within .nil pass0 (pa_cons (pv 0) (pa_cons pe_int pa_nil))) (pa_cons (pe_op op_sub (pv 1) pe_int) (pa_cons (pv 2) pa_nil)))))
        (pss_one (ps_ret (pe_tup (pa_cons (pv 7) (pa_cons (pe_call G__law_expression (hr.mono (by omega)) (by rfl) T.g__law_expression T.F__law_expression.kp T.b__law_expression .nil pass0 (pa_cons (pv 6) (pa_cons (pe_op op_sub (pv 1) pe_int) (pa_cons (pv 2) pa_nil)))) (pa_cons (pv 8) pa_nil)))))))))))))), ?_⟩
      obtain ⟨pi, rfl, hT⟩ := hI.tup
      refine ⟨_, rfl, pi, _, 0, _, rfl, rfl, hT, atI_nat (j := 0) rfl, _, rfl, pi, _, 1, _, rfl, rfl, hT, atI_nat (j := 1) rfl, _, _, rfl, ?_⟩
      refine ⟨_, rfl, v, 0, 13, rfl, hv, by decide, by decide, by decide, by decide, fun H1 kd k1 c1 kd0 kd1 => ?_⟩
      refine ⟨_, rfl, v, 3, rfl, c1, by decide, by decide, fun H2 v1 k2 c2 c2' w1 => ?_⟩
      have k12 := k1.trans k2
      have I2 := hI.kp k12 ho
      have sub1 := cellS_sub w1
      have o1 := ho.sub sub1
      have d0 : ∃ n : Nat, d.toNat = n + 1 := ⟨d.toNat - 1, by omega⟩
      obtain ⟨n, hn1⟩ := d0
      have mk : ∀ (H' : Hp) (ds : List PyData) (xs : List V) (e : Ex), Kp (cellS v) H H' → CellOk H' v → DpAll K H' xs ds → e.d = .tuple ds → nLs ds = true → e.Wf nms rws d.toNat → xs.length ≤ sizeLine ∧ ∀ p, H' p = none → Q (.ref p) (upd H' p (.tup xs)) := by
        intro H' ds xs e k' c' h' he hno wf
        refine ⟨?_, fun p np => q _ _ e (k'.trans (.of_same (same_new np))) (c'.same (same_new np)) ?_ wf⟩
        · rw [dpAll_len h', sizeLine_eq]
          have : ds.length ≤ 3 := by
            cases e <;> (simp only [Ex.d] at he; injection he with he; subst he; simp)
          omega
        · rw [he]
          exact .tup (.of upd_same) (dpAll_same h' (same_new np) hno)
      dsimp only [gName]
      refine ifs_by (fun σ' H' => H' = H2 ∧ 2 ≤ d ∧ σ' = [some v, some (.int d), some (.ref pi), some (.ref a), some (.ref b), some (.int kd), some v1, none, none]) ?_ ?_
      · rintro σ' H3 ⟨rfl, hd3, rfl⟩
        have wf_n : (d - 1).toNat = n := by omega
        have wf2 : (d - 1).toNat + 1 = d.toNat := by omega
        -- at
        refine ifs_by (fun σ' H' => H' = H3 ∧ σ' = [some v, some (.int d), some (.ref pi), some (.ref a), some (.ref b), some (.int kd), some v1, none, none]) ?_ ?_
        rotate_left
        · intro N hN
          refine ⟨_, rfl, rfl, _, rfl, ite2 (fun e1 => ?_) (fun e1 => hN _ _ ⟨rfl, rfl⟩)⟩
          refine ⟨_, rfl, b, _, rfl, .inl (.of I2.b), _, _, rfl, rfl, _, rfl, ite2 (fun e2 => ?_) (fun e2 => hN _ _ ⟨rfl, rfl⟩)⟩
          have e3 : 0 < rws.length := by
            have := of_decide_eq_true e2
            rw [List.length_map] at this
            omega
          refine ⟨_, rfl, _, rfl, _, rfl, b, _, rfl, .inl (.of I2.b), v, 4, (rws.map V.str).length, rfl, c2, by decide, by decide, by rw [List.length_map]; omega, by rw [List.length_map]; omega, fun H4 j k4 c4 j0 j1 => ?_⟩
          rw [List.length_map] at j1
          have I4 := I2.kp k4 ho
          obtain ⟨z, hz, ez⟩ := in_strs_at j0 j1
          refine ⟨b, _, j, _, rfl, rfl, .of I4.b, ez, ?_⟩
          refine ⟨_, rfl, _, rfl, _, _, rfl, rfl, _, rfl, v1, .ref pi, d - 1, nms, rws, hds, a, b, c, rfl, CellOk.or w1 c4, by omega, by omega, I4, hn, hw, o1, fun H5 r e k5 c5 dp wf => ?_⟩
          have k5' : Kp (cellS v) H4 H5 := k5.mono sub1
          refine mk H5 [.str "at", .str z, e.d] _ (.at_ z e) ((k12.trans k4).trans k5') (cell_after w1 c4 k5 c5) (.cons (.str _) (.cons (.str _) (.cons dp .nil))) rfl (by simp [nLs, nLd, e.noL]) ?_
          rw [← wf2]
          exact ⟨hz, wf⟩
        rintro σ' H4 ⟨rfl, rfl⟩
        -- not
        refine ifs_by (fun σ' H' => H' = H4 ∧ σ' = [some v, some (.int d), some (.ref pi), some (.ref a), some (.ref b), some (.int kd), some v1, none, none]) ?_ ?_
        rotate_left
        · intro N hN
          refine ⟨_, rfl, rfl, _, rfl, ite2 (fun e1 => ?_) (fun e1 => hN _ _ ⟨rfl, rfl⟩)⟩
          refine ⟨_, rfl, _, rfl, _, _, rfl, rfl, _, rfl, v1, .ref pi, d - 1, nms, rws, hds, a, b, c, rfl, CellOk.or w1 c2, by omega, by omega, I2, hn, hw, o1, fun H5 r e k5 c5 dp wf => ?_⟩
          have k5' : Kp (cellS v) H4 H5 := k5.mono sub1
          refine mk H5 [.str "not", e.d] _ (.no e) (k12.trans k5') (cell_after w1 c2 k5 c5) (.cons (.str _) (.cons dp .nil)) rfl (by simp [nLs, nLd, e.noL]) ?_
          rw [← wf2]
          exact wf
        rintro σ' H5 ⟨rfl, rfl⟩
        -- a word of seven
        refine ⟨(by show 7 ≤ sizeLine; rw [sizeLine_eq]; decide), fun L nL => ?_⟩
        have s6 := same_new (o := .lst (wds7.map V.str)) nL
        have c6 : CellOk _ v := c2.same s6
        have nc : ¬ cellS v L := c2.fresh nL
        refine ⟨_, rfl, v, 5, 7, rfl, c6, by decide, by decide, by decide, by decide, fun H7 j k7 c7 j0 j1 => ?_⟩
        obtain ⟨wd, hwd, ew⟩ := in_strs_at (zs := wds7) j0 j1
        have k7' : Kp (cellS v) H5 H7 := (Kp.of_same s6).trans k7
        refine ⟨L, _, j, _, rfl, rfl, .of (k7 _ _ upd_same fun z => absurd z nc), ew, ?_⟩
        have I7 := I2.kp k7' ho
        refine ⟨_, rfl, v, 6, rfl, c7, by decide, by decide, fun H8 v2 k8 c8 c8' w2 => ?_⟩
        have sub2 := cellS_sub w2
        have I8 := I7.kp k8 ho
        refine ⟨_, rfl, _, _, rfl, rfl, _, rfl, v2, .ref pi, d - 1, nms, rws, hds, a, b, c, rfl, c8', by omega, by omega, I8, hn, hw, ho.sub sub2, fun H9 r2 e2 k9 c9 dp2 wf2' => ?_⟩
        have k9' : Kp (cellS v) H8 H9 := k9.mono sub2
        have c9' := cell_after w2 c8 k9 c9
        have I9 := I8.kp k9' ho
        refine ⟨_, rfl, _, rfl, _, rfl, _, _, rfl, rfl, _, rfl, v1, .ref pi, d - 1, nms, rws, hds, a, b, c, rfl, CellOk.or w1 c9', by omega, by omega, I9, hn, hw, o1, fun H10 r1 e1 k10 c10 dp1 wf1 => ?_⟩
        have k10' : Kp (cellS v) H9 H10 := k10.mono sub1
        refine ⟨_, rfl, ?_⟩
        refine mk H10 [.str wd, e1.d, e2.d] _ (.op wd e1 e2) ((((k12.trans k7').trans k8).trans k9').trans k10') (cell_after w1 c9' k10 c10) (.cons (.str _) (.cons dp1 (.cons (dp_kp k10' _ _ e2.noL dp2) .nil))) rfl (by simp [nLs, nLd, e1.noL, e2.noL]) ?_
        rw [← wf2]
        exact ⟨hwd, wf1, wf2'⟩
      · intro N hN
        refine ⟨_, rfl, _, _, rfl, rfl, _, rfl, ite_share ?_ fun e1 leaf => ?_⟩
        · refine ifs_by (fun σ' H' => H' = H2 ∧ 0 < nms.length ∧ σ' = [some v, some (.int d), some (.ref pi), some (.ref a), some (.ref b), some (.int kd), some v1, none, none]) ?_ ?_
          · rintro σ' H3 ⟨rfl, n0, rfl⟩
            refine ⟨_, rfl, _, rfl, _, rfl, a, _, rfl, .inl (.of I2.a), v, 2, (nms.map V.str).length, rfl, c2, by decide, by decide, by rw [List.length_map]; omega, by rw [List.length_map]; omega, fun H4 j k4 c4 j0 j1 => ?_⟩
            rw [List.length_map] at j1
            obtain ⟨z, hz, ez⟩ := in_strs_at j0 j1
            refine ⟨a, _, j, _, rfl, rfl, .of (I2.kp k4 ho).a, ez, ?_⟩
            refine mk H4 [.str "name", .str z] _ (.nam z) (k12.trans k4) c4 (.cons (.str _) (.cons (.str _) .nil)) rfl rfl ?_
            rw [hn1]
            exact hz
          · intro M hM
            refine ⟨_, rfl, a, _, rfl, .inl (.of I2.a), rfl, _, rfl, ite_share ?_ fun e2 leaf2 => ?_⟩
            · refine ⟨_, rfl, v, 1, rfl, c2, by decide, by decide, fun H4 x k4 c4 hx => ?_⟩
              refine mk H4 [.str "number", .int x] _ (.num x) (k12.trans k4) c4 (.cons (.str _) (.cons (.int _) .nil)) rfl rfl ?_
              rw [hn1]
              exact hx
            · refine ⟨_, rfl, _, _, rfl, rfl, (by show (0 : Int) < 3; decide), rfl, _, rfl, ite2 (fun _ => leaf2) fun e3 => ?_⟩
              refine hM _ _ ⟨rfl, ?_, rfl⟩
              rcases Nat.eq_zero_or_pos nms.length with z | z
              · exact absurd (decide_eq_true (congrArg V.int (by rw [List.length_map, z]; rfl))) e2
              · exact z
        · refine ⟨_, rfl, _, _, rfl, rfl, _, rfl, ite2 (fun _ => leaf) fun e2 => ?_⟩
          refine hN _ _ ⟨rfl, ?_, rfl⟩
          have e1' : ¬ d < 2 := fun z => e1 (decide_eq_true z)
          omega

end

section
variable {P : Program} {w : World} {K : PySem.W.Frag} {mg : Str → Option Value} {base : Heap}
/-- what is kept, but for an address that was free -/
theorem kp_upd_new {S : Addr → Prop} {H H' : Hp} {D : Addr} {o : HO} (k : Kp S H H') (h : H D = none) : Kp S H (upd H' D o) := fun b x e z => by
  rw [upd_ne (ne_of_none e h)]
  exact k b x e z
theorem kp_free {S : Addr → Prop} {H H' : Hp} {D : Addr} (k : Kp S H H') (h : H' D = none) (n : ¬ S D) : H D = none := by
  cases z : H D with
  | none => rfl
  | some o =>
    rw [k _ _ z fun y => absurd y n] at h
    cases h
def ExL (K : PySem.W.Frag) (H : Hp) (nms rws : List Str) (xs : List V) (es : List Ex) : Prop := DpAll K H xs (es.map Ex.d) ∧ ∀ e ∈ es, e.Wf nms rws 4
theorem exs_noL (es : List Ex) : nLs (es.map Ex.d) = true := noLs_all fun x hx => by
  obtain ⟨e, _, rfl⟩ := List.mem_map.mp hx
  exact e.noL
def sp__law_expressions (K : PySem.W.Frag) : Sp := fun vs H Q _ => ∃ (v vi : V) (m : Int) (nms rws : List Str) (hds : List (Str × Nat)) (a b c : Addr), vs = [v, .int m, vi] ∧ CellOk H v ∧ 0 ≤ m ∧ m ≤ 100 ∧ Info K H vi nms rws hds a b c ∧
  nms.length ≤ 16 ∧ rws.length ≤ 16 ∧ Off (cellS v) a b c ∧ ∀ H' p xs (es : List Ex), Kp (cellS v) H H' → CellOk H' v → H p = none → ¬ cellS v p → H' p = some (.lst xs) → ExL K H' nms rws xs es → es.length = m.toNat → Q (.ref p) H'
theorem ok__law_expressions (T : Top K mg) : FnOk P w K mg base CX0 8 (He.ga K "_law_expressions") T.fd__law_expressions ["_law_cell", "_law_many", "_law_info"] (sp__law_expressions K) := by
  have G__law_mixed := ok__law_mixed (P := P) (w := w) (base := base) T
  have G__law_within := ok__law_within (P := P) (w := w) (base := base) T
  have G__law_expression := ok__law_expression (P := P) (w := w) (base := base) T 4
  refine T.F__law_expressions.ok sc__law_expressions (fun vs H Q E h => ?_) (fun cdv A outer s H vs Q E hr h => ?_)
  · obtain ⟨v, vi, d, nms, rws, hds, a, b, c, rfl, _⟩ := h
    rfl
  · obtain ⟨v, vi, m, nms, rws, hds, a, b, c, rfl, hv, m0, m1, hI, hn, hw, ho, q⟩ := h
    refine ⟨_, PSs.nox (pss_one (ps_ret (pe_lc (own := [("_law_k", 3)]) (by rfl) sc__law_expressions.nd (pi_range1 (by rfl) T.m_range (pa_cons (pv 1) pa_nil)) (blkOk_by (own := [("_law_k", 3)]) (N := N__law_expressions) (sc := defScope s__law_expressions) (by decide +kernel)) (fun _ _ _ _ _ => (pg_name (i := 3) sc__law_expressions.nd rfl (Or.inl rfl))) (fun _ _ _ _ _ => pts_nil) (fun _ _ _ _ _ => (pe_call G__law_expression (hr.mono (by omega)) (by rfl) T.g__law_expression T.F__law_expression.kp T.b__law_expression .nil pass0 (pa_cons (pe_call G__law_within (hr.mono (by omega)) (by rfl) T.g__law_within T.F__law_within.kp T.b__law_within .nil pass0 (pa_cons (pv 0) (pa_cons (pv 3) pa_nil))) (pa_cons (pe_op op_add pe_int (pe_call G__law_mixed (hr.mono (by omega)) (by rfl) T.g__law_mixed T.F__law_mixed.kp T.b__law_mixed .nil pass0 (pa_cons (pv 0) (pa_cons (pe_op op_add (pv 3) pe_int) (pa_cons pe_int pa_nil))))) (pa_cons (pv 2) pa_nil)))))))), ?_⟩
    refine ⟨_, rfl, m, rfl, by omega, by omega, fun D nD => ?_⟩
    have nc : ¬ cellS v D := hv.fresh nD
    refine lc_range (lo := 0) (n := m.toNat) (fun i H' => Kp (cellS v) H H' ∧ CellOk H' v ∧ ∃ xs es, H' D = some (.lst xs) ∧ ExL K H' nms rws xs es ∧ es.length = i) ?_ ?_ ?_
    · exact ⟨kp_upd_new Kp.refl nD, hv.same (same_new nD), [], [], upd_same, ⟨.nil, fun e he => nomatch he⟩, rfl⟩
    · rintro i H1 hi ⟨k1, c1, xs, es, e1, ⟨x1, x2⟩, l1⟩
      refine ⟨rfl, _, rfl, _, rfl, v, 0 + (i : Int), rfl, c1, by omega, by omega, fun H2 v2 k2 c2 c2' w2 => ?_⟩
      refine ⟨_, rfl, _, rfl, _, _, rfl, rfl, v, 0 + (i : Int) + 4, 4, rfl, c2, by omega, by omega, by decide, by decide, fun H3 r k3 c3 r0 r1 => ?_⟩
      have sub2 := cellS_sub w2
      have I3 := hI.kp ((k1.trans k2).trans k3) ho
      refine ⟨_, _, rfl, rfl, _, rfl, v2, vi, 1 + r, nms, rws, hds, a, b, c, rfl, CellOk.or w2 c3, by omega, by omega, I3, hn, hw, ho.sub sub2, fun H4 x e k4 c4 dp wf => ?_⟩
      have k4' : Kp (cellS v) H3 H4 := k4.mono sub2
      have k14 := (k2.trans k3).trans k4'
      have e4 := k14 _ _ e1 fun z => absurd z nc
      have l2 := dpAll_len x1
      rw [List.length_map] at l2
      refine ⟨xs, e4, by rw [l2, l1, sizeLine_eq]; omega, kp_upd_new (k1.trans k14) nD, (cell_after w2 c3 k4 c4).upd nc, xs ++ [x], es ++ [e], upd_same, ⟨?_, ?_⟩, by rw [List.length_append, l1]; rfl⟩
      · rw [List.map_append]
        have ks : Kp (fun b => b = D) H4 (upd H4 D (.lst (xs ++ [x]))) := Kp.upd e4 trivial rfl
        exact dpAll_app (dpAll_kp ks _ _ (exs_noL es) (dpAll_kp k14 _ _ (exs_noL es) x1)) (.cons (dp_kp ks _ _ e.noL dp) .nil)
      · intro y hy
        rcases List.mem_append.mp hy with hy | hy
        · exact x2 y hy
        · rw [List.mem_singleton.mp hy]
          exact wf.mono (by omega)
    · rintro H1 ⟨k1, c1, xs, es, e1, h2, l1⟩
      exact q _ D xs es k1 c1 nD nc e1 h2 l1
end
/-! statements: what they may be -/
def Sm.ends : Sm → Bool
  | .give _ => true
  | .fail _ => true
  | _ => false
mutual
def Sm.Wf (nms rws : List Str) (hds : List (Str × Nat)) : Sm → Nat → Prop
  | .set x e, _ => x ∈ nms ∧ e.Wf nms rws 4
  | .put r e f, _ => r ∈ rws ∧ e.Wf nms rws 4 ∧ f.Wf nms rws 4
  | .tell e, _ => e.Wf nms rws 4
  | .ite e ys ns, k => 0 < k ∧ e.Wf nms rws 4 ∧ Sm.Wfs nms rws hds ys (k - 1) ∧ Sm.Wfs nms rws hds ns (k - 1)
  | .loop e b, k => 0 < k ∧ e.Wf nms rws 4 ∧ Sm.Wfs nms rws hds b (k - 1)
  | .call x h es, _ => x ∈ nms ∧ (h, es.length) ∈ hds ∧ ∀ e ∈ es, e.Wf nms rws 4
  | .fail n, _ => 0 ≤ n ∧ n < 100
  | .give e, _ => e.Wf nms rws 4
def Sm.Wfs (nms rws : List Str) (hds : List (Str × Nat)) : List Sm → Nat → Prop
  | [], _ => True
  | s :: r, k => s.Wf nms rws hds k ∧ (r ≠ [] → s.ends = false) ∧ Sm.Wfs nms rws hds r k
end
mutual
def Sm.size : Sm → Nat
  | .ite _ ys ns => 1 + Sm.sizes ys + Sm.sizes ns
  | .loop _ b => 1 + Sm.sizes b
  | _ => 1
def Sm.sizes : List Sm → Nat
  | [] => 0
  | s :: r => s.size + Sm.sizes r
end
section
variable {P : Program} {w : World} {K : PySem.W.Frag} {mg : Str → Option Value} {base : Heap}
/-- what the drawer of a statement has at hand -/
structure PSg (K : PySem.W.Frag) (H0 H : Hp) (v vi : V) (nms rws : List Str) (hds : List (Str × Nat)) (a b c p6 : Addr) (xs : List V) (es : List Ex) (p7 : Addr) (xl : List Str) : Prop where
  k : Kp (cellS v) H0 H
  cell : CellOk H v
  info : Info K H vi nms rws hds a b c
  l6 : H p6 = some (.lst xs)
  ex : ExL K H nms rws xs es
  l7 : H p7 = some (.lst (xl.map V.str))
theorem PSg.kp {H0 H H' : Hp} {v vi : V} {nms rws : List Str} {hds : List (Str × Nat)} {a b c p6 : Addr} {xs : List V} {es : List Ex} {p7 : Addr} {xl : List Str} (h : PSg K H0 H v vi nms rws hds a b c p6 xs es p7 xl)
    (k : Kp (cellS v) H H') (c' : CellOk H' v) (o : Off (cellS v) a b c) (n6 : ¬ cellS v p6) (n7 : ¬ cellS v p7) : PSg K H0 H' v vi nms rws hds a b c p6 xs es p7 xl :=
  ⟨h.k.trans k, c', h.info.kp k o, k _ _ h.l6 fun z => absurd z n6, ⟨dpAll_kp k _ _ (exs_noL es) h.ex.1, h.ex.2⟩, k _ _ h.l7 fun z => absurd z n7⟩
theorem PSg.same {H0 H : Hp} {v vi : V} {nms rws : List Str} {hds : List (Str × Nat)} {a b c p6 : Addr} {xs : List V} {es : List Ex} {p7 : Addr} {xl : List Str} (h : PSg K H0 H v vi nms rws hds a b c p6 xs es p7 xl)
    (o' : Off (cellS v) a b c) {p : Addr} {o : HO} (np : H p = none) : PSg K H0 (upd H p o) v vi nms rws hds a b c p6 xs es p7 xl := by
  have s := same_new (o := o) np
  exact ⟨h.k.trans (.of_same s), h.cell.same s, h.info.kp (Kp.of_same (S := cellS v) s) o', s _ _ h.l6, ⟨dpAll_same h.ex.1 s (exs_noL es), h.ex.2⟩, s _ _ h.l7⟩
def sp__law_plain (K : PySem.W.Frag) : Sp := fun vs H Q _ => ∃ (v vi : V) (nms rws : List Str) (hds : List (Str × Nat)) (a b c : Addr), vs = [v, vi] ∧ CellOk H v ∧ Info K H vi nms rws hds a b c ∧
  nms.length ≤ 16 ∧ rws.length ≤ 16 ∧ hds.length ≤ 16 ∧ (∀ q ∈ hds, q.2 ≤ 4) ∧ (∀ z ∈ nms, PyData.strOk z = true) ∧ Off (cellS v) a b c ∧ ∀ H' r (s : Sm), Kp (cellS v) H H' → CellOk H' v → Dp K H' r s.d → s.Wf nms rws hds 0 → s.size = 1 → Q r H'
def plainW : List Str := ["set", "tell", "put", "set", "call", "tell", "set", "put", "give", "fail"]
theorem eqv_strs_nil (xl : List Str) : PyData.eqv (.list (xl.map PyData.str)) (.list []) = xl.isEmpty := by
  cases xl with
  | nil => exact SeqAt.eqv_refl _ rfl
  | cons x r => rfl
theorem strs_shaped (xl : List Str) (hk : ∀ z ∈ xl, PyData.strOk z = true) : SeqAt.shaped (.list (xl.map PyData.str)) = true := by
  have h1 : ∀ l : List Str, (∀ z ∈ l, PyData.strOk z = true) → PyData.canLayAll0 (l.map PyData.str) = true := by
    intro l
    induction l with
    | nil => intro _; rfl
    | cons x r ih =>
      intro hl
      show PyData.canLayAll0 (PyData.str x :: r.map PyData.str) = true
      unfold PyData.canLayAll0
      rw [ih fun z hz => hl z (List.mem_cons_of_mem _ hz)]
      unfold PyData.canLay0
      rw [hl x (List.mem_cons_self ..)]
      rfl
  have h2 : ∀ l : List Str, PyData.depthAll (l.map PyData.str) ≤ 1 := by
    intro l
    induction l with
    | nil => decide
    | cons x r ih =>
      show PyData.depthAll (PyData.str x :: r.map PyData.str) ≤ 1
      unfold PyData.depthAll
      have : (PyData.str x).depth ≤ 1 := by unfold PyData.depth; decide
      omega
  unfold SeqAt.shaped
  rw [Bool.and_eq_true]
  refine ⟨?_, decide_eq_true ?_⟩
  · unfold PyData.canLay0
    exact h1 xl hk
  · have := h2 xl
    unfold PyData.depth
    omega
theorem ok__law_plain (T : Top K mg) : FnOk P w K mg base CX0 9 (He.ga K "_law_plain") T.fd__law_plain ["_law_cell", "_law_info"] (sp__law_plain K) := by
  have G__law_mixed := ok__law_mixed (P := P) (w := w) (base := base) T
  have G__law_within := ok__law_within (P := P) (w := w) (base := base) T
  have G__law_expressions := ok__law_expressions (P := P) (w := w) (base := base) T
  refine T.F__law_plain.ok sc__law_plain (fun vs H Q E h => ?_) (fun cdv A outer s H vs Q E hr h => ?_)
  · obtain ⟨v, vi, nms, rws, hds, a, b, c, rfl, _⟩ := h
    rfl
  · obtain ⟨v, vi, nms, rws, hds, a, b, c, rfl, hv, hI, hn, hw, hh, hq, hk, ho, q⟩ := h
    refine ⟨_, PSs.nox (pss_cons (ps_asg (pv 1) (pg_tup (n := 3) (by rfl) (pgs_cons (pg_name (i := 2) sc__law_plain.nd rfl (Or.inl rfl)) (pgs_cons (pg_name (i := 3) sc__law_plain.nd rfl (Or.inl rfl)) (pgs_cons (pg_name (i := 4) sc__law_plain.nd rfl (Or.inl rfl)) pgs_nil)))))
        (pss_cons (ps_set (i := 5) sc__law_plain.nd rfl (Or.inl rfl) (pe_ix ix_list (pe_lst (pa_cons pe_str (pa_cons pe_str (pa_cons pe_str (pa_cons pe_str (pa_cons pe_str (pa_cons pe_str (pa_cons pe_str (pa_cons pe_str (pa_cons pe_str (pa_cons pe_str pa_nil))))))))))) (pe_call G__law_mixed (hr.mono (by omega)) (by rfl) T.g__law_mixed T.F__law_mixed.kp T.b__law_mixed .nil pass0 (pa_cons (pv 0) (pa_cons pe_int (pa_cons pe_int pa_nil)))) (fun _ _ => rfl)))
        (pss_cons (ps_set (i := 6) sc__law_plain.nd rfl (Or.inl rfl) (pe_call G__law_expressions (hr.mono (by omega)) (by rfl) T.g__law_expressions T.F__law_expressions.kp T.b__law_expressions .nil pass0 (pa_cons (pe_call G__law_within (hr.mono (by omega)) (by rfl) T.g__law_within T.F__law_within.kp T.b__law_within .nil pass0 (pa_cons (pv 0) (pa_cons pe_int pa_nil))) (pa_cons pe_int (pa_cons (pv 1) pa_nil)))))
        (pss_cons (ps_set (i := 7) sc__law_plain.nd rfl (Or.inl rfl) (pe_slice sl_list (pe_slice sl_list (pv 2) (po_some (pe_call G__law_mixed (hr.mono (by omega)) (by rfl) T.g__law_mixed T.F__law_mixed.kp T.b__law_mixed .nil pass0 (pa_cons (pv 0) (pa_cons pe_int (pa_cons (pe_callB (call_max2 rfl) (by rfl) T.m_max (by decide +kernel) (pa_cons pe_int (pa_cons (pe_callB call_len_seq (by rfl) T.m_len (by decide +kernel) (pa_cons (pv 2) pa_nil)) pa_nil))) pa_nil))))) po_none) po_none (po_some pe_int)))
        (pss_cons (ps_if (PW.pt (pw_and (pt_cmpR op_eq (pv 5) pe_str (nomark _)) (pw_and1 (pt_cmpR op_gt (pe_callB call_len_seq (by rfl) T.m_len (by decide +kernel) (pa_cons (pv 3) pa_nil)) pe_int (nomark _))))) (pss_cons (ps_set (i := 8) sc__law_plain.nd rfl (Or.inl rfl) (pe_ix ix_list (pe_lst (pa_cons (pe_ix ix_list (pv 6) pe_int (fun _ _ => rfl)) (pa_cons (pe_tup (pa_cons pe_str (pa_cons (pe_call G__law_mixed (hr.mono (by omega)) (by rfl) T.g__law_mixed T.F__law_mixed.kp T.b__law_mixed .nil pass0 (pa_cons (pv 0) (pa_cons pe_int (pa_cons pe_int pa_nil)))) pa_nil))) pa_nil))) (pe_call G__law_mixed (hr.mono (by omega)) (by rfl) T.g__law_mixed T.F__law_mixed.kp T.b__law_mixed .nil pass0 (pa_cons (pv 0) (pa_cons pe_int (pa_cons pe_int pa_nil)))) (fun _ _ => rfl)))
        (pss_one (ps_ret (pe_tup (pa_cons pe_str (pa_cons (pe_ix ix_list (pv 3) (pe_call G__law_mixed (hr.mono (by omega)) (by rfl) T.g__law_mixed T.F__law_mixed.kp T.b__law_mixed .nil pass0 (pa_cons (pv 0) (pa_cons pe_int (pa_cons (pe_callB call_len_seq (by rfl) T.m_len (by decide +kernel) (pa_cons (pv 3) pa_nil)) pa_nil)))) (fun _ _ => rfl)) (pa_cons (pv 8) (pa_cons (pe_ix ix_list (pv 6) pe_int (fun _ _ => rfl)) pa_nil)))))))) pss_nil)
        (pss_cons (ps_if (PW.pt (pw_and (pt_cmpR op_eq (pv 5) pe_str (nomark _)) (pw_and (pt_cmpR op_gt (pe_callB call_len_seq (by rfl) T.m_len (by decide +kernel) (pa_cons (pv 4) pa_nil)) pe_int (nomark _)) (pw_and1 (pt_cmpR (op_neD hr.units) (pv 7) (pe_lst pa_nil) (nomark _)))))) (pss_cons (ps_set (i := 9) sc__law_plain.nd rfl (Or.inl rfl) (pe_ix ix_list (pv 4) (pe_call G__law_mixed (hr.mono (by omega)) (by rfl) T.g__law_mixed T.F__law_mixed.kp T.b__law_mixed .nil pass0 (pa_cons (pv 0) (pa_cons pe_int (pa_cons (pe_callB call_len_seq (by rfl) T.m_len (by decide +kernel) (pa_cons (pv 4) pa_nil)) pa_nil)))) (fun _ _ => rfl)))
        (pss_one (ps_ret (pe_tup (pa_cons pe_str (pa_cons (pe_ix ix_list (pv 7) pe_int (fun _ _ => rfl)) (pa_cons (pe_ix ix_tup (pv 9) pe_int (fun _ _ => rfl)) (pa_cons (pe_callTy call_tuple_of (by rfl) T.m_tuple (by decide +kernel) (pa_cons (pe_slice sl_list (pv 6) po_none (po_some (pe_ix ix_tup (pv 9) pe_int (fun _ _ => rfl)))) pa_nil)) pa_nil)))))))) pss_nil)
        (pss_cons (ps_if (PW.pt (pw_and (pt_cmpR op_eq (pv 5) pe_str (nomark _)) (pw_and1 (pt_cmpR op_eq (pe_call G__law_mixed (hr.mono (by omega)) (by rfl) T.g__law_mixed T.F__law_mixed.kp T.b__law_mixed .nil pass0 (pa_cons (pv 0) (pa_cons pe_int (pa_cons pe_int pa_nil)))) pe_int (nomark _))))) (pss_one (ps_ret (pe_tup (pa_cons pe_str (pa_cons (pe_call G__law_mixed (hr.mono (by omega)) (by rfl) T.g__law_mixed T.F__law_mixed.kp T.b__law_mixed .nil pass0 (pa_cons (pv 0) (pa_cons pe_int (pa_cons pe_int pa_nil)))) pa_nil))))) pss_nil)
        (pss_cons (ps_if (PW.pt (pw_and (pt_cmpR op_eq (pv 5) pe_str (nomark _)) (pw_and1 (pt_cmpR op_eq (pe_call G__law_mixed (hr.mono (by omega)) (by rfl) T.g__law_mixed T.F__law_mixed.kp T.b__law_mixed .nil pass0 (pa_cons (pv 0) (pa_cons pe_int (pa_cons pe_int pa_nil)))) pe_int (nomark _))))) (pss_one (ps_ret (pe_tup (pa_cons pe_str (pa_cons (pe_ix ix_list (pv 6) pe_int (fun _ _ => rfl)) pa_nil))))) pss_nil)
        (pss_cons (ps_if (PW.pt (pw_and (pt_cmpR op_eq (pv 5) pe_str (nomark _)) (pw_and1 (pt_cmpR (op_neD hr.units) (pv 7) (pe_lst pa_nil) (nomark _))))) (pss_one (ps_ret (pe_tup (pa_cons pe_str (pa_cons (pe_ix ix_list (pv 7) pe_int (fun _ _ => rfl)) (pa_cons (pe_ix ix_list (pv 6) pe_int (fun _ _ => rfl)) pa_nil)))))) pss_nil)
        (pss_one (ps_ret (pe_tup (pa_cons pe_str (pa_cons (pe_ix ix_list (pv 6) pe_int (fun _ _ => rfl)) pa_nil)))))))))))))), ?_⟩
    obtain ⟨pi, rfl, hT⟩ := hI.tup
    refine ⟨_, rfl, pi, _, rfl, hT, rfl, _, _, rfl, _, _, rfl, _, _, rfl, rfl, ?_⟩
    refine ⟨(by show 10 ≤ sizeLine; rw [sizeLine_eq]; decide), fun L nL => ?_⟩
    have s1 := same_new (o := .lst (plainW.map V.str)) nL
    have c1 : CellOk _ v := hv.same s1
    have nc : ¬ cellS v L := hv.fresh nL
    refine ⟨_, rfl, v, 1, 10, rfl, c1, by decide, by decide, by decide, by decide, fun H2 j k2 c2 j0 j1 => ?_⟩
    obtain ⟨wd, hwd, ew⟩ := in_strs_at (zs := plainW) j0 j1
    have k02 : Kp (cellS v) H H2 := (Kp.of_same s1).trans k2
    refine ⟨L, _, j, _, rfl, rfl, .of (k2 _ _ upd_same fun z => absurd z nc), ew, ?_⟩
    refine ⟨_, rfl, v, 2, rfl, c2, by decide, by decide, fun H3 v3 k3 c3 c3' w3 => ?_⟩
    have sub3 := cellS_sub w3
    have k03 := k02.trans k3
    refine ⟨_, rfl, v3, .ref pi, 4, nms, rws, hds, a, b, c, rfl, c3', by decide, by decide, hI.kp k03 ho, hn, hw, ho.sub sub3, fun H4 p6 xs es k4 c4 np6 nc6 l6 ex len => ?_⟩
    have k04 := k03.trans (k4.mono sub3)
    have c4' := cell_after w3 c3 k4 c4
    have nc6' : ¬ cellS v p6 := c3.fresh np6
    have I4 := hI.kp k04 ho
    have mx : ∀ n : Int, 0 ≤ n → n ≤ 16 → (if n > 1 then n else 1) > 0 ∧ (if n > 1 then n else 1) < 2 ^ 64 := by
      intro n h0 h1
      split <;> omega
    have mx2 := mx (nms.map V.str).length (by omega) (by rw [List.length_map]; omega)
    refine ⟨_, rfl, _, rfl, _, rfl, a, _, rfl, .inl (.of I4.a), _, _, rfl, v, 3, _, rfl, c4', by decide, by decide, mx2.1, mx2.2, fun H5 i k5 c5 i0 _ => ?_⟩
    obtain ⟨i, rfl⟩ := Int.eq_ofNat_of_zero_le i0
    have I5 := I4.kp k5 ho
    refine ⟨_, rfl, a, _, rfl, .of I5.a, fun p8 n8 => ?_⟩
    have s6 := same_new (o := .lst (cutV (nms.map V.str) (some (i : Int)) none)) n8
    refine ⟨_, rfl, p8, _, rfl, .of upd_same, fun p7 n7 => ?_⟩
    have s7 := same_new (o := .lst (cutV (cutV (nms.map V.str) (some (i : Int)) none) none (some 1))) n7
    have s57 := s6.trans s7
    have ecut : cutV (cutV (nms.map V.str) (some (i : Int)) none) none (some 1) = ((nms.drop i).take 1).map V.str := by
      rw [cutV_from, show (1 : Int) = ((1 : Nat) : Int) from rfl, cutV_to, List.map_take, List.map_drop]
    rw [ecut] at s7 s57 ⊢
    have hxl : ∀ z ∈ (nms.drop i).take 1, z ∈ nms := fun z hz => List.mem_of_mem_drop (List.mem_of_mem_take hz)
    generalize (nms.drop i).take 1 = xl at hxl s7 s57 ⊢
    have l6' : H5 p6 = some (.lst xs) := k5 _ _ l6 fun z => absurd z nc6'
    have nc7 : ¬ cellS v p7 := (c5.same s6).fresh n7
    have st0 : PSg K H _ v (.ref pi) nms rws hds a b c p6 xs es p7 xl := ⟨(k04.trans k5).trans (.of_same s57), c5.same s57, I5.kp (Kp.of_same (S := cellS v) s57) ho, s57 _ _ l6', ⟨dpAll_same (dpAll_kp k5 _ _ (exs_noL es) ex.1) s57 (exs_noL es), ex.2⟩, upd_same⟩
    have hk7 : ∀ z ∈ xl, PyData.strOk z = true := fun z hz => hk z (hxl z hz)
    have mk : ∀ (H' : Hp) (ds : List PyData) (ys : List V) (s : Sm), Kp (cellS v) H H' → CellOk H' v → DpAll K H' ys ds → s.d = .tuple ds → nLs ds = true → ds.length ≤ 4 → s.Wf nms rws hds 0 → s.size = 1 → ys.length ≤ sizeLine ∧ ∀ p, H' p = none → Q (.ref p) (upd H' p (.tup ys)) := by
      intro H' ds ys s k' c' h' he hno hl wf sz
      refine ⟨?_, fun p np => q _ _ s (k'.trans (.of_same (same_new np))) (c'.same (same_new np)) ?_ wf sz⟩
      · rw [dpAll_len h', sizeLine_eq]
        omega
      · rw [he]
        exact .tup (.of upd_same) (dpAll_same h' (same_new np) hno)
    obtain ⟨e0, e1, e2, e3, rfl⟩ : ∃ e0 e1 e2 e3, es = [e0, e1, e2, e3] := by
      match es, len with
      | [e0, e1, e2, e3], _ => exact ⟨_, _, _, _, rfl⟩
    obtain ⟨x0, x1, x2, x3, rfl⟩ : ∃ x0 x1 x2 x3, xs = [x0, x1, x2, x3] := by
      obtain ⟨x0, r0, rfl, _, h1⟩ := dpAll_cons ex.1
      obtain ⟨x1, r1, rfl, _, h2⟩ := dpAll_cons h1
      obtain ⟨x2, r2, rfl, _, h3⟩ := dpAll_cons h2
      obtain ⟨x3, r3, rfl, _, h4⟩ := dpAll_cons h3
      rw [dpAll_nil h4]
      exact ⟨_, _, _, _, rfl⟩
    have wf0 : e0.Wf nms rws 4 := ex.2 e0 (by simp)
    have wf1 : e1.Wf nms rws 4 := ex.2 e1 (by simp)
    have ex2 := ex.2
    clear ex l6 l6' I4 I5 hI hT
    generalize upd (upd H5 p8 _) p7 _ = H7 at st0
    -- what comes of an expression at its place
    have dpx : ∀ {H' : Hp}, PSg K H H' v (.ref pi) nms rws hds a b c p6 [x0, x1, x2, x3] [e0, e1, e2, e3] p7 xl → Dp K H' x0 e0.d ∧ Dp K H' x1 e1.d := by
      intro H' st
      obtain ⟨_, _, z, h0, h1⟩ := dpAll_cons st.ex.1
      obtain ⟨_, _, z1, h2, h3⟩ := dpAll_cons h1
      injection z with z z'
      subst z z'
      injection z1 with z1 z1'
      subst z1
      exact ⟨h0, h2⟩
    have slots : List (Option V) := [some v, some (.ref pi), some (.ref a), some (.ref b), some (.ref c), some (.str wd), some (.ref p6), some (.ref p7), none, none]
    dsimp only [gName]
    -- put
    refine ifs_by (fun σ' H' => H' = H7 ∧ σ' = [some v, some (.ref pi), some (.ref a), some (.ref b), some (.ref c), some (.str wd), some (.ref p6), some (.ref p7), none, none]) ?_ ?_
    rotate_left
    · intro N hN
      refine ⟨_, rfl, rfl, _, rfl, ite2 (fun _ => ?_) (fun _ => hN _ _ ⟨rfl, rfl⟩)⟩
      refine ⟨_, rfl, b, _, rfl, .inl (.of st0.info.b), _, _, rfl, rfl, _, rfl, ite2 (fun e2 => ?_) (fun _ => hN _ _ ⟨rfl, rfl⟩)⟩
      have r0 : 0 < rws.length := by
        have := of_decide_eq_true e2
        rw [List.length_map] at this
        omega
      refine ⟨_, rfl, p6, _, 0, _, rfl, rfl, .of st0.l6, atI_nat (j := 0) rfl, ?_⟩
      refine ⟨_, rfl, v, 4, 4, rfl, st0.cell, by decide, by decide, by decide, by decide, fun H8 r k8 c8 r0' r1' => ?_⟩
      have st8 := st0.kp k8 c8 ho nc6' nc7
      refine ⟨(by show 2 ≤ sizeLine; rw [sizeLine_eq]; decide), fun pt npt => ?_⟩
      have st9 := st8.same ho (o := .tup [.str "number", .int r]) npt
      refine ⟨(by show 2 ≤ sizeLine; rw [sizeLine_eq]; decide), fun pl npl => ?_⟩
      have st10 := st9.same ho (o := .lst [x0, .ref pt]) npl
      have ncl : ¬ cellS v pl := st9.cell.fresh npl
      refine ⟨_, rfl, v, 5, 2, rfl, st10.cell, by decide, by decide, by decide, by decide, fun H11 j k11 c11 j0 j1 => ?_⟩
      have st11 := st10.kp k11 c11 ho nc6' nc7
      have dnum : Dp K H11 (.ref pt) (Ex.num r).d := .tup (sqT_kp k11 (sqT_kp (Kp.of_same (S := cellS v) (same_new npl)) (.of upd_same))) (.cons (.str _) (.cons (.int _) .nil))
      obtain ⟨y, hy, ey⟩ := at_list (ns := [x0, V.ref pt]) j0 j1
      obtain ⟨ye, dy, wy⟩ : ∃ ye : Ex, Dp K H11 y ye.d ∧ ye.Wf nms rws 4 := by
        simp only [List.mem_cons, List.not_mem_nil, or_false] at hy
        rcases hy with rfl | rfl
        · exact ⟨e0, (dpx st11).1, wf0⟩
        · exact ⟨.num r, dnum, ⟨by omega, by omega⟩⟩
      refine ⟨pl, _, j, _, rfl, rfl, .of (k11 _ _ upd_same fun z => absurd z ncl), ey, ?_⟩
      refine ⟨_, rfl, _, rfl, _, rfl, b, _, rfl, .inl (.of st11.info.b), v, 6, (rws.map V.str).length, rfl, c11, by decide, by decide, by rw [List.length_map]; omega, by rw [List.length_map]; omega, fun H12 i k12 c12 i0 i1 => ?_⟩
      rw [List.length_map] at i1
      have st12 := st11.kp k12 c12 ho nc6' nc7
      obtain ⟨z, hz, ez⟩ := in_strs_at i0 i1
      refine ⟨b, _, i, _, rfl, rfl, .of st12.info.b, ez, _, rfl, _, rfl, p6, _, 1, _, rfl, rfl, .of st12.l6, atI_nat (j := 1) rfl, ?_⟩
      exact mk H12 [.str "put", .str z, ye.d, e1.d] _ (.put z ye e1) st12.k st12.cell (.cons (.str _) (.cons (.str _) (.cons (dp_kp k12 _ _ ye.noL dy) (.cons (dpx st12).2 .nil)))) (by simp [Sm.d]) (by simp [nLs, nLd, ye.noL, e1.noL]) (by simp) (by simp [Sm.Wf]; exact ⟨hz, wy, wf1⟩) (by simp [Sm.size])
    rintro σ' H8 ⟨rfl, rfl⟩
    -- call
    refine ifs_by (fun σ' H' => Same H8 H' ∧ σ' = [some v, some (.ref pi), some (.ref a), some (.ref b), some (.ref c), some (.str wd), some (.ref p6), some (.ref p7), none, none]) ?_ ?_
    rotate_left
    · intro N hN
      obtain ⟨hs, hc, hdp⟩ := st0.info.c
      refine ⟨_, rfl, rfl, _, rfl, ite2 (fun _ => ?_) (fun _ => hN _ _ ⟨Same.refl _, rfl⟩)⟩
      refine ⟨_, rfl, c, _, rfl, .inl (.of hc), _, _, rfl, rfl, _, rfl, ite2 (fun g2 => ?_) (fun _ => hN _ _ ⟨Same.refl _, rfl⟩)⟩
      have l0 : hs.length = hds.length := by rw [dpAll_len hdp, List.length_map]
      have h0 : 0 < hds.length := by
        have := of_decide_eq_true g2
        omega
      refine ⟨_, rfl, Nat.zero_le _, fun pn npn => ?_⟩
      have sn := same_new (o := .lst []) npn
      have stn := st0.same ho (o := .lst []) npn
      refine ⟨.list (xl.map PyData.str), .list [], .lst (.of stn.l7) (strs_dpAll xl), .lst (.of upd_same) .nil, strs_shaped xl hk7, strs_shaped [] (fun z hz => nomatch hz), _, rfl, ?_⟩
      rw [eqv_strs_nil]
      cases xl with
      | nil => exact hN _ _ ⟨sn, rfl⟩
      | cons x xr =>
        obtain ⟨hs', hc', hdp'⟩ := stn.info.c
        have eh : hs' = hs := by
          have := sn _ _ hc
          rw [hc'] at this
          injection this with this
          injection this
        subst eh
        refine ⟨_, rfl, _, rfl, _, rfl, c, _, rfl, .inl (.of hc'), v, 7, hs'.length, rfl, stn.cell, by decide, by decide, by omega, by omega, fun H9 j k9 c9 j0 j1 => ?_⟩
        have st9 := stn.kp k9 c9 ho nc6' nc7
        have hc9 : H9 c = some (.lst hs') := k9 _ _ hc' fun z => absurd z ho.2.2
        obtain ⟨j, rfl⟩ := Int.eq_ofNat_of_zero_le j0
        have hj : j < hds.length := by omega
        obtain ⟨hv', ev', dv'⟩ := dpAll_get (i := j) (dpAll_kp k9 _ _ (heads_noL hds) hdp') (by rw [List.getElem?_map, List.getElem?_eq_getElem hj]; rfl)
        obtain ⟨ph, yh, rfl, sh, dh⟩ := dp_tup dv'
        obtain ⟨y1, yr, rfl, d1, dh⟩ := dpAll_cons dh
        obtain ⟨y2, yr, rfl, d2, dh⟩ := dpAll_cons dh
        rw [dpAll_nil dh] at sh
        rw [dp_str d1, dp_int d2] at sh
        have hm : hds[j] ∈ hds := List.getElem_mem _
        have hq2 := hq _ hm
        refine ⟨c, _, j, _, rfl, rfl, .of hc9, atI_nat ev', ?_⟩
        refine ⟨_, rfl, p7, _, 0, _, rfl, rfl, .of st9.l7, atI_nat (j := 0) rfl, ?_⟩
        refine ⟨_, rfl, ph, _, 0, _, rfl, rfl, sh, atI_nat (j := 0) rfl, ?_⟩
        refine ⟨_, rfl, _, rfl, ph, _, 1, _, rfl, rfl, sh, atI_nat (j := 1) rfl, _, rfl, p6, _, rfl, .of st9.l6, fun pc npc => ?_⟩
        have st10 := st9.same ho (o := .lst (cutV [x0, x1, x2, x3] none (some (hds[j].2 : Int)))) npc
        refine ⟨pc, _, rfl, .inl ⟨.of upd_same, fun pd npd => ?_⟩⟩
        have st11 := st10.same ho (o := .tup (cutV [x0, x1, x2, x3] none (some (hds[j].2 : Int)))) npd
        rw [cutV_to] at st11
        rw [cutV_to]
        have dargs : Dp K _ (.ref pd) (.tuple (([e0, e1, e2, e3].take hds[j].2).map Ex.d)) := .tup (.of (upd_same (H := upd H9 pc _) (a := pd) (o := .tup ([x0, x1, x2, x3].take hds[j].2)))) (by rw [List.map_take]; exact dpAll_take _ st11.ex.1)
        refine mk _ [.str "call", .str x, .str hds[j].1, .tuple (([e0, e1, e2, e3].take hds[j].2).map Ex.d)] _ (.call x hds[j].1 ([e0, e1, e2, e3].take hds[j].2)) st11.k st11.cell (.cons (.str _) (.cons (.str _) (.cons (.str _) (.cons dargs .nil)))) (by simp only [Sm.d]) (by simp only [nLs, nLd, exs_noL]; rfl) (by show 4 ≤ 4; decide) ?_ (by simp [Sm.size])
        unfold Sm.Wf
        refine ⟨hxl _ (by simp), ?_, fun e he => ex2 e (List.mem_of_mem_take he)⟩
        rw [List.length_take, show ([e0, e1, e2, e3] : List Ex).length = 4 from rfl, Nat.min_eq_left hq2]
        exact hm
    rintro σ' H9 ⟨s9, rfl⟩
    have st9 : PSg K H H9 v (.ref pi) nms rws hds a b c p6 [x0, x1, x2, x3] [e0, e1, e2, e3] p7 xl :=
      ⟨st0.k.trans (.of_same s9), st0.cell.same s9, st0.info.kp (Kp.of_same (S := cellS v) s9) ho, s9 _ _ st0.l6, ⟨dpAll_same st0.ex.1 s9 (exs_noL _), st0.ex.2⟩, s9 _ _ st0.l7⟩
    -- fail
    refine ifs_by (fun σ' H' => PSg K H H' v (.ref pi) nms rws hds a b c p6 [x0, x1, x2, x3] [e0, e1, e2, e3] p7 xl ∧ σ' = [some v, some (.ref pi), some (.ref a), some (.ref b), some (.ref c), some (.str wd), some (.ref p6), some (.ref p7), none, none]) ?_ ?_
    rotate_left
    · intro N hN
      refine ⟨_, rfl, rfl, _, rfl, ite2 (fun _ => ?_) (fun _ => hN _ _ ⟨st9, rfl⟩)⟩
      refine ⟨_, rfl, v, 8, 3, rfl, st9.cell, by decide, by decide, by decide, by decide, fun H10 r k10 c10 _ _ => ?_⟩
      have st10 := st9.kp k10 c10 ho nc6' nc7
      refine ⟨rfl, _, rfl, ite2 (fun _ => ?_) (fun _ => hN _ _ ⟨st10, rfl⟩)⟩
      refine ⟨_, rfl, v, 9, 100, rfl, c10, by decide, by decide, by decide, by decide, fun H11 n k11 c11 n0 n1 => ?_⟩
      have st11 := st10.kp k11 c11 ho nc6' nc7
      exact mk H11 [.str "fail", .int n] _ (.fail n) st11.k st11.cell (.cons (.str _) (.cons (.int _) .nil)) (by simp only [Sm.d]) rfl (by show 2 ≤ 4; decide) (by unfold Sm.Wf; exact ⟨n0, n1⟩) (by simp [Sm.size])
    rintro σ' H10 ⟨st10, rfl⟩
    -- give
    refine ifs_by (fun σ' H' => PSg K H H' v (.ref pi) nms rws hds a b c p6 [x0, x1, x2, x3] [e0, e1, e2, e3] p7 xl ∧ σ' = [some v, some (.ref pi), some (.ref a), some (.ref b), some (.ref c), some (.str wd), some (.ref p6), some (.ref p7), none, none]) ?_ ?_
    rotate_left
    · intro N hN
      refine ⟨_, rfl, rfl, _, rfl, ite2 (fun _ => ?_) (fun _ => hN _ _ ⟨st10, rfl⟩)⟩
      refine ⟨_, rfl, v, 8, 2, rfl, st10.cell, by decide, by decide, by decide, by decide, fun H11 r k11 c11 _ _ => ?_⟩
      have st11 := st10.kp k11 c11 ho nc6' nc7
      refine ⟨rfl, _, rfl, ite2 (fun _ => ?_) (fun _ => hN _ _ ⟨st11, rfl⟩)⟩
      refine ⟨_, rfl, p6, _, 0, _, rfl, rfl, .of st11.l6, atI_nat (j := 0) rfl, ?_⟩
      exact mk H11 [.str "give", e0.d] _ (.give e0) st11.k st11.cell (.cons (.str _) (.cons (dpx st11).1 .nil)) (by simp only [Sm.d]) (by simp [nLs, nLd, e0.noL]) (by show 2 ≤ 4; decide) (by unfold Sm.Wf; exact wf0) (by simp [Sm.size])
    rintro σ' H11 ⟨st11, rfl⟩
    -- set
    refine ifs_by (fun σ' H' => PSg K H H' v (.ref pi) nms rws hds a b c p6 [x0, x1, x2, x3] [e0, e1, e2, e3] p7 xl ∧ σ' = [some v, some (.ref pi), some (.ref a), some (.ref b), some (.ref c), some (.str wd), some (.ref p6), some (.ref p7), none, none]) ?_ ?_
    rotate_left
    · intro N hN
      refine ⟨_, rfl, rfl, _, rfl, ite2 (fun _ => ?_) (fun _ => hN _ _ ⟨st11, rfl⟩)⟩
      refine ⟨_, rfl, Nat.zero_le _, fun pn npn => ?_⟩
      have stn := st11.same ho (o := .lst []) npn
      refine ⟨.list (xl.map PyData.str), .list [], .lst (.of stn.l7) (strs_dpAll xl), .lst (.of upd_same) .nil, strs_shaped xl hk7, strs_shaped [] (fun z hz => nomatch hz), _, rfl, ?_⟩
      rw [eqv_strs_nil]
      cases xl with
      | nil => exact hN _ _ ⟨stn, rfl⟩
      | cons x xr =>
        refine ⟨_, rfl, p7, _, 0, _, rfl, rfl, .of stn.l7, atI_nat (j := 0) rfl, _, rfl, p6, _, 0, _, rfl, rfl, .of stn.l6, atI_nat (j := 0) rfl, ?_⟩
        exact mk _ [.str "set", .str x, e0.d] _ (.set x e0) stn.k stn.cell (.cons (.str _) (.cons (.str _) (.cons (dpx stn).1 .nil))) (by simp only [Sm.d]) (by simp [nLs, nLd, e0.noL]) (by show 3 ≤ 4; decide) (by unfold Sm.Wf; exact ⟨hxl _ (by simp), wf0⟩) (by simp [Sm.size])
    rintro σ' H12 ⟨st12, rfl⟩
    refine ⟨_, rfl, p6, _, 0, _, rfl, rfl, .of st12.l6, atI_nat (j := 0) rfl, ?_⟩
    exact mk H12 [.str "tell", e0.d] _ (.tell e0) st12.k st12.cell (.cons (.str _) (.cons (dpx st12).1 .nil)) (by simp only [Sm.d]) (by simp [nLs, nLd, e0.noL]) (by show 2 ≤ 4; decide) (by unfold Sm.Wf; exact wf0) (by simp [Sm.size])
end
section
variable {P : Program} {w : World} {K : PySem.W.Frag} {mg : Str → Option Value} {base : Heap}
/-- the cells that are left, in a list -/
structure CellsOk (H : Hp) (pc : Addr) (cs : List V) : Prop where
  at_ : H pc = some (.lst cs)
  ok : ∀ x ∈ cs, CellOk H x
  off : ∀ x ∈ cs, x ≠ .ref pc
def cellsS (pc : Addr) (cs : List V) : Addr → Prop := fun b => b = pc ∨ ∃ x ∈ cs, cellS x b
theorem CellOk.kp {H H' : Hp} {S : Addr → Prop} {x : V} (c : CellOk H x) (k : Kp S H H') (h : ∀ b, x = .ref b → S b → CellOk H' x) : CellOk H' x := by
  rcases c with ⟨n, rfl⟩ | ⟨a, l, t, rfl, ha, h1, h2⟩
  · exact .inl ⟨n, rfl⟩
  · by_cases z : S a
    · exact h a rfl z
    · exact .inr ⟨a, l, t, rfl, k _ _ ha fun y => absurd y z, h1, h2⟩
theorem CellsOk.cell {H H' : Hp} {pc : Addr} {cs : List V} {v : V} (h : CellsOk H pc cs) (k : Kp (cellS v) H H') (c : CellOk H' v) (n : v ≠ .ref pc) : CellsOk H' pc cs :=
  ⟨k _ _ h.at_ fun z => absurd z n, fun x hx => (h.ok x hx).kp k fun b e z => by rw [e, ← show v = .ref b from z]; exact c, h.off⟩
theorem CellsOk.same {H H' : Hp} {pc : Addr} {cs : List V} (h : CellsOk H pc cs) (k : Same H H') : CellsOk H' pc cs :=
  ⟨k _ _ h.at_, fun x hx => (h.ok x hx).same k, h.off⟩
theorem cellsS_drop {pc : Addr} {cs : List V} (n : Nat) : ∀ b, cellsS pc (cs.drop n) b → cellsS pc cs b := by
  rintro b (e | ⟨x, hx, e⟩)
  · exact .inl e
  · exact .inr ⟨x, List.mem_of_mem_drop hx, e⟩
theorem CellsOk.pop {H : Hp} {pc : Addr} {y : V} {cs : List V} (h : CellsOk H pc (y :: cs)) : CellsOk (upd H pc (.lst cs)) pc cs ∧ CellOk (upd H pc (.lst cs)) y :=
  ⟨⟨upd_same, fun x hx => (h.ok x (List.mem_cons_of_mem _ hx)).upd (h.off x (List.mem_cons_of_mem _ hx)), fun x hx => h.off x (List.mem_cons_of_mem _ hx)⟩, (h.ok y (List.mem_cons_self ..)).upd (h.off y (List.mem_cons_self ..))⟩
theorem nLs_app : ∀ {a b : List PyData}, nLs a = true → nLs b = true → nLs (a ++ b) = true
  | [], _, _, h => h
  | x :: r, b, h, h' => by
    simp only [nLs, Bool.and_eq_true] at h
    show nLs (x :: (r ++ b)) = true
    simp only [nLs, Bool.and_eq_true]
    exact ⟨h.1, nLs_app h.2 h'⟩
theorem cat_use {H : Hp} {va vb : V} {ds es : List PyData} {Q : VK} (ha : Dp K H va (.tuple ds)) (hb : Dp K H vb (.tuple es)) (hn : nLs ds = true) (hm : nLs es = true) (hl : ds.length + es.length ≤ sizeLine)
    (q : ∀ H' r, Same H H' → Dp K H' r (.tuple (ds ++ es)) → Q r H') : rCatA K va vb H Q := by
  obtain ⟨a, xs, rfl, ha, da⟩ := dp_tup ha
  obtain ⟨b, ys, rfl, hb, db⟩ := dp_tup hb
  refine ⟨a, b, xs, ys, rfl, rfl, ha, hb, by rw [dpAll_len da, dpAll_len db]; exact hl, fun e => ?_, fun _ e => ?_, fun _ _ p np => ?_⟩
  · subst e
    cases da
    exact q _ _ (Same.refl _) (.tup hb db)
  · subst e
    cases db
    rw [List.append_nil] at q
    exact q _ _ (Same.refl _) (.tup ha da)
  · exact q _ _ (same_new np) (.tup (.of upd_same) (dpAll_same (dpAll_app da db) (same_new np) (nLs_app hn hm)))
theorem dp_new {H : Hp} {p : Addr} {xs : List V} {ds : List PyData} (np : H p = none) (h : DpAll K H xs ds) (n : nLs ds = true) : Dp K (upd H p (.tup xs)) (.ref p) (.tuple ds) := .tup (.of upd_same) (dpAll_same h (same_new np) n)
theorem Sm.ds_append (a b : List Sm) : Sm.ds (a ++ b) = Sm.ds a ++ Sm.ds b := by rw [Sm.ds_eq, Sm.ds_eq, Sm.ds_eq, List.map_append]
theorem Sm.ds_len (a : List Sm) : (Sm.ds a).length = a.length := by rw [Sm.ds_eq, List.length_map]
theorem Sm.size_pos (s : Sm) : 1 ≤ s.size := by cases s <;> simp only [Sm.size] <;> omega
theorem Sm.sizes_len : ∀ a : List Sm, a.length ≤ Sm.sizes a
  | [] => Nat.zero_le _
  | s :: r => by
    simp only [Sm.sizes, List.length_cons]
    have := Sm.sizes_len r
    have := s.size_pos
    omega
theorem Sm.sizes_append : ∀ a b : List Sm, Sm.sizes (a ++ b) = Sm.sizes a + Sm.sizes b
  | [], b => by simp [Sm.sizes]
  | s :: r, b => by
    show Sm.sizes (s :: (r ++ b)) = _
    simp only [Sm.sizes, Sm.sizes_append r b]
    omega
def sp_gbody (K : PySem.W.Frag) (D : Nat) : Sp := fun vs H Q _ => ∃ (pc : Addr) (cs : List V) (dp : Int) (vi : V) (nms rws : List Str) (hds : List (Str × Nat)) (a b c : Addr), vs = [.ref pc, .int dp, vi] ∧ CellsOk H pc cs ∧ 0 ≤ dp ∧ dp ≤ 4 ∧ 4 - dp ≤ D ∧
  cs.length ≤ 1000 ∧ Info K H vi nms rws hds a b c ∧ nms.length ≤ 16 ∧ rws.length ≤ 16 ∧ hds.length ≤ 16 ∧ (∀ q ∈ hds, q.2 ≤ 4) ∧ (∀ z ∈ nms, PyData.strOk z = true) ∧ Off (cellsS pc cs) a b c ∧
  ∀ H' r n (bd : List Sm), Kp (cellsS pc cs) H H' → CellsOk H' pc (cs.drop n) → n ≤ cs.length → Dp K H' r (.tuple (Sm.ds bd)) → Sm.Wfs nms rws hds bd (4 - dp).toNat → Sm.sizes bd ≤ n → Q r H'
def sp_nest (K : PySem.W.Frag) (D : Nat) : Sp := fun vs H Q _ => ∃ (v : V) (way : Int) (pc : Addr) (cs : List V) (dp : Int) (vi : V) (nms rws : List Str) (hds : List (Str × Nat)) (a b c : Addr), vs = [v, .int way, .ref pc, .int dp, vi] ∧ CellOk H v ∧ v ≠ .ref pc ∧ CellsOk H pc cs ∧ 0 ≤ dp ∧ dp ≤ 3 ∧ 4 - dp ≤ D ∧
  cs.length ≤ 1000 ∧ Info K H vi nms rws hds a b c ∧ nms.length ≤ 16 ∧ rws.length ≤ 16 ∧ hds.length ≤ 16 ∧ (∀ q ∈ hds, q.2 ≤ 4) ∧ (∀ z ∈ nms, PyData.strOk z = true) ∧ Off (cellS v) a b c ∧ Off (cellsS pc cs) a b c ∧
  ∀ H' r n (s : Sm), Kp (fun x => cellS v x ∨ cellsS pc cs x) H H' → CellsOk H' pc (cs.drop n) → n ≤ cs.length → Dp K H' r s.d → s.Wf nms rws hds (4 - dp).toNat → s.ends = false → s.size ≤ n + 1 → Q r H'
theorem ok_nest0 (T : Top K mg) : FnOk P w K mg base CX0 11 (He.ga K "_law_nest") T.fd__law_nest ["_law_cell", "_law_way", "_law_cells", "_law_deep", "_law_info"] (sp_nest K 0) := by
  refine T.F__law_nest.ok sc__law_nest (fun vs H Q E h => ?_) (fun cdv A outer s H vs Q E hr h => ?_)
  · obtain ⟨v, way, pc, cs, dp, vi, nms, rws, hds, a, b, c, rfl, _⟩ := h
    rfl
  · obtain ⟨v, way, pc, cs, dp, vi, nms, rws, hds, a, b, c, rfl, _, _, _, h1, h2, h3, _⟩ := h
    exfalso
    have : (4 : Int) - dp ≤ 0 := h3
    omega
theorem ok_nest_of (T : Top K mg) (D : Nat) (G__law_body : FnOk P w K mg base CX0 (2 * D + 12) (He.ga K "_law_body") T.fd__law_body ["_law_cells", "_law_deep", "_law_info"] (sp_gbody K D)) :
    FnOk P w K mg base CX0 (2 * D + 13) (He.ga K "_law_nest") T.fd__law_nest ["_law_cell", "_law_way", "_law_cells", "_law_deep", "_law_info"] (sp_nest K (D + 1)) := by
  have G__law_mixed := ok__law_mixed (P := P) (w := w) (base := base) T
  have G__law_within := ok__law_within (P := P) (w := w) (base := base) T
  have G__law_expressions := ok__law_expressions (P := P) (w := w) (base := base) T
  refine T.F__law_nest.ok sc__law_nest (fun vs H Q E h => ?_) (fun cdv A outer s H vs Q E hr h => ?_)
  · obtain ⟨v, way, pc, cs, dp, vi, nms, rws, hds, a, b, c, rfl, _⟩ := h
    rfl
  · obtain ⟨v, way, pc, cs, dp, vi, nms, rws, hds, a, b, c, rfl, hv, vpc, hC, d0, d1, d2, hcl, hI, hn, hw, hh, hq, hk, ho, hoC, q⟩ := h
    refine ⟨_, PSs.nox (pss_cons (ps_set (i := 5) sc__law_nest.nd rfl (Or.inl rfl) (pe_ix ix_list (pe_call G__law_expressions (hr.mono (by omega)) (by rfl) T.g__law_expressions T.F__law_expressions.kp T.b__law_expressions .nil pass0 (pa_cons (pe_call G__law_within (hr.mono (by omega)) (by rfl) T.g__law_within T.F__law_within.kp T.b__law_within .nil pass0 (pa_cons (pv 0) (pa_cons pe_int pa_nil))) (pa_cons pe_int (pa_cons (pv 4) pa_nil)))) pe_int (fun _ _ => rfl)))
        (pss_cons (ps_if (pt_cmpR op_lt (pv 1) pe_int (nomark _)) (pss_cons (ps_set (i := 6) sc__law_nest.nd rfl (Or.inl rfl) (pe_call G__law_body (hr.mono (by omega)) (by rfl) T.g__law_body T.F__law_body.kp T.b__law_body .nil pass0 (pa_cons (pv 2) (pa_cons (pe_op op_add (pv 3) pe_int) (pa_cons (pv 4) pa_nil)))))
        (pss_cons (ps_set (i := 7) sc__law_nest.nd rfl (Or.inl rfl) (pe_tup pa_nil))
        (pss_cons (ps_if (pt_cmpR op_eq (pv 1) pe_int (nomark _)) (pss_one (ps_set (i := 7) sc__law_nest.nd rfl (Or.inl rfl) (pe_call G__law_body (hr.mono (by omega)) (by rfl) T.g__law_body T.F__law_body.kp T.b__law_body .nil pass0 (pa_cons (pv 2) (pa_cons (pe_op op_add (pv 3) pe_int) (pa_cons (pv 4) pa_nil)))))) pss_nil)
        (pss_one (ps_ret (pe_tup (pa_cons pe_str (pa_cons (pv 5) (pa_cons (pv 6) (pa_cons (pv 7) pa_nil)))))))))) pss_nil)
        (pss_cons (ps_set (i := 8) sc__law_nest.nd rfl (Or.inl rfl) (pe_tup pa_nil))
        (pss_cons (ps_if (PW.pt (pw_and (pt_cmpR op_gt (pe_call G__law_mixed (hr.mono (by omega)) (by rfl) T.g__law_mixed T.F__law_mixed.kp T.b__law_mixed .nil pass0 (pa_cons (pv 0) (pa_cons pe_int (pa_cons pe_int pa_nil)))) pe_int (nomark _)) (pw_and (pt_cmpR op_gt (pe_callB call_len_seq (by rfl) T.m_len (by decide +kernel) (pa_cons (pe_ix ix_tup (pv 4) pe_int (fun _ _ => rfl)) pa_nil)) pe_int (nomark _)) (pw_and1 (pt_cmpR op_gt (pe_callB call_len_seq (by rfl) T.m_len (by decide +kernel) (pa_cons (pv 2) pa_nil)) pe_int (nomark _)))))) (pss_cons (ps_expr (pe_bm PySem.F.plainAttrs_list PySem.F.slot_list_pop PySem.F.type_list_pop mt_popAt (pv 2) (pa_cons pe_int pa_nil)))
        (pss_cons (ps_set (i := 9) sc__law_nest.nd rfl (Or.inl rfl) (pe_ix ix_list (pe_ix ix_tup (pv 4) pe_int (fun _ _ => rfl)) (pe_call G__law_mixed (hr.mono (by omega)) (by rfl) T.g__law_mixed T.F__law_mixed.kp T.b__law_mixed .nil pass0 (pa_cons (pv 0) (pa_cons pe_int (pa_cons (pe_callB call_len_seq (by rfl) T.m_len (by decide +kernel) (pa_cons (pe_ix ix_tup (pv 4) pe_int (fun _ _ => rfl)) pa_nil)) pa_nil)))) (fun _ _ => rfl)))
        (pss_cons (ps_set (i := 5) sc__law_nest.nd rfl (Or.inl rfl) (pe_tup (pa_cons pe_str (pa_cons (pe_tup (pa_cons pe_str (pa_cons (pv 9) pa_nil))) (pa_cons (pe_tup (pa_cons pe_str (pa_cons (pe_call G__law_mixed (hr.mono (by omega)) (by rfl) T.g__law_mixed T.F__law_mixed.kp T.b__law_mixed .nil pass0 (pa_cons (pv 0) (pa_cons pe_int (pa_cons pe_int pa_nil)))) pa_nil))) pa_nil)))))
        (pss_one (ps_set (i := 8) sc__law_nest.nd rfl (Or.inl rfl) (pe_tup (pa_cons (pe_tup (pa_cons pe_str (pa_cons (pv 9) (pa_cons (pe_tup (pa_cons pe_str (pa_cons (pe_tup (pa_cons pe_str (pa_cons (pv 9) pa_nil))) (pa_cons (pe_tup (pa_cons pe_str (pa_cons (pe_op op_add pe_int (pe_call G__law_mixed (hr.mono (by omega)) (by rfl) T.g__law_mixed T.F__law_mixed.kp T.b__law_mixed .nil pass0 (pa_cons (pv 0) (pa_cons pe_int (pa_cons pe_int pa_nil))))) pa_nil))) pa_nil)))) pa_nil)))) pa_nil))))))) pss_nil)
        (pss_one (ps_ret (pe_tup (pa_cons pe_str (pa_cons (pv 5) (pa_cons (pe_op op_catA (pv 8) (pe_call G__law_body (hr.mono (by omega)) (by rfl) T.g__law_body T.F__law_body.kp T.b__law_body .nil pass0 (pa_cons (pv 2) (pa_cons (pe_op op_add (pv 3) pe_int) (pa_cons (pv 4) pa_nil))))) pa_nil)))))))))), ?_⟩
    have d3 : (4 - (dp + 1)).toNat + 1 = (4 - dp).toNat := by omega
    have mono1 : ∀ {H1 H2 : Hp}, Kp (cellS v) H1 H2 → Kp (fun x => cellS v x ∨ cellsS pc cs x) H1 H2 := fun k => k.mono fun _ z => .inl z
    have monoC : ∀ {H1 H2 : Hp} {n : Nat}, Kp (cellsS pc (cs.drop n)) H1 H2 → Kp (fun x => cellS v x ∨ cellsS pc cs x) H1 H2 := fun k => k.mono fun b z => .inr (cellsS_drop _ b z)
    have hoA : Off (fun x => cellS v x ∨ cellsS pc cs x) a b c := ⟨fun z => z.elim ho.1 hoC.1, fun z => z.elim ho.2.1 hoC.2.1, fun z => z.elim ho.2.2 hoC.2.2⟩
    refine ⟨_, rfl, v, 2, rfl, hv, by decide, by decide, fun H1 v1 k1 c1 c1' w1 => ?_⟩
    have sub1 := cellS_sub w1
    refine ⟨_, rfl, v1, vi, 1, nms, rws, hds, a, b, c, rfl, c1', by decide, by decide, hI.kp k1 ho, hn, hw, ho.sub sub1, fun H2 p2 xs es k2 c2 np2 nc2 l2 ex len => ?_⟩
    obtain ⟨e0, rfl⟩ : ∃ e0, es = [e0] := by
      match es, len with
      | [e0], _ => exact ⟨_, rfl⟩
    obtain ⟨x0, r0, rfl, dx0, h1⟩ := dpAll_cons ex.1
    rw [dpAll_nil h1] at l2
    have wf0 : e0.Wf nms rws 4 := ex.2 e0 (by simp)
    refine ⟨p2, _, 0, _, rfl, rfl, .of l2, atI_nat (j := 0) rfl, ?_⟩
    have k02 : Kp (cellS v) H H2 := k1.trans (k2.mono sub1)
    have c2' := cell_after w1 c1 k2 c2
    have C2 := hC.cell k02 c2' vpc
    have I2 := hI.kp k02 ho
    have kA2 := mono1 k02
    clear ex l2 c2 k2
    dsimp only [gName]
    refine ifs_by (fun σ' H' => H' = H2 ∧ σ' = [some v, some (.int way), some (.ref pc), some (.int dp), some vi, some x0, none, none, none, none]) ?_ ?_
    rotate_left
    · intro N hN
      refine ⟨_, rfl, _, _, rfl, rfl, _, rfl, ite2 (fun _ => ?_) (fun _ => hN _ _ ⟨rfl, rfl⟩)⟩
      -- if
      refine ⟨_, rfl, _, rfl, _, _, rfl, rfl, _, rfl, pc, cs, dp + 1, vi, nms, rws, hds, a, b, c, rfl, C2, by omega, by omega, by omega, hcl, I2, hn, hw, hh, hq, hk, hoC, fun H3 ry n ys k3 C3 hn3 dy wy sy => ?_⟩
      have kA3 := kA2.trans (monoC (n := 0) k3)
      have I3 := I2.kp k3 hoC
      refine ⟨Nat.zero_le _, fun pe npe => ?_⟩
      have s4 := same_new (o := .tup []) npe
      have de : Dp K (upd H3 pe (.tup [])) (.ref pe) (.tuple (Sm.ds [])) := .tup (.of upd_same) (by simp only [Sm.ds]; exact .nil)
      dsimp only [gName]
      refine ifs_by (fun σ' H' => ∃ rn m ns, Kp (fun x => cellS v x ∨ cellsS pc cs x) H3 H' ∧ CellsOk H' pc (cs.drop m) ∧ n ≤ m ∧ m ≤ cs.length ∧ Dp K H' rn (.tuple (Sm.ds ns)) ∧ Sm.Wfs nms rws hds ns (4 - (dp + 1)).toNat ∧ Sm.sizes ns + n ≤ m ∧ σ' = [some v, some (.int way), some (.ref pc), some (.int dp), some vi, some x0, some ry, some rn, none, none]) ?_ ?_
      · rintro σ' H5 ⟨rn, m, ns, k5, C5, nm, hm, dn, wn, sn, rfl⟩
        have kA5 := kA3.trans k5
        refine ⟨_, rfl, _, rfl, _, rfl, (by show 4 ≤ sizeLine; rw [sizeLine_eq]; decide), fun pr npr => ?_⟩
        have s6 := same_new (o := .tup [.str "if", x0, ry, rn]) npr
        refine q _ _ m (.ite e0 ys ns) (kA5.trans (.of_same s6)) (C5.same s6) hm ?_ ?_ rfl ?_
        · simp only [Sm.d]
          refine .tup (.of upd_same) (.cons (.str _) (.cons ?_ (.cons ?_ (.cons ?_ .nil))))
          · exact dp_same (dp_kp ((monoC (n := 0) k3).trans k5) _ _ e0.noL dx0) s6 e0.noL
          · have nn : nLd (.tuple (Sm.ds ys)) = true := by simp only [nLd]; exact Sm.noLs ys
            exact dp_same (dp_kp k5 _ _ nn dy) s6 nn
          · have nn : nLd (.tuple (Sm.ds ns)) = true := by simp only [nLd]; exact Sm.noLs ns
            exact dp_same dn s6 nn
        · unfold Sm.Wf
          refine ⟨by omega, wf0, ?_, ?_⟩
          · rw [← d3]
            exact wy
          · rw [← d3]
            exact wn
        · simp only [Sm.size]
          omega
      · intro M hM
        refine ⟨_, rfl, rfl, _, rfl, ite2 (fun _ => ?_) (fun _ => ?_)⟩
        · refine ⟨_, rfl, _, rfl, _, _, rfl, rfl, _, rfl, pc, cs.drop n, dp + 1, vi, nms, rws, hds, a, b, c, rfl, C3.same s4, by omega, by omega, by omega, by rw [List.length_drop]; omega, I3.kp (Kp.of_same (S := cellS v) s4) ho, hn, hw, hh, hq, hk, hoC.sub (cellsS_drop n), fun H6 rn m ns k6 C6 hm6 dn wn sn => ?_⟩
          rw [List.length_drop] at hm6
          rw [List.drop_drop] at C6
          exact hM _ _ ⟨rn, n + m, ns, (Kp.of_same s4).trans (monoC k6), C6, by omega, by omega, dn, wn, by omega, rfl⟩
        · exact hM _ _ ⟨.ref pe, n, [], .of_same s4, C3.same s4, by omega, hn3, de, by simp [Sm.Wfs], by simp [Sm.sizes], rfl⟩
    rintro σ' H3 ⟨rfl, rfl⟩
    -- while
    refine ⟨Nat.zero_le _, fun pe npe => ?_⟩
    have s4 := same_new (o := .tup []) npe
    have c4 := c2'.same s4
    have C4 := C2.same s4
    have I4 := I2.kp (Kp.of_same (S := cellS v) s4) ho
    have kA4 := kA2.trans (.of_same s4)
    have dx4 := dp_same dx0 s4 e0.noL
    have de : Dp K (upd H3 pe (.tup [])) (.ref pe) (.tuple (Sm.ds [])) := .tup (.of upd_same) (by simp only [Sm.ds]; exact .nil)
    generalize upd H3 pe (.tup []) = H4 at c4 C4 I4 kA4 dx4 de
    dsimp only [gName]
    refine ifs_by (fun σ' H' => ∃ xa ea pf fs n x9, Kp (fun x => cellS v x ∨ cellsS pc cs x) H H' ∧ CellsOk H' pc (cs.drop n) ∧ n ≤ cs.length ∧ Info K H' vi nms rws hds a b c ∧ Dp K H' xa (Ex.d ea) ∧ ea.Wf nms rws 4 ∧ Dp K H' (.ref pf) (.tuple (Sm.ds fs)) ∧ Sm.sizes fs ≤ n ∧ (∀ bd k, Sm.Wfs nms rws hds bd k → Sm.Wfs nms rws hds (fs ++ bd) k) ∧
      σ' = [some v, some (.int way), some (.ref pc), some (.int dp), some vi, some xa, none, none, some (.ref pf), x9]) ?_ ?_
    · rintro σ' H5 ⟨xa, ea, pf, fs, n, x9, k5, C5, hn5, I5, da, wa, df, sf, wf, rfl⟩
      refine ⟨_, rfl, _, rfl, _, rfl, _, rfl, _, _, rfl, rfl, _, rfl, pc, cs.drop n, dp + 1, vi, nms, rws, hds, a, b, c, rfl, C5, by omega, by omega, by omega, by rw [List.length_drop]; omega, I5, hn, hw, hh, hq, hk, hoC.sub (cellsS_drop n), fun H6 rb m bd k6 C6 hm6 db wb sb => ?_⟩
      rw [List.length_drop] at hm6
      rw [List.drop_drop] at C6
      have nf := Sm.noLs fs
      have nb := Sm.noLs bd
      have lf := Sm.sizes_len fs
      have lb := Sm.sizes_len bd
      refine cat_use (dp_kp k6 _ _ (by simp only [nLd]; exact nf) df) db nf nb (by rw [Sm.ds_len, Sm.ds_len, sizeLine_eq]; omega) fun H7 rc s7 dc => ?_
      rw [← Sm.ds_append] at dc
      refine ⟨(by show 3 ≤ sizeLine; rw [sizeLine_eq]; decide), fun pr npr => ?_⟩
      have s8 := same_new (o := .tup [.str "while", xa, rc]) npr
      refine q _ _ (n + m) (.loop ea (fs ++ bd)) (((k5.trans (monoC k6)).trans (.of_same s7)).trans (.of_same s8)) ((C6.same s7).same s8) (by omega) ?_ ?_ rfl ?_
      · simp only [Sm.d]
        refine .tup (.of upd_same) (.cons (.str _) (.cons ?_ (.cons ?_ .nil)))
        · exact dp_same (dp_same (dp_kp k6 _ _ ea.noL da) s7 ea.noL) s8 ea.noL
        · exact dp_same dc s8 (by simp only [nLd]; exact Sm.noLs _)
      · unfold Sm.Wf
        refine ⟨by omega, wa, ?_⟩
        rw [← d3]
        exact wf _ _ wb
      · simp only [Sm.size, Sm.sizes_append]
        omega
    · intro N hN
      have no : ∀ H' , Kp (cellS v) H4 H' → CellOk H' v → N [some v, some (.int way), some (.ref pc), some (.int dp), some vi, some x0, none, none, some (.ref pe), none] H' := fun H' k' c' =>
        hN _ _ ⟨x0, e0, pe, [], 0, none, kA4.trans (mono1 k'), C4.cell k' c' vpc, Nat.zero_le _, I4.kp k' ho, dp_kp k' _ _ e0.noL dx4, wf0, dp_kp k' _ _ (by simp only [nLd, Sm.ds, nLs]) de, by simp [Sm.sizes], fun bd k h => h, rfl⟩
      obtain ⟨pi, rfl, hT⟩ := I4.tup
      refine ⟨_, rfl, v, 3, 4, rfl, c4, by decide, by decide, by decide, by decide, fun H5 r5 k5 c5 _ _ => ?_⟩
      have I5 := I4.kp k5 ho
      have hT5 := sqT_kp k5 hT
      refine ⟨_, _, rfl, rfl, _, rfl, ite2 (fun _ => ?_) (fun _ => no _ k5 c5)⟩
      refine ⟨_, rfl, pi, _, 0, _, rfl, rfl, hT5, atI_nat (j := 0) rfl, a, _, rfl, .inl (.of I5.a), _, _, rfl, rfl, _, rfl, ite2 (fun g1 => ?_) (fun _ => no _ k5 c5)⟩
      have n0 : 0 < nms.length := by
        have := of_decide_eq_true g1
        rw [List.length_map] at this
        omega
      have C5 := C4.cell k5 c5 vpc
      refine ⟨_, rfl, pc, _, rfl, .inl (.of C5.at_), _, _, rfl, rfl, _, rfl, ite2 (fun g2 => ?_) (fun _ => no _ k5 c5)⟩
      cases cs with
      | nil =>
        have := of_decide_eq_true g2
        simp at this
      | cons y cs1 =>
        refine ⟨_, rfl, .inl ⟨rfl, _, .of C5.at_⟩, pc, _, 0, 0, y, rfl, rfl, C5.at_, by decide, by decide, ?_, rfl, ?_⟩
        · unfold seqIndex?
          simp
        show tSeq _ _ _ _ (upd H5 pc (.lst cs1))
        obtain ⟨C6, _⟩ := C5.pop
        have c6 : CellOk (upd H5 pc (.lst cs1)) v := c5.upd vpc
        have k6 : Kp (fun x => cellS v x ∨ cellsS pc (y :: cs1) x) H5 (upd H5 pc (.lst cs1)) := Kp.upd C5.at_ trivial (.inr (.inl rfl))
        have I6 := I5.kp k6 hoA
        have kA6 := (kA4.trans (mono1 k5)).trans k6
        have hT6 := sqT_kp k6 hT5
        generalize upd H5 pc (.lst cs1) = H6 at C6 c6 k6 I6 kA6 hT6
        refine ⟨_, rfl, pi, _, 0, _, rfl, rfl, hT6, atI_nat (j := 0) rfl, _, rfl, _, rfl, pi, _, 0, _, rfl, rfl, hT6, atI_nat (j := 0) rfl, a, _, rfl, .inl (.of I6.a), v, 4, (nms.map V.str).length, rfl, c6, by decide, by decide, by rw [List.length_map]; omega, by rw [List.length_map]; omega, fun H7 j k7 c7 j0 j1 => ?_⟩
        rw [List.length_map] at j1
        have I7 := I6.kp k7 ho
        have C7 := C6.cell k7 c7 vpc
        obtain ⟨x, hx, ex⟩ := in_strs_at j0 j1
        refine ⟨a, _, j, _, rfl, rfl, .of I7.a, ex, ?_⟩
        -- asked
        refine ⟨_, rfl, (by show 2 ≤ sizeLine; rw [sizeLine_eq]; decide), fun p1 n1 => ?_⟩
        have s1 := same_new (o := .tup [.str "name", .str x]) n1
        refine ⟨_, rfl, v, 5, 5, rfl, c7.same s1, by decide, by decide, by decide, by decide, fun H8 r8 k8 c8 r80 r81 => ?_⟩
        refine ⟨(by show 2 ≤ sizeLine; rw [sizeLine_eq]; decide), fun p2 n2 => ?_⟩
        have s2 := same_new (o := .tup [.str "number", .int r8]) n2
        refine ⟨(by show 3 ≤ sizeLine; rw [sizeLine_eq]; decide), fun p3 n3 => ?_⟩
        have s3 := same_new (o := .tup [.str "less", .ref p1, .ref p2]) n3
        have d1 : Dp K _ (.ref p1) (Ex.nam x).d := dp_same (dp_kp k8 _ _ rfl (dp_new n1 (.cons (.str _) (.cons (.str _) .nil)) rfl)) s2 rfl
        have d2 : Dp K _ (.ref p2) (Ex.num r8).d := dp_new n2 (.cons (.str _) (.cons (.int _) .nil)) rfl
        have dl : Dp K _ (.ref p3) (Ex.op "less" (.nam x) (.num r8)).d := dp_new n3 (.cons (.str _) (.cons d1 (.cons d2 .nil))) rfl
        have k78 : Kp (cellS v) H7 _ := ((Kp.of_same s1).trans k8).trans ((Kp.of_same s2).trans (.of_same s3))
        have c9 := (c8.same s2).same s3
        generalize upd (upd H8 p2 _) p3 _ = H9 at dl k78 c9
        have wl : (Ex.op "less" (.nam x) (.num r8)).Wf nms rws 4 := ⟨by decide +kernel, hx, ⟨by omega, by omega⟩⟩
        clear d1 d2
        -- first
        refine ⟨_, rfl, _, rfl, (by show 2 ≤ sizeLine; rw [sizeLine_eq]; decide), fun q1 m1 => ?_⟩
        have t1 := same_new (o := .tup [.str "name", .str x]) m1
        refine ⟨_, rfl, v, 6, 2, rfl, c9.same t1, by decide, by decide, by decide, by decide, fun H10 r10 k10 c10 r100 r101 => ?_⟩
        refine ⟨_, _, rfl, rfl, (by show 2 ≤ sizeLine; rw [sizeLine_eq]; decide), fun q2 m2 => ?_⟩
        have t2 := same_new (o := .tup [.str "number", .int (1 + r10)]) m2
        refine ⟨(by show 3 ≤ sizeLine; rw [sizeLine_eq]; decide), fun q3 m3 => ?_⟩
        have t3 := same_new (o := .tup [.str "add", .ref q1, .ref q2]) m3
        refine ⟨(by show 3 ≤ sizeLine; rw [sizeLine_eq]; decide), fun q4 m4 => ?_⟩
        have t4 := same_new (o := .tup [.str "set", .str x, .ref q3]) m4
        refine ⟨(by show 1 ≤ sizeLine; rw [sizeLine_eq]; decide), fun q5 m5 => ?_⟩
        have t5 := same_new (o := .tup [.ref q4]) m5
        have f1 : Dp K _ (.ref q1) (Ex.nam x).d := dp_same (dp_kp k10 _ _ rfl (dp_new m1 (.cons (.str _) (.cons (.str _) .nil)) rfl)) t2 rfl
        have f2 : Dp K _ (.ref q2) (Ex.num (1 + r10)).d := dp_new m2 (.cons (.str _) (.cons (.int _) .nil)) rfl
        have f3 : Dp K _ (.ref q3) (Ex.op "add" (.nam x) (.num (1 + r10))).d := dp_new m3 (.cons (.str _) (.cons f1 (.cons f2 .nil))) rfl
        have f4 : Dp K _ (.ref q4) (.tuple [.str "set", .str x, (Ex.op "add" (.nam x) (.num (1 + r10))).d]) := dp_new m4 (.cons (.str _) (.cons (.str _) (.cons f3 .nil))) (by simp [nLs, nLd, Ex.d])
        rw [show PyData.tuple [.str "set", .str x, (Ex.op "add" (.nam x) (.num (1 + r10))).d] = (Sm.set x (Ex.op "add" (.nam x) (.num (1 + r10)))).d by simp only [Sm.d]] at f4
        have f5 : Dp K _ (.ref q5) (.tuple [(Sm.set x (Ex.op "add" (.nam x) (.num (1 + r10)))).d]) := dp_new m5 (.cons f4 .nil) (by simp only [nLs, Sm.noL]; rfl)
        rw [show [(Sm.set x (Ex.op "add" (.nam x) (.num (1 + r10)))).d] = Sm.ds [Sm.set x (Ex.op "add" (.nam x) (.num (1 + r10)))] by simp only [Sm.ds]] at f5
        have k9e : Kp (cellS v) H9 _ := ((Kp.of_same t1).trans k10).trans ((Kp.of_same t2).trans ((Kp.of_same t3).trans ((Kp.of_same t4).trans (.of_same t5))))
        have cE := (((c10.same t2).same t3).same t4).same t5
        have kF := (k7.trans k78).trans k9e
        refine hN _ _ ⟨.ref p3, _, q5, _, 1, some (.str x), kA6.trans (mono1 kF), C6.cell kF cE vpc, by simp, I6.kp kF ho, dp_kp k9e _ _ (Ex.noL _) dl, wl, f5, by simp [Sm.sizes, Sm.size], fun bd k h => ?_, rfl⟩
        show Sm.Wfs nms rws hds (_ :: bd) k
        simp only [Sm.Wfs]
        refine ⟨?_, fun _ => rfl, h⟩
        unfold Sm.Wf
        exact ⟨hx, ⟨by decide +kernel, hx, ⟨by omega, by omega⟩⟩⟩
end
section
variable {P : Program} {w : World} {K : PySem.W.Frag} {mg : Str → Option Value} {base : Heap}
def opn (nms rws : List Str) (hds : List (Str × Nat)) (bd : List Sm) (k : Nat) : Prop := ∀ s ∈ bd, s.Wf nms rws hds k ∧ s.ends = false
theorem wfs_snoc {nms rws : List Str} {hds : List (Str × Nat)} {k : Nat} {s : Sm} (h : s.Wf nms rws hds k) : ∀ {bd : List Sm}, opn nms rws hds bd k → Sm.Wfs nms rws hds (bd ++ [s]) k
  | [], _ => by
    show Sm.Wfs nms rws hds [s] k
    simp only [Sm.Wfs]
    exact ⟨h, fun z => absurd rfl z, trivial⟩
  | t :: r, o => by
    show Sm.Wfs nms rws hds (t :: (r ++ [s])) k
    simp only [Sm.Wfs]
    obtain ⟨o1, o2⟩ := o t (List.mem_cons_self ..)
    exact ⟨o1, fun _ => o2, wfs_snoc h fun x hx => o x (List.mem_cons_of_mem _ hx)⟩
theorem wfs_opn {nms rws : List Str} {hds : List (Str × Nat)} {k : Nat} : ∀ {bd : List Sm}, opn nms rws hds bd k → Sm.Wfs nms rws hds bd k
  | [], _ => by simp only [Sm.Wfs]
  | t :: r, o => by
    simp only [Sm.Wfs]
    obtain ⟨o1, o2⟩ := o t (List.mem_cons_self ..)
    exact ⟨o1, fun _ => o2, wfs_opn fun x hx => o x (List.mem_cons_of_mem _ hx)⟩
theorem plain_any {nms rws : List Str} {hds : List (Str × Nat)} {s : Sm} (h : s.Wf nms rws hds 0) (z : s.size = 1) (k : Nat) : s.Wf nms rws hds k := by
  cases s <;> simp only [Sm.Wf] at h ⊢ <;> first | exact h | exact absurd h.1 (by decide)
/-- a statement's word -/
theorem sm_head {H : Hp} {v : V} {s : Sm} (h : Dp K H v s.d) : ∃ p wd xs, v = .ref p ∧ SqT K H p (.str wd :: xs) ∧ (inV (.str wd) [.str "give", .str "fail"] = s.ends) := by
  cases s <;> simp only [Sm.d] at h <;> (obtain ⟨p, xs, rfl, hs, da⟩ := dp_tup h; obtain ⟨x, r, rfl, dx, _⟩ := dpAll_cons da; rw [dp_str dx] at hs; exact ⟨p, _, r, rfl, hs, by rfl⟩)
theorem okg_body_of (T : Top K mg) (D : Nat) (G__law_nest : FnOk P w K mg base CX0 (2 * D + 11) (He.ga K "_law_nest") T.fd__law_nest ["_law_cell", "_law_way", "_law_cells", "_law_deep", "_law_info"] (sp_nest K D)) :
    FnOk P w K mg base CX0 (2 * D + 12) (He.ga K "_law_body") T.fd__law_body ["_law_cells", "_law_deep", "_law_info"] (sp_gbody K D) := by
  have G__law_mixed := ok__law_mixed (P := P) (w := w) (base := base) T
  have G__law_plain := ok__law_plain (P := P) (w := w) (base := base) T
  refine T.F__law_body.ok sc__law_body (fun vs H Q E h => ?_) (fun cdv A outer s H vs Q E hr h => ?_)
  · obtain ⟨pc, cs, dp, vi, nms, rws, hds, a, b, c, rfl, _⟩ := h
    rfl
  · obtain ⟨pc, cs, dp, vi, nms, rws, hds, a, b, c, rfl, hC, d0, d1, d2, hcl, hI, hn, hw, hh, hq, hk, ho, q⟩ := h
    refine ⟨_, PSs.nox (pss_cons (ps_set (i := 3) sc__law_body.nd rfl (Or.inl rfl) (pe_lst pa_nil))
        (pss_cons (ps_while PassesOwn.never (pt_cmpR op_gt (pe_callB call_len_seq (by rfl) T.m_len (by decide +kernel) (pa_cons (pv 0) pa_nil)) pe_int (nomark _)) (pss_cons (ps_set (i := 4) sc__law_body.nd rfl (Or.inl rfl) (pe_bm PySem.F.plainAttrs_list PySem.F.slot_list_pop PySem.F.type_list_pop mt_popAt (pv 0) (pa_cons pe_int pa_nil)))
        (pss_cons (ps_set (i := 5) sc__law_body.nd rfl (Or.inl rfl) (pe_call G__law_mixed (hr.mono (by omega)) (by rfl) T.g__law_mixed T.F__law_mixed.kp T.b__law_mixed .nil pass0 (pa_cons (pv 4) (pa_cons pe_int (pa_cons pe_int pa_nil)))))
        (pss_cons (ps_if (PW.pt (pw_and (pt_cmpR op_lt (pv 5) pe_int (nomark _)) (pw_and1 (pt_cmpR op_gt (pv 1) pe_int (nomark _))))) (pss_one (ps_ret (pe_callTy call_tuple_of (by rfl) T.m_tuple (by decide +kernel) (pa_cons (pv 3) pa_nil)))) pss_nil)
        (pss_cons (ps_if (PW.pt (pw_and (pt_cmpR op_in_seq (pv 5) (pe_lst (pa_cons pe_int (pa_cons pe_int (pa_cons pe_int pa_nil)))) (by rfl)) (pw_and1 (pt_cmpR op_lt (pv 1) pe_int (nomark _))))) (pss_one (ps_expr (pe_bm PySem.F.plainAttrs_list PySem.F.slot_list_append PySem.F.type_list_append mt_append (pv 3) (pa_cons (pe_call G__law_nest (hr.mono (by omega)) (by rfl) T.g__law_nest T.F__law_nest.kp T.b__law_nest .nil pass0 (pa_cons (pv 4) (pa_cons (pv 5) (pa_cons (pv 0) (pa_cons (pv 1) (pa_cons (pv 2) pa_nil)))))) pa_nil)))) (pss_one (ps_expr (pe_bm PySem.F.plainAttrs_list PySem.F.slot_list_append PySem.F.type_list_append mt_append (pv 3) (pa_cons (pe_call G__law_plain (hr.mono (by omega)) (by rfl) T.g__law_plain T.F__law_plain.kp T.b__law_plain .nil pass0 (pa_cons (pv 4) (pa_cons (pv 2) pa_nil))) pa_nil)))))
        (pss_one (ps_if (pt_cmpR op_in_seq (pe_ix ix_tup (pe_ix ix_list (pv 3) (pe_un un_neg pe_int) (fun _ _ => rfl)) pe_int (fun _ _ => rfl)) (pe_lst (pa_cons pe_str (pa_cons pe_str pa_nil))) (by rfl)) (pss_one (ps_ret (pe_callTy call_tuple_of (by rfl) T.m_tuple (by decide +kernel) (pa_cons (pv 3) pa_nil)))) pss_nil)))))))
        (pss_one (ps_ret (pe_callTy call_tuple_of (by rfl) T.m_tuple (by decide +kernel) (pa_cons (pv 3) pa_nil)))))), ?_⟩
    refine ⟨Nat.zero_le _, fun F nF => ?_⟩
    have s1 := same_new (o := .lst []) nF
    have Fpc : F ≠ pc := (ne_of_none hC.at_ nF).symm
    have nFS : ¬ cellsS pc cs F := by
      rintro (e | ⟨x, hx, e⟩)
      · exact Fpc e
      · exact (hC.ok x hx).fresh nF e
    -- the end: a tuple of what was found
    have fin : ∀ (H' : Hp) (rs : List V) (bd : List Sm) (n : Nat), Kp (cellsS pc cs) H H' → CellsOk H' pc (cs.drop n) → n ≤ cs.length → H' F = some (.lst rs) → DpAll K H' rs (Sm.ds bd) → Sm.Wfs nms rws hds bd (4 - dp).toNat → Sm.sizes bd ≤ n → ∀ p, H' p = none → Q (.ref p) (upd H' p (.tup rs)) := by
      intro H' rs bd n k' C' hn' e' da wf sz p np
      have s' := same_new (o := .tup rs) np
      exact q _ _ n bd (k'.trans (.of_same s')) (C'.same s') hn' (dp_new np da (Sm.noLs bd)) wf sz
    refine while_by (fun σ' H' => ∃ n rs bd x4 x5, Kp (cellsS pc cs) H H' ∧ CellsOk H' pc (cs.drop n) ∧ n ≤ cs.length ∧ H' F = some (.lst rs) ∧ DpAll K H' rs (Sm.ds bd) ∧ opn nms rws hds bd (4 - dp).toNat ∧ Sm.sizes bd ≤ n ∧ σ' = [some (.ref pc), some (.int dp), some vi, some (.ref F), x4, x5])
      (fun σ' H' => match H' pc with | some (.lst xs) => xs.length | _ => 0) ?_ ?_ ?_
    · exact ⟨0, [], [], none, none, kp_upd_new Kp.refl nF, hC.same s1, Nat.zero_le _, upd_same, by simp only [Sm.ds]; exact .nil, (fun s hs => nomatch hs), by simp [Sm.sizes], rfl⟩
    · rintro σ' H1 ⟨n, rs, bd, x4, x5, k1, C1, hn1, e1, da, op, sz, rfl⟩
      refine ⟨_, rfl, pc, _, rfl, .inl (.of C1.at_), _, _, rfl, rfl, _, rfl, ite2 (fun g1 => ?_) (fun _ => ?_)⟩
      · have wfin := wfs_opn op
        cases hcs : cs.drop n with
        | nil =>
          have := of_decide_eq_true g1
          rw [hcs] at this
          simp at this
        | cons v cs1 =>
          have hcs1 : cs1 = cs.drop (n + 1) := by rw [← List.drop_drop, hcs]; rfl
          have hn2 : n + 1 ≤ cs.length := by
            have := congrArg List.length hcs
            rw [List.length_drop, List.length_cons] at this
            omega
          rw [hcs] at C1
          have vin : v ∈ cs := List.mem_of_mem_drop (by rw [hcs]; exact List.mem_cons_self ..)
          have vpc : v ≠ .ref pc := hC.off v vin
          obtain ⟨C2, c2⟩ := C1.pop
          have mu : (match H1 pc with | some (.lst xs) => xs.length | _ => 0) = cs1.length + 1 := by
            rw [C1.at_]
            rfl
          refine ⟨_, rfl, .inl ⟨rfl, _, .of C1.at_⟩, pc, _, 0, 0, v, rfl, rfl, C1.at_, by decide, by decide, by unfold seqIndex?; simp, rfl, ?_⟩
          show tSeq _ _ _ _ (upd H1 pc (.lst cs1))
          have k2 : Kp (cellsS pc cs) H1 (upd H1 pc (.lst cs1)) := Kp.upd C1.at_ trivial (.inl rfl)
          have k02 := k1.trans k2
          have e2 : upd H1 pc (.lst cs1) F = some (.lst rs) := by rw [upd_ne Fpc]; exact e1
          have da2 := dpAll_kp k2 _ _ (Sm.noLs bd) da
          generalize upd H1 pc (.lst cs1) = H2 at C2 c2 k2 k02 e2 da2
          have subv : ∀ x, cellS v x → cellsS pc cs x := fun x z => .inr ⟨v, vin, z⟩
          have ov := ho.sub subv
          have nFv : ¬ cellS v F := fun z => nFS (subv _ z)
          refine ⟨_, rfl, v, 6, 16, rfl, c2, by decide, by decide, by decide, by decide, fun H3 way k3 c3 w0 w1 => ?_⟩
          have k03 := k02.trans (k3.mono subv)
          have C3 := C2.cell k3 c3 vpc
          have e3 := k3 _ _ e2 fun z => absurd z nFv
          have da3 := dpAll_kp k3 _ _ (Sm.noLs bd) da2
          have I3 := hI.kp k03 ho
          have rl : rs.length ≤ 1000 := by
            rw [dpAll_len da, Sm.ds_len]
            have := Sm.sizes_len bd
            omega
          dsimp only [gName]
          refine ifs_by (fun σ' H' => H' = H3 ∧ σ' = [some (.ref pc), some (.int dp), some vi, some (.ref F), some v, some (.int way)]) ?_ ?_
          rotate_left
          · intro N hN
            refine ⟨_, rfl, _, _, rfl, rfl, _, rfl, ite2 (fun _ => ?_) (fun _ => hN _ _ ⟨rfl, rfl⟩)⟩
            refine ⟨_, rfl, _, _, rfl, rfl, _, rfl, ite2 (fun _ => ?_) (fun _ => hN _ _ ⟨rfl, rfl⟩)⟩
            exact ⟨_, rfl, F, _, rfl, .inl ⟨.of e3, fin _ _ bd (n + 1) k03 (by rw [← hcs1]; exact C3) hn2 e3 da3 wfin (by omega)⟩⟩
          rintro σ' H4 ⟨rfl, rfl⟩
          -- one more statement
          refine ifs_by (fun σ' H' => ∃ m x s, Kp (cellsS pc cs) H H' ∧ CellsOk H' pc (cs.drop m) ∧ n + 1 ≤ m ∧ m ≤ cs.length ∧ H' F = some (.lst (rs ++ [x])) ∧ DpAll K H' rs (Sm.ds bd) ∧ Dp K H' x (Sm.d s) ∧ s.Wf nms rws hds (4 - dp).toNat ∧ Sm.sizes bd + s.size ≤ m ∧ σ' = [some (.ref pc), some (.int dp), some vi, some (.ref F), some v, some (.int way)]) ?_ ?_
          · rintro σ' H5 ⟨m, x, s, k5, C5, m0, m1, e5, da5, dx, wf, sz5, rfl⟩
            have da6 : DpAll K H5 (rs ++ [x]) (Sm.ds (bd ++ [s])) := by
              rw [Sm.ds_append]
              refine dpAll_app da5 ?_
              simp only [Sm.ds]
              exact .cons dx .nil
            have wf6 := wfs_snoc wf op
            have sz6 : Sm.sizes (bd ++ [s]) ≤ m := by
              rw [Sm.sizes_append]
              simp only [Sm.sizes]
              omega
            obtain ⟨ps, wd, xs, rfl, hs, hend⟩ := sm_head dx
            refine ⟨_, rfl, 1, rfl, F, _, -1, _, rfl, rfl, .of e5, atI_last _ _, ps, _, 0, _, rfl, rfl, hs, atI_nat (j := 0) rfl, (by show 2 ≤ sizeLine; rw [sizeLine_eq]; decide), fun pl npl => ?_⟩
            have sl := same_new (o := .lst [.str "give", .str "fail"]) npl
            refine ⟨pl, _, rfl, .inl (.of upd_same), rfl, by decide +kernel, _, rfl, ?_⟩
            dsimp only
            rw [if_neg Bool.false_ne_true, hend]
            have e7 := sl _ _ e5
            have da7 := dpAll_same da6 sl (Sm.noLs _)
            have k7 := k5.trans (.of_same sl)
            have C7 := C5.same sl
            cases hse : s.ends with
            | true =>
              exact ⟨_, rfl, F, _, rfl, .inl ⟨.of e7, fin _ _ (bd ++ [s]) m k7 C7 m1 e7 da7 wf6 sz6⟩⟩
            | false =>
              refine ⟨⟨m, rs ++ [.ref ps], bd ++ [s], _, _, k7, C7, m1, e7, da7, ?_, sz6, rfl⟩, ?_⟩
              · intro y hy
                rcases List.mem_append.mp hy with hy | hy
                · exact op y hy
                · rw [List.mem_singleton.mp hy]
                  exact ⟨wf, hse⟩
              · show (match (upd H5 pl _) pc with | some (.lst xs) => xs.length | _ => 0) < (match H1 pc with | some (.lst xs) => xs.length | _ => 0)
                rw [mu, C7.at_]
                show (cs.drop m).length < cs1.length + 1
                rw [hcs1, List.length_drop, List.length_drop]
                omega
          · intro N hN
            -- append
            have app : ∀ (H5 : Hp) (x : V) (s : Sm) (m : Nat), Kp (cellsS pc cs) H H5 → CellsOk H5 pc (cs.drop m) → n + 1 ≤ m → m ≤ cs.length → H5 F = some (.lst rs) → DpAll K H5 rs (Sm.ds bd) → Dp K H5 x s.d → s.Wf nms rws hds (4 - dp).toNat → Sm.sizes bd + s.size ≤ m → N [some (.ref pc), some (.int dp), some vi, some (.ref F), some v, some (.int way)] (upd H5 F (.lst (rs ++ [x]))) := by
              intro H5 x s m k5 C5 m0 m1 e5 da5 dx wf sz5
              have ku : Kp (fun y => y = F) H5 (upd H5 F (.lst (rs ++ [x]))) := Kp.upd e5 trivial rfl
              have nS' : ∀ y ∈ cs.drop m, ¬ cellS y F := fun y hy z => nFS (.inr ⟨y, List.mem_of_mem_drop hy, z⟩)
              refine hN _ _ ⟨m, x, s, kp_upd_new k5 nF, ⟨by rw [upd_ne Fpc.symm]; exact C5.at_, fun y hy => (C5.ok y hy).upd (nS' y hy), C5.off⟩, m0, m1, upd_same, dpAll_kp ku _ _ (Sm.noLs bd) da5, dp_kp ku _ _ s.noL dx, wf, sz5, rfl⟩
            refine ⟨_, rfl, (by show 3 ≤ sizeLine; rw [sizeLine_eq]; decide), fun pl npl => ?_⟩
            have sl := same_new (o := .lst [.int 2, .int 3, .int 4]) npl
            refine ⟨pl, _, rfl, .inl (.of upd_same), rfl, by decide +kernel, _, rfl, ?_⟩
            have c5 := c3.same sl
            have C5 := C3.same sl
            have I5 := I3.kp (Kp.of_same (S := cellS v) sl) ov
            have e5 := sl _ _ e3
            have da5 := dpAll_same da3 sl (Sm.noLs bd)
            have k5 := k03.trans (.of_same sl)
            generalize upd H4 pl (.lst [.int 2, .int 3, .int 4]) = H5 at c5 C5 I5 e5 da5 k5
            have rl2 : rs.length < sizeLine := by rw [sizeLine_eq]; omega
            refine ite_else ?_ fun _ leaf => ?_
            · refine ⟨_, rfl, .inl ⟨rfl, _, .of e5⟩, _, rfl, _, rfl, v, vi, nms, rws, hds, a, b, c, rfl, c5, I5, hn, hw, hh, hq, hk, ov, fun H6 x s k6 c6 dx wf sz6 => ?_⟩
              have e6 := k6 _ _ e5 fun z => absurd z nFv
              refine ⟨F, _, _, rfl, rfl, e6, rl2, ?_⟩
              exact app H6 x s (n + 1) (k5.trans (k6.mono subv)) (by rw [← hcs1]; exact C5.cell k6 c6 vpc) (Nat.le_refl _) hn2 e6 (dpAll_kp k6 _ _ (Sm.noLs bd) da5) dx (plain_any wf sz6 _) (by omega)
            · refine ⟨_, rfl, _, _, rfl, rfl, _, rfl, ite_else leaf fun g2 _ => ?_⟩
              have dp4 : dp < 4 := of_decide_eq_true g2
              refine ⟨_, rfl, .inl ⟨rfl, _, .of e5⟩, _, rfl, _, rfl, _, rfl, _, rfl, _, rfl, v, way, pc, cs1, dp, vi, nms, rws, hds, a, b, c, rfl, c5, vpc, C5, d0, by omega, d2, by rw [hcs1, List.length_drop]; omega, I5, hn, hw, hh, hq, hk, ov, ho.sub (fun x z => by rw [hcs1] at z; exact cellsS_drop _ x z), fun H6 x m s k6 C6 hm6 dx wf en sz6 => ?_⟩
              rw [hcs1, List.length_drop] at hm6
              rw [hcs1, List.drop_drop] at C6
              have sub6 : ∀ y, (cellS v y ∨ cellsS pc cs1 y) → cellsS pc cs y := by
                rintro y (z | z)
                · exact subv y z
                · rw [hcs1] at z
                  exact cellsS_drop _ y z
              have k6' := k6.mono sub6
              have e6 := k6' _ _ e5 fun z => absurd z nFS
              refine ⟨F, _, _, rfl, rfl, e6, rl2, ?_⟩
              exact app H6 x s (n + 1 + m) (k5.trans k6') C6 (by omega) (by omega) e6 (dpAll_kp k6 _ _ (Sm.noLs bd) da5) dx wf (by omega)
      · have C1' := C1
        exact ⟨_, rfl, F, _, rfl, .inl ⟨.of e1, fin _ _ bd n k1 C1 hn1 e1 da (wfs_opn op) sz⟩⟩
    · intro σ' H' Q1 Q2 h hc
      obtain ⟨v, h1, p, ys, h2, h3, i, j, h4, h5, k, h6, h7⟩ := hc
      exact ⟨v, h1, p, ys, h2, h3, i, j, h4, h5, k, h6, h _ _ h7⟩
theorem okg_body (T : Top K mg) : ∀ D : Nat, FnOk P w K mg base CX0 (2 * D + 12) (He.ga K "_law_body") T.fd__law_body ["_law_cells", "_law_deep", "_law_info"] (sp_gbody K D)
  | 0 => okg_body_of T 0 (ok_nest0 T)
  | D + 1 => okg_body_of T (D + 1) (ok_nest_of T D (okg_body T D))
end
section
variable {P : Program} {w : World} {K : PySem.W.Frag} {mg : Str → Option Value} {base : Heap}
theorem kp_int {H H' : Hp} {c : Int} (k : Kp (cellS (.int c)) H H') : Same H H' := fun b o e => k b o e fun z => nomatch z
def sp__law_inner_cell (K : PySem.W.Frag) : Sp := fun vs H Q _ => ∃ (a : Addr) (ns : List Int) (fi k j : Int), vs = [.ref a, .int fi, .int k, .int j] ∧ SqL K H a (ns.map V.int) ∧ 0 ≤ fi ∧ 0 ≤ k ∧ k < 1000 ∧ 0 ≤ j ∧ j < 1000 ∧
  ∀ H' v, Same H H' → CellOk H' v → (∀ p, v = .ref p → H p = none) → Q v H'
theorem ok__law_inner_cell (T : Top K mg) : FnOk P w K mg base CX0 2 (He.ga K "_law_inner_cell") T.fd__law_inner_cell ["_law_script", "_law_first", "_law_k", "_law_j"] (sp__law_inner_cell K) := by
  have G__law_mixed := ok__law_mixed (P := P) (w := w) (base := base) T
  have G__law_held := ok__law_held (P := P) (w := w) (base := base) T
  have G__law_cell_at := ok__law_cell_at (P := P) (w := w) (base := base) T
  refine T.F__law_inner_cell.ok sc__law_inner_cell (fun vs H Q E h => ?_) (fun cdv A outer s H vs Q E hr h => ?_)
  · obtain ⟨a, ns, fi, k, j, rfl, _⟩ := h
    rfl
  · obtain ⟨a, ns, fi, k, j, rfl, hS, f0, k0, k1, j0, j1, q⟩ := h
    refine ⟨_, PSs.nox (pss_cons (ps_set (i := 4) sc__law_inner_cell.nd rfl (Or.inl rfl) (pe_call G__law_held (hr.mono (by omega)) (by rfl) T.g__law_held T.F__law_held.kp T.b__law_held .nil pass0 (pa_cons (pe_call G__law_cell_at (hr.mono (by omega)) (by rfl) T.g__law_cell_at T.F__law_cell_at.kp T.b__law_cell_at .nil pass0 (pa_cons (pv 0) (pa_cons (pe_op op_add (pe_op op_add (pe_op op_add (pe_op op_add (pv 1) pe_int) (pe_op op_mul (pv 2) (pv 2))) (pv 2)) (pv 3)) pa_nil))) pa_nil)))
        (pss_cons (ps_if (pt_val (pe_callB call_isi (by rfl) T.m_isinstance (by decide +kernel) (pa_cons (pv 4) (pa_cons (pe_bltn (v := .ty "list") (by rfl) T.m_list (by decide +kernel) rfl) pa_nil)))) (pss_one (ps_ret (pv 4))) pss_nil)
        (pss_one (ps_ret (pe_call G__law_mixed (hr.mono (by omega)) (by rfl) T.g__law_mixed T.F__law_mixed.kp T.b__law_mixed .nil pass0 (pa_cons (pe_op op_add (pe_call G__law_cell_at (hr.mono (by omega)) (by rfl) T.g__law_cell_at T.F__law_cell_at.kp T.b__law_cell_at .nil pass0 (pa_cons (pv 0) (pa_cons (pe_op op_add (pe_op op_add (pv 1) pe_int) (pv 3)) pa_nil))) (pe_op op_mul pe_int (pv 3))) (pa_cons (pv 2) (pa_cons pe_int pa_nil)))))))), ?_⟩
    have kk : 0 ≤ k * k := Int.mul_nonneg k0 k0
    refine ⟨_, rfl, _, rfl, _, _, rfl, rfl, _, rfl, _, rfl, _, _, rfl, rfl, .inl ⟨by omega, by omega⟩, _, _, rfl, rfl, _, rfl, _, _, rfl, rfl, _, rfl, _, _, rfl, rfl, a, ns, _, rfl, by omega, hS, _, rfl, fun H1 v s1 c1 f1 => ?_⟩
    rcases c1 with ⟨c, rfl⟩ | ⟨p, l, t, rfl, hp, hl, ht⟩
    · refine ⟨_, rfl, _, _, _, _, false, rfl, .ty _, .base (.int c), kit_ty (by decide +kernel), false, rfl, ?_⟩
      refine ⟨_, rfl, _, rfl, _, _, rfl, rfl, _, rfl, _, _, rfl, rfl, a, ns, _, rfl, by omega, s1.seq hS, _, rfl, _, _, rfl, rfl, .inl ⟨by decide, by decide⟩, _, _, rfl, rfl, _, rfl, _, k, 1000003, rfl, .inl ⟨_, rfl⟩, k0, by omega, by decide, by decide, fun H2 r k2 _ _ _ => ?_⟩
      exact q _ _ (s1.trans (kp_int k2)) (.inl ⟨_, rfl⟩) fun p e => nomatch e
    · refine ⟨_, rfl, _, _, _, _, true, rfl, .ty _, .base (.lst hp), kit_ty (by decide +kernel), true, rfl, ?_⟩
      exact ⟨_, rfl, q _ _ s1 (.inr ⟨p, l, t, rfl, hp, hl, ht⟩) f1⟩
/-! a whole program -/
structure Pg where
  hs : List (Str × List Str × List Sm)
  ps : List Str
  rs : List (Str × Nat)
  bd : List Sm
def hpD (h : Str × List Str × List Sm) : PyData := .tuple [.str h.1, .tuple (h.2.1.map .str), .tuple (Sm.ds h.2.2)]
def rwD (r : Str × Nat) : PyData := .tuple [.str r.1, .int r.2]
def hdOf (h : Str × List Str × List Sm) : Str × Nat := (h.1, h.2.1.length)
def Pg.d (p : Pg) : PyData := .tuple [.tuple (p.hs.map hpD), .tuple (p.ps.map .str), .tuple (p.rs.map rwD), .tuple (Sm.ds p.bd)]
theorem strs_noL (zs : List Str) : nLs (zs.map PyData.str) = true := noLs_all fun x hx => by
  obtain ⟨z, _, rfl⟩ := List.mem_map.mp hx
  rfl
theorem hpD_noL (h : Str × List Str × List Sm) : nLd (hpD h) = true := by
  simp only [hpD, nLd, nLs, strs_noL, Sm.noLs]
  rfl
theorem hps_noL (hs : List (Str × List Str × List Sm)) : nLs (hs.map hpD) = true := noLs_all fun x hx => by
  obtain ⟨z, _, rfl⟩ := List.mem_map.mp hx
  exact hpD_noL z
theorem rws_noL (rs : List (Str × Nat)) : nLs (rs.map rwD) = true := noLs_all fun x hx => by
  obtain ⟨z, _, rfl⟩ := List.mem_map.mp hx
  rfl
theorem Pg.noL (p : Pg) : nLd p.d = true := by
  simp only [Pg.d, nLd, nLs, strs_noL, Sm.noLs, hps_noL, rws_noL]
  rfl
structure HpWf (hds : List (Str × Nat)) (h : Str × List Str × List Sm) : Prop where
  nm : IsNm h.1
  pl : h.2.1.length ≤ 4
  pn : h.2.1.Nodup
  pk : ∀ x ∈ h.2.1, IsNm x
  bd : ∃ vs : List Str, (∀ x ∈ vs, IsNm x) ∧ vs.length ≤ 12 ∧ (∀ x ∈ h.2.1, x ∈ vs) ∧ Sm.Wfs vs [] hds h.2.2 4
  sz : Sm.sizes h.2.2 ≤ 8
structure Pg.Wf (p : Pg) : Prop where
  hl : p.hs.length ≤ 4
  hn : (p.hs.map (·.1)).Nodup
  hok : ∀ (i : Nat) h, p.hs[i]? = some h → HpWf ((p.hs.take i).map hdOf) h
  pl : p.ps.length ≤ 4
  pn : p.ps.Nodup
  pk : ∀ x ∈ p.ps, IsNm x
  rl : p.rs.length ≤ 3
  rn : (p.rs.map (·.1)).Nodup
  rk : ∀ r ∈ p.rs, IsNm r.1 ∧ 1 ≤ r.2 ∧ r.2 ≤ 8 ∧ r.1 ∉ p.ps
  bd : ∃ vs : List Str, (∀ x ∈ vs, IsNm x) ∧ vs.length ≤ 12 ∧ (∀ x ∈ p.ps, x ∈ vs) ∧ (∀ r ∈ p.rs, r.1 ∉ vs) ∧ Sm.Wfs vs (p.rs.map (·.1)) (p.hs.map hdOf) p.bd 4
  sz : Sm.sizes p.bd ≤ 24
/-- what the drawer of a program has at hand -/
structure PW (H0 H : Hp) (Ln : Addr) (nm : List Str) (vh : V) : Prop where
  s : Same H0 H
  ln : H Ln = some (.lst (nm.map V.str))
  c : CellOk H vh
structure PF (H0 : Hp) (Ln : Addr) (vh : V) : Prop where
  l : H0 Ln = none
  v : ∀ b, cellS vh b → H0 b = none
  n : ¬ cellS vh Ln
section
variable {H0 H H' : Hp} {Ln : Addr} {nm : List Str} {vh : V}
theorem PW.kpS {S : Addr → Prop} (h : PW H0 H Ln nm vh) (k : Kp S H H') (h0 : ∀ b, S b → H0 b = none) (hn : ¬ S Ln) (c' : CellOk H' vh) : PW H0 H' Ln nm vh :=
  ⟨Kp.same h.s k h0, k _ _ h.ln fun z => absurd z hn, c'⟩
theorem PW.kp (h : PW H0 H Ln nm vh) (f : PF H0 Ln vh) (k : Kp (cellS vh) H H') (c' : CellOk H' vh) : PW H0 H' Ln nm vh := h.kpS k f.v f.n c'
theorem PW.same (h : PW H0 H Ln nm vh) (k : Same H H') : PW H0 H' Ln nm vh := ⟨h.s.trans k, k _ _ h.ln, h.c.same k⟩
theorem PW.upd (h : PW H0 H Ln nm vh) {p : Addr} {o : HO} (np : H0 p = none) (nl : p ≠ Ln) (nc : ¬ cellS vh p) : PW H0 (upd H p o) Ln nm vh :=
  ⟨fun b x e => by rw [upd_ne (ne_of_none e np)]; exact h.s b x e, by rw [upd_ne nl.symm]; exact h.ln, h.c.upd nc⟩
theorem PW.new (h : PW H0 H Ln nm vh) {p : Addr} {o : HO} (np : H p = none) : PW H0 (L2.upd H p o) Ln nm vh := h.same (same_new np)
theorem PW.free (h : PW H0 H Ln nm vh) {p : Addr} (np : H p = none) : H0 p = none ∧ p ≠ Ln ∧ ¬ cellS vh p := ⟨h.s.free np, (ne_of_none h.ln np).symm, h.c.fresh np⟩
end
end
section
variable {P : Program} {w : World} {K : PySem.W.Frag} {mg : Str → Option Value} {base : Heap}
def mosts : List Int := [1, 2, 3, 5, 8, 12]
def manys : List Int := [0, 0, 1, 2, 3, 4]
theorem getElem_mem' {α : Type} {l : List α} {i : Nat} {x : α} (h : l[i]? = some x) : x ∈ l := List.mem_of_getElem? h
theorem ints_at {l : List Int} {j : Int} (h0 : 0 ≤ j) (h1 : j < l.length) : ∃ x ∈ l, atI (l.map V.int) j = some (.int x) := by
  obtain ⟨x, hx, e⟩ := at_list (ns := l.map V.int) h0 (by rw [List.length_map]; exact h1)
  obtain ⟨z, hz, rfl⟩ := List.mem_map.mp hx
  exact ⟨z, hz, e⟩
theorem cutV_mid (xs : List V) {i j : Nat} (h1 : i ≤ j) (h2 : j ≤ xs.length) : cutV xs (some (i : Int)) (some (j : Int)) = (xs.drop i).take (j - i) := by
  unfold cutV
  rw [HT.sIx_nat, HT.sIx_nat, Nat.min_eq_left h2, Nat.min_eq_left (by omega)]
theorem CellsOk.fresh {H : Hp} {pc : Addr} {cs : List V} (h : CellsOk H pc cs) {p : Addr} (np : H p = none) : ¬ cellsS pc cs p := by
  rintro (e | ⟨x, hx, e⟩)
  · rw [e, h.at_] at np
    cases np
  · exact (h.ok x hx).fresh np e
/-- the helpers that were drawn -/
structure HsOk (nm : List Str) (hs : List (Str × List Str × List Sm)) : Prop where
  wf : ∀ (j : Nat) h, hs[j]? = some h → HpWf ((hs.take j).map hdOf) h
  nm : ∀ (j : Nat) h, hs[j]? = some h → nm[15 - j]? = some h.1 ∨ nm[j]? = some h.1
def hdD (q : Str × Nat) : PyData := .tuple [.str q.1, .int q.2]
theorem hds_noL (l : List (Str × Nat)) : nLs (l.map hdD) = true := heads_noL l
theorem hsOk_snoc {nm : List Str} {hs : List (Str × List Str × List Sm)} {h : Str × List Str × List Sm} (o : HsOk nm hs) (w : HpWf (hs.map hdOf) h) (e : nm[15 - hs.length]? = some h.1 ∨ nm[hs.length]? = some h.1) : HsOk nm (hs ++ [h]) := by
  have key : ∀ (j : Nat) x, (hs ++ [h])[j]? = some x → (j < hs.length ∧ hs[j]? = some x) ∨ (j = hs.length ∧ x = h) := by
    intro j x hx
    rcases Nat.lt_trichotomy j hs.length with hj | hj | hj
    · rw [List.getElem?_append_left hj] at hx
      exact .inl ⟨hj, hx⟩
    · subst hj
      rw [List.getElem?_append_right (Nat.le_refl _), Nat.sub_self] at hx
      exact .inr ⟨rfl, (Option.some.inj hx).symm⟩
    · rw [List.getElem?_eq_none (by rw [List.length_append]; simp; omega)] at hx
      cases hx
  refine ⟨fun j x hx => ?_, fun j x hx => ?_⟩
  · rcases key j x hx with ⟨hj, hx⟩ | ⟨rfl, rfl⟩
    · rw [List.take_append_of_le_length (by omega)]
      exact o.wf j x hx
    · rw [List.take_append_of_le_length (Nat.le_refl _), List.take_length]
      exact w
  · rcases key j x hx with ⟨hj, hx⟩ | ⟨rfl, rfl⟩
    · exact o.nm j x hx
    · exact e
structure LWg (K : PySem.W.Frag) (H0 H : Hp) (Ln : Addr) (nm : List Str) (vh : V) (LR : Addr) (xr : List V) (rs : List (Str × Nat)) (LH LD : Addr) (xh xd : List V) (hs : List (Str × List Str × List Sm)) : Prop where
  w : PW H0 H Ln nm vh
  eR : H LR = some (.lst xr)
  dR : DpAll K H xr (rs.map rwD)
  eH : H LH = some (.lst xh)
  dH : DpAll K H xh (hs.map hpD)
  eD : H LD = some (.lst xd)
  dD : DpAll K H xd ((hs.map hdOf).map hdD)
theorem LWg.kpS {H0 H H' : Hp} {Ln : Addr} {nm : List Str} {vh : V} {LR : Addr} {xr : List V} {rs : List (Str × Nat)} {LH LD : Addr} {xh xd : List V} {hs : List (Str × List Str × List Sm)} (h : LWg K H0 H Ln nm vh LR xr rs LH LD xh xd hs) {S : Addr → Prop} (k : Kp S H H')
    (h0 : ∀ b, S b → H0 b = none) (n1 : ¬ S Ln) (n2 : ¬ S LR) (n3 : ¬ S LH) (n4 : ¬ S LD) (c' : CellOk H' vh) : LWg K H0 H' Ln nm vh LR xr rs LH LD xh xd hs :=
  ⟨h.w.kpS k h0 n1 c', k _ _ h.eR fun z => absurd z n2, dpAll_kp k _ _ (rws_noL rs) h.dR, k _ _ h.eH fun z => absurd z n3, dpAll_kp k _ _ (hps_noL hs) h.dH, k _ _ h.eD fun z => absurd z n4, dpAll_kp k _ _ (hds_noL _) h.dD⟩
theorem LWg.same {H0 H H' : Hp} {Ln : Addr} {nm : List Str} {vh : V} {LR : Addr} {xr : List V} {rs : List (Str × Nat)} {LH LD : Addr} {xh xd : List V} {hs : List (Str × List Str × List Sm)} (h : LWg K H0 H Ln nm vh LR xr rs LH LD xh xd hs) (k : Same H H') : LWg K H0 H' Ln nm vh LR xr rs LH LD xh xd hs :=
  h.kpS (S := fun _ => False) (Kp.of_same k) (fun _ z => z.elim) id id id id (h.w.c.same k)
theorem LWg.new {H0 H : Hp} {Ln : Addr} {nm : List Str} {vh : V} {LR : Addr} {xr : List V} {rs : List (Str × Nat)} {LH LD : Addr} {xh xd : List V} {hs : List (Str × List Str × List Sm)} (h : LWg K H0 H Ln nm vh LR xr rs LH LD xh xd hs) {p : Addr} {o : HO} (np : H p = none) : LWg K H0 (upd H p o) Ln nm vh LR xr rs LH LD xh xd hs := h.same (same_new np)
/-- addresses that stand apart -/
structure LF (H0 : Hp) (Ln : Addr) (vh : V) (LR LH LD : Addr) : Prop where
  f : PF H0 Ln vh
  rc : ¬ cellS vh LR
  hc : ¬ cellS vh LH
  dc : ¬ cellS vh LD
  h0 : H0 LH = none
  d0 : H0 LD = none
  hl : LH ≠ Ln
  dl : LD ≠ Ln
  hr : LH ≠ LR
  dr : LD ≠ LR
  hd : LH ≠ LD
theorem LWg.kp {H0 H H' : Hp} {Ln : Addr} {nm : List Str} {vh : V} {LR : Addr} {xr : List V} {rs : List (Str × Nat)} {LH LD : Addr} {xh xd : List V} {hs : List (Str × List Str × List Sm)} (h : LWg K H0 H Ln nm vh LR xr rs LH LD xh xd hs) (f : LF H0 Ln vh LR LH LD) (k : Kp (cellS vh) H H') (c' : CellOk H' vh) : LWg K H0 H' Ln nm vh LR xr rs LH LD xh xd hs :=
  h.kpS k f.f.v f.f.n f.rc f.hc f.dc c'
theorem nm_strOk {z : Str} (h : IsNm z) : PyData.strOk z = true := by
  unfold PyData.strOk
  rw [← Array.all_toList]
  refine List.all_eq_true.mpr fun c hc => decide_eq_true ?_
  have := (h.let_ c hc).2
  omega
theorem hs_nodup {nm : List Str} {hs : List (Str × List Str × List Sm)} (hN : Nms nm) (o : HsOk nm hs) (hl : hs.length ≤ 4) : (hs.map (·.1)).Nodup := by
  have nl := hN.len
  have inj : ∀ (i j : Nat) z, nm[i]? = some z → nm[j]? = some z → i = j := by
    intro i j z hi hj
    obtain ⟨li, ei⟩ := List.getElem?_eq_some_iff.mp hi
    obtain ⟨lj, ej⟩ := List.getElem?_eq_some_iff.mp hj
    exact (List.getElem_inj hN.nd).mp (ei.trans ej.symm)
  refine List.pairwise_iff_getElem.mpr fun i j hi hj hij e => ?_
  rw [List.length_map] at hi hj
  rw [List.getElem_map, List.getElem_map] at e
  have e2 : hs[i].1 = hs[j].1 := e
  have h1 := o.nm i _ (List.getElem?_eq_getElem (by omega : i < hs.length))
  have h2 := o.nm j _ (List.getElem?_eq_getElem hj)
  rw [e2] at h1
  rcases h1 with h1 | h1 <;> rcases h2 with h2 | h2 <;> have := inj _ _ _ h1 h2 <;> omega
def sp__law_program (K : PySem.W.Frag) : Sp := fun vs H Q _ => ∃ (a : Addr) (ns : List Int) (fi : Int), vs = [.ref a, .int fi] ∧ SqL K H a (ns.map V.int) ∧ 0 ≤ fi ∧ fi ≤ 1000 ∧ ∀ H' r (p : Pg), Same H H' → Dp K H' r p.d → p.Wf → Q r H'
theorem ok__law_program (T : Top K mg) : FnOk P w K mg base CX0 21 (He.ga K "_law_program") T.fd__law_program ["_law_script", "_law_first"] (sp__law_program K) := by
  have G__law_mixed := ok__law_mixed (P := P) (w := w) (base := base) T
  have G__law_held := ok__law_held (P := P) (w := w) (base := base) T
  have G__law_cell_at := ok__law_cell_at (P := P) (w := w) (base := base) T
  have G__law_names := ok__law_names (P := P) (w := w) (base := base) T
  have G__law_inner_cell := ok__law_inner_cell (P := P) (w := w) (base := base) T
  have G__law_body := okg_body (P := P) (w := w) (base := base) T 4
  refine T.F__law_program.ok sc__law_program (fun vs H Q E h => ?_) (fun cdv A outer s H vs Q E hr h => ?_)
  · obtain ⟨a, ns, fi, rfl, _⟩ := h
    rfl
  · obtain ⟨a, ns, fi, rfl, hS, f0, f1, q⟩ := h
    refine ⟨_, PSs.nox (pss_cons (ps_set (i := 2) sc__law_program.nd rfl (Or.inl rfl) (pe_call G__law_cell_at (hr.mono (by omega)) (by rfl) T.g__law_cell_at T.F__law_cell_at.kp T.b__law_cell_at .nil pass0 (pa_cons (pv 0) (pa_cons (pv 1) pa_nil))))
        (pss_cons (ps_set (i := 3) sc__law_program.nd rfl (Or.inr rfl) (pe_call G__law_names (hr.mono (by omega)) (by rfl) T.g__law_names T.F__law_names.kp T.b__law_names .nil pass0 (pa_cons (pe_op op_fdivW (pv 2) pe_int) pa_nil)))
        (pss_cons (ps_set (i := 4) sc__law_program.nd rfl (Or.inr rfl) (pe_call G__law_held (hr.mono (by omega)) (by rfl) T.g__law_held T.F__law_held.kp T.b__law_held .nil pass0 (pa_cons (pe_op op_fdivW (pv 2) (pe_op op_pow pe_int pe_int)) pa_nil)))
        (pss_cons (ps_if (pt_not (pt_val (pe_callB call_isi (by rfl) T.m_isinstance (by decide +kernel) (pa_cons (pv 4) (pa_cons (pe_bltn (v := .ty "list") (by rfl) T.m_list (by decide +kernel) rfl) pa_nil))))) (pss_one (ps_set (i := 4) sc__law_program.nd rfl (Or.inr rfl) (pv 2))) pss_nil)
        (pss_cons (ps_set (i := 5) sc__law_program.nd rfl (Or.inl rfl) (pe_ix ix_list (pe_lst (pa_cons pe_int (pa_cons pe_int (pa_cons pe_int (pa_cons pe_int (pa_cons pe_int (pa_cons pe_int pa_nil))))))) (pe_call G__law_mixed (hr.mono (by omega)) (by rfl) T.g__law_mixed T.F__law_mixed.kp T.b__law_mixed .nil pass0 (pa_cons (pv 4) (pa_cons pe_int (pa_cons pe_int pa_nil)))) (fun _ _ => rfl)))
        (pss_cons (ps_setLc (i := 6) (own := [("_law_k", 9)]) (by rfl) sc__law_program.nd rfl rfl (sw_true rfl rfl rfl (by decide +kernel)) (pi_range1 (by rfl) T.m_range (pa_cons pe_int pa_nil)) (blkOk_by (own := [("_law_k", 9)]) (N := N__law_program) (sc := defScope s__law_program) (by decide +kernel)) (fun _ _ _ _ _ => (pg_name (i := 9) sc__law_program.nd rfl (Or.inl rfl))) (fun _ _ _ _ _ => pts_nil) (fun _ _ _ _ _ => (pe_tup (pa_cons (pe_ix (ix_listK (K := K) rfl) (pv 3) (pe_op op_add pe_int (pv 9)) (fun _ _ => rfl)) (pa_cons (pe_ix (ix_listK (K := K) rfl) (pe_lst (pa_cons pe_int (pa_cons pe_int (pa_cons pe_int (pa_cons (pe_op op_add pe_int (pe_call G__law_mixed (hr.mono (by omega)) (by rfl) T.g__law_mixed T.F__law_mixed.kp T.b__law_mixed .nil pass0 (pa_cons (pv 4) (pa_cons (pv 9) (pa_cons pe_int pa_nil))))) pa_nil))))) (pe_call G__law_mixed (hr.mono (by omega)) (by rfl) T.g__law_mixed T.F__law_mixed.kp T.b__law_mixed .nil pass0 (pa_cons (pv 4) (pa_cons (pe_op op_add pe_int (pv 9)) (pa_cons pe_int pa_nil)))) (fun _ _ => rfl)) pa_nil)))))
        (pss_cons (ps_set (i := 6) sc__law_program.nd rfl (Or.inl rfl) (pe_slice sl_list (pv 6) po_none (po_some (pe_call G__law_mixed (hr.mono (by omega)) (by rfl) T.g__law_mixed T.F__law_mixed.kp T.b__law_mixed .nil pass0 (pa_cons (pv 4) (pa_cons pe_int (pa_cons pe_int pa_nil)))))))
        (pss_cons (ps_set (i := 7) sc__law_program.nd rfl (Or.inl rfl) (pe_lst pa_nil))
        (pss_cons (ps_set (i := 8) sc__law_program.nd rfl (Or.inl rfl) (pe_lst pa_nil))
        (pss_cons (ps_for PassesOwn.never (by rfl) (pi_range1 (by rfl) T.m_range (pa_cons (pe_ix ix_list (pe_lst (pa_cons pe_int (pa_cons pe_int (pa_cons pe_int (pa_cons pe_int (pa_cons pe_int (pa_cons pe_int pa_nil))))))) (pe_call G__law_mixed (hr.mono (by omega)) (by rfl) T.g__law_mixed T.F__law_mixed.kp T.b__law_mixed .nil pass0 (pa_cons (pv 4) (pa_cons pe_int (pa_cons pe_int pa_nil)))) (fun _ _ => rfl)) pa_nil)) (pg_name (i := 9) sc__law_program.nd rfl (Or.inr rfl)) (pss_cons (ps_set (i := 10) sc__law_program.nd rfl (Or.inl rfl) (pe_ifExp (pt_val (pe_callB call_isi (by rfl) T.m_isinstance (by decide +kernel) (pa_cons (pv 4) (pa_cons (pe_bltn (v := .ty "list") (by rfl) T.m_list (by decide +kernel) rfl) pa_nil)))) (pv 4) (pe_op op_add (pv 2) (pv 9))))
        (pss_cons (ps_set (i := 11) sc__law_program.nd rfl (Or.inr rfl) (pe_callTy call_tuple_of (by rfl) T.m_tuple (by decide +kernel) (pa_cons (pe_slice sl_list (pv 3) (po_some (pv 9)) (po_some (pe_op op_add (pv 9) (pe_call G__law_mixed (hr.mono (by omega)) (by rfl) T.g__law_mixed T.F__law_mixed.kp T.b__law_mixed .nil pass0 (pa_cons (pv 10) (pa_cons pe_int (pa_cons pe_int pa_nil))))))) pa_nil)))
        (pss_cons (ps_setLc (i := 12) (own := [("_law_j", 16)]) (by rfl) sc__law_program.nd rfl rfl (sw_true rfl rfl rfl (by decide +kernel)) (pi_range1 (by rfl) T.m_range (pa_cons (pe_op op_add pe_int (pe_op op_mul pe_int (pv 9))) pa_nil)) (blkOk_by (own := [("_law_j", 16)]) (N := N__law_program) (sc := defScope s__law_program) (by decide +kernel)) (fun _ _ _ _ _ => (pg_name (i := 16) sc__law_program.nd rfl (Or.inl rfl))) (fun _ _ _ _ _ => pts_nil) (fun _ _ _ _ _ => (pe_call G__law_inner_cell (hr.mono (by omega)) (by rfl) T.g__law_inner_cell T.F__law_inner_cell.kp T.b__law_inner_cell .nil pass0 (pa_cons (pv 0) (pa_cons (pv 1) (pa_cons (pv 9) (pa_cons (pv 16) pa_nil)))))))
        (pss_cons (ps_set (i := 13) sc__law_program.nd rfl (Or.inl rfl) (pe_op op_cat (pe_callTy call_list_of (by rfl) T.m_list (by decide +kernel) (pa_cons (pv 11) pa_nil)) (pe_slice sl_list (pe_lc (own := [("_law_name", 14)]) (by rfl) sc__law_program.nd (pi_list (pe_slice sl_list (pv 3) po_none (po_some (pv 5)))) (blkOk_by (own := [("_law_name", 14)]) (N := N__law_program) (sc := defScope s__law_program) (by decide +kernel)) (fun _ _ _ _ _ => (pg_name (i := 14) sc__law_program.nd rfl (Or.inl rfl))) (fun _ _ _ _ _ => (pts_one (pt_cmpR (op_notIn_seqK (K := K) rfl) (pv 14) (pv 11) (by rfl)))) (fun _ _ _ _ _ => (pv 14))) po_none (po_some (pe_op op_sub pe_int (pe_callB call_len_seq (by rfl) T.m_len (by decide +kernel) (pa_cons (pv 11) pa_nil)))))))
        (pss_cons (ps_set (i := 14) sc__law_program.nd rfl (Or.inl rfl) (pe_ix ix_list (pv 3) (pe_ix ix_list (pe_lst (pa_cons (pe_op op_sub pe_int (pv 9)) (pa_cons (pv 9) pa_nil))) (pe_call G__law_mixed (hr.mono (by omega)) (by rfl) T.g__law_mixed T.F__law_mixed.kp T.b__law_mixed .nil pass0 (pa_cons (pv 4) (pa_cons (pv 9) (pa_cons pe_int pa_nil)))) (fun _ _ => rfl)) (fun _ _ => rfl)))
        (pss_cons (ps_expr (pe_bm PySem.F.plainAttrs_list PySem.F.slot_list_append PySem.F.type_list_append mt_append (pv 7) (pa_cons (pe_tup (pa_cons (pv 14) (pa_cons (pv 11) (pa_cons (pe_call G__law_body (hr.mono (by omega)) (by rfl) T.g__law_body T.F__law_body.kp T.b__law_body .nil pass0 (pa_cons (pv 12) (pa_cons pe_int (pa_cons (pe_tup (pa_cons (pv 13) (pa_cons (pe_lst pa_nil) (pa_cons (pe_callTy call_list_of (by rfl) T.m_list (by decide +kernel) (pa_cons (pv 8) pa_nil)) pa_nil)))) pa_nil)))) pa_nil)))) pa_nil)))
        (pss_one (ps_expr (pe_bm PySem.F.plainAttrs_list PySem.F.slot_list_append PySem.F.type_list_append mt_append (pv 8) (pa_cons (pe_tup (pa_cons (pv 14) (pa_cons (pe_callB call_len_seq (by rfl) T.m_len (by decide +kernel) (pa_cons (pv 11) pa_nil)) pa_nil))) pa_nil)))))))))))
        (pss_cons (ps_set (i := 11) sc__law_program.nd rfl (Or.inr rfl) (pe_callTy call_tuple_of (by rfl) T.m_tuple (by decide +kernel) (pa_cons (pe_slice sl_list (pv 3) po_none (po_some (pe_callB (call_min2 rfl) (by rfl) T.m_min (by decide +kernel) (pa_cons (pv 5) (pa_cons (pe_call G__law_mixed (hr.mono (by omega)) (by rfl) T.g__law_mixed T.F__law_mixed.kp T.b__law_mixed .nil pass0 (pa_cons (pv 4) (pa_cons pe_int (pa_cons pe_int pa_nil)))) pa_nil))))) pa_nil)))
        (pss_cons (ps_set (i := 15) sc__law_program.nd rfl (Or.inl rfl) (pe_tup (pa_cons (pe_slice sl_list (pv 3) po_none (po_some (pv 5))) (pa_cons (pe_lc (own := [("_law_row", 17)]) (by rfl) sc__law_program.nd (pi_list (pv 6)) (blkOk_by (own := [("_law_row", 17)]) (N := N__law_program) (sc := defScope s__law_program) (by decide +kernel)) (fun _ _ _ _ _ => (pg_name (i := 17) sc__law_program.nd rfl (Or.inl rfl))) (fun _ _ _ _ _ => pts_nil) (fun _ _ _ _ _ => (pe_ix (ix_tupK (K := K) rfl) (pv 17) pe_int (fun _ _ => rfl)))) (pa_cons (pv 8) pa_nil)))))
        (pss_cons (ps_setLc (i := 12) (own := [("_law_cell", 2)]) (by rfl) sc__law_program.nd rfl rfl (sw_true rfl rfl rfl (by decide +kernel)) (pi_list (pe_slice sl_list (pv 0) (po_some (pe_op op_add (pv 1) pe_int)) (po_some (pe_op op_add (pv 1) pe_int)))) (blkOk_by (own := [("_law_cell", 2)]) (N := N__law_program) (sc := defScope s__law_program) (by decide +kernel)) (fun _ _ _ _ _ => (pg_name (i := 2) sc__law_program.nd rfl (Or.inl rfl))) (fun _ _ _ _ _ => pts_nil) (fun _ _ _ _ _ => (pe_call G__law_held (hr.mono (by omega)) (by rfl) T.g__law_held T.F__law_held.kp T.b__law_held .nil pass0 (pa_cons (pv 2) pa_nil))))
        (pss_one (ps_ret (pe_tup (pa_cons (pe_callTy call_tuple_of (by rfl) T.m_tuple (by decide +kernel) (pa_cons (pv 7) pa_nil)) (pa_cons (pv 11) (pa_cons (pe_callTy call_tuple_of (by rfl) T.m_tuple (by decide +kernel) (pa_cons (pv 6) pa_nil)) (pa_cons (pe_call G__law_body (hr.mono (by omega)) (by rfl) T.g__law_body T.F__law_body.kp T.b__law_body .nil pass0 (pa_cons (pv 12) (pa_cons pe_int (pa_cons (pv 15) pa_nil)))) pa_nil)))))))))))))))))))), ?_⟩
    refine ⟨_, rfl, _, rfl, a, ns, fi, rfl, f0, hS, ?_⟩
    generalize cellA ns fi = c
    refine ⟨_, rfl, _, _, rfl, rfl, wide_div (b := 64) (by decide) (by decide) (by decide) (by decide), _, rfl, fun H1 Ln nm s1 nLn eLn hN => ?_⟩
    refine ⟨_, rfl, _, _, rfl, rfl, ⟨by decide, by decide, by decide⟩, _, _, rfl, rfl, wide_div (b := 80) (by decide) (by decide) (by decide) (by decide), _, rfl, fun H2 vh0 s2 c2 f2 => ?_⟩
    dsimp only [gName]
    refine ifs_by (fun σ' H' => H' = H2 ∧ ∃ vh, CellOk H2 vh ∧ (∀ p, vh = .ref p → H1 p = none) ∧ σ' = [some (.ref a), some (.int fi), some (.int c), some (.ref Ln), some vh, none, none, none, none, none, none, none, none, none, none, none, none, none]) ?_ ?_
    rotate_left
    · intro N hN'
      rcases c2 with ⟨x, rfl⟩ | ⟨p, l, t, rfl, hp, hl, ht⟩
      · refine ⟨_, rfl, _, _, _, _, false, rfl, .ty _, .base (.int x), kit_ty (by decide +kernel), false, rfl, ?_⟩
        exact ⟨_, rfl, hN' _ _ ⟨rfl, .int c, .inl ⟨_, rfl⟩, (fun p e => nomatch e), rfl⟩⟩
      · refine ⟨_, rfl, _, _, _, _, true, rfl, .ty _, .base (.lst hp), kit_ty (by decide +kernel), true, rfl, ?_⟩
        exact hN' _ _ ⟨rfl, .ref p, .inr ⟨p, l, t, rfl, hp, hl, ht⟩, f2, rfl⟩
    rintro σ' H3 ⟨rfl, vh, c3, f3, rfl⟩
    have pf : PF H Ln vh := ⟨nLn, fun b e => s1.free (f3 b e), fun e => by
      have := f3 Ln e
      rw [eLn] at this
      cases this⟩
    have w3 : PW H H3 Ln nm vh := ⟨s1.trans s2, s2 _ _ eLn, c3⟩
    clear s1 s2 c2 f2 c3 f3 eLn nLn
    have nl := hN.len
    -- most
    refine ⟨(by show 6 ≤ sizeLine; rw [sizeLine_eq]; decide), fun L1 n1 => ?_⟩
    have w4 := w3.new (o := .lst (mosts.map V.int)) n1
    have nc1 := (w3.free n1).2.2
    refine ⟨_, rfl, vh, 4, 6, rfl, w4.c, by decide, by decide, by decide, by decide, fun H5 j k5 c5 j0 j1 => ?_⟩
    have w5 := w4.kp pf k5 c5
    obtain ⟨m, hm, em⟩ := ints_at (l := mosts) j0 j1
    have m1 : 1 ≤ m ∧ m ≤ 12 := by
      have : ∀ x ∈ mosts, 1 ≤ x ∧ x ≤ 12 := by decide
      exact this m hm
    refine ⟨L1, _, j, _, rfl, rfl, .of (k5 _ _ upd_same fun z => absurd z nc1), em, ?_⟩
    clear w3 w4 hm em
    -- rows
    refine ⟨3, rfl, by decide, by decide, fun D nD => ?_⟩
    obtain ⟨nD0, nDL, nDc⟩ := w5.free nD
    refine lc_range (lo := 0) (n := 3) (fun i H' => PW H H' Ln nm vh ∧ ∃ (xs : List V) (rs : List (Str × Nat)), H' D = some (.lst xs) ∧ DpAll K H' xs (rs.map rwD) ∧ rs.map (·.1) = (nm.drop 12).take i ∧ ∀ r ∈ rs, 1 ≤ r.2 ∧ r.2 ≤ 8) ?_ ?_ ?_
    · exact ⟨w5.new nD, [], [], upd_same, .nil, rfl, fun r hr => nomatch hr⟩
    · rintro i H6 hi ⟨w6, xs, rs, e6, d6, r6, b6⟩
      have hi2 : 12 + i < nm.length := by omega
      have eN : atI (nm.map V.str) (12 + (0 + (i : Int))) = some (.str nm[12 + i]) := by
        rw [show (12 + (0 + (i : Int))) = ((12 + i : Nat) : Int) by omega]
        exact atI_nat (by rw [List.getElem?_map, List.getElem?_eq_getElem hi2]; rfl)
      refine ⟨rfl, _, rfl, _, rfl, _, _, rfl, rfl, Ln, _, _, _, rfl, rfl, .of w6.ln, eN, ?_⟩
      refine ⟨_, rfl, _, rfl, vh, 0 + (i : Int), 8, rfl, w6.c, by omega, by omega, by decide, by decide, fun H7 r7 k7 c7 r70 r71 => ?_⟩
      have w7 := w6.kp pf k7 c7
      refine ⟨_, _, rfl, rfl, (by show 4 ≤ sizeLine; rw [sizeLine_eq]; decide), fun L2 n2 => ?_⟩
      have w8 := w7.new (o := .lst (([1, 2, 8, 1 + r7] : List Int).map V.int)) n2
      have nc2 := (w7.free n2).2.2
      refine ⟨_, rfl, _, rfl, _, _, rfl, rfl, vh, 5 + (0 + (i : Int)), 4, rfl, w8.c, by omega, by omega, by decide, by decide, fun H9 j9 k9 c9 j90 j91 => ?_⟩
      have w9 := w8.kp pf k9 c9
      obtain ⟨sz, hsz, esz⟩ := ints_at (l := [1, 2, 8, 1 + r7]) j90 j91
      have sz1 : 1 ≤ sz ∧ sz ≤ 8 := by
        simp only [List.mem_cons, List.not_mem_nil, or_false] at hsz
        omega
      refine ⟨L2, _, j9, _, rfl, rfl, .of (k9 _ _ upd_same fun z => absurd z nc2), esz, ?_⟩
      refine ⟨(by show 2 ≤ sizeLine; rw [sizeLine_eq]; decide), fun p np => ?_⟩
      have w10 := w9.new (o := .tup [.str nm[12 + i], .int sz]) np
      have e10 : (upd H9 p (.tup [.str nm[12 + i], .int sz])) D = some (.lst xs) := by
        rw [upd_ne (fun z => ?_)]
        · exact k9 _ _ (same_new n2 _ _ (k7 _ _ e6 fun z => absurd z nDc)) fun z => absurd z nDc
        · have : H9 D = some (.lst xs) := k9 _ _ (same_new n2 _ _ (k7 _ _ e6 fun z => absurd z nDc)) fun z => absurd z nDc
          rw [z, np] at this
          cases this
      have d10 : DpAll K (upd H9 p (.tup [.str nm[12 + i], .int sz])) xs (rs.map rwD) := dpAll_same (dpAll_kp k9 _ _ (rws_noL rs) (dpAll_same (dpAll_kp k7 _ _ (rws_noL rs) d6) (same_new n2) (rws_noL rs))) (same_new np) (rws_noL rs)
      obtain ⟨szn, rfl⟩ := Int.eq_ofNat_of_zero_le (show 0 ≤ sz by omega)
      have dt : Dp K (upd H9 p (.tup [.str nm[12 + i], .int szn])) (.ref p) (rwD (nm[12 + i], szn)) := dp_new np (.cons (.str _) (.cons (.int _) .nil)) rfl
      generalize upd H9 p (.tup [.str nm[12 + i], .int szn]) = H10 at w10 e10 d10 dt
      have xl : xs.length ≤ 3 := by
        rw [dpAll_len d10, List.length_map]
        have := congrArg List.length r6
        rw [List.length_map, List.length_take] at this
        omega
      have ku : Kp (fun y => y = D) H10 (upd H10 D (.lst (xs ++ [.ref p]))) := Kp.upd e10 trivial rfl
      refine ⟨xs, e10, by rw [sizeLine_eq]; omega, w10.upd nD0 nDL nDc, xs ++ [.ref p], rs ++ [(nm[12 + i], szn)], upd_same, ?_, ?_, ?_⟩
      · rw [List.map_append]
        exact dpAll_app (dpAll_kp ku _ _ (rws_noL rs) d10) (.cons (dp_kp ku _ _ rfl dt) .nil)
      · rw [List.map_append, r6, List.take_add_one, List.getElem?_drop, List.getElem?_eq_getElem hi2]
        rfl
      · intro r hr
        rcases List.mem_append.mp hr with hr | hr
        · exact b6 r hr
        · rw [List.mem_singleton.mp hr]
          exact ⟨by show 1 ≤ szn; omega, by show szn ≤ 8; omega⟩
    rintro H6 ⟨w6, xs, rs, e6, d6, r6, b6⟩
    -- rows[:..]
    refine ⟨_, rfl, _, rfl, vh, 8, 4, rfl, w6.c, by decide, by decide, by decide, by decide, fun H7 j7 k7 c7 j70 j71 => ?_⟩
    have w7 := w6.kp pf k7 c7
    obtain ⟨j7, rfl⟩ := Int.eq_ofNat_of_zero_le j70
    refine ⟨_, rfl, D, _, rfl, .of (k7 _ _ e6 fun z => absurd z nDc), fun LR nLR => ?_⟩
    rw [cutV_to]
    have w8 := w7.new (o := .lst (xs.take j7)) nLR
    have dR : DpAll K (upd H7 LR (.lst (xs.take j7))) (xs.take j7) ((rs.take j7).map rwD) := by
      rw [List.map_take]
      exact dpAll_take _ (dpAll_same (dpAll_kp k7 _ _ (rws_noL rs) d6) (same_new nLR) (rws_noL rs))
    have eR : upd H7 LR (.lst (xs.take j7)) LR = some (.lst (xs.take j7)) := upd_same
    obtain ⟨rs', hrs'⟩ : ∃ rs', rs' = rs.take j7 := ⟨_, rfl⟩
    have rn : rs'.map (·.1) = (nm.drop 12).take (min j7 3) := by
      rw [hrs', List.map_take, r6, List.take_take]
    have rb' : ∀ r ∈ rs', 1 ≤ r.2 ∧ r.2 ≤ 8 := fun r hr => b6 r (List.mem_of_mem_take (by rw [← hrs']; exact hr))
    rw [← hrs'] at dR
    obtain ⟨nR0, nRL, nRc⟩ := w7.free nLR
    generalize xs.take j7 = xr at dR eR w8 ⊢
    generalize upd H7 LR (.lst xr) = H8 at w8 dR eR
    clear w6 w7 d6 e6 r6 b6 hrs'
    -- helpers, heads
    refine ⟨Nat.zero_le _, fun LH nLH => ?_⟩
    obtain ⟨nH0, nHL, nHc⟩ := w8.free nLH
    have sH := same_new (o := .lst []) nLH
    refine ⟨Nat.zero_le _, fun LD nLD => ?_⟩
    have w9 := w8.new (o := .lst []) nLH
    obtain ⟨nD0', nDL', nDc'⟩ := w9.free nLD
    have sD := same_new (o := .lst []) nLD
    have lf : LF H Ln vh LR LH LD := ⟨pf, nRc, nHc, nDc', nH0, nD0', nHL, nDL', (ne_of_none eR nLH).symm, (ne_of_none (sH _ _ eR) nLD).symm, ne_of_none (upd_same (H := H8) (a := LH) (o := .lst [])) nLD⟩
    have l10 : LWg K H (upd (upd H8 LH (.lst [])) LD (.lst [])) Ln nm vh LR xr rs' LH LD [] [] [] := ⟨w9.new nLD, sD _ _ (sH _ _ eR), dpAll_same (dpAll_same dR sH (rws_noL _)) sD (rws_noL _), sD _ _ upd_same, .nil, upd_same, .nil⟩
    generalize upd (upd H8 LH (.lst [])) LD (.lst []) = H10 at l10
    clear w8 w9 dR eR sH sD nLH nLD
    refine ⟨(by show 6 ≤ sizeLine; rw [sizeLine_eq]; decide), fun L3 n3 => ?_⟩
    have l11 := l10.new (o := .lst (manys.map V.int)) n3
    have nc3 := (l10.w.free n3).2.2
    refine ⟨_, rfl, vh, 9, 6, rfl, l11.w.c, by decide, by decide, by decide, by decide, fun H12 j12 k12 c12 j120 j121 => ?_⟩
    have l12 := l11.kp lf k12 c12
    obtain ⟨many, hmany, emany⟩ := ints_at (l := manys) j120 j121
    have many1 : 0 ≤ many ∧ many ≤ 4 := by
      have : ∀ x ∈ manys, 0 ≤ x ∧ x ≤ 4 := by decide
      exact this many hmany
    refine ⟨L3, _, j12, _, rfl, rfl, .of (k12 _ _ upd_same fun z => absurd z nc3), emany, many, rfl, by omega, by omega, ?_⟩
    clear l10 l11 hmany emany
    refine for_range (lo := 0) (n := many.toNat) (fun i σ' H' => ∃ xh xd hs x9 x10 x11 x12 x13 x14 x16 x17, LWg K H H' Ln nm vh LR xr rs' LH LD xh xd hs ∧ hs.length = i ∧ HsOk nm hs ∧
      σ' = [some (.ref a), some (.int fi), some (.int c), some (.ref Ln), some vh, some (.int m), some (.ref LR), some (.ref LH), some (.ref LD), x9, x10, x11, x12, x13, x14, none, x16, x17]) ?_ ?_ ?_
    · exact ⟨[], [], [], none, none, none, none, none, none, none, none, l12, rfl, ⟨fun j h e => by simp at e, fun j h e => by simp at e⟩, rfl⟩
    · rintro i σ' H13 hi ⟨xh, xd, hs, x9, x10, x11, x12, x13, x14, x16, x17, l13, hl13, ok13, rfl⟩
      have hi4 : i < 4 := by omega
      -- own
      have own : ∃ vo, (vo = vh ∨ ∃ x, vo = .int x) ∧ ∀ Q' : VK, Q' vo H13 → (fun σ H Q => (tIf (tB (tCB (rIsi K) (tCons (tVar 4) (tCons (tC (.ty "list")) tNil)))) (tVar 4) (tOp (rI0 fun i j => V.int (i + j)) (tVar 2) (tVar 9))) σ H Q) [some (.ref a), some (.int fi), some (.int c), some (.ref Ln), some vh, some (.int m), some (.ref LR), some (.ref LH), some (.ref LD), some (.int (0 + (i : Int))), x10, x11, x12, x13, x14, none, x16, x17] H13 Q' := by
        rcases l13.w.c with ⟨x, rfl⟩ | ⟨p, l, t, rfl, hp, hl, ht⟩
        · exact ⟨.int (c + (0 + (i : Int))), .inr ⟨_, rfl⟩, fun Q' h => ⟨_, rfl, _, _, _, _, false, rfl, .ty _, .base (.int x), kit_ty (by decide +kernel), false, rfl, _, rfl, _, rfl, _, _, rfl, rfl, h⟩⟩
        · exact ⟨.ref p, .inl rfl, fun Q' h => ⟨_, rfl, _, _, _, _, true, rfl, .ty _, .base (.lst hp), kit_ty (by decide +kernel), true, rfl, _, rfl, h⟩⟩
      obtain ⟨vo, wo, own⟩ := own
      refine own _ ?_
      have subo := cellS_sub wo
      -- params
      refine ⟨_, rfl, _, rfl, _, rfl, _, rfl, _, rfl, vo, 10, 5, rfl, CellOk.or wo l13.w.c, by decide, by decide, by decide, by decide, fun H14 n14 k14 c14 n140 n141 => ?_⟩
      have l14 := l13.kp lf (k14.mono subo) (cell_after wo l13.w.c k14 c14)
      obtain ⟨n14, rfl⟩ := Int.eq_ofNat_of_zero_le n140
      refine ⟨_, _, rfl, rfl, _, rfl, Ln, _, rfl, .of l14.w.ln, fun Lp nLp => ?_⟩
      rw [show (0 + (i : Int)) + (n14 : Int) = ((i + n14 : Nat) : Int) by omega, show (0 + (i : Int)) = ((i : Nat) : Int) by omega, cutV_mid _ (by omega) (by rw [List.length_map, nl]; omega), Nat.add_sub_cancel_left, ← List.map_drop, ← List.map_take]
      obtain ⟨pr, hpr⟩ : ∃ pr, pr = (nm.drop i).take n14 := ⟨_, rfl⟩
      rw [← hpr]
      have l15 := l14.new (o := .lst (pr.map V.str)) nLp
      refine ⟨Lp, _, rfl, .inl ⟨.of upd_same, fun Tp nTp => ?_⟩⟩
      have l16 := l15.new (o := .tup (pr.map V.str)) nTp
      have prl : pr.length ≤ 4 := by rw [hpr, List.length_take]; omega
      have prn : pr.Nodup := by
        rw [hpr]
        exact ((List.take_sublist _ _).trans (List.drop_sublist _ _)).nodup hN.nd
      have prk : ∀ x ∈ pr, x ∈ nm := fun x hx => List.mem_of_mem_drop (List.mem_of_mem_take (by rw [← hpr]; exact hx))
      have dTp : SqT K (upd (upd H14 Lp (.lst (pr.map V.str))) Tp (.tup (pr.map V.str))) Tp (pr.map V.str) := .of upd_same
      generalize upd (upd H14 Lp (.lst (pr.map V.str))) Tp (.tup (pr.map V.str)) = H16 at l16 dTp
      clear l14 l15
      -- cells
      refine ⟨_, rfl, _, _, rfl, rfl, .inl ⟨by decide, by decide⟩, _, _, rfl, rfl, 2 + 2 * (i : Int), rfl, by omega, by omega, fun pc npc => ?_⟩
      refine lc_range (lo := 0) (n := (2 + 2 * (i : Int)).toNat) (H1 := H16) (D := pc) (fun j H' => Same H16 H' ∧ ∃ cs, CellsOk H' pc cs ∧ cs.length = j ∧ ∀ x ∈ cs, ∀ b, cellS x b → H16 b = none) ?_ ?_ ?_
      · exact ⟨same_new npc, [], ⟨upd_same, (fun x hx => nomatch hx), fun x hx => nomatch hx⟩, rfl, fun x hx => nomatch hx⟩
      · rintro j H17 hj ⟨s17, cs, C17, lc, f17⟩
        refine ⟨rfl, _, rfl, _, rfl, _, rfl, _, rfl, a, ns, fi, (i : Int), 0 + (j : Int), rfl, (l16.w.s.trans s17).seq hS, f0, by omega, by omega, by omega, by omega, fun H18 v s18 c18 f18 => ?_⟩
        have C18 := C17.same s18
        have nv : v ≠ .ref pc := fun e => by
          have := f18 pc e
          rw [C17.at_] at this
          cases this
        have cup : ∀ x ∈ cs, ¬ cellS x pc := fun x hx e => C17.off x hx e
        refine ⟨cs, C18.at_, by rw [lc, sizeLine_eq]; omega, ?_, cs ++ [v], ⟨upd_same, fun x hx => ?_, fun x hx => ?_⟩, by rw [List.length_append, lc]; rfl, fun x hx b e => ?_⟩
        · intro b o hb
          rw [upd_ne (ne_of_none hb npc)]
          exact (s17.trans s18) b o hb
        · rcases List.mem_append.mp hx with hx | hx
          · exact (C18.ok x hx).upd (cup x hx)
          · rw [List.mem_singleton.mp hx]
            exact c18.upd nv
        · rcases List.mem_append.mp hx with hx | hx
          · exact C17.off x hx
          · rw [List.mem_singleton.mp hx]
            exact nv
        · rcases List.mem_append.mp hx with hx | hx
          · exact f17 x hx b e
          · rw [List.mem_singleton.mp hx] at e
            exact s17.free (f18 b e)
      rintro H17 ⟨s17, cs, C17, lc, f17⟩
      have fS : ∀ b, cellsS pc cs b → H16 b = none := by
        rintro b (e | ⟨x, hx, e⟩)
        · rw [e]
          exact npc
        · exact f17 x hx b e
      have l17 := l16.same s17
      have dTp17 := sqT_kp (Kp.of_same (S := cellS vh) s17) dTp
      -- variables
      refine ⟨_, rfl, Tp, _, rfl, .inr dTp17, fun L4 n4 => ?_⟩
      have s4 := same_new (o := .lst (pr.map V.str)) n4
      have m0 : ∃ mn : Nat, m = mn := Int.eq_ofNat_of_zero_le (by omega)
      obtain ⟨mn, rfl⟩ := m0
      refine ⟨_, rfl, _, rfl, _, rfl, Ln, _, rfl, .of (s4 _ _ l17.w.ln), fun L5 n5 => ?_⟩
      rw [cutV_to, ← List.map_take]
      have s5 := same_new (o := .lst ((nm.take mn).map V.str)) n5
      refine ⟨L5, rfl, ⟨_, .of upd_same⟩, fun L6 n6 => ?_⟩
      have s45 := s4.trans s5
      refine lc_list (K := K) (a := L5) (xs := (nm.take mn).map V.str) (fun j H' => Same (upd (upd H17 L4 (.lst (pr.map V.str))) L5 (.lst ((nm.take mn).map V.str))) H' ∧ ∃ fs : List Str, H' L6 = some (.lst (fs.map V.str)) ∧ (∀ x ∈ fs, x ∈ nm) ∧ fs.length ≤ j) ?_ ?_ ?_ ?_
      · exact ⟨same_new n6, [], upd_same, (fun x hx => nomatch hx), Nat.le_refl _⟩
      · rintro j H' _ ⟨s', _⟩
        exact .of (s' _ _ upd_same)
      · rintro j x H' hx ⟨s', fs, e6, f6, g6⟩
        rw [List.getElem?_map] at hx
        obtain ⟨z, hz, rfl⟩ := Option.map_eq_some_iff.mp hx
        have zin : z ∈ nm := List.mem_of_mem_take (List.mem_of_getElem? hz)
        have jl : j < mn := by
          have := (List.getElem?_eq_some_iff.mp hz).1
          rw [List.length_take] at this
          omega
        refine ⟨rfl, _, rfl, _, rfl, Tp, _, rfl, .inr (sqT_kp (Kp.of_same (S := cellS vh) (s45.trans s')) dTp17), rfl, flat_strs _, _, rfl, ?_⟩
        dsimp only
        rw [if_pos rfl, in_strs]
        refine ite2 (fun _ => ?_) (fun _ => ?_)
        · refine ⟨_, rfl, _, e6, by rw [List.length_map, sizeLine_eq]; omega, ?_, fs ++ [z], ?_, ?_, ?_⟩
          · intro b o hb
            rw [upd_ne (ne_of_none hb n6)]
            exact s' b o hb
          · rw [upd_same, List.map_append]
            rfl
          · intro y hy
            rcases List.mem_append.mp hy with hy | hy
            · exact f6 y hy
            · rw [List.mem_singleton.mp hy]
              exact zin
          · rw [List.length_append]
            show fs.length + 1 ≤ j + 1
            omega
        · exact ⟨s', fs, e6, f6, by omega⟩
      rintro H18 ⟨s18, fs, e18, f18, g18⟩
      refine ⟨_, rfl, Tp, _, rfl, .inr (sqT_kp (Kp.of_same (S := cellS vh) (s45.trans s18)) dTp17), _, _, rfl, rfl, _, rfl, L6, _, rfl, .of e18, fun L7 n7 => ?_⟩
      rw [List.length_map, show (12 : Int) - (pr.length : Int) = ((12 - pr.length : Nat) : Int) by omega, cutV_to, ← List.map_take]
      have s7 := same_new (o := .lst ((fs.take (12 - pr.length)).map V.str)) n7
      have e4 := s7 _ _ (s18 _ _ (s5 _ _ (upd_same (H := H17) (a := L4) (o := .lst (pr.map V.str)))))
      refine ⟨L4, L7, _, _, rfl, rfl, e4, upd_same, by rw [List.length_map, List.length_map, List.length_take, sizeLine_eq]; omega, fun LV nLV => ?_⟩
      rw [← List.map_append]
      obtain ⟨vs, hvs⟩ : ∃ vs, vs = pr ++ fs.take (12 - pr.length) := ⟨_, rfl⟩
      rw [← hvs]
      have sV := same_new (o := .lst (vs.map V.str)) nLV
      have vsl : vs.length ≤ 12 := by rw [hvs, List.length_append, List.length_take]; omega
      have vsn : ∀ x ∈ vs, x ∈ nm := fun x hx => by
        rw [hvs] at hx
        rcases List.mem_append.mp hx with hx | hx
        · exact prk x hx
        · exact f18 x (List.mem_of_mem_take hx)
      have vsp : ∀ x ∈ pr, x ∈ vs := fun x hx => by
        rw [hvs]
        exact List.mem_append_left _ hx
      have s19 := (s45.trans s18).trans (s7.trans sV)
      have eV : upd (upd H18 L7 (.lst ((fs.take (12 - pr.length)).map V.str))) LV (.lst (vs.map V.str)) LV = some (.lst (vs.map V.str)) := upd_same
      generalize upd (upd H18 L7 (.lst ((fs.take (12 - pr.length)).map V.str))) LV (.lst (vs.map V.str)) = H19 at s19 eV
      have C19 := C17.same s19
      have l19 := l17.same s19
      have nVS : ¬ cellsS pc cs LV := by
        have h1 : H17 LV = none := ((s45.trans s18).trans s7).free nLV
        exact C17.fresh h1
      have dTp19 := sqT_kp (Kp.of_same (S := cellS vh) s19) dTp17
      have s169 := s17.trans s19
      have nVh : ¬ cellS vh LV := l17.w.c.fresh (((s45.trans s18).trans s7).free nLV)
      clear sV s7 s45 s5 s4 e4 e18 s18 l17 C17 dTp17 n4 n5 n6 n7 nLV
      -- name
      refine ⟨_, rfl, _, rfl, _, _, rfl, rfl, _, rfl, (by show 2 ≤ sizeLine; rw [sizeLine_eq]; decide), fun L8 n8 => ?_⟩
      have s8 := same_new (o := .lst (([15 - (i : Int), (i : Int)] : List Int).map V.int)) n8
      have l20 := l19.same s8
      have nc8 : ¬ cellS vh L8 := l19.w.c.fresh n8
      refine ⟨_, rfl, _, rfl, vh, (i : Int), 2, rfl, l20.w.c, by omega, by omega, by decide, by decide, fun H21 j21 k21 c21 j210 j211 => ?_⟩
      have l21 := l20.kp lf k21 c21
      obtain ⟨ix, hix, eix⟩ := ints_at (l := [15 - (i : Int), (i : Int)]) j210 j211
      refine ⟨L8, _, j21, _, rfl, rfl, .of (k21 _ _ upd_same fun z => absurd z nc8), eix, ?_⟩
      have hix2 : ix = ((15 - i : Nat) : Int) ∨ ix = ((i : Nat) : Int) := by
        simp only [List.mem_cons, List.not_mem_nil, or_false] at hix
        omega
      obtain ⟨nmk, hnmk, enmk⟩ : ∃ z, (nm[15 - i]? = some z ∨ nm[i]? = some z) ∧ atI (nm.map V.str) ix = some (.str z) := by
        rcases hix2 with rfl | rfl
        · have h1 : 15 - i < nm.length := by omega
          exact ⟨nm[15 - i], .inl (List.getElem?_eq_getElem h1), atI_nat (by rw [List.getElem?_map, List.getElem?_eq_getElem h1]; rfl)⟩
        · have h1 : i < nm.length := by omega
          exact ⟨nm[i], .inr (List.getElem?_eq_getElem h1), atI_nat (by rw [List.getElem?_map, List.getElem?_eq_getElem h1]; rfl)⟩
      refine ⟨Ln, _, ix, _, rfl, rfl, .of l21.w.ln, enmk, ?_⟩
      have k19 : Kp (cellS vh) H19 H21 := (Kp.of_same s8).trans k21
      have vS : ∀ b, cellS vh b → ¬ cellsS pc cs b := fun b e z => by
        have h1 := fS b z
        rcases l16.w.c with ⟨x, rfl⟩ | ⟨p, l, t, rfl, hp, _, _⟩
        · cases e
        · cases e
          rw [hp] at h1
          cases h1
      have C21 : CellsOk H21 pc cs := ⟨k19 _ _ C19.at_ fun z => absurd (.inl rfl) (vS _ z), fun x hx => (C19.ok x hx).kp k19 fun b e z => absurd (.inr ⟨x, hx, e⟩) (vS b z), C19.off⟩
      have eV21 := k19 _ _ eV fun z => absurd z nVh
      have dTp21 := sqT_kp k19 dTp19
      clear l19 l20 C19 s8 n8 nc8 hix eix hix2 enmk
      -- helpers.append
      refine ⟨_, rfl, .inl ⟨rfl, _, .of l21.eH⟩, _, rfl, _, rfl, _, rfl, _, rfl, Nat.zero_le _, fun LE nLE => ?_⟩
      have sE := same_new (o := .lst []) nLE
      have l22 := l21.same sE
      refine ⟨_, rfl, LD, _, rfl, .inl (.of l22.eD), fun LC nLC => ?_⟩
      have sC := same_new (o := .lst xd) nLC
      have l23 := l22.same sC
      refine ⟨(by show 3 ≤ sizeLine; rw [sizeLine_eq]; decide), fun PI nPI => ?_⟩
      have sI := same_new (o := .tup [.ref LV, .ref LE, .ref LC]) nPI
      have l24 := l23.same sI
      have sECI := (sE.trans sC).trans sI
      have C24 := C21.same sECI
      have offI : Off (cellsS pc cs) LV LE LC := ⟨nVS, C21.fresh nLE, (C21.same sE).fresh nLC⟩
      have info : Info K (upd (upd (upd H21 LE (.lst [])) LC (.lst xd)) PI (.tup [.ref LV, .ref LE, .ref LC])) (.ref PI) vs [] (hs.map hdOf) LV LE LC :=
        ⟨⟨PI, rfl, .of upd_same⟩, sECI _ _ eV21, sI _ _ (sC _ _ upd_same), xd, sI _ _ upd_same, l24.dD⟩
      have dTp24 := sqT_kp (Kp.of_same (S := cellS vh) sECI) dTp21
      generalize upd (upd (upd H21 LE (.lst [])) LC (.lst xd)) PI (.tup [.ref LV, .ref LE, .ref LC]) = H24 at l24 C24 info dTp24 sECI
      have kq : ∀ q ∈ hs.map hdOf, q.2 ≤ 4 := fun q hq => by
        obtain ⟨h, hh, rfl⟩ := List.mem_map.mp hq
        obtain ⟨j, hj⟩ := List.getElem?_of_mem hh
        exact (ok13.wf j h hj).pl
      have hpc16 := fS
      have notS : ∀ b, (∃ o, H16 b = some o) → ¬ cellsS pc cs b := fun b ⟨o, e⟩ z => by
        rw [fS b z] at e
        cases e
      refine ⟨pc, cs, 0, .ref PI, vs, [], hs.map hdOf, LV, LE, LC, rfl, C24, by decide, by decide, by decide, by rw [lc]; omega, info, by omega, by decide, by rw [List.length_map]; omega, kq, fun z hz => nm_strOk (hN.nm z (vsn z hz)), offI, fun H25 rb nn bd k25 C25 hnn dB wB szB => ?_⟩
      have l25 : LWg K H H25 Ln nm vh LR xr rs' LH LD xh xd hs := l24.kpS k25 (fun b z => l16.w.s.free (fS b z)) (notS _ ⟨_, l16.w.ln⟩) (notS _ ⟨_, l16.eR⟩) (notS _ ⟨_, l16.eH⟩) (notS _ ⟨_, l16.eD⟩) (l24.w.c.kp k25 fun b e z => absurd z (fun y => vS b e y))
      have dTp25 := sqT_kp k25 dTp24
      refine ⟨(by show 3 ≤ sizeLine; rw [sizeLine_eq]; decide), fun TU nTU => ?_⟩
      have l26 := l25.new (o := .tup [.str nmk, .ref Tp, rb]) nTU
      have dTU : Dp K (upd H25 TU (.tup [.str nmk, .ref Tp, rb])) (.ref TU) (hpD (nmk, pr, bd)) := dp_new nTU (.cons (.str _) (.cons (.tup dTp25 (strs_dpAll pr)) (.cons dB .nil))) (by simp only [nLs, nLd, strs_noL, Sm.noLs]; rfl)
      have dTp26 := sqT_kp (Kp.of_same (S := cellS vh) (same_new (o := .tup [.str nmk, .ref Tp, rb]) nTU)) dTp25
      generalize upd H25 TU (.tup [.str nmk, .ref Tp, rb]) = H26 at l26 dTU dTp26
      have hlen : hs.length ≤ 4 := by omega
      refine ⟨LH, _, _, rfl, rfl, l26.eH, by rw [dpAll_len l26.dH, List.length_map, sizeLine_eq]; omega, ?_⟩
      have kh : Kp (fun b => b = LH) H26 (upd H26 LH (.lst (xh ++ [.ref TU]))) := Kp.upd l26.eH trivial rfl
      have w27 : PW H (upd H26 LH (.lst (xh ++ [.ref TU]))) Ln nm vh := l26.w.upd lf.h0 lf.hl lf.hc
      have eR27 := kh _ _ l26.eR fun z => absurd z.symm lf.hr
      have eD27 := kh _ _ l26.eD fun z => absurd z.symm lf.hd
      have dR27 := dpAll_kp kh _ _ (rws_noL _) l26.dR
      have dH27 := dpAll_app (dpAll_kp kh _ _ (hps_noL _) l26.dH) (.cons (dp_kp kh _ _ (hpD_noL _) dTU) .nil)
      have dD27 := dpAll_kp kh _ _ (hds_noL _) l26.dD
      have eH27 : upd H26 LH (.lst (xh ++ [.ref TU])) LH = some (.lst (xh ++ [.ref TU])) := upd_same
      have dTp27 := sqT_kp kh dTp26
      have dH27' : DpAll K (upd H26 LH (.lst (xh ++ [.ref TU]))) (xh ++ [.ref TU]) ((hs ++ [(nmk, pr, bd)]).map hpD) := by
        rw [List.map_append]
        exact dH27
      generalize upd H26 LH (.lst (xh ++ [.ref TU])) = H27 at w27 eR27 eD27 dR27 dH27 dH27' dD27 eH27 dTp27
      -- heads.append
      refine ⟨_, rfl, .inl ⟨rfl, _, .of eD27⟩, _, rfl, _, rfl, Tp, _, rfl, .inr dTp27, (by show 2 ≤ sizeLine; rw [sizeLine_eq]; decide), fun TW nTW => ?_⟩
      have sW := same_new (o := .tup [.str nmk, .int (pr.map V.str).length]) nTW
      have eD28 := sW _ _ eD27
      refine ⟨LD, _, _, rfl, rfl, eD28, by rw [dpAll_len dD27, List.length_map, List.length_map, sizeLine_eq]; omega, ?_⟩
      have dTW : Dp K (upd H27 TW (.tup [.str nmk, .int (pr.map V.str).length])) (.ref TW) (hdD (nmk, pr.length)) := by
        have := dp_new (K := K) nTW (.cons (.str nmk) (.cons (.int ((pr.map V.str).length : Int)) .nil)) rfl
        rw [List.length_map] at this ⊢
        exact this
      have w28 := w27.same sW
      have kd : Kp (fun b => b = LD) (upd H27 TW (.tup [.str nmk, .int (pr.map V.str).length])) (upd (upd H27 TW (.tup [.str nmk, .int (pr.map V.str).length])) LD (.lst (xd ++ [.ref TW]))) := Kp.upd eD28 trivial rfl
      refine ⟨_, _, hs ++ [(nmk, pr, bd)], _, _, _, _, _, _, _, _, ⟨w28.upd lf.d0 lf.dl lf.dc, kd _ _ (sW _ _ eR27) fun z => absurd z.symm lf.dr, dpAll_kp kd _ _ (rws_noL _) (dpAll_same dR27 sW (rws_noL _)), kd _ _ (sW _ _ eH27) fun z => absurd z lf.hd, ?_, upd_same, ?_⟩, by rw [List.length_append, hl13]; rfl, ?_, rfl⟩
      · exact dpAll_kp kd _ _ (hps_noL _) (dpAll_same dH27' sW (hps_noL _))
      · rw [List.map_append, List.map_append]
        exact dpAll_app (dpAll_kp kd _ _ (hds_noL _) (dpAll_same dD27 sW (hds_noL _))) (.cons (dp_kp kd _ _ rfl dTW) .nil)
      · refine hsOk_snoc ok13 ⟨?_, prl, prn, fun x hx => hN.nm x (prk x hx), ⟨vs, fun x hx => hN.nm x (vsn x hx), vsl, vsp, wB⟩, ?_⟩ (by rw [hl13]; exact hnmk)
        · rcases hnmk with h | h
          · exact hN.nm _ (List.mem_of_getElem? h)
          · exact hN.nm _ (List.mem_of_getElem? h)
        · show Sm.sizes bd ≤ 8
          omega
    · rintro σ' H13 ⟨xh, xd, hs, x9, x10, x11, x12, x13, x14, x16, x17, l13, hl13, ok13, rfl⟩
      have hl4 : hs.length ≤ 4 := by omega
      -- params
      refine ⟨_, rfl, _, rfl, _, rfl, vh, 2, 5, rfl, l13.w.c, by decide, by decide, by decide, by decide, fun H14 n14 k14 c14 n140 n141 => ?_⟩
      have l14 := l13.kp lf k14 c14
      obtain ⟨n14, rfl⟩ := Int.eq_ofNat_of_zero_le n140
      obtain ⟨mn, rfl⟩ := Int.eq_ofNat_of_zero_le (show 0 ≤ m by omega)
      refine ⟨_, _, rfl, ?_⟩
      rw [show (if (n14 : Int) < (mn : Int) then (n14 : Int) else (mn : Int)) = ((min mn n14 : Nat) : Int) by split <;> omega]
      refine ⟨_, rfl, Ln, _, rfl, .of l14.w.ln, fun Lp nLp => ?_⟩
      rw [cutV_to, ← List.map_take]
      obtain ⟨pr, hpr⟩ : ∃ pr, pr = nm.take (min mn n14) := ⟨_, rfl⟩
      rw [← hpr]
      have l15 := l14.new (o := .lst (pr.map V.str)) nLp
      refine ⟨Lp, _, rfl, .inl ⟨.of upd_same, fun Tp nTp => ?_⟩⟩
      have l16 := l15.new (o := .tup (pr.map V.str)) nTp
      have prl : pr.length ≤ 4 := by rw [hpr, List.length_take]; omega
      have prn : pr.Nodup := by
        rw [hpr]
        exact (List.take_sublist _ _).nodup hN.nd
      have prm : ∀ x ∈ pr, x ∈ nm.take mn := fun x hx => by
        rw [hpr] at hx
        exact List.mem_of_mem_take (i := n14) (by rw [List.take_take, Nat.min_comm]; exact hx)
      have dTp : SqT K (upd (upd H14 Lp (.lst (pr.map V.str))) Tp (.tup (pr.map V.str))) Tp (pr.map V.str) := .of upd_same
      generalize upd (upd H14 Lp (.lst (pr.map V.str))) Tp (.tup (pr.map V.str)) = H16 at l16 dTp
      clear l14 l15
      -- info
      refine ⟨_, rfl, _, rfl, _, rfl, Ln, _, rfl, .of l16.w.ln, fun LV nLV => ?_⟩
      rw [cutV_to, ← List.map_take]
      have sV := same_new (o := .lst ((nm.take mn).map V.str)) nLV
      have l17 := l16.same sV
      have eV : upd H16 LV (.lst ((nm.take mn).map V.str)) LV = some (.lst ((nm.take mn).map V.str)) := upd_same
      have dTp17 := sqT_kp (Kp.of_same (S := cellS vh) sV) dTp
      generalize upd H16 LV (.lst ((nm.take mn).map V.str)) = H17 at l17 eV dTp17
      refine ⟨_, rfl, LR, rfl, ⟨_, .of l17.eR⟩, fun LB nLB => ?_⟩
      refine lc_list (K := K) (a := LR) (xs := xr) (fun j H' => Same H17 H' ∧ H' LB = some (.lst (((rs'.map (·.1)).take j).map V.str))) ?_ ?_ ?_ ?_
      · exact ⟨same_new nLB, upd_same⟩
      · rintro j H' _ ⟨s', _⟩
        exact .of (s' _ _ l17.eR)
      · rintro j x H' hx ⟨s', e'⟩
        obtain ⟨d, hd, dx⟩ := dpAll_getV (dpAll_same l17.dR s' (rws_noL _)) hx
        rw [List.getElem?_map] at hd
        obtain ⟨r, hr, rfl⟩ := Option.map_eq_some_iff.mp hd
        obtain ⟨p, ys, rfl, sp, da⟩ := dp_tup dx
        obtain ⟨y1, yr, rfl, d1, _⟩ := dpAll_cons da
        rw [dp_str d1] at sp
        have rlen : (rs'.map (·.1)).length ≤ 16 := by rw [rn, List.length_take]; omega
        refine ⟨rfl, _, rfl, p, _, 0, _, rfl, rfl, sp, atI_nat (j := 0) rfl, _, e', by rw [List.length_map, List.length_take, sizeLine_eq]; omega, ?_, ?_⟩
        · intro b o hb
          rw [upd_ne (ne_of_none hb nLB)]
          exact s' b o hb
        · rw [upd_same, List.take_add_one, List.getElem?_map, hr, List.map_append]
          rfl
      rintro H18 ⟨s18, e18⟩
      have xrl : xr.length = rs'.length := by rw [dpAll_len l17.dR, List.length_map]
      rw [xrl, ← List.length_map (f := fun r : Str × Nat => r.1), List.take_length] at e18
      have l18 := l17.same s18
      refine ⟨_, rfl, (by show 3 ≤ sizeLine; rw [sizeLine_eq]; decide), fun PI nPI => ?_⟩
      have sI := same_new (o := .tup [.ref LV, .ref LB, .ref LD]) nPI
      have l19 := l18.same sI
      have eV19 := sI _ _ (s18 _ _ eV)
      have eB19 := sI _ _ e18
      have tI : SqT K (upd H18 PI (.tup [.ref LV, .ref LB, .ref LD])) PI [.ref LV, .ref LB, .ref LD] := .of upd_same
      have dTp19 := sqT_kp (Kp.of_same (S := cellS vh) (s18.trans sI)) dTp17
      generalize upd H18 PI (.tup [.ref LV, .ref LB, .ref LD]) = H19 at l19 eV19 eB19 tI dTp19
      -- cells
      refine ⟨_, rfl, _, rfl, _, _, rfl, rfl, _, rfl, _, rfl, _, _, rfl, rfl, _, rfl, a, _, rfl, l19.w.s.seq hS, fun LS nLS => ?_⟩
      have sS := same_new (o := .lst (cutV (ns.map V.int) (some (fi + 1)) (some (fi + 25)))) nLS
      obtain ⟨ms, hms, lms⟩ : ∃ ms : List Int, cutV (ns.map V.int) (some (fi + 1)) (some (fi + 25)) = ms.map V.int ∧ ms.length ≤ 24 := by
        obtain ⟨fn, rfl⟩ := Int.eq_ofNat_of_zero_le f0
        refine ⟨((ns.drop (min (fn + 1) ns.length)).take (min (fn + 25) ns.length - min (fn + 1) ns.length)), ?_, ?_⟩
        · unfold cutV
          rw [show ((fn : Int) + 1) = ((fn + 1 : Nat) : Int) by omega, show ((fn : Int) + 25) = ((fn + 25 : Nat) : Int) by omega, HT.sIx_nat, HT.sIx_nat, List.length_map, List.map_take, List.map_drop]
        · rw [List.length_take]
          omega
      rw [hms] at sS ⊢
      refine ⟨LS, rfl, ⟨_, .of upd_same⟩, fun pc npc => ?_⟩
      refine lc_list (K := K) (a := LS) (xs := ms.map V.int) (fun j H' => Same (upd H19 LS (.lst (ms.map V.int))) H' ∧ ∃ cs, CellsOk H' pc cs ∧ cs.length = j ∧ ∀ x ∈ cs, ∀ b, cellS x b → H19 b = none) ?_ ?_ ?_ ?_
      · exact ⟨same_new npc, [], ⟨upd_same, (fun x hx => nomatch hx), fun x hx => nomatch hx⟩, rfl, fun x hx => nomatch hx⟩
      · rintro j H' _ ⟨s', _⟩
        exact .of (s' _ _ upd_same)
      · rintro j x H20 hx ⟨s20, cs, C20, lc, f20⟩
        rw [List.getElem?_map] at hx
        obtain ⟨z, hz, rfl⟩ := Option.map_eq_some_iff.mp hx
        have jl : j < 24 := by
          have := (List.getElem?_eq_some_iff.mp hz).1
          omega
        refine ⟨rfl, _, rfl, z, rfl, fun H21 v s21 c21 f21 => ?_⟩
        have C21 := C20.same s21
        have nv : v ≠ .ref pc := fun e => by
          have := f21 pc e
          rw [C20.at_] at this
          cases this
        have cup : ∀ x ∈ cs, ¬ cellS x pc := fun x hx e => C20.off x hx e
        refine ⟨cs, C21.at_, by rw [lc, sizeLine_eq]; omega, ?_, cs ++ [v], ⟨upd_same, fun x hx => ?_, fun x hx => ?_⟩, by rw [List.length_append, lc]; rfl, fun x hx b e => ?_⟩
        · intro b o hb
          rw [upd_ne (ne_of_none hb npc)]
          exact (s20.trans s21) b o hb
        · rcases List.mem_append.mp hx with hx | hx
          · exact (C21.ok x hx).upd (cup x hx)
          · rw [List.mem_singleton.mp hx]
            exact c21.upd nv
        · rcases List.mem_append.mp hx with hx | hx
          · exact C20.off x hx
          · rw [List.mem_singleton.mp hx]
            exact nv
        · rcases List.mem_append.mp hx with hx | hx
          · exact f20 x hx b e
          · rw [List.mem_singleton.mp hx] at e
            exact (sS.trans s20).free (f21 b e)
      rintro H20 ⟨s20, cs, C20, lc, f20⟩
      rw [List.length_map] at lc
      have s920 := sS.trans s20
      have fS : ∀ b, cellsS pc cs b → H19 b = none := by
        rintro b (e | ⟨x, hx, e⟩)
        · rw [e]
          exact sS.free npc
        · exact f20 x hx b e
      have notS : ∀ b, (∃ o, H19 b = some o) → ¬ cellsS pc cs b := fun b ⟨o, e⟩ z => by
        rw [fS b z] at e
        cases e
      have l20 := l19.same s920
      have dTp20 := sqT_kp (Kp.of_same (S := cellS vh) s920) dTp19
      -- the program
      refine ⟨_, rfl, LH, _, rfl, .inl ⟨.of l20.eH, fun TH nTH => ?_⟩⟩
      have sH := same_new (o := .tup xh) nTH
      refine ⟨_, rfl, _, rfl, LR, _, rfl, .inl ⟨.of (sH _ _ l20.eR), fun TR nTR => ?_⟩⟩
      have sR := same_new (o := .tup xr) nTR
      have sHR := sH.trans sR
      have tH : SqT K (upd (upd H20 TH (.tup xh)) TR (.tup xr)) TH xh := .of (sR _ _ upd_same)
      have tR : SqT K (upd (upd H20 TH (.tup xh)) TR (.tup xr)) TR xr := .of upd_same
      have l21 := l20.same sHR
      have C21 := C20.same sHR
      have dTp21 := sqT_kp (Kp.of_same (S := cellS vh) sHR) dTp20
      have s1921 := s920.trans sHR
      generalize upd (upd H20 TH (.tup xh)) TR (.tup xr) = H21 at tH tR l21 C21 dTp21 s1921
      have info : Info K H21 (.ref PI) (nm.take mn) (rs'.map (·.1)) (hs.map hdOf) LV LB LD := ⟨⟨PI, rfl, sqT_kp (Kp.of_same (S := cellS vh) s1921) tI⟩, s1921 _ _ eV19, s1921 _ _ eB19, xd, l21.eD, l21.dD⟩
      have kq : ∀ q ∈ hs.map hdOf, q.2 ≤ 4 := fun q hq => by
        obtain ⟨h, hh, rfl⟩ := List.mem_map.mp hq
        obtain ⟨j, hj⟩ := List.getElem?_of_mem hh
        exact (ok13.wf j h hj).pl
      have offI : Off (cellsS pc cs) LV LB LD := ⟨notS _ ⟨_, eV19⟩, notS _ ⟨_, eB19⟩, notS _ ⟨_, l19.eD⟩⟩
      have rl16 : (rs'.map (·.1)).length ≤ 3 := by rw [rn, List.length_take]; omega
      refine ⟨_, rfl, _, rfl, pc, cs, 0, .ref PI, nm.take mn, rs'.map (·.1), hs.map hdOf, LV, LB, LD, rfl, C21, by decide, by decide, by decide, by rw [lc]; omega, info, by rw [List.length_take]; omega, by omega, by rw [List.length_map]; omega, kq, fun z hz => nm_strOk (hN.nm z (List.mem_of_mem_take hz)), offI, fun H22 rb nn bd k22 C22 hnn dB wB szB => ?_⟩
      have nH19 : ∀ b, cellsS pc cs b → H b = none := fun b z => l19.w.s.free (fS b z)
      have sm22 : Same H H22 := Kp.same l21.w.s k22 nH19
      have tH22 := sqT_kp k22 tH
      have tR22 := sqT_kp k22 tR
      have dTp22 := sqT_kp k22 dTp21
      have dH22 := dpAll_kp k22 _ _ (hps_noL _) l21.dH
      have dR22 := dpAll_kp k22 _ _ (rws_noL _) l21.dR
      refine ⟨(by show 4 ≤ sizeLine; rw [sizeLine_eq]; decide), fun TP nTP => ?_⟩
      refine q _ _ ⟨hs, pr, rs', bd⟩ (sm22.trans (same_new nTP)) (dp_new nTP (.cons (.tup tH22 dH22) (.cons (.tup dTp22 (strs_dpAll pr)) (.cons (.tup tR22 dR22) (.cons dB .nil)))) (by simp only [nLs, nLd, strs_noL, Sm.noLs, hps_noL, rws_noL]; rfl)) ?_
      have rin : ∀ r ∈ rs', r.1 ∈ nm.drop 12 := fun r hr => List.mem_of_mem_take (by rw [← rn]; exact List.mem_map.mpr ⟨r, hr, rfl⟩)
      have apart : ∀ x, x ∈ nm.take mn → x ∉ nm.drop 12 := by
        intro x hx hy
        have nd := hN.nd
        rw [← List.take_append_drop 12 nm] at nd
        have hx2 : x ∈ nm.take 12 := List.mem_of_mem_take (i := mn) (by rw [List.take_take, Nat.min_eq_left (by omega : mn ≤ 12)]; exact hx)
        exact (List.nodup_append.mp nd).2.2 x hx2 x hy rfl
      refine ⟨hl4, ?_, fun i h e => ok13.wf i h e, prl, prn, fun x hx => hN.nm x (List.mem_of_mem_take (prm x hx)), by rw [← List.length_map (f := fun r : Str × Nat => r.1)]; exact rl16, ?_, fun r hr => ⟨hN.nm _ (List.mem_of_mem_drop (rin r hr)), (rb' r hr).1, (rb' r hr).2, fun z => apart _ (prm _ z) (rin r hr)⟩, ⟨nm.take mn, fun x hx => hN.nm x (List.mem_of_mem_take hx), by rw [List.length_take]; omega, prm, fun r hr z => apart _ z (rin r hr), wB⟩, by show Sm.sizes bd ≤ 24; omega⟩
      · exact hs_nodup hN ok13 hl4
      · show (rs'.map (·.1)).Nodup
        rw [rn]
        exact ((List.take_sublist _ _).trans (List.drop_sublist _ _)).nodup hN.nd
end

/-! texts of programs, in plain words -/
def numS (n : Int) : Str := Str.ofString (toString n)
def Ex.words : Ex → List Str
  | .num n => [numS n]
  | .nam x => [x]
  | .at_ r e => "at" :: r :: e.words
  | .no e => "not" :: e.words
  | .op w a b => w :: (a.words ++ b.words)
def wordsL (es : List Ex) : List Str := es.flatMap Ex.words
def Sm.words : Sm → List Str
  | .set x e => "set" :: x :: e.words
  | .put r e f => "put" :: r :: (e.words ++ f.words)
  | .tell e => "tell" :: e.words
  | .ite e _ _ => "if" :: e.words
  | .loop e _ => "while" :: e.words
  | .call x h es => "call" :: x :: h :: wordsL es
  | .fail n => ["fail", numS n]
  | .give e => "give" :: e.words
def rowS (ws : List Str) : Str := Txt.join " " ws
def kElse : Str := "else"
def kEnd : Str := "end"
def nlS : Str := "\n"
mutual
def Sm.lines : Sm → List Str
  | .ite e ys ns => rowS ("if" :: e.words) :: (Sm.linesL ys ++ ((if ns.isEmpty then [] else kElse :: Sm.linesL ns) ++ [kEnd]))
  | .loop e b => rowS ("while" :: e.words) :: (Sm.linesL b ++ [kEnd])
  | .set x e => [rowS ("set" :: x :: e.words)]
  | .put r e f => [rowS ("put" :: r :: (e.words ++ f.words))]
  | .tell e => [rowS ("tell" :: e.words)]
  | .call x h es => [rowS ("call" :: x :: h :: wordsL es)]
  | .fail n => [rowS ["fail", numS n]]
  | .give e => [rowS ("give" :: e.words)]
def Sm.linesL : List Sm → List Str
  | [] => []
  | s :: r => s.lines ++ Sm.linesL r
end
def hpL (h : Str × List Str × List Sm) : List Str := rowS ("helper" :: h.1 :: h.2.1) :: (Sm.linesL h.2.2 ++ [kEnd])
def rwL (r : Str × Nat) : Str := rowS ["row", r.1, numS r.2]
def Pg.lines (p : Pg) : List Str := p.hs.flatMap hpL ++ (rowS ("main" :: p.ps) :: (p.rs.map rwL ++ (Sm.linesL p.bd ++ [kEnd])))
def textOf (ls : List Str) : Str := Txt.join Str.empty (ls.map fun l => l ++ nlS)
/-! how long they are -/
theorem len_ofString (s : String) : (Str.ofString s).length = s.toList.length := by
  rw [len_list]
  have := TL.tl_ofString s
  rw [show (Str.ofString s).cps.toList = s.toList.map Char.toNat from this, List.length_map]
theorem numS_len {n : Int} (h : In32 n) : (numS n).length ≤ 40 := by
  obtain ⟨h1, h2⟩ := h
  unfold numS
  rw [len_ofString, String.length_toList]
  exact PySem.int_text_length_le (k := 39) (by decide) (PySem.Flt.log2_lt_of (by decide) (by omega))
theorem nat_log (n : Int) (h : In32 n) : n.natAbs.log2 < 1920 := by
  obtain ⟨h1, h2⟩ := h
  have := PySem.Flt.log2_lt_of (show 0 < 40 by decide) (show n.natAbs < 2 ^ 40 by omega)
  omega
def Shs (ws : List Str) : Prop := ∀ z ∈ ws, z.length ≤ 40
theorem Shs.app {a b : List Str} (h : Shs a) (h' : Shs b) : Shs (a ++ b) := fun z hz => (List.mem_append.mp hz).elim (h z) (h' z)
theorem Shs.cons {x : Str} {b : List Str} (h : x.length ≤ 40) (h' : Shs b) : Shs (x :: b) := fun z hz => (List.mem_cons.mp hz).elim (fun e => e ▸ h) (h' z)

section
variable {P : Program} {w : World} {K : PySem.W.Frag} {mg : Str → Option Value} {base : Heap}
/-- a thing that is no text -/
def NoStr (K : PySem.W.Frag) (H : Hp) (v : V) : Prop := ∃ n : String, TyX K H v (.type n) ∧ kitB n "str" = some false
def sp_isn (K : PySem.W.Frag) : Sp := fun vs H Q _ => ∃ v : V, vs = [v] ∧ ((∃ z : Str, v = .str z ∧ z.length ≤ 1000 ∧ ∀ H', Same H H' → Q (.bl (nmB z)) H') ∨ (NoStr K H v ∧ Q (.bl false) H))
theorem abc_mem (c : Nat) : decide (c ∈ abc.cps.toList) = decide (isLet c) := by
  have e : abc.cps.toList = (List.range 26).map (97 + ·) := by decide +kernel
  rw [e]
  by_cases h : isLet c
  · rw [decide_eq_true h]
    refine decide_eq_true (List.mem_map.mpr ⟨c - 97, List.mem_range.mpr ?_, ?_⟩)
    · unfold isLet at h
      omega
    · unfold isLet at h
      omega
  · rw [decide_eq_false h]
    refine decide_eq_false fun z => h ?_
    obtain ⟨k, hk, rfl⟩ := List.mem_map.mp z
    have := List.mem_range.mp hk
    unfold isLet
    omega
theorem nmB_of {z : Str} (h1 : 1 ≤ z.length) (h2 : z.length ≤ 8) (h3 : z ∉ keptW) : nmB z = (z.cps.toList.map fun c => decide (isLet c)).all id := by
  unfold nmB
  rw [decide_eq_true h1, decide_eq_true h2]
  have e : (keptW.any fun x => decide (x = z)) = false := List.any_eq_false.mpr fun x hx e => h3 ((of_decide_eq_true e) ▸ hx)
  rw [e, List.all_map]
  simp only [Bool.true_and, Bool.not_false, Bool.and_true]
  rfl
theorem nmB_no {z : Str} (h : ¬ (1 ≤ z.length ∧ z.length ≤ 8) ∨ z ∈ keptW) : nmB z = false := by
  cases e : nmB z with
  | false => rfl
  | true =>
    have := nmB_ok.mp e
    rcases h with h | h
    · exact absurd ⟨this.lo, this.hi⟩ h
    · exact absurd h this.out
theorem ok_is_name (T : Top K mg) : FnOk P w K mg base CX0 1 (He.ga K "is_name") T.fd_is_name ["thing"] (sp_isn K) := by
  refine T.F_is_name.ok sc_is_name (fun vs H Q E h => ?_) (fun cdv A outer s H vs Q E hr h => ?_)
  · obtain ⟨v, rfl, _⟩ := h
    rfl
  · obtain ⟨v, rfl, h⟩ := h
    refine ⟨_, PSs.nox (pss_cons (ps_if (PW.pt (pw_or (pt_not (pt_val (pe_callB call_isi (by rfl) T.m_isinstance (by decide +kernel) (pa_cons (pv 0) (pa_cons (pe_bltn (v := .ty "str") (by rfl) T.m_str (by decide +kernel) rfl) pa_nil))))) (pw_or (pt_not (pt_chain op_le op_le pe_int (pe_callB call_len_str (by rfl) T.m_len (by decide +kernel) (pa_cons (pv 0) pa_nil)) (pe_glob (v := .int 8) (by rfl) T.c_MOST_LETTERS ⟨_, rfl⟩))) (pw_or1 (pt_cmpR op_in_seq (pv 0) (pe_glob (v := .ref (He.ga K "KEPT")) (by rfl) T.c_KEPT rfl) (by rfl)))))) (pss_one (ps_ret pe_bl)) pss_nil)
        (pss_one (ps_ret (pe_callB (cr_all (by rfl)) (by rfl) T.m_all (by decide +kernel) (pa_cons (pe_lc (own := [("sign", 1)]) (by rfl) sc_is_name.nd (pi_str (pv 0)) (blkOk_by (own := [("sign", 1)]) (N := N_is_name) (sc := defScope s_is_name) (by decide +kernel)) (fun _ _ _ _ _ => (pg_name (i := 1) sc_is_name.nd rfl (Or.inl rfl))) (fun _ _ _ _ _ => pts_nil) (fun _ _ _ _ _ => (pe_cmpR op_in_sign (pv 1) (pe_glob (v := .str "abcdefghijklmnopqrstuvwxyz") (by rfl) T.c_LETTERS ⟨_, rfl⟩) (by rfl)))) pa_nil))))), ?_⟩
    rcases h with ⟨z, rfl, zl, q⟩ | ⟨⟨n, ty, kn⟩, q⟩
    · refine ⟨_, rfl, _, _, _, _, true, rfl, .ty _, .base (.str z), kit_ty (by decide +kernel), true, rfl, ?_⟩
      have zb : z.length ≤ sizeLine := by rw [sizeLine_eq]; omega
      refine ⟨_, rfl, z, rfl, zb, _, _, rfl, rfl, _, rfl, ite2 (fun e1 => ?_) (fun e1 => ?_)⟩
      · have z1 : 1 ≤ z.length := by
          have := of_decide_eq_true e1
          omega
        refine ⟨_, _, rfl, rfl, _, rfl, ?_⟩
        refine ite2 (fun e2 => ?_) (fun e2 => ?_)
        · have z2 : ¬ z.length ≤ 8 := fun h => by
            rw [decide_eq_true (show (z.length : Int) ≤ 8 by omega)] at e2
            cases e2
          rw [nmB_no (.inl fun h => z2 h.2)] at q
          exact q _ (Same.refl _)
        · have z2 : z.length ≤ 8 := by
            by_cases h : (z.length : Int) ≤ 8
            · omega
            · rw [decide_eq_false h] at e2
              exact absurd rfl e2
          refine ⟨_, rfl, _, _, rfl, .inr (T.q_KEPT _), rfl, flat_strs keptW, _, rfl, ?_⟩
          show if (if false = true then !inV (V.str z) (keptW.map V.str) else inV (V.str z) (keptW.map V.str)) = true then _ else _
          rw [if_neg Bool.false_ne_true, in_strs]
          refine ite2 (fun e3 => ?_) (fun e3 => ?_)
          · rw [nmB_no (.inr (of_decide_eq_true e3))] at q
            exact q _ (Same.refl _)
          · have z3 : z ∉ keptW := fun h => e3 (decide_eq_true h)
            refine ⟨_, rfl, z, rfl, fun D nD => ?_⟩
            refine lc_str (fun i H' => Same H H' ∧ H' D = some (.lst (((z.cps.toList.take i).map fun c => decide (isLet c)).map V.bl))) ?_ ?_ ?_
            · exact ⟨same_new nD, upd_same⟩
            · rintro i c H' hc ⟨s1, e1⟩
              refine ⟨rfl, _, rfl, c, _, rfl, rfl, _, e1, ?_, ?_, ?_⟩
              · rw [List.length_map, List.length_map, List.length_take, sizeLine_eq, ← len_list]
                omega
              · intro b o hb
                rw [upd_ne (ne_of_none hb nD)]
                exact s1 b o hb
              · rw [upd_same, List.take_add_one, hc, List.map_append, List.map_append]
                show _ = some (HO.lst (_ ++ [V.bl (decide (isLet c))]))
                rw [← abc_mem c]
                rfl
            · rintro H' ⟨s1, e1⟩
              rw [List.take_length] at e1
              refine ⟨D, _, rfl, .of e1, ?_⟩
              rw [← nmB_of z1 z2 z3]
              exact q _ s1
      · have z1 : ¬ 1 ≤ z.length := fun h => e1 (decide_eq_true (by omega))
        rw [nmB_no (.inl fun h => z1 h.1)] at q
        exact ⟨false, rfl, q _ (Same.refl _)⟩
    · refine ⟨_, rfl, _, _, _, _, false, rfl, .ty _, ty, kit_ty kn, false, rfl, ?_⟩
      exact q
end

section
variable {P : Program} {w : World} {K : PySem.W.Frag} {mg : Str → Option Value} {base : Heap}
def sp_isnum : Sp := fun vs H Q _ => ∃ n : Int, vs = [.int n] ∧ In32 n ∧ Q (.bl true) H
theorem ok_is_number (T : Top K mg) : FnOk P w K mg base CX0 1 (He.ga K "is_number") T.fd_is_number ["thing"] sp_isnum := by
  refine T.F_is_number.ok sc_is_number (fun vs H Q E h => ?_) (fun cdv A outer s H vs Q E hr h => ?_)
  · obtain ⟨n, rfl, _⟩ := h
    rfl
  · obtain ⟨n, rfl, h32, q⟩ := h
    refine ⟨_, PSs.nox (pss_one (ps_ret (pe_and (pe_callB call_isi (by rfl) T.m_isinstance (by decide +kernel) (pa_cons (pv 0) (pa_cons (pe_bltn (v := .ty "int") (by rfl) T.m_int (by decide +kernel) rfl) pa_nil))) (pe_and (pe_not (pe_callB call_isi (by rfl) T.m_isinstance (by decide +kernel) (pa_cons (pv 0) (pa_cons (pe_bltn (v := .ty "bool") (by rfl) T.m_bool (by decide +kernel) rfl) pa_nil)))) (pe_one (pe_chain op_le op_lt (pe_un un_neg (pe_glob (v := .int 2147483648) (by rfl) T.c_HALF ⟨_, rfl⟩)) (pv 0) (pe_glob (v := .int 2147483648) (by rfl) T.c_HALF ⟨_, rfl⟩))))))), ?_⟩
    have ty : TyX K H (.int n) (.type (tyS (.int n))) := dp_ty (.int n)
    refine ⟨_, rfl, _, _, _, _, true, rfl, .ty _, ty, kit_int (.int n), _, rfl, ifT rfl ?_⟩
    refine ⟨_, rfl, _, _, _, _, false, rfl, .ty _, ty, kit_bool (.int n), _, rfl, _, rfl, ifT rfl ?_⟩
    exact ⟨2147483648, rfl, _, rfl, _, _, rfl, rfl, _, rfl, ifD h32.1 ⟨_, _, rfl, rfl, blD (by have := h32.2; omega) q⟩⟩
def sp_issize : Sp := fun vs H Q _ => ∃ n : Int, vs = [.int n] ∧ 1 ≤ n ∧ n ≤ 8 ∧ Q (.bl true) H
theorem ok_is_size (T : Top K mg) : FnOk P w K mg base CX0 2 (He.ga K "is_size") T.fd_is_size ["thing"] sp_issize := by
  have G_is_number := ok_is_number (P := P) (w := w) (base := base) T
  refine T.F_is_size.ok sc_is_size (fun vs H Q E h => ?_) (fun cdv A outer s H vs Q E hr h => ?_)
  · obtain ⟨n, rfl, _⟩ := h
    rfl
  · obtain ⟨n, rfl, h1, h8, q⟩ := h
    refine ⟨_, PSs.nox (pss_one (ps_ret (pe_and (pe_call G_is_number (hr.mono (by omega)) (by rfl) T.g_is_number T.F_is_number.kp T.b_is_number .nil pass0 (pa_cons (pv 0) pa_nil)) (pe_one (pe_chain op_le op_le pe_int (pv 0) (pe_glob (v := .int 8) (by rfl) T.c_MOST_SIZE ⟨_, rfl⟩)))))), ?_⟩
    refine ⟨_, rfl, n, rfl, ⟨by omega, by omega⟩, _, rfl, ifT rfl ?_⟩
    exact ⟨_, rfl, _, _, rfl, rfl, _, rfl, ifD h1 ⟨_, _, rfl, rfl, blD h8 q⟩⟩
def sp_endsth (K : PySem.W.Frag) : Sp := fun vs H Q _ => ∃ (v : V) (s : Sm), vs = [v] ∧ Dp K H v s.d ∧ ∀ H', Same H H' → Q (.bl s.ends) H'
theorem ok_ends_there (T : Top K mg) : FnOk P w K mg base CX0 1 (He.ga K "ends_there") T.fd_ends_there ["statement"] (sp_endsth K) := by
  refine T.F_ends_there.ok sc_ends_there (fun vs H Q E h => ?_) (fun cdv A outer s H vs Q E hr h => ?_)
  · obtain ⟨v, s, rfl, _⟩ := h
    rfl
  · obtain ⟨v, s, rfl, dv, q⟩ := h
    refine ⟨_, PSs.nox (pss_one (ps_ret (pe_cmpR op_in_seq (pe_ix ix_tup (pv 0) pe_int (fun _ _ => rfl)) (pe_tup (pa_cons pe_str (pa_cons pe_str pa_nil))) (by rfl)))), ?_⟩
    obtain ⟨p, wd, xs, rfl, hs, hend⟩ := sm_head dv
    refine ⟨_, rfl, p, _, 0, _, rfl, rfl, hs, atI_nat (j := 0) rfl, (by show 2 ≤ sizeLine; rw [sizeLine_eq]; decide), fun pl npl => ?_⟩
    refine ⟨pl, _, rfl, .inr (.of upd_same), rfl, by decide +kernel, ?_⟩
    rw [if_neg Bool.false_ne_true, hend]
    exact q _ (same_new npl)
/-- the texts of numbers -/
theorem numS_split {n : Int} (h : In32 n) : ∃ cs : List Nat, (∀ c ∈ cs, 48 ≤ c ∧ c ≤ 57) ∧ cs ≠ [] ∧ (((numS n).cps.toList = cs ∧ 0 ≤ n) ∨ ((numS n).cps.toList = 45 :: cs ∧ n < 0)) ∧ (numS n).length ≤ 11 ∧ PySem.intText? (numS n) = some n := by
  have dig : ∀ m : Nat, ∀ c ∈ (Nat.toDigits 10 m).map Char.toNat, 48 ≤ c ∧ c ≤ 57 := fun m c hc => by
    obtain ⟨ch, hch, e⟩ := List.mem_map.mp hc
    have r := Nat.isDigit_of_mem_toDigits (by decide) (by decide) hch
    rw [← e]
    unfold Char.isDigit at r
    rw [Bool.and_eq_true] at r
    have a := UInt32.le_iff_toNat_le.mp (of_decide_eq_true r.1)
    have b := UInt32.le_iff_toNat_le.mp (of_decide_eq_true r.2)
    exact ⟨a, b⟩
  have ne : ∀ m : Nat, (Nat.toDigits 10 m).map Char.toNat ≠ [] := fun m e => by
    have h := PySem.toDigits_len_ge 10 m
    rw [List.map_eq_nil_iff.mp e] at h
    exact absurd h (by decide)
  obtain ⟨h1, h2⟩ := h
  by_cases h0 : 0 ≤ n
  · obtain ⟨m, rfl⟩ := Int.eq_ofNat_of_zero_le h0
    have e := PySem.W.KIN.signs_num m
    exact ⟨_, dig m, ne m, .inl ⟨e, h0⟩, Nat.le_trans (PySem.W.KT.len_num h0 (by omega)) (by decide), PySem.W.KIN.num_reads h0 (by omega)⟩
  · obtain ⟨m, rfl⟩ : ∃ m : Nat, n = Int.negSucc m := by
      cases n with
      | ofNat k => exact absurd (Int.natCast_nonneg k) h0
      | negSucc m => exact ⟨m, rfl⟩
    have e : (numS (Int.negSucc m)).cps.toList = 45 :: (Nat.toDigits 10 (m + 1)).map Char.toNat := by
      unfold numS
      rw [show ∀ z : String, (Str.ofString z).cps.toList = z.toList.map Char.toNat from TL.tl_ofString]
      show ("-" ++ Nat.repr (m + 1)).toList.map Char.toNat = _
      rw [String.toList_append, List.map_append, Nat.toList_repr]
      rfl
    have l := PySem.W.KT.len_num (n := ((m + 1 : Nat) : Int)) (by omega) (by omega)
    have l2 : (numS (Int.negSucc m)).length ≤ 11 := by
      rw [len_list, e, List.length_cons]
      rw [len_list, PySem.W.KIN.signs_num] at l
      omega
    refine ⟨_, dig (m + 1), ne (m + 1), .inr ⟨e, Int.negSucc_lt_zero m⟩, l2, ?_⟩
    have r := intText_neg e (fun c hc => dig _ c hc) (ne _) (Nat.le_trans l2 (by decide))
    rw [r, PySem.W.KIN.val_back]
    rfl
end

section
variable {P : Program} {w : World} {K : PySem.W.Frag} {mg : Str → Option Value} {base : Heap}
def figs : Str := "0123456789"
theorem fig_mem (c : Nat) : decide (c ∈ figs.cps.toList) = decide (48 ≤ c ∧ c ≤ 57) := by
  have e : figs.cps.toList = (List.range 10).map (48 + ·) := by decide +kernel
  rw [e]
  by_cases h : 48 ≤ c ∧ c ≤ 57
  · rw [decide_eq_true h]
    exact decide_eq_true (List.mem_map.mpr ⟨c - 48, List.mem_range.mpr (by omega), by omega⟩)
  · rw [decide_eq_false h]
    refine decide_eq_false fun z => h ?_
    obtain ⟨k, hk, rfl⟩ := List.mem_map.mp z
    have := List.mem_range.mp hk
    omega
theorem sw_dash (z : Str) : Txt.startswith z "-" = (z.cps.toList.head? == some 45) := by
  unfold Txt.startswith
  rw [StrLaws.subAt_eq, List.drop_zero, show ("-" : Str).length = 1 from by decide +kernel, show ("-" : Str).cps.toList = [45] from by decide +kernel]
  have l := len_list z
  cases h : z.cps.toList with
  | nil => rw [h] at l; rw [l]; rfl
  | cons c r =>
    rw [h] at l
    rw [l, List.length_cons, show decide (0 + 1 ≤ r.length + 1) = true from decide_eq_true (by omega)]
    simp
theorem cut1 (z : Str) : (cutS z (some 1) none).cps.toList = z.cps.toList.drop 1 := by
  unfold cutS
  have l := len_list z
  show ((z.cps.toList.drop (HT.sIx z.length 0 (some ((1 : Nat) : Int)))).take (HT.sIx z.length z.length none - HT.sIx z.length 0 (some ((1 : Nat) : Int)))) = _
  rw [HT.sIx_nat, HT.sIx_none, l]
  rcases Nat.le_total 1 z.cps.toList.length with h | h
  · rw [Nat.min_eq_left h, List.take_of_length_le (by rw [List.length_drop]; omega)]
  · rw [Nat.min_eq_right h, List.drop_length, List.drop_of_length_le h, List.take_nil]
theorem str_ext {a b : Str} (h : a.cps.toList = b.cps.toList) : a = b := by
  cases a with
  | mk x =>
    cases b with
    | mk y =>
      have : x = y := Array.toList_inj.mp h
      rw [this]
def sp_numof (K : PySem.W.Frag) : Sp := fun vs H Q _ => ∃ z : Str, vs = [.str z] ∧ ((∃ n, z = numS n ∧ In32 n ∧ ∀ H', Same H H' → Q (.int n) H') ∨ (IsNm z ∧ ∀ H', Same H H' → Q .non H'))
theorem ok_number_by (T : Top K mg) : FnOk P w K mg base CX0 2 (He.ga K "number_by") T.fd_number_by ["word"] (sp_numof K) := by
  have G_is_number := ok_is_number (P := P) (w := w) (base := base) T
  refine T.F_number_by.ok sc_number_by (fun vs H Q E h => ?_) (fun cdv A outer s H vs Q E hr h => ?_)
  · obtain ⟨z, rfl, _⟩ := h
    rfl
  · obtain ⟨z, rfl, h⟩ := h
    refine ⟨_, PSs.nox (pss_cons (ps_set (i := 1) sc_number_by.nd rfl (Or.inl rfl) (pe_ifExp (pt_val (pe_bm PySem.F.plainAttrs_str PySem.F.slot_str_startswith PySem.F.type_str_startswith mt_startswith (pv 0) (pa_cons pe_str pa_nil))) (pe_slice sl_str (pv 0) (po_some pe_int) po_none) (pv 0)))
        (pss_cons (ps_if (PW.pt (pw_or (pt_cmpR op_eq (pv 1) pe_str (nomark _)) (pw_or (pt_cmpR op_gt (pe_callB call_len_str (by rfl) T.m_len (by decide +kernel) (pa_cons (pv 0) pa_nil)) (pe_glob (v := .int 11) (by rfl) T.c_MOST_SIGNS ⟨_, rfl⟩) (nomark _)) (pw_or (pt_not (pt_val (pe_callB (cr_all (by rfl)) (by rfl) T.m_all (by decide +kernel) (pa_cons (pe_lc (own := [("sign", 2)]) (by rfl) sc_number_by.nd (pi_str (pv 1)) (blkOk_by (own := [("sign", 2)]) (N := N_number_by) (sc := defScope s_number_by) (by decide +kernel)) (fun _ _ _ _ _ => (pg_name (i := 2) sc_number_by.nd rfl (Or.inl rfl))) (fun _ _ _ _ _ => pts_nil) (fun _ _ _ _ _ => (pe_cmpR op_in_sign (pv 2) (pe_glob (v := .str "0123456789") (by rfl) T.c_FIGURES ⟨_, rfl⟩) (by rfl)))) pa_nil)))) (pw_or1 (pt_cmpR op_ne (pe_callTy call_str_any (by rfl) T.m_str (by decide +kernel) (pa_cons (pe_callTy call_int_str (by rfl) T.m_int (by decide +kernel) (pa_cons (pv 0) pa_nil)) pa_nil)) (pv 0) (nomark _))))))) (pss_one (ps_ret pe_non)) pss_nil)
        (pss_one (ps_ret (pe_ifExp (pt_val (pe_call G_is_number (hr.mono (by omega)) (by rfl) T.g_is_number T.F_is_number.kp T.b_is_number .nil pass0 (pa_cons (pe_callTy call_int_str (by rfl) T.m_int (by decide +kernel) (pa_cons (pv 0) pa_nil)) pa_nil))) (pe_callTy call_int_str (by rfl) T.m_int (by decide +kernel) (pa_cons (pv 0) pa_nil)) pe_non))))), ?_⟩
    have zl : z.length ≤ 11 := by
      rcases h with ⟨n, rfl, h32, q⟩ | ⟨hz, q⟩
      · obtain ⟨cs, _, _, _, l, _⟩ := numS_split h32
        exact l
      · exact Nat.le_trans hz.hi (by decide)
    have zs : z.length ≤ sizeLine := by rw [sizeLine_eq]; omega
    refine seq_by (fun σ' H' => H' = H ∧ ∃ b : Str, b.cps.toList = (if (z.cps.toList.head? == some 45) = true then z.cps.toList.drop 1 else z.cps.toList) ∧ σ' = [some (.str z), some (.str b), none]) ?_ ?_
    · rintro σ' H1 ⟨rfl, b, hb, rfl⟩
      have bl : b.length ≤ 11 := by
        rw [len_list, hb]
        rw [len_list] at zl
        split
        · rw [List.length_drop]; omega
        · exact zl
      obtain ⟨all, ha, bne, hf, ht⟩ : ∃ all : Bool, (b.cps.toList.map fun c => decide (48 ≤ c ∧ c ≤ 57)).all id = all ∧ b.cps.toList ≠ [] ∧ (all = false → ∀ H', Same H1 H' → Q .non H') ∧ (all = true → ∃ n, z = numS n ∧ In32 n ∧ ∀ H', Same H1 H' → Q (.int n) H') := by
        rcases h with ⟨n, rfl, h32, q⟩ | ⟨hz, q⟩
        · obtain ⟨cs, dg, ne, hcs, l, it⟩ := numS_split h32
          have hb2 : b.cps.toList = cs := by
            rw [hb]
            rcases hcs with ⟨e, _⟩ | ⟨e, _⟩
            · rw [e, if_neg]
              cases cs with
              | nil => exact absurd rfl ne
              | cons c r =>
                have := dg c (List.mem_cons_self ..)
                intro e2
                have e3 : some c = some 45 := by simpa using e2
                cases e3
                omega
            · rw [e]
              rfl
          refine ⟨true, ?_, by rw [hb2]; exact ne, (fun e => nomatch e), fun _ => ⟨n, rfl, h32, q⟩⟩
          rw [hb2, List.all_map, List.all_eq_true]
          intro c hc
          exact decide_eq_true (dg c hc)
        · have hl := hz.lo
          rw [len_list] at hl
          cases hc : z.cps.toList with
          | nil => rw [hc] at hl; exact absurd hl (by decide)
          | cons c r =>
            have lc := hz.let_ c (by rw [hc]; exact List.mem_cons_self ..)
            have hb2 : b.cps.toList = c :: r := by
              rw [hb, hc, if_neg]
              intro e2
              have e3 : some c = some 45 := by simpa using e2
              cases e3
              unfold isLet at lc
              omega
            refine ⟨false, ?_, by rw [hb2]; exact (fun z => nomatch z), (fun _ => q), (fun e => nomatch e)⟩
            rw [hb2, List.map_cons, List.all_cons, decide_eq_false (fun z => by unfold isLet at lc; omega)]
            rfl
      refine ⟨_, rfl, rfl, _, rfl, ifN (fun e => bne ?_) ?_⟩
      · have := V.str.inj e
        rw [this]
        decide +kernel
      refine ⟨_, rfl, z, rfl, zs, _, _, rfl, rfl, _, rfl, ifN (by omega) ?_⟩
      refine ⟨_, rfl, b, rfl, fun D nD => ?_⟩
      refine lc_str (fun i H' => Same H1 H' ∧ H' D = some (.lst (((b.cps.toList.take i).map fun c => decide (48 ≤ c ∧ c ≤ 57)).map V.bl))) ?_ ?_ ?_
      · exact ⟨same_new nD, upd_same⟩
      · rintro i c H' hc ⟨s1, e1⟩
        refine ⟨rfl, _, rfl, c, _, rfl, rfl, _, e1, ?_, same_upd s1 nD, ?_⟩
        · rw [List.length_map, List.length_map, List.length_take, sizeLine_eq, ← len_list]
          omega
        · rw [upd_same, List.take_add_one, hc, List.map_append, List.map_append]
          show _ = some (HO.lst (_ ++ [V.bl (decide (48 ≤ c ∧ c ≤ 57))]))
          rw [← fig_mem c]
          rfl
      · rintro H' ⟨s1, e1⟩
        rw [List.take_length] at e1
        refine ⟨D, _, rfl, .of e1, _, rfl, ?_⟩
        rw [ha]
        cases all with
        | false => exact ifT rfl (ifT rfl (hf rfl _ s1))
        | true =>
          obtain ⟨n, rfl, h32, q⟩ := ht rfl
          obtain ⟨cs, _, _, _, l, it⟩ := numS_split h32
          refine ifF rfl ?_
          refine ⟨_, rfl, _, n, rfl, it, by omega, .inl ⟨n, rfl, nat_log n h32, ?_⟩⟩
          refine ⟨_, rfl, rfl, _, rfl, ifNF rfl ?_⟩
          refine ⟨_, rfl, _, n, rfl, it, by omega, n, rfl, h32, _, rfl, ifT rfl ?_⟩
          exact ⟨_, rfl, _, n, rfl, it, by omega, q _ s1⟩
    · intro N hN
      refine ⟨_, rfl, rfl, z, _, rfl, rfl, _, rfl, ?_⟩
      rw [sw_dash]
      cases hd : (z.cps.toList.head? == some 45) with
      | true => exact ifT rfl ⟨_, rfl, 1, rfl, z, rfl, zs, hN _ _ ⟨rfl, _, by rw [hd, if_pos rfl]; exact cut1 z, rfl⟩⟩
      | false => exact ifF rfl ⟨_, rfl, hN _ _ ⟨rfl, z, by rw [hd, if_neg Bool.false_ne_true], rfl⟩⟩
end

section
variable {P : Program} {w : World} {K : PySem.W.Frag} {mg : Str → Option Value} {base : Heap}
theorem kept_head : ∀ z ∈ keptW, ∃ c, z.cps.toList.head? = some c ∧ 97 ≤ c := by
  have h : keptW.all (fun z => match z.cps.toList.head? with | some c => decide (97 ≤ c) | none => false) = true := by decide +kernel
  intro z hz
  have := List.all_eq_true.mp h z hz
  cases e : z.cps.toList.head? with
  | none => rw [e] at this; cases this
  | some c => rw [e] at this; exact ⟨c, rfl, of_decide_eq_true this⟩
theorem numS_kept {n : Int} (h : In32 n) : numS n ∉ keptW := fun hz => by
  obtain ⟨c, e, l⟩ := kept_head _ hz
  obtain ⟨cs, dg, ne, hcs, _, _⟩ := numS_split h
  rcases hcs with ⟨e2, _⟩ | ⟨e2, _⟩
  · rw [e2] at e
    cases cs with
    | nil => exact ne rfl
    | cons d r =>
      have := dg d (List.mem_cons_self ..)
      cases e
      omega
  · rw [e2] at e
    cases e
    omega
theorem wds7_kept : ∀ x ∈ wds7, x ∈ keptW := by decide +kernel
theorem wordsL_split (es : List Ex) {i : Nat} {e : Ex} (h : es[i]? = some e) : wordsL es = wordsL (es.take i) ++ (e.words ++ wordsL (es.drop (i + 1))) := by
  have : es = es.take i ++ (e :: es.drop (i + 1)) := by
    obtain ⟨hi, rfl⟩ := List.getElem?_eq_some_iff.mp h
    rw [← List.drop_eq_getElem_cons hi, List.take_append_drop]
  unfold wordsL
  conv => lhs; rw [this]
  rw [List.flatMap_append, List.flatMap_cons]
theorem word_at {ws pre post : List Str} {z : Str} (h : ws = pre ++ z :: post) : atI (ws.map V.str) (pre.length : Int) = some (.str z) := atI_nat (by rw [List.getElem?_map, h, List.getElem?_append_right (Nat.le_refl _), Nat.sub_self]; rfl)
def sp_exat (K : PySem.W.Frag) (k : Nat) : Sp := fun vs H Q _ => ∃ (W : Addr) (ws pre post : List Str) (e : Ex) (deep : Int) (nms rws : List Str), vs = [.ref W, .int (pre.length : Int), .int deep] ∧ H W = some (.lst (ws.map V.str)) ∧ ws = pre ++ (e.words ++ post) ∧ ws.length ≤ 10000 ∧ e.Wf nms rws k ∧ deep + k ≤ 5 ∧ (∀ x ∈ nms, IsNm x) ∧
  ∀ H' v, Same H H' → Dp K H' v (.tuple [e.d, .int ((pre.length + e.words.length : Nat) : Int)]) → Q v H'
def sp_exsat (K : PySem.W.Frag) (k : Nat) : Sp := fun vs H Q _ => ∃ (W : Addr) (ws pre post : List Str) (es : List Ex) (deep : Int) (nms rws : List Str), vs = [.ref W, .int (pre.length : Int), .int (es.length : Int), .int deep] ∧ H W = some (.lst (ws.map V.str)) ∧ ws = pre ++ (wordsL es ++ post) ∧ ws.length ≤ 10000 ∧ es.length ≤ 100 ∧ (∀ e ∈ es, e.Wf nms rws k) ∧ deep + k ≤ 5 ∧ (∀ x ∈ nms, IsNm x) ∧
  ∀ H' v, Same H H' → Dp K H' v (.tuple [.tuple (es.map Ex.d), .int ((pre.length + (wordsL es).length : Nat) : Int)]) → Q v H'
theorem Ex.words_pos : ∀ e : Ex, ∃ z r, e.words = z :: r
  | .num n => ⟨_, _, rfl⟩
  | .nam x => ⟨_, _, rfl⟩
  | .at_ r e => ⟨_, _, rfl⟩
  | .no e => ⟨_, _, rfl⟩
  | .op w a b => ⟨_, _, rfl⟩
theorem ok_exsat_of (T : Top K mg) (k : Nat) (G_expression_at : FnOk P w K mg base CX0 (2 * k + 3) (He.ga K "expression_at") T.fd_expression_at ["words", "place", "deep"] (sp_exat K k)) :
    FnOk P w K mg base CX0 (2 * k + 4) (He.ga K "expressions_at") T.fd_expressions_at ["words", "place", "many", "deep"] (sp_exsat K k) := by
  refine T.F_expressions_at.ok sc_expressions_at (fun vs H Q E h => ?_) (fun cdv A outer s H vs Q E hr h => ?_)
  · obtain ⟨W, ws, pre, post, es, deep, nms, rws, rfl, _⟩ := h
    rfl
  · obtain ⟨W, ws, pre, post, es, deep, nms, rws, rfl, eW, hws, lws, les, hes, hd, hn, q⟩ := h
    refine ⟨_, PSs.nox (pss_cons (ps_set (i := 4) sc_expressions_at.nd rfl (Or.inl rfl) (pe_tup pa_nil))
        (pss_cons (ps_for PassesOwn.never (by rfl) (pi_range1 (by rfl) T.m_range (pa_cons (pv 2) pa_nil)) (pg_name (i := 5) sc_expressions_at.nd rfl (Or.inl rfl)) (pss_cons (ps_set (i := 6) sc_expressions_at.nd rfl (Or.inl rfl) (pe_call G_expression_at (hr.mono (by omega)) (by rfl) T.g_expression_at T.F_expression_at.kp T.b_expression_at.choose_spec.2 T.b_expression_at.choose_spec.1 pass0 (pa_cons (pv 0) (pa_cons (pv 1) (pa_cons (pv 3) pa_nil)))))
        (pss_cons (ps_if (pt_cmpR op_isN (pv 6) pe_non (nomark _)) (pss_one (ps_ret pe_non)) pss_nil)
        (pss_cons (ps_set (i := 4) sc_expressions_at.nd rfl (Or.inl rfl) (pe_op op_catA (pv 4) (pe_tup (pa_cons (pe_ix ix_tup (pv 6) pe_int (fun _ _ => rfl)) pa_nil))))
        (pss_one (ps_set (i := 1) sc_expressions_at.nd rfl (Or.inl rfl) (pe_ix ix_tup (pv 6) pe_int (fun _ _ => rfl))))))))
        (pss_one (ps_ret (pe_tup (pa_cons (pv 4) (pa_cons (pv 1) pa_nil))))))), ?_⟩
    refine ⟨Nat.zero_le _, fun F nF => ?_⟩
    have s1 := same_new (o := .tup []) nF
    dsimp only [gName, List.set]
    refine ⟨_, rfl, (es.length : Int), rfl, by omega, by omega, ?_⟩
    rw [Int.toNat_natCast]
    refine for_range (lo := 0) (n := es.length) (fun i σ' H' => Same H H' ∧ ∃ vf x5 x6, Dp K H' vf (.tuple ((es.take i).map Ex.d)) ∧ σ' = [some (.ref W), some (.int ((pre ++ wordsL (es.take i)).length : Int)), some (.int (es.length : Int)), some (.int deep), some vf, x5, x6]) ?_ ?_ ?_
    · refine ⟨s1, .ref F, none, none, .tup (.of upd_same) .nil, ?_⟩
      rw [List.take_zero]
      unfold wordsL
      rw [List.flatMap_nil, List.append_nil]
      rfl
    · rintro i σ' H1 hi ⟨k1, vf, x5, x6, df, rfl⟩
      obtain ⟨e, he⟩ : ∃ e, es[i]? = some e := ⟨_, List.getElem?_eq_getElem hi⟩
      have hsp := wordsL_split es he
      dsimp only [gName, List.set]
      refine ⟨_, rfl, _, rfl, _, rfl, W, ws, pre ++ wordsL (es.take i), wordsL (es.drop (i + 1)) ++ post, e, deep, nms, rws, rfl, k1 _ _ eW, by rw [hws, hsp]; simp, lws, hes e (List.mem_of_getElem? he), hd, hn, fun H2 v s2 dv => ?_⟩
      obtain ⟨p, xs, rfl, hp, dxs⟩ := dp_tup dv
      obtain ⟨y0, r0, rfl, g0, dxs⟩ := dpAll_cons dxs
      obtain ⟨y1, r1, rfl, g1, dxs⟩ := dpAll_cons dxs
      cases dpAll_nil dxs
      cases dp_int g1
      refine ⟨_, rfl, rfl, _, rfl, ifN (fun e => by cases e) ?_⟩
      refine ⟨_, rfl, _, rfl, p, _, 0, _, rfl, rfl, hp, atI_nat (j := 0) rfl, (by show 1 ≤ sizeLine; rw [sizeLine_eq]; decide), fun t nt => ?_⟩
      have st := same_new (o := .tup [y0]) nt
      have ltk : ((es.take i).map Ex.d).length ≤ 100 := by rw [List.length_map, List.length_take]; omega
      refine cat_use (dp_sm st (dp_sm s2 df)) (.tup (.of upd_same) (.cons (dp_sm st g0) .nil) : Dp K _ (.ref t) (.tuple [e.d])) (exs_noL _) (by simp [nLs, e.noL]) (by rw [sizeLine_eq]; show _ + 1 ≤ _; omega) (fun H3 r s3 dr => ?_)
      have hp3 := sqT_sm (st.trans s3) hp
      have eln : (pre ++ wordsL (es.take i)).length + e.words.length = (pre ++ wordsL (es.take (i + 1))).length := by
        rw [List.take_add_one, he]
        unfold wordsL
        simp [Nat.add_assoc]
      rw [← eln]
      refine ⟨_, rfl, p, _, 1, _, rfl, rfl, hp3, atI_nat (j := 1) rfl, k1.trans (s2.trans (st.trans s3)), r, some (.int (0 + (i : Int))), some (.ref p), ?_, rfl⟩
      have e9 : (es.take (i + 1)).map Ex.d = (es.take i).map Ex.d ++ [e.d] := by
        rw [List.take_add_one, he]
        simp
      rw [e9]
      exact dr
    · rintro σ' H1 ⟨k1, vf, x5, x6, df, rfl⟩
      rw [List.take_length] at df ⊢
      refine ⟨_, rfl, _, rfl, (by show 2 ≤ sizeLine; rw [sizeLine_eq]; decide), fun t nt => ?_⟩
      have st := same_new (o := .tup [vf, .int ((pre ++ wordsL es).length : Int)]) nt
      refine q _ _ (k1.trans st) (.tup (.of upd_same) (.cons (dp_sm st df) (.cons ?_ .nil)))
      rw [List.length_append]
      exact .int _
theorem ok_exat (T : Top K mg) : ∀ k : Nat, FnOk P w K mg base CX0 (2 * k + 3) (He.ga K "expression_at") T.fd_expression_at ["words", "place", "deep"] (sp_exat K k)
  | 0 => by
    refine T.F_expression_at.ok sc_expression_at (fun vs H Q E h => ?_) (fun cdv A outer s H vs Q E hr h => ?_)
    · obtain ⟨W, ws, pre, post, e, deep, nms, rws, rfl, _⟩ := h
      rfl
    · obtain ⟨W, ws, pre, post, e, deep, nms, rws, rfl, _, _, _, h, _⟩ := h
      exact h.elim
  | k + 1 => by
    have G_expressions_at := ok_exsat_of T k (ok_exat T k)
    have G_number_by := ok_number_by (P := P) (w := w) (base := base) T
    refine T.F_expression_at.ok sc_expression_at (fun vs H Q E h => ?_) (fun cdv A outer s H vs Q E hr h => ?_)
    · obtain ⟨W, ws, pre, post, e, deep, nms, rws, rfl, _⟩ := h
      rfl
    · obtain ⟨W, ws, pre, post, e, deep, nms, rws, rfl, eW, hws, lws, wf, hd, hn, q⟩ := h
      refine ⟨_, PSs.nox (pss_cons (ps_if (PW.pt (pw_or (pt_cmpR op_ge (pv 1) (pe_callB call_len_seq (by rfl) T.m_len (by decide +kernel) (pa_cons (pv 0) pa_nil)) (nomark _)) (pw_or1 (pt_cmpR op_gt (pv 2) (pe_glob (v := .int 4) (by rfl) T.c_MOST_DEEP ⟨_, rfl⟩) (nomark _))))) (pss_one (ps_ret pe_non)) pss_nil)
        (pss_cons (ps_set (i := 3) sc_expression_at.nd rfl (Or.inl rfl) (pe_ix ix_list (pv 0) (pv 1) (fun _ _ => rfl)))
        (pss_cons (ps_if (PW.pt (pw_or (pt_cmpR op_in_seq (pv 3) (pe_glob (v := .ref (He.ga K "WORDS")) (by rfl) T.c_WORDS rfl) (by rfl)) (pw_or1 (pt_cmpR op_eq (pv 3) pe_str (nomark _))))) (pss_cons (ps_set (i := 4) sc_expression_at.nd rfl (Or.inl rfl) (pe_call G_expressions_at (hr.mono (by omega)) (by rfl) T.g_expressions_at T.F_expressions_at.kp T.b_expressions_at.choose_spec.2 T.b_expressions_at.choose_spec.1 pass0 (pa_cons (pv 0) (pa_cons (pe_op op_add (pv 1) pe_int) (pa_cons (pe_ifExp (pt_cmpR op_eq (pv 3) pe_str (nomark _)) pe_int pe_int) (pa_cons (pe_op op_add (pv 2) pe_int) pa_nil))))))
        (pss_one (ps_ret (pe_ifExp (pt_cmpR op_isN (pv 4) pe_non (nomark _)) pe_non (pe_tup (pa_cons (pe_op op_catA (pe_tup (pa_cons (pv 3) pa_nil)) (pe_ix ix_tup (pv 4) pe_int (fun _ _ => rfl))) (pa_cons (pe_ix ix_tup (pv 4) pe_int (fun _ _ => rfl)) pa_nil))))))) pss_nil)
        (pss_cons (ps_if (pt_cmpR op_eq (pv 3) pe_str (nomark _)) (pss_cons (ps_set (i := 4) sc_expression_at.nd rfl (Or.inl rfl) (pe_call G_expressions_at (hr.mono (by omega)) (by rfl) T.g_expressions_at T.F_expressions_at.kp T.b_expressions_at.choose_spec.2 T.b_expressions_at.choose_spec.1 pass0 (pa_cons (pv 0) (pa_cons (pe_op op_add (pv 1) pe_int) (pa_cons pe_int (pa_cons (pe_op op_add (pv 2) pe_int) pa_nil))))))
        (pss_one (ps_ret (pe_ifExp (pt_cmpR op_isN (pv 4) pe_non (nomark _)) pe_non (pe_tup (pa_cons (pe_op op_catA (pe_tup (pa_cons (pv 3) (pa_cons (pe_ix ix_list (pv 0) (pe_op op_add (pv 1) pe_int) (fun _ _ => rfl)) pa_nil))) (pe_ix ix_tup (pv 4) pe_int (fun _ _ => rfl))) (pa_cons (pe_ix ix_tup (pv 4) pe_int (fun _ _ => rfl)) pa_nil))))))) pss_nil)
        (pss_cons (ps_if (pt_cmpR op_notN (pe_call G_number_by (hr.mono (by omega)) (by rfl) T.g_number_by T.F_number_by.kp T.b_number_by .nil pass0 (pa_cons (pv 3) pa_nil)) pe_non (nomark _)) (pss_one (ps_ret (pe_tup (pa_cons (pe_tup (pa_cons pe_str (pa_cons (pe_call G_number_by (hr.mono (by omega)) (by rfl) T.g_number_by T.F_number_by.kp T.b_number_by .nil pass0 (pa_cons (pv 3) pa_nil)) pa_nil))) (pa_cons (pe_op op_add (pv 1) pe_int) pa_nil))))) pss_nil)
        (pss_one (ps_ret (pe_tup (pa_cons (pe_tup (pa_cons pe_str (pa_cons (pv 3) pa_nil))) (pa_cons (pe_op op_add (pv 1) pe_int) pa_nil)))))))))), ?_⟩
      obtain ⟨z, zr, hz⟩ := e.words_pos
      have hat : ws = pre ++ z :: (zr ++ post) := by rw [hws, hz]; rfl
      have lpre : pre.length < ws.length := by rw [hat, List.length_append, List.length_cons]; omega
      have lw : (ws.map V.str).length = ws.length := List.length_map ..
      refine ⟨_, rfl, _, rfl, W, _, rfl, .inl (.of eW), _, _, rfl, rfl, _, rfl, ifN (by omega) ?_⟩
      refine ⟨_, rfl, _, _, rfl, rfl, _, rfl, ifN (by omega) ?_⟩
      refine ⟨_, rfl, _, rfl, W, _, _, _, rfl, rfl, .of eW, word_at hat, ?_⟩
      dsimp only [gName, List.set]
      have inW : ∀ x : Str, (if (false : Bool) = true then !inV (V.str x) (wds7.map V.str) else inV (V.str x) (wds7.map V.str)) = decide (x ∈ wds7) := fun x => by rw [if_neg Bool.false_ne_true, in_strs]
      have qW : ∀ H', SqT K H' (He.ga K "WORDS") (wds7.map V.str) := fun H' => T.q_WORDS H'
      cases e with
      | op wd a b =>
        cases hz
        obtain ⟨hw, wa, wb⟩ := wf
        refine ⟨_, rfl, _, _, rfl, .inr (qW _), rfl, flat_strs wds7, _, rfl, ?_⟩
        rw [inW]
        refine ifD hw (ifT rfl ?_)
        have nn : V.str z ≠ V.str "not" := fun e => by
          rw [V.str.inj e] at hw
          exact absurd hw (by decide +kernel)
        refine ⟨_, rfl, _, rfl, _, _, rfl, rfl, _, rfl, rfl, _, rfl, ifN nn ⟨_, rfl, _, _, rfl, rfl, W, ws, pre ++ [z], post, [a, b], deep + 1, nms, rws, ?_, eW, ?_, lws, by show 2 ≤ 100; decide, ?_, by omega, hn, fun H2 v s2 dv => ?_⟩⟩
        · rw [List.length_append]; rfl
        · rw [hws]; simp [Ex.words, wordsL]
        · intro x hx
          simp only [List.mem_cons, List.not_mem_nil, or_false] at hx
          rcases hx with rfl | rfl
          · exact wa
          · exact wb
        obtain ⟨p, xs, rfl, hp, dxs⟩ := dp_tup dv
        obtain ⟨y0, r0, rfl, g0, dxs⟩ := dpAll_cons dxs
        obtain ⟨y1, r1, rfl, g1, dxs⟩ := dpAll_cons dxs
        cases dpAll_nil dxs
        cases dp_int g1
        dsimp only [gName, List.set]
        refine ⟨_, rfl, rfl, _, rfl, ifN (fun e => by cases e) ?_⟩
        refine ⟨_, rfl, (by show 1 ≤ sizeLine; rw [sizeLine_eq]; decide), fun t nt => ?_⟩
        have st := same_new (o := .tup [V.str z]) nt
        refine ⟨_, rfl, p, _, 0, _, rfl, rfl, sqT_sm st hp, atI_nat (j := 0) rfl, ?_⟩
        refine cat_use (.tup (.of upd_same) (.cons (.str _) .nil) : Dp K _ (.ref t) (.tuple [PyData.str z])) (dp_sm st g0) (by simp [nLs, nLd]) (exs_noL _) (by rw [sizeLine_eq]; show 1 + 2 ≤ _; omega) (fun H3 r s3 dr => ?_)
        refine ⟨_, rfl, p, _, 1, _, rfl, rfl, sqT_sm (st.trans s3) hp, atI_nat (j := 1) rfl, (by show 2 ≤ sizeLine; rw [sizeLine_eq]; decide), fun u nu => ?_⟩
        have su := same_new (o := .tup [r, .int (((pre ++ [z]).length + (wordsL [a, b]).length : Nat) : Int)]) nu
        have en : (pre ++ [z]).length + (wordsL [a, b]).length = pre.length + (Ex.words (.op z a b)).length := by
          simp [wordsL, Ex.words]
          try omega
        rw [en] at su ⊢
        exact q _ _ ((s2.trans (st.trans s3)).trans su) (.tup (.of upd_same) (.cons (dp_sm su dr) (.cons (.int _) .nil)))
      | no a =>
        cases hz
        refine ⟨_, rfl, _, _, rfl, .inr (qW _), rfl, flat_strs wds7, _, rfl, ?_⟩
        rw [inW]
        refine ifN (by decide +kernel) ?_
        refine ⟨_, rfl, rfl, _, rfl, ifD rfl ?_⟩
        refine ⟨_, rfl, _, rfl, _, _, rfl, rfl, _, rfl, rfl, _, rfl, ifD rfl ⟨_, rfl, _, _, rfl, rfl, W, ws, pre ++ ([("not" : Str)] : List Str), post, [a], deep + 1, nms, rws, ?_, eW, ?_, lws, by show 1 ≤ 100; decide, ?_, by omega, hn, fun H2 v s2 dv => ?_⟩⟩
        · rw [List.length_append]; rfl
        · rw [hws]; simp [Ex.words, wordsL]
        · intro x hx
          rw [List.mem_singleton.mp hx]
          exact wf
        obtain ⟨p, xs, rfl, hp, dxs⟩ := dp_tup dv
        obtain ⟨y0, r0, rfl, g0, dxs⟩ := dpAll_cons dxs
        obtain ⟨y1, r1, rfl, g1, dxs⟩ := dpAll_cons dxs
        cases dpAll_nil dxs
        cases dp_int g1
        dsimp only [gName, List.set]
        refine ⟨_, rfl, rfl, _, rfl, ifN (fun e => by cases e) ?_⟩
        refine ⟨_, rfl, (by show 1 ≤ sizeLine; rw [sizeLine_eq]; decide), fun t nt => ?_⟩
        have st := same_new (o := .tup [V.str "not"]) nt
        refine ⟨_, rfl, p, _, 0, _, rfl, rfl, sqT_sm st hp, atI_nat (j := 0) rfl, ?_⟩
        refine cat_use (.tup (.of upd_same) (.cons (.str _) .nil) : Dp K _ (.ref t) (.tuple [PyData.str "not"])) (dp_sm st g0) (by simp [nLs, nLd]) (exs_noL _) (by rw [sizeLine_eq]; show 1 + 1 ≤ _; omega) (fun H3 r s3 dr => ?_)
        refine ⟨_, rfl, p, _, 1, _, rfl, rfl, sqT_sm (st.trans s3) hp, atI_nat (j := 1) rfl, (by show 2 ≤ sizeLine; rw [sizeLine_eq]; decide), fun u nu => ?_⟩
        have su := same_new (o := .tup [r, .int (((pre ++ ([("not" : Str)] : List Str)).length + (wordsL [a]).length : Nat) : Int)]) nu
        have en : (pre ++ ([("not" : Str)] : List Str)).length + (wordsL [a]).length = pre.length + (Ex.words (.no a)).length := by
          simp [wordsL, Ex.words]
          try omega
        rw [en] at su ⊢
        exact q _ _ ((s2.trans (st.trans s3)).trans su) (.tup (.of upd_same) (.cons (dp_sm su dr) (.cons (.int _) .nil)))
      | at_ ro a =>
        cases hz
        refine ⟨_, rfl, _, _, rfl, .inr (qW _), rfl, flat_strs wds7, _, rfl, ?_⟩
        rw [inW]
        refine ifN (by decide +kernel) ?_
        refine ⟨_, rfl, rfl, _, rfl, ifN (fun e => absurd (V.str.inj e) (by decide +kernel)) ?_⟩
        refine ⟨_, rfl, rfl, _, rfl, ifD rfl ?_⟩
        have hr1 : atI (ws.map V.str) ((pre.length : Int) + 1) = some (.str ro) := by
          have := word_at (ws := ws) (pre := pre ++ ([("at" : Str)] : List Str)) (post := a.words ++ post) (z := ro) (by rw [hws]; simp [Ex.words])
          rw [List.length_append] at this
          exact this
        refine ⟨_, rfl, _, rfl, _, _, rfl, rfl, _, rfl, _, _, rfl, rfl, W, ws, pre ++ ([("at" : Str), ro] : List Str), post, [a], deep + 1, nms, rws, ?_, eW, ?_, lws, by show 1 ≤ 100; decide, ?_, by omega, hn, fun H2 v s2 dv => ?_⟩
        · rw [List.length_append]; rfl
        · rw [hws]; simp [Ex.words, wordsL]
        · intro x hx
          rw [List.mem_singleton.mp hx]
          exact wf.2
        obtain ⟨p, xs, rfl, hp, dxs⟩ := dp_tup dv
        obtain ⟨y0, r0, rfl, g0, dxs⟩ := dpAll_cons dxs
        obtain ⟨y1, r1, rfl, g1, dxs⟩ := dpAll_cons dxs
        cases dpAll_nil dxs
        cases dp_int g1
        dsimp only [gName, List.set]
        refine ⟨_, rfl, rfl, _, rfl, ifN (fun e => by cases e) ?_⟩
        refine ⟨_, rfl, _, rfl, _, rfl, _, _, rfl, rfl, W, _, _, _, rfl, rfl, .of (s2 _ _ eW), hr1, (by show 2 ≤ sizeLine; rw [sizeLine_eq]; decide), fun t nt => ?_⟩
        have st := same_new (o := .tup [V.str "at", V.str ro]) nt
        refine ⟨_, rfl, p, _, 0, _, rfl, rfl, sqT_sm st hp, atI_nat (j := 0) rfl, ?_⟩
        refine cat_use (.tup (.of upd_same) (.cons (.str _) (.cons (.str _) .nil)) : Dp K _ (.ref t) (.tuple [PyData.str "at", PyData.str ro])) (dp_sm st g0) (by simp [nLs, nLd]) (exs_noL _) (by rw [sizeLine_eq]; show 2 + 1 ≤ _; omega) (fun H3 r s3 dr => ?_)
        refine ⟨_, rfl, p, _, 1, _, rfl, rfl, sqT_sm (st.trans s3) hp, atI_nat (j := 1) rfl, (by show 2 ≤ sizeLine; rw [sizeLine_eq]; decide), fun u nu => ?_⟩
        have su := same_new (o := .tup [r, .int (((pre ++ ([("at" : Str), ro] : List Str)).length + (wordsL [a]).length : Nat) : Int)]) nu
        have en : (pre ++ ([("at" : Str), ro] : List Str)).length + (wordsL [a]).length = pre.length + (Ex.words (.at_ ro a)).length := by
          simp [wordsL, Ex.words]
          try omega
        rw [en] at su ⊢
        exact q _ _ ((s2.trans (st.trans s3)).trans su) (.tup (.of upd_same) (.cons (dp_sm su dr) (.cons (.int _) .nil)))
      | num n =>
        cases hz
        have nk := numS_kept wf
        have nks : ∀ x ∈ keptW, V.str (numS n) ≠ V.str x := fun x hx e => nk (by rw [V.str.inj e]; exact hx)
        refine ⟨_, rfl, _, _, rfl, .inr (qW _), rfl, flat_strs wds7, _, rfl, ?_⟩
        rw [inW]
        refine ifN (fun e => nk (wds7_kept _ e)) ?_
        refine ⟨_, rfl, rfl, _, rfl, ifN (nks _ (by decide +kernel)) ?_⟩
        refine ⟨_, rfl, rfl, _, rfl, ifN (nks _ (by decide +kernel)) ?_⟩
        refine ⟨_, rfl, numS n, rfl, .inl ⟨n, rfl, wf, fun H2 s2 => ⟨rfl, _, rfl, ifNT (fun e => by cases e) ?_⟩⟩⟩
        refine ⟨_, rfl, numS n, rfl, .inl ⟨n, rfl, wf, fun H3 s3 => ⟨(by show 2 ≤ sizeLine; rw [sizeLine_eq]; decide), fun t nt => ⟨_, rfl, _, _, rfl, rfl, (by show 2 ≤ sizeLine; rw [sizeLine_eq]; decide), fun u nu => ?_⟩⟩⟩⟩
        have st := same_new (o := .tup [V.str "number", .int n]) nt
        have su := same_new (o := .tup [V.ref t, .int ((pre.length : Int) + 1)]) nu
        exact q _ _ ((s2.trans s3).trans (st.trans su)) (.tup (.of upd_same) (.cons (dp_sm su (.tup (.of upd_same) (.cons (.str _) (.cons (.int _) .nil)))) (.cons (.int _) .nil)))
      | nam x =>
        cases hz
        have nk := (hn _ wf).out
        have nks : ∀ x ∈ keptW, V.str z ≠ V.str x := fun x hx e => nk (by rw [V.str.inj e]; exact hx)
        refine ⟨_, rfl, _, _, rfl, .inr (qW _), rfl, flat_strs wds7, _, rfl, ?_⟩
        rw [inW]
        refine ifN (fun e => nk (wds7_kept _ e)) ?_
        refine ⟨_, rfl, rfl, _, rfl, ifN (nks _ (by decide +kernel)) ?_⟩
        refine ⟨_, rfl, rfl, _, rfl, ifN (nks _ (by decide +kernel)) ?_⟩
        refine ⟨_, rfl, z, rfl, .inr ⟨hn _ wf, fun H2 s2 => ⟨rfl, _, rfl, ifNF rfl ?_⟩⟩⟩
        refine ⟨_, rfl, (by show 2 ≤ sizeLine; rw [sizeLine_eq]; decide), fun t nt => ⟨_, rfl, _, _, rfl, rfl, (by show 2 ≤ sizeLine; rw [sizeLine_eq]; decide), fun u nu => ?_⟩⟩
        have st := same_new (o := .tup [V.str "name", .str z]) nt
        have su := same_new (o := .tup [V.ref t, .int ((pre.length : Int) + 1)]) nu
        exact q _ _ (s2.trans (st.trans su)) (.tup (.of upd_same) (.cons (dp_sm su (.tup (.of upd_same) (.cons (.str _) (.cons (.str _) .nil)))) (.cons (.int _) .nil)))
end

section
variable {P : Program} {w : World} {K : PySem.W.Frag} {mg : Str → Option Value} {base : Heap}
def sp_allex (K : PySem.W.Frag) : Sp := fun vs H Q _ => ∃ (W : Addr) (es : List Ex) (m : V) (nms rws : List Str), vs = [.ref W, m] ∧ H W = some (.lst ((wordsL es).map V.str)) ∧ (wordsL es).length ≤ 10000 ∧ es.length ≤ 100 ∧ (m = .non ∨ m = .int (es.length : Int)) ∧ (∀ e ∈ es, e.Wf nms rws 4) ∧ (∀ x ∈ nms, IsNm x) ∧
  ∀ H' v, Same H H' → Dp K H' v (.tuple (es.map Ex.d)) → Q v H'
theorem ok_all_expressions (T : Top K mg) : FnOk P w K mg base CX0 12 (He.ga K "all_expressions") T.fd_all_expressions ["words", "many"] (sp_allex K) := by
  have G_expression_at := ok_exat (P := P) (w := w) (base := base) T 4
  refine T.F_all_expressions.ok sc_all_expressions (fun vs H Q E h => ?_) (fun cdv A outer s H vs Q E hr h => ?_)
  · obtain ⟨W, es, m, nms, rws, rfl, _⟩ := h
    rfl
  · obtain ⟨W, es, m, nms, rws, rfl, eW, lW, les, hm, hes, hn, q⟩ := h
    refine ⟨_, PSs.nox (pss_cons (ps_set (i := 2) sc_all_expressions.nd rfl (Or.inl rfl) (pe_tup pa_nil))
        (pss_cons (ps_set (i := 3) sc_all_expressions.nd rfl (Or.inl rfl) pe_int)
        (pss_cons (ps_while PassesOwn.never (pt_cmpR op_lt (pv 3) (pe_callB call_len_seq (by rfl) T.m_len (by decide +kernel) (pa_cons (pv 0) pa_nil)) (nomark _)) (pss_cons (ps_set (i := 4) sc_all_expressions.nd rfl (Or.inl rfl) (pe_call G_expression_at (hr.mono (by omega)) (by rfl) T.g_expression_at T.F_expression_at.kp T.b2_expression_at.choose_spec.2 T.b2_expression_at.choose_spec.1 pass0 (pa_cons (pv 0) (pa_cons (pv 3) pa_nil))))
        (pss_cons (ps_if (pt_cmpR op_isN (pv 4) pe_non (nomark _)) (pss_one (ps_ret pe_non)) pss_nil)
        (pss_cons (ps_set (i := 2) sc_all_expressions.nd rfl (Or.inl rfl) (pe_op op_catA (pv 2) (pe_tup (pa_cons (pe_ix ix_tup (pv 4) pe_int (fun _ _ => rfl)) pa_nil))))
        (pss_one (ps_set (i := 3) sc_all_expressions.nd rfl (Or.inl rfl) (pe_ix ix_tup (pv 4) pe_int (fun _ _ => rfl))))))))
        (pss_one (ps_ret (pe_ifExp (PW.pt (pw_or (pt_cmpR op_isN (pv 1) pe_non (nomark _)) (pw_or1 (pt_cmpR op_eq (pv 1) (pe_callB call_len_seq (by rfl) T.m_len (by decide +kernel) (pa_cons (pv 2) pa_nil)) (nomark _))))) (pv 2) pe_non)))))), ?_⟩
    refine ⟨Nat.zero_le _, fun F nF => ?_⟩
    have s1 := same_new (o := .tup []) nF
    dsimp only [gName, List.set]
    have lw : ((wordsL es).map V.str).length = (wordsL es).length := List.length_map ..
    refine while_by (fun σ' H' => Same H H' ∧ ∃ (i : Nat) (vf : V) (x4 : Option V), i ≤ es.length ∧ Dp K H' vf (.tuple ((es.take i).map Ex.d)) ∧ σ' = [some (.ref W), some m, some vf, some (.int ((wordsL (es.take i)).length : Int)), x4])
      (fun (σ' : L2.St) (H' : Hp) => match σ'[3]? with | some (some (V.int p)) => (wordsL es).length - p.toNat | _ => 0) ?_ ?_ ?_
    · exact ⟨s1, 0, .ref F, none, Nat.zero_le _, .tup (.of upd_same) .nil, rfl⟩
    · rintro σ' H1 ⟨k1, i, vf, x4, hi, df, rfl⟩
      refine ⟨_, rfl, _, rfl, W, _, rfl, .inl (.of (k1 _ _ eW)), _, _, rfl, rfl, _, rfl, ite2 (fun g => ?_) (fun g => ?_)⟩
      · have il : i < es.length := by
          rcases Nat.lt_or_ge i es.length with h | h
          · exact h
          · have : i = es.length := by omega
            subst this
            rw [List.take_length] at g
            have := of_decide_eq_true g
            omega
        obtain ⟨e, he⟩ : ∃ e, es[i]? = some e := ⟨_, List.getElem?_eq_getElem il⟩
        have hsp := wordsL_split es he
        dsimp only [gName, List.set]
        refine ⟨_, rfl, _, rfl, W, wordsL es, wordsL (es.take i), wordsL (es.drop (i + 1)), e, 1, nms, rws, rfl, k1 _ _ eW, hsp, lW, hes e (List.mem_of_getElem? he), by decide, hn, fun H2 v s2 dv => ?_⟩
        obtain ⟨p, xs, rfl, hp, dxs⟩ := dp_tup dv
        obtain ⟨y0, r0, rfl, g0, dxs⟩ := dpAll_cons dxs
        obtain ⟨y1, r1, rfl, g1, dxs⟩ := dpAll_cons dxs
        cases dpAll_nil dxs
        cases dp_int g1
        refine ⟨_, rfl, rfl, _, rfl, ifN (fun e => by cases e) ?_⟩
        refine ⟨_, rfl, _, rfl, p, _, 0, _, rfl, rfl, hp, atI_nat (j := 0) rfl, (by show 1 ≤ sizeLine; rw [sizeLine_eq]; decide), fun t nt => ?_⟩
        have st := same_new (o := .tup [y0]) nt
        have ltk : ((es.take i).map Ex.d).length ≤ 100 := by rw [List.length_map, List.length_take]; omega
        refine cat_use (dp_sm st (dp_sm s2 df)) (.tup (.of upd_same) (.cons (dp_sm st g0) .nil) : Dp K _ (.ref t) (.tuple [e.d])) (exs_noL _) (by simp [nLs, e.noL]) (by rw [sizeLine_eq]; show _ + 1 ≤ _; omega) (fun H3 r s3 dr => ?_)
        have hp3 := sqT_sm (st.trans s3) hp
        have eln : (wordsL (es.take i)).length + e.words.length = (wordsL (es.take (i + 1))).length := by
          rw [List.take_add_one, he]
          unfold wordsL
          simp
        have epos : 1 ≤ e.words.length := by
          obtain ⟨z, r, h⟩ := e.words_pos
          rw [h, List.length_cons]
          omega
        have ltot := congrArg List.length hsp
        rw [List.length_append, List.length_append] at ltot
        refine ⟨_, rfl, p, _, 1, _, rfl, rfl, hp3, atI_nat (j := 1) rfl, ?_⟩
        have e9 : (es.take (i + 1)).map Ex.d = (es.take i).map Ex.d ++ [e.d] := by
          rw [List.take_add_one, he]
          simp
        refine ⟨⟨k1.trans (s2.trans (st.trans s3)), i + 1, r, some (.ref p), il, ?_, ?_⟩, ?_⟩
        · rw [e9]
          exact dr
        · rw [← eln]
          rfl
        · show (wordsL es).length - (((wordsL (es.take i)).length + e.words.length : Nat) : Int).toNat < (wordsL es).length - (((wordsL (es.take i)).length : Nat) : Int).toNat
          rw [Int.toNat_natCast, Int.toNat_natCast]
          omega
      · have il : i = es.length := by
          rcases Nat.lt_or_ge i es.length with h | h
          · exfalso
            obtain ⟨e, he⟩ : ∃ e, es[i]? = some e := ⟨_, List.getElem?_eq_getElem h⟩
            have ltot := congrArg List.length (wordsL_split es he)
            rw [List.length_append, List.length_append] at ltot
            obtain ⟨z, r, hz⟩ := e.words_pos
            rw [hz, List.length_cons] at ltot
            refine g (decide_eq_true ?_)
            rw [lw]
            omega
          · omega
        subst il
        rw [List.take_length] at df
        obtain ⟨pf, ys, rfl, hpf, dys⟩ := dp_tup df
        have ly : (ys.length : Int) = (es.length : Int) := by rw [dpAll_len dys, List.length_map]
        rcases hm with rfl | rfl
        · exact ⟨_, rfl, rfl, _, rfl, ifD rfl (ifT rfl ⟨_, rfl, q _ _ k1 df⟩)⟩
        · refine ⟨_, rfl, rfl, _, rfl, ifN (fun e => by cases e) ?_⟩
          refine ⟨_, rfl, _, rfl, pf, _, rfl, .inr hpf, rfl, _, rfl, ?_⟩
          rw [ly]
          exact ifD rfl ⟨_, rfl, q _ _ k1 df⟩
    · intro σ' H' Q1 Q2 h hc
      obtain ⟨v, h1, v2, h2, p, ys, h3, h4, i, j, h5, h6, k, h7, h8⟩ := hc
      exact ⟨v, h1, v2, h2, p, ys, h3, h4, i, j, h5, h6, k, h7, h _ _ h8⟩
end

section
variable {P : Program} {w : World} {K : PySem.W.Frag} {mg : Str → Option Value} {base : Heap}
def scF (r h k : Addr) (m : Int) : List (Str × V) := [("rows", .ref r), ("heads", .ref h), ("known", .ref k), ("many", .int m)]
theorem scF_rows (r h k : Addr) (m : Int) : (scF r h k m).lookup ("rows" : Str) = some (.ref r) := by
  unfold scF
  rw [List.lookup_cons, show (("rows" : Str) == "rows") = true by decide +kernel]
theorem scF_heads (r h k : Addr) (m : Int) : (scF r h k m).lookup ("heads" : Str) = some (.ref h) := by
  unfold scF
  rw [List.lookup_cons, show (("heads" : Str) == "rows") = false by decide +kernel, List.lookup_cons, show (("heads" : Str) == "heads") = true by decide +kernel]
theorem scF_known (r h k : Addr) (m : Int) : (scF r h k m).lookup ("known" : Str) = some (.ref k) := by
  unfold scF
  rw [List.lookup_cons, show (("known" : Str) == "rows") = false by decide +kernel, List.lookup_cons, show (("known" : Str) == "heads") = false by decide +kernel, List.lookup_cons, show (("known" : Str) == "known") = true by decide +kernel]
theorem scF_many (r h k : Addr) (m : Int) : (scF r h k m).lookup ("many" : Str) = some (.int m) := by
  unfold scF
  rw [List.lookup_cons, show (("many" : Str) == "rows") = false by decide +kernel, List.lookup_cons, show (("many" : Str) == "heads") = false by decide +kernel, List.lookup_cons, show (("many" : Str) == "known") = false by decide +kernel, List.lookup_cons, show (("many" : Str) == "many") = true by decide +kernel]
theorem scF_no {r h k : Addr} {n : Int} {m : Str} (h1 : (m == ("rows" : Str)) = false) (h2 : (m == ("heads" : Str)) = false) (h3 : (m == ("known" : Str)) = false) (h4 : (m == ("many" : Str)) = false) : (scF r h k n).lookup m = none := by
  unfold scF
  rw [List.lookup_cons, h1, List.lookup_cons, h2, List.lookup_cons, h3, List.lookup_cons, h4]
  rfl
theorem scF_put (r h k : Addr) (m n : Int) : putF "many" (.int n) (scF r h k m) = scF r h k n := by
  unfold scF
  show (if ("rows" : Str) = "many" then _ else (("rows" : Str), V.ref r) :: (if ("heads" : Str) = "many" then _ else (("heads" : Str), V.ref h) :: (if ("known" : Str) = "many" then _ else (("known" : Str), V.ref k) :: (if ("many" : Str) = "many" then (("many" : Str), V.int n) :: [] else _)))) = _
  rw [if_neg (by decide +kernel), if_neg (by decide +kernel), if_neg (by decide +kernel), if_pos rfl]
structure ScA where
  p : Addr
  r : Addr
  h : Addr
  k : Addr
def knD (ks : List Str) : List (Key × V) := ks.map fun x => (.inr x, .bl true)
theorem any_kn {ks : List Str} {x : Str} : ((knD ks).any fun kv => decide (kv.1 = (.inr x : Key))) = decide (x ∈ ks) := by
  unfold knD
  rw [List.any_map]
  by_cases h : x ∈ ks
  · rw [decide_eq_true h]
    exact List.any_eq_true.mpr ⟨x, h, decide_eq_true rfl⟩
  · rw [decide_eq_false h]
    refine List.any_eq_false.mpr fun y hy e => h ?_
    have := of_decide_eq_true (p := (Sum.inr y : Key) = Sum.inr x) e
    cases this
    exact hy
theorem put_kn (ks : List Str) (x : Str) : putK (knD ks) (.inr x) (.bl true) = knD (if x ∈ ks then ks else ks ++ [x]) := by
  unfold putK
  rw [any_kn]
  by_cases h : x ∈ ks
  · rw [if_pos (decide_eq_true h), if_pos h]
    unfold knD
    rw [List.map_map]
    refine List.map_congr_left fun y hy => ?_
    show (if (Sum.inr y : Key) = Sum.inr x then ((Sum.inr y : Key), V.bl true) else (.inr y, .bl true)) = _
    split <;> rfl
  · rw [if_neg (fun z => h (of_decide_eq_true z)), if_neg h]
    unfold knD
    rw [List.map_append]
    rfl
/-- a body's scope, as it stands -/
structure ScAt (K : PySem.W.Frag) (H : Hp) (A : ScA) (hds : List (Str × Nat)) (rs vs : List Str) (m : Nat) : Prop where
  ob : ∃ dx, H A.p = some (.ins (He.ga K "Scope") dx (scF A.r A.h A.k m))
  rk : H A.r = some (.lst (rs.map V.str))
  hk : ∃ kvs : List (Key × V), H A.h = some (.dK kvs) ∧ ∀ q ∈ hds, valV kvs (.inr q.1) = some (.int (q.2 : Int))
  kk : ∃ ks : List Str, H A.k = some (.dK (knD ks)) ∧ ks.Nodup ∧ ∀ x ∈ ks, x ∈ vs
  vl : vs.length ≤ 12
  vn : ∀ x ∈ vs, IsNm x ∧ x ∉ rs
  ne : A.h ≠ A.k
theorem ScAt.kp {H H' : Hp} {A : ScA} {hds : List (Str × Nat)} {rs vs : List Str} {m : Nat} {S : Addr → Prop} (h : ScAt K H A hds rs vs m) (k : Kp S H H') (n1 : ¬ S A.p) (n2 : ¬ S A.r) (n3 : ¬ S A.h) (n4 : ¬ S A.k) : ScAt K H' A hds rs vs m := by
  obtain ⟨dx, e1⟩ := h.ob
  obtain ⟨kvs, e2, f2⟩ := h.hk
  obtain ⟨ks, e3, f3⟩ := h.kk
  exact ⟨⟨dx, k _ _ e1 fun z => absurd z n1⟩, k _ _ h.rk fun z => absurd z n2, ⟨kvs, k _ _ e2 fun z => absurd z n3, f2⟩, ⟨ks, k _ _ e3 fun z => absurd z n4, f3⟩, h.vl, h.vn, h.ne⟩
theorem ScAt.sm {H H' : Hp} {A : ScA} {hds : List (Str × Nat)} {rs vs : List Str} {m : Nat} (h : ScAt K H A hds rs vs m) (s : Same H H') : ScAt K H' A hds rs vs m := h.kp (Kp.of_same (S := fun _ => False) s) id id id id
def sp_isvar (K : PySem.W.Frag) : Sp := fun vs H Q _ => ∃ (A : ScA) (x : Str) (hds : List (Str × Nat)) (rs ns : List Str) (m : Nat), vs = [.ref A.p, .str x] ∧ ScAt K H A hds rs ns m ∧ x ∈ ns ∧ ∀ H', Kp (fun b => b = A.k) H H' → ScAt K H' A hds rs ns m → Q (.bl true) H'
theorem ok_is_variable (T : Top K mg) : FnOk P w K mg base CX0 2 (He.ma K (He.ga K "Scope") "is_variable") T.fd_Scope_is_variable ["self", "thing"] (sp_isvar K) := by
  have G_is_name := ok_is_name (P := P) (w := w) (base := base) T
  refine T.F_Scope_is_variable.ok sc_Scope_is_variable (fun vs H Q E h => ?_) (fun cdv A outer s H vs Q E hr h => ?_)
  · obtain ⟨A, x, hds, rs, ns, m, rfl, _⟩ := h
    rfl
  · obtain ⟨B, x, hds, rs, ns, m, rfl, sc, hx, q⟩ := h
    refine ⟨_, PSs.nox (pss_cons (ps_if (PW.pt (pw_or (pt_not (pt_val (pe_call G_is_name (hr.mono (by omega)) (by rfl) T.g_is_name T.F_is_name.kp T.b_is_name .nil pass0 (pa_cons (pv 1) pa_nil)))) (pw_or1 (pt_cmpR op_in_seq (pv 1) (pe_fld (pv 0) rfl) (by rfl))))) (pss_one (ps_ret pe_bl)) pss_nil)
        (pss_cons (ps_dput (hu_of hr) (pe_fld (pv 0) rfl) (pv 1) pe_bl (by rfl))
        (pss_one (ps_ret (pe_cmpR op_le (pe_callB call_lenD (by rfl) T.m_len (by decide +kernel) (pa_cons (pe_fld (pv 0) rfl) pa_nil)) (pe_glob (v := .int 12) (by rfl) T.c_MOST_VARIABLES ⟨_, rfl⟩) (nomark _)))))), ?_⟩
    obtain ⟨nx, nr⟩ := sc.vn x hx
    refine ⟨_, rfl, .str x, rfl, .inl ⟨x, rfl, Nat.le_trans nx.hi (by decide), fun H1 s1 => ?_⟩⟩
    rw [nmB_ok.mpr nx]
    have sc1 := sc.sm s1
    obtain ⟨dx, e1⟩ := sc1.ob
    obtain ⟨ks, ek, nd, sub⟩ := sc1.kk
    refine ⟨_, rfl, ifF rfl ?_⟩
    refine ⟨_, rfl, _, rfl, B.p, _, dx, _, _, rfl, e1, T.cl_Scope, T.no_Scope_rows, scF_rows _ _ _ _, B.r, _, rfl, .inl (.of sc1.rk), rfl, flat_strs rs, _, rfl, ?_⟩
    rw [if_neg Bool.false_ne_true, in_strs]
    refine ifN nr ?_
    have nd2 : (if x ∈ ks then ks else ks ++ [x]).Nodup := by
      by_cases h : x ∈ ks
      · rw [if_pos h]; exact nd
      · rw [if_neg h]
        refine List.nodup_append.mpr ⟨nd, by simp, fun a ha b hb e => h ?_⟩
        rw [List.mem_singleton.mp hb] at e
        exact e ▸ ha
    have sub2 : ∀ y ∈ (if x ∈ ks then ks else ks ++ [x]), y ∈ ns := by
      by_cases h : x ∈ ks
      · rw [if_pos h]; exact sub
      · rw [if_neg h]
        intro y hy
        rcases List.mem_append.mp hy with hy | hy
        · exact sub y hy
        · rw [List.mem_singleton.mp hy]; exact hx
    have l2 : (if x ∈ ks then ks else ks ++ [x]).length ≤ 12 := Nat.le_trans (List.Nodup.length_le_of_subset nd2 sub2) sc.vl
    have l1 : (knD ks).length ≤ 12 := by
      unfold knD
      rw [List.length_map]
      exact Nat.le_trans (List.Nodup.length_le_of_subset nd sub) sc.vl
    refine ⟨_, rfl, B.p, _, dx, _, _, rfl, e1, T.cl_Scope, T.no_Scope_known, scF_known _ _ _ _, _, rfl, B.k, _, rfl, .inl ⟨_, .inr x, ek, rfl, by rw [sizeLine_eq]; omega, rfl⟩, ?_⟩
    rw [put_kn]
    have kU : Kp (fun b => b = B.k) H1 (upd H1 B.k (.dK (knD (if x ∈ ks then ks else ks ++ [x])))) := Kp.upd ek trivial rfl
    have e2 : (upd H1 B.k (.dK (knD (if x ∈ ks then ks else ks ++ [x])))) B.p = some (.ins (He.ga K "Scope") dx (scF B.r B.h B.k m)) := by
      rw [upd_ne (fun z => by rw [z, ek] at e1; cases e1)]
      exact e1
    have kA : Kp (fun b => b = B.k) H (upd H1 B.k (.dK (knD (if x ∈ ks then ks else ks ++ [x])))) := (Kp.of_same s1).trans kU
    obtain ⟨kvs, eh, fh⟩ := sc1.hk
    refine ⟨_, rfl, B.p, _, dx, _, _, rfl, e2, T.cl_Scope, T.no_Scope_known, scF_known _ _ _ _, B.k, _, rfl, upd_same, _, _, rfl, rfl, ?_⟩
    refine blD ?_ (q _ kA ⟨⟨dx, e2⟩, ?_, ⟨kvs, ?_, fh⟩, ⟨_, upd_same, nd2, sub2⟩, sc.vl, sc.vn, sc.ne⟩)
    · unfold knD
      rw [List.length_map]
      omega
    · rw [upd_ne (fun z => by rw [← z, sc1.rk] at ek; cases ek)]
      exact sc1.rk
    · rw [upd_ne sc.ne]
      exact eh
def sp_isrow (K : PySem.W.Frag) : Sp := fun vs H Q _ => ∃ (A : ScA) (x : Str) (hds : List (Str × Nat)) (rs ns : List Str) (m : Nat), vs = [.ref A.p, .str x] ∧ ScAt K H A hds rs ns m ∧ x ∈ rs ∧ Q (.bl true) H
theorem ok_is_row (T : Top K mg) : FnOk P w K mg base CX0 1 (He.ma K (He.ga K "Scope") "is_row") T.fd_Scope_is_row ["self", "thing"] (sp_isrow K) := by
  refine T.F_Scope_is_row.ok sc_Scope_is_row (fun vs H Q E h => ?_) (fun cdv A outer s H vs Q E hr h => ?_)
  · obtain ⟨A, x, hds, rs, ns, m, rfl, _⟩ := h
    rfl
  · obtain ⟨B, x, hds, rs, ns, m, rfl, sc, hx, q⟩ := h
    refine ⟨_, PSs.nox (pss_one (ps_ret (pe_and (pe_callB call_isi (by rfl) T.m_isinstance (by decide +kernel) (pa_cons (pv 1) (pa_cons (pe_bltn (v := .ty "str") (by rfl) T.m_str (by decide +kernel) rfl) pa_nil))) (pe_one (pe_cmpR op_in_seq (pv 1) (pe_fld (pv 0) rfl) (by rfl)))))), ?_⟩
    obtain ⟨dx, e1⟩ := sc.ob
    refine ⟨_, rfl, _, _, _, _, true, rfl, .ty _, .base (.str x), kit_ty (by decide +kernel), _, rfl, ifT rfl ?_⟩
    refine ⟨_, rfl, _, rfl, B.p, _, dx, _, _, rfl, e1, T.cl_Scope, T.no_Scope_rows, scF_rows _ _ _ _, B.r, _, rfl, .inl (.of sc.rk), rfl, flat_strs rs, ?_⟩
    rw [if_neg Bool.false_ne_true, in_strs, decide_eq_true hx]
    exact q
def sp_takes1 (K : PySem.W.Frag) : Sp := fun vs H Q _ => ∃ (A : ScA) (hds : List (Str × Nat)) (rs ns : List Str) (m : Nat), vs = [.ref A.p] ∧ ScAt K H A hds rs ns m ∧ m < 25 ∧ ∀ H', Kp (fun b => b = A.p) H H' → ScAt K H' A hds rs ns (m + 1) → Q (.bl true) H'
theorem ok_takes_one (T : Top K mg) : FnOk P w K mg base CX0 1 (He.ma K (He.ga K "Scope") "takes_one") T.fd_Scope_takes_one ["self"] (sp_takes1 K) := by
  refine T.F_Scope_takes_one.ok sc_Scope_takes_one (fun vs H Q E h => ?_) (fun cdv A outer s H vs Q E hr h => ?_)
  · obtain ⟨A, hds, rs, ns, m, rfl, _⟩ := h
    rfl
  · obtain ⟨B, hds, rs, ns, m, rfl, sc, hm, q⟩ := h
    refine ⟨_, PSs.nox (pss_cons (ps_fldaug (pv 0) pe_int in_add)
        (pss_one (ps_ret (pe_cmpR op_le (pe_fld (pv 0) rfl) (pe_glob (v := .int 25) (by rfl) T.c_MOST_STATEMENTS ⟨_, rfl⟩) (nomark _))))), ?_⟩
    obtain ⟨dx, e1⟩ := sc.ob
    obtain ⟨kvs, eh, fh⟩ := sc.hk
    obtain ⟨ks, ek, nd, sub⟩ := sc.kk
    refine ⟨_, rfl, B.p, _, dx, _, _, rfl, e1, T.cl_Scope, T.no_Scope_many, scF_many _ _ _ _, _, _, rfl, rfl, _, _, e1, (by show 4 < 1000; decide), ?_⟩
    rw [scF_put]
    have hl : ((m : Nat) : Int) + 1 = ((m + 1 : Nat) : Int) := rfl
    rw [hl]
    have kU : Kp (fun b => b = B.p) H (upd H B.p (.ins (He.ga K "Scope") dx (scF B.r B.h B.k ((m + 1 : Nat) : Int)))) := Kp.upd e1 trivial rfl
    refine ⟨_, rfl, B.p, _, dx, _, _, rfl, upd_same, T.cl_Scope, T.no_Scope_many, scF_many _ _ _ _, _, _, rfl, rfl, ?_⟩
    refine blD (by omega) (q _ kU ⟨⟨dx, upd_same⟩, ?_, ⟨kvs, ?_, fh⟩, ⟨ks, ?_, nd, sub⟩, sc.vl, sc.vn, sc.ne⟩)
    · rw [upd_ne (fun z => by rw [← z, sc.rk] at e1; cases e1)]
      exact sc.rk
    · rw [upd_ne (fun z => by rw [← z, eh] at e1; cases e1)]
      exact eh
    · rw [upd_ne (fun z => by rw [← z, ek] at e1; cases e1)]
      exact ek
def sp_isex (K : PySem.W.Frag) (k : Nat) : Sp := fun vs H Q _ => ∃ (A : ScA) (v : V) (e : Ex) (deep : Int) (hds : List (Str × Nat)) (rs ns : List Str) (m : Nat), vs = [.ref A.p, v, .int deep] ∧ ScAt K H A hds rs ns m ∧ Dp K H v e.d ∧ e.Wf ns rs k ∧ deep + k ≤ 5 ∧
  ∀ H', Kp (fun b => b = A.k) H H' → ScAt K H' A hds rs ns m → Q (.bl true) H'
theorem ok_isex (T : Top K mg) : ∀ k : Nat, FnOk P w K mg base CX0 (k + 3) (He.ma K (He.ga K "Scope") "is_expression") T.fd_Scope_is_expression ["self", "thing", "deep"] (sp_isex K k)
  | 0 => by
    refine T.F_Scope_is_expression.ok sc_Scope_is_expression (fun vs H Q E h => ?_) (fun cdv A outer s H vs Q E hr h => ?_)
    · obtain ⟨A, v, e, deep, hds, rs, ns, m, rfl, _⟩ := h
      rfl
    · obtain ⟨A, v, e, deep, hds, rs, ns, m, rfl, _, _, h, _⟩ := h
      exact h.elim
  | k + 1 => by
    have G_Scope_is_expression := ok_isex T k
    have G_is_number := ok_is_number (P := P) (w := w) (base := base) T
    have G_Scope_is_variable := ok_is_variable (P := P) (w := w) (base := base) T
    have G_Scope_is_row := ok_is_row (P := P) (w := w) (base := base) T
    refine T.F_Scope_is_expression.ok sc_Scope_is_expression (fun vs H Q E h => ?_) (fun cdv A outer s H vs Q E hr h => ?_)
    · obtain ⟨A, v, e, deep, hds, rs, ns, m, rfl, _⟩ := h
      rfl
    · obtain ⟨B, v, e, deep, hds, rs, ns, m, rfl, sc, dv, wf, hd, q⟩ := h
      refine ⟨_, PSs.nox (pss_cons (ps_if (PW.pt (pw_or (pt_not (pt_val (pe_callB call_isi (by rfl) T.m_isinstance (by decide +kernel) (pa_cons (pv 1) (pa_cons (pe_bltn (v := .ty "tuple") (by rfl) T.m_tuple (by decide +kernel) rfl) pa_nil))))) (pw_or (pt_not (pt_chain op_le op_le pe_int (pe_callB call_len_seq (by rfl) T.m_len (by decide +kernel) (pa_cons (pv 1) pa_nil)) pe_int)) (pw_or1 (pt_cmpR op_gt (pv 2) (pe_glob (v := .int 4) (by rfl) T.c_MOST_DEEP ⟨_, rfl⟩) (nomark _)))))) (pss_one (ps_ret pe_bl)) pss_nil)
        (pss_cons (ps_set (i := 3) sc_Scope_is_expression.nd rfl (Or.inl rfl) (pe_ix ix_tup (pv 1) pe_int (fun _ _ => rfl)))
        (pss_cons (ps_if (pt_not (pt_val (pe_callB call_isi (by rfl) T.m_isinstance (by decide +kernel) (pa_cons (pv 3) (pa_cons (pe_bltn (v := .ty "str") (by rfl) T.m_str (by decide +kernel) rfl) pa_nil))))) (pss_one (ps_ret pe_bl)) pss_nil)
        (pss_cons (ps_if (pt_cmpR op_eq (pv 3) pe_str (nomark _)) (pss_one (ps_ret (pe_and (pe_cmpR op_eq (pe_callB call_len_seq (by rfl) T.m_len (by decide +kernel) (pa_cons (pv 1) pa_nil)) pe_int (nomark _)) (pe_one (pe_call G_is_number (hr.mono (by omega)) (by rfl) T.g_is_number T.F_is_number.kp T.b_is_number .nil pass0 (pa_cons (pe_ix ix_tup (pv 1) pe_int (fun _ _ => rfl)) pa_nil)))))) pss_nil)
        (pss_cons (ps_if (pt_cmpR op_eq (pv 3) pe_str (nomark _)) (pss_one (ps_ret (pe_and (pe_cmpR op_eq (pe_callB call_len_seq (by rfl) T.m_len (by decide +kernel) (pa_cons (pv 1) pa_nil)) pe_int (nomark _)) (pe_one (pe_meth (pv 0) T.cl_Scope T.me_Scope_is_variable G_Scope_is_variable (hr.mono (by omega)) T.b_Scope_is_variable .nil pass0 (pa_cons (pe_ix ix_tup (pv 1) pe_int (fun _ _ => rfl)) pa_nil)))))) pss_nil)
        (pss_cons (ps_if (pt_cmpR op_eq (pv 3) pe_str (nomark _)) (pss_one (ps_ret (pe_and (pe_cmpR op_eq (pe_callB call_len_seq (by rfl) T.m_len (by decide +kernel) (pa_cons (pv 1) pa_nil)) pe_int (nomark _)) (pe_one (pe_meth (pv 0) T.cl_Scope T.me_Scope_is_expression G_Scope_is_expression (hr.mono (by omega)) T.b_Scope_is_expression.choose_spec.2 T.b_Scope_is_expression.choose_spec.1 pass0 (pa_cons (pe_ix ix_tup (pv 1) pe_int (fun _ _ => rfl)) (pa_cons (pe_op op_add (pv 2) pe_int) pa_nil))))))) pss_nil)
        (pss_cons (ps_if (PW.pt (pw_or (pt_cmpR op_ne (pe_callB call_len_seq (by rfl) T.m_len (by decide +kernel) (pa_cons (pv 1) pa_nil)) pe_int (nomark _)) (pw_or1 (pt_not (pt_val (pe_meth (pv 0) T.cl_Scope T.me_Scope_is_expression G_Scope_is_expression (hr.mono (by omega)) T.b_Scope_is_expression.choose_spec.2 T.b_Scope_is_expression.choose_spec.1 pass0 (pa_cons (pe_ix ix_tup (pv 1) pe_int (fun _ _ => rfl)) (pa_cons (pe_op op_add (pv 2) pe_int) pa_nil)))))))) (pss_one (ps_ret pe_bl)) pss_nil)
        (pss_cons (ps_if (pt_cmpR op_eq (pv 3) pe_str (nomark _)) (pss_one (ps_ret (pe_meth (pv 0) T.cl_Scope T.me_Scope_is_row G_Scope_is_row (hr.mono (by omega)) T.b_Scope_is_row .nil pass0 (pa_cons (pe_ix ix_tup (pv 1) pe_int (fun _ _ => rfl)) pa_nil)))) pss_nil)
        (pss_one (ps_ret (pe_and (pe_cmpR op_in_seq (pv 3) (pe_glob (v := .ref (He.ga K "WORDS")) (by rfl) T.c_WORDS rfl) (by rfl)) (pe_one (pe_meth (pv 0) T.cl_Scope T.me_Scope_is_expression G_Scope_is_expression (hr.mono (by omega)) T.b_Scope_is_expression.choose_spec.2 T.b_Scope_is_expression.choose_spec.1 pass0 (pa_cons (pe_ix ix_tup (pv 1) pe_int (fun _ _ => rfl)) (pa_cons (pe_op op_add (pv 2) pe_int) pa_nil))))))))))))))), ?_⟩
      obtain ⟨dx, ob⟩ := sc.ob
      cases e with
      | num n =>
        obtain ⟨p, xs, rfl, hp, dxs⟩ := dp_tup dv
        obtain ⟨y0, r0, rfl, g0, dxs⟩ := dpAll_cons dxs
        obtain ⟨y1, r1, rfl, g1, dxs⟩ := dpAll_cons dxs
        cases dpAll_nil dxs
        cases dp_str g0
        cases dp_int g1
        refine ⟨_, rfl, _, _, _, _, true, rfl, .ty _, ty_tup hp, kit_tup (.tuple []), _, rfl, ifF rfl ?_⟩
        refine ⟨_, rfl, p, _, rfl, .inr hp, _, _, rfl, rfl, _, rfl, ifD (by show (2 : Int) ≤ 2; decide) ⟨_, _, rfl, rfl, _, rfl, ?_⟩⟩
        refine ifF rfl ?_
        refine ⟨_, rfl, _, _, rfl, rfl, _, rfl, ifN (by omega) ?_⟩
        refine ⟨_, rfl, p, _, 0, _, rfl, rfl, hp, atI_nat (j := 0) rfl, ?_⟩
        dsimp only [gName, List.set]
        refine ⟨_, rfl, _, _, _, _, true, rfl, .ty _, .base (.str _), kit_ty (by decide +kernel), _, rfl, ifF rfl ?_⟩
        refine ⟨_, rfl, rfl, _, rfl, ifD rfl ?_⟩
        exact ⟨_, rfl, p, _, rfl, .inr hp, rfl, _, rfl, ifD rfl ⟨_, rfl, p, _, 1, _, rfl, rfl, hp, atI_nat (j := 1) rfl, n, rfl, wf, q _ Kp.refl sc⟩⟩
      | nam x =>
        obtain ⟨p, xs, rfl, hp, dxs⟩ := dp_tup dv
        obtain ⟨y0, r0, rfl, g0, dxs⟩ := dpAll_cons dxs
        obtain ⟨y1, r1, rfl, g1, dxs⟩ := dpAll_cons dxs
        cases dpAll_nil dxs
        cases dp_str g0
        cases dp_str g1
        refine ⟨_, rfl, _, _, _, _, true, rfl, .ty _, ty_tup hp, kit_tup (.tuple []), _, rfl, ifF rfl ?_⟩
        refine ⟨_, rfl, p, _, rfl, .inr hp, _, _, rfl, rfl, _, rfl, ifD (by show (2 : Int) ≤ 2; decide) ⟨_, _, rfl, rfl, _, rfl, ?_⟩⟩
        refine ifF rfl ?_
        refine ⟨_, rfl, _, _, rfl, rfl, _, rfl, ifN (by omega) ?_⟩
        refine ⟨_, rfl, p, _, 0, _, rfl, rfl, hp, atI_nat (j := 0) rfl, ?_⟩
        dsimp only [gName, List.set]
        refine ⟨_, rfl, _, _, _, _, true, rfl, .ty _, .base (.str _), kit_ty (by decide +kernel), _, rfl, ifF rfl ?_⟩
        refine ⟨_, rfl, rfl, _, rfl, ifN (fun e => absurd (V.str.inj e) (by decide +kernel)) ?_⟩
        refine ⟨_, rfl, rfl, _, rfl, ifD rfl ?_⟩
        exact ⟨_, rfl, p, _, rfl, .inr hp, rfl, _, rfl, ifD rfl ⟨_, rfl, B.p, dx, _, rfl, ob, scF_no (by decide +kernel) (by decide +kernel) (by decide +kernel) (by decide +kernel), _, rfl, p, _, 1, _, rfl, rfl, hp, atI_nat (j := 1) rfl, B, x, hds, rs, ns, m, rfl, sc, wf, fun H1 k1 sc1 => q _ k1 sc1⟩⟩
      | no a =>
        obtain ⟨p, xs, rfl, hp, dxs⟩ := dp_tup dv
        obtain ⟨y0, r0, rfl, g0, dxs⟩ := dpAll_cons dxs
        obtain ⟨y1, r1, rfl, g1, dxs⟩ := dpAll_cons dxs
        cases dpAll_nil dxs
        cases dp_str g0
        refine ⟨_, rfl, _, _, _, _, true, rfl, .ty _, ty_tup hp, kit_tup (.tuple []), _, rfl, ifF rfl ?_⟩
        refine ⟨_, rfl, p, _, rfl, .inr hp, _, _, rfl, rfl, _, rfl, ifD (by show (2 : Int) ≤ 2; decide) ⟨_, _, rfl, rfl, _, rfl, ?_⟩⟩
        refine ifF rfl ?_
        refine ⟨_, rfl, _, _, rfl, rfl, _, rfl, ifN (by omega) ?_⟩
        refine ⟨_, rfl, p, _, 0, _, rfl, rfl, hp, atI_nat (j := 0) rfl, ?_⟩
        dsimp only [gName, List.set]
        refine ⟨_, rfl, _, _, _, _, true, rfl, .ty _, .base (.str _), kit_ty (by decide +kernel), _, rfl, ifF rfl ?_⟩
        refine ⟨_, rfl, rfl, _, rfl, ifN (fun e => absurd (V.str.inj e) (by decide +kernel)) ?_⟩
        refine ⟨_, rfl, rfl, _, rfl, ifN (fun e => absurd (V.str.inj e) (by decide +kernel)) ?_⟩
        refine ⟨_, rfl, rfl, _, rfl, ifD rfl ?_⟩
        exact ⟨_, rfl, p, _, rfl, .inr hp, rfl, _, rfl, ifD rfl ⟨_, rfl, B.p, dx, _, rfl, ob, scF_no (by decide +kernel) (by decide +kernel) (by decide +kernel) (by decide +kernel), _, rfl, p, _, 1, _, rfl, rfl, hp, atI_nat (j := 1) rfl, _, rfl, _, _, rfl, rfl, B, y1, a, deep + 1, hds, rs, ns, m, rfl, sc, g1, wf, by omega, fun H1 k1 sc1 => q _ k1 sc1⟩⟩
      | at_ ro a =>
        obtain ⟨p, xs, rfl, hp, dxs⟩ := dp_tup dv
        obtain ⟨y0, r0, rfl, g0, dxs⟩ := dpAll_cons dxs
        obtain ⟨y1, r1, rfl, g1, dxs⟩ := dpAll_cons dxs
        obtain ⟨y2, r2, rfl, g2, dxs⟩ := dpAll_cons dxs
        cases dpAll_nil dxs
        cases dp_str g0
        cases dp_str g1
        refine ⟨_, rfl, _, _, _, _, true, rfl, .ty _, ty_tup hp, kit_tup (.tuple []), _, rfl, ifF rfl ?_⟩
        refine ⟨_, rfl, p, _, rfl, .inr hp, _, _, rfl, rfl, _, rfl, ifD (by show (2 : Int) ≤ 3; decide) ⟨_, _, rfl, rfl, _, rfl, ?_⟩⟩
        refine ifF rfl ?_
        refine ⟨_, rfl, _, _, rfl, rfl, _, rfl, ifN (by omega) ?_⟩
        refine ⟨_, rfl, p, _, 0, _, rfl, rfl, hp, atI_nat (j := 0) rfl, ?_⟩
        dsimp only [gName, List.set]
        refine ⟨_, rfl, _, _, _, _, true, rfl, .ty _, .base (.str _), kit_ty (by decide +kernel), _, rfl, ifF rfl ?_⟩
        refine ⟨_, rfl, rfl, _, rfl, ifN (fun e => absurd (V.str.inj e) (by decide +kernel)) ?_⟩
        refine ⟨_, rfl, rfl, _, rfl, ifN (fun e => absurd (V.str.inj e) (by decide +kernel)) ?_⟩
        refine ⟨_, rfl, rfl, _, rfl, ifN (fun e => absurd (V.str.inj e) (by decide +kernel)) ?_⟩
        refine ⟨_, rfl, p, _, rfl, .inr hp, rfl, _, rfl, ifNF rfl ?_⟩
        refine ⟨_, rfl, B.p, dx, _, rfl, ob, scF_no (by decide +kernel) (by decide +kernel) (by decide +kernel) (by decide +kernel), _, rfl, p, _, 2, _, rfl, rfl, hp, atI_nat (j := 2) rfl, _, rfl, _, _, rfl, rfl, B, y2, a, deep + 1, hds, rs, ns, m, rfl, sc, g2, wf.2, by omega, fun H1 k1 sc1 => ⟨_, rfl, ifF rfl ?_⟩⟩
        have hp1 := sqT_kp k1 hp
        refine ⟨_, rfl, rfl, _, rfl, ifD rfl ?_⟩
        obtain ⟨dx1, ob1⟩ := sc1.ob
        exact ⟨_, rfl, B.p, dx1, _, rfl, ob1, scF_no (by decide +kernel) (by decide +kernel) (by decide +kernel) (by decide +kernel), _, rfl, p, _, 1, _, rfl, rfl, hp1, atI_nat (j := 1) rfl, B, ro, hds, rs, ns, m, rfl, sc1, wf.1, q _ k1 sc1⟩
      | op wd a b =>
        obtain ⟨hw, wa, wb⟩ := wf
        have nks : ∀ x : Str, x ∉ wds7 → V.str wd ≠ V.str x := fun x hx e => hx (by rw [← V.str.inj e]; exact hw)
        obtain ⟨p, xs, rfl, hp, dxs⟩ := dp_tup dv
        obtain ⟨y0, r0, rfl, g0, dxs⟩ := dpAll_cons dxs
        obtain ⟨y1, r1, rfl, g1, dxs⟩ := dpAll_cons dxs
        obtain ⟨y2, r2, rfl, g2, dxs⟩ := dpAll_cons dxs
        cases dpAll_nil dxs
        cases dp_str g0
        refine ⟨_, rfl, _, _, _, _, true, rfl, .ty _, ty_tup hp, kit_tup (.tuple []), _, rfl, ifF rfl ?_⟩
        refine ⟨_, rfl, p, _, rfl, .inr hp, _, _, rfl, rfl, _, rfl, ifD (by show (2 : Int) ≤ 3; decide) ⟨_, _, rfl, rfl, _, rfl, ?_⟩⟩
        refine ifF rfl ?_
        refine ⟨_, rfl, _, _, rfl, rfl, _, rfl, ifN (by omega) ?_⟩
        refine ⟨_, rfl, p, _, 0, _, rfl, rfl, hp, atI_nat (j := 0) rfl, ?_⟩
        dsimp only [gName, List.set]
        refine ⟨_, rfl, _, _, _, _, true, rfl, .ty _, .base (.str _), kit_ty (by decide +kernel), _, rfl, ifF rfl ?_⟩
        refine ⟨_, rfl, rfl, _, rfl, ifN (nks _ (by decide +kernel)) ?_⟩
        refine ⟨_, rfl, rfl, _, rfl, ifN (nks _ (by decide +kernel)) ?_⟩
        refine ⟨_, rfl, rfl, _, rfl, ifN (nks _ (by decide +kernel)) ?_⟩
        refine ⟨_, rfl, p, _, rfl, .inr hp, rfl, _, rfl, ifNF rfl ?_⟩
        refine ⟨_, rfl, B.p, dx, _, rfl, ob, scF_no (by decide +kernel) (by decide +kernel) (by decide +kernel) (by decide +kernel), _, rfl, p, _, 2, _, rfl, rfl, hp, atI_nat (j := 2) rfl, _, rfl, _, _, rfl, rfl, B, y2, b, deep + 1, hds, rs, ns, m, rfl, sc, g2, wb, by omega, fun H1 k1 sc1 => ⟨_, rfl, ifF rfl ?_⟩⟩
        have hp1 := sqT_kp k1 hp
        refine ⟨_, rfl, rfl, _, rfl, ifN (nks _ (by decide +kernel)) ?_⟩
        have qW : ∀ H', SqT K H' (He.ga K "WORDS") (wds7.map V.str) := fun H' => T.q_WORDS H'
        have inW : (if (false : Bool) = true then !inV (V.str wd) (wds7.map V.str) else inV (V.str wd) (wds7.map V.str)) = decide (wd ∈ wds7) := by rw [if_neg Bool.false_ne_true, in_strs]
        refine ⟨_, rfl, _, _, rfl, .inr (qW _), rfl, flat_strs wds7, ?_⟩
        rw [inW]
        obtain ⟨dx1, ob1⟩ := sc1.ob
        exact ⟨_, rfl, ifD hw ⟨_, rfl, B.p, dx1, _, rfl, ob1, scF_no (by decide +kernel) (by decide +kernel) (by decide +kernel) (by decide +kernel), _, rfl, p, _, 1, _, rfl, rfl, hp1, atI_nat (j := 1) rfl, _, rfl, _, _, rfl, rfl, B, y1, a, deep + 1, hds, rs, ns, m, rfl, sc1, dp_kp k1 _ _ a.noL g1, wa, by omega, fun H2 k2 sc2 => q _ (k1.trans k2) sc2⟩⟩
end

section
variable {P : Program} {w : World} {K : PySem.W.Frag} {mg : Str → Option Value} {base : Heap}
def sp_iscall (K : PySem.W.Frag) : Sp := fun vs H Q _ => ∃ (A : ScA) (v : V) (x g : Str) (es : List Ex) (hds : List (Str × Nat)) (rs ns : List Str) (m : Nat), vs = [.ref A.p, v] ∧ ScAt K H A hds rs ns m ∧ Dp K H v (.tuple [.str "call", .str x, .str g, .tuple (es.map Ex.d)]) ∧ x ∈ ns ∧ (g, es.length) ∈ hds ∧ (∀ e ∈ es, e.Wf ns rs 4) ∧ es.length ≤ 100 ∧
  ∀ H', Kp (fun b => b = A.k) H H' → ScAt K H' A hds rs ns m → Q (.bl true) H'
theorem ok_is_call (T : Top K mg) : FnOk P w K mg base CX0 8 (He.ma K (He.ga K "Scope") "is_call") T.fd_Scope_is_call ["self", "thing"] (sp_iscall K) := by
  have G_Scope_is_variable := ok_is_variable (P := P) (w := w) (base := base) T
  have G_Scope_is_expression := ok_isex (P := P) (w := w) (base := base) T 4
  refine T.F_Scope_is_call.ok sc_Scope_is_call (fun vs H Q E h => ?_) (fun cdv A outer s H vs Q E hr h => ?_)
  · obtain ⟨A, v, x, g, es, hds, rs, ns, m, rfl, _⟩ := h
    rfl
  · obtain ⟨B, v, x, g, es, hds, rs, ns, m, rfl, sc, dv, hx, hg, hes, les, q⟩ := h
    refine ⟨_, PSs.nox (pss_cons (ps_if (PW.pt (pw_or (pt_not (pt_val (pe_meth (pv 0) T.cl_Scope T.me_Scope_is_variable G_Scope_is_variable (hr.mono (by omega)) T.b_Scope_is_variable .nil pass0 (pa_cons (pe_ix ix_tup (pv 1) pe_int (fun _ _ => rfl)) pa_nil)))) (pw_or (pt_not (pt_val (pe_callB call_isi (by rfl) T.m_isinstance (by decide +kernel) (pa_cons (pe_ix ix_tup (pv 1) pe_int (fun _ _ => rfl)) (pa_cons (pe_bltn (v := .ty "str") (by rfl) T.m_str (by decide +kernel) rfl) pa_nil))))) (pw_or1 (pt_cmp (pc_dnotin (hu_of hr) (pe_ix ix_tup (pv 1) pe_int (fun _ _ => rfl)) (pe_fld (pv 0) rfl))))))) (pss_one (ps_ret pe_bl)) pss_nil)
        (pss_cons (ps_if (PW.pt (pw_or (pt_not (pt_val (pe_callB call_isi (by rfl) T.m_isinstance (by decide +kernel) (pa_cons (pe_ix ix_tup (pv 1) pe_int (fun _ _ => rfl)) (pa_cons (pe_bltn (v := .ty "tuple") (by rfl) T.m_tuple (by decide +kernel) rfl) pa_nil))))) (pw_or1 (pt_cmpR op_ne (pe_callB call_len_seq (by rfl) T.m_len (by decide +kernel) (pa_cons (pe_ix ix_tup (pv 1) pe_int (fun _ _ => rfl)) pa_nil)) (pe_dget (hu_of hr) (pe_fld (pv 0) rfl) (pe_ix ix_tup (pv 1) pe_int (fun _ _ => rfl)) (fun _ _ => rfl)) (nomark _))))) (pss_one (ps_ret pe_bl)) pss_nil)
        (pss_one (ps_ret (pe_callB (cr_all (by rfl)) (by rfl) T.m_all (by decide +kernel) (pa_cons (pe_lc (own := [("one", 2)]) (by rfl) sc_Scope_is_call.nd (pi_tup (pe_ix ix_tup (pv 1) pe_int (fun _ _ => rfl))) (blkOk_by (own := [("one", 2)]) (N := N_Scope_is_call) (sc := defScope s_Scope_is_call) (by decide +kernel)) (fun _ _ _ _ _ => (pg_name (i := 2) sc_Scope_is_call.nd rfl (Or.inl rfl))) (fun _ _ _ _ _ => pts_nil) (fun _ _ _ _ _ => (pe_meth (pv 0) T.cl_Scope T.me_Scope_is_expression G_Scope_is_expression (hr.mono (by omega)) T.b2_Scope_is_expression.choose_spec.2 T.b2_Scope_is_expression.choose_spec.1 pass0 (pa_cons (pv 2) pa_nil)))) pa_nil)))))), ?_⟩
    obtain ⟨p, xs, rfl, hp, dxs⟩ := dp_tup dv
    obtain ⟨y0, r0, rfl, g0, dxs⟩ := dpAll_cons dxs
    obtain ⟨y1, r1, rfl, g1, dxs⟩ := dpAll_cons dxs
    obtain ⟨y2, r2, rfl, g2, dxs⟩ := dpAll_cons dxs
    obtain ⟨y3, r3, rfl, g3, dxs⟩ := dpAll_cons dxs
    cases dpAll_nil dxs
    cases dp_str g1
    cases dp_str g2
    obtain ⟨pe, ys, rfl, hpe, dys⟩ := dp_tup g3
    have lys := dpAll_len dys
    rw [List.length_map] at lys
    obtain ⟨dx, ob⟩ := sc.ob
    refine ⟨_, rfl, B.p, dx, _, rfl, ob, scF_no (by decide +kernel) (by decide +kernel) (by decide +kernel) (by decide +kernel), _, rfl, p, _, 1, _, rfl, rfl, hp, atI_nat (j := 1) rfl, B, x, hds, rs, ns, m, rfl, sc, hx, fun H1 k1 sc1 => ⟨_, rfl, ifF rfl ?_⟩⟩
    have hp1 := sqT_kp k1 hp
    have hpe1 := sqT_kp k1 hpe
    refine ⟨_, rfl, p, _, 2, _, rfl, rfl, hp1, atI_nat (j := 2) rfl, _, _, _, _, true, rfl, .ty _, .base (.str _), kit_ty (by decide +kernel), _, rfl, ifF rfl ?_⟩
    obtain ⟨dx1, ob1⟩ := sc1.ob
    obtain ⟨kvs, eh, fh⟩ := sc1.hk
    refine ⟨_, rfl, p, _, 2, _, rfl, rfl, hp1, atI_nat (j := 2) rfl, ?_⟩
    have hget : DGet H1 B.h (.str g) (some (.int (es.length : Int))) := by
      have := DGet.k (k := .inr g) eh
      rw [fh _ hg] at this
      exact this
    refine ⟨_, rfl, B.p, _, dx1, _, _, rfl, ob1, T.cl_Scope, T.no_Scope_heads, scF_heads _ _ _ _, B.h, _, rfl, hget, _, rfl, ifF rfl ?_⟩
    refine ⟨_, rfl, p, _, 3, _, rfl, rfl, hp1, atI_nat (j := 3) rfl, _, _, _, _, true, rfl, .ty _, ty_tup hpe1, kit_tup (.tuple []), _, rfl, ifF rfl ?_⟩
    refine ⟨_, rfl, p, _, 3, _, rfl, rfl, hp1, atI_nat (j := 3) rfl, pe, _, rfl, .inr hpe1, ?_⟩
    refine ⟨_, rfl, B.p, _, dx1, _, _, rfl, ob1, T.cl_Scope, T.no_Scope_heads, scF_heads _ _ _ _, _, rfl, p, _, 2, _, rfl, rfl, hp1, atI_nat (j := 2) rfl, B.h, _, rfl, hget, rfl, _, rfl, ?_⟩
    rw [lys]
    refine ifNF rfl ?_
    refine ⟨_, rfl, p, _, 3, _, rfl, rfl, hp1, atI_nat (j := 3) rfl, pe, rfl, ⟨_, hpe1⟩, fun D nD => ?_⟩
    have s2 := same_new (o := .lst []) nD
    have nDk : B.k ≠ D := by
      obtain ⟨ks, ek, _⟩ := sc1.kk
      exact ne_of_none ek nD
    refine lc_tup (K := K) (a := pe) (xs := ys) (fun j H' => Kp (fun b => b = B.k) H H' ∧ ScAt K H' B hds rs ns m ∧ H' D = some (.lst ((List.replicate j true).map V.bl))) ?_ ?_ ?_ ?_
    · exact ⟨k1.trans (.of_same s2), sc1.sm s2, upd_same⟩
    · intro j H' _ k
      exact sqT_kp k.1 hpe
    · rintro j y H2 hy ⟨k2, sc2, e2⟩
      have jl : j < ys.length := (List.getElem?_eq_some_iff.mp hy).1
      obtain ⟨d, hd, dy⟩ := dpAll_getV dys hy
      rw [List.getElem?_map] at hd
      obtain ⟨e, he, rfl⟩ := Option.map_eq_some_iff.mp hd
      obtain ⟨dx2, ob2⟩ := sc2.ob
      refine ⟨rfl, _, rfl, B.p, dx2, _, rfl, ob2, scF_no (by decide +kernel) (by decide +kernel) (by decide +kernel) (by decide +kernel), _, rfl, B, y, e, 1, hds, rs, ns, m, rfl, sc2, dp_kp k2 _ _ e.noL dy, hes e (List.mem_of_getElem? he), by decide, fun H3 k3 sc3 => ?_⟩
      have e3 := k3 _ _ e2 fun z => absurd z nDk.symm
      have kD : Kp (fun b => b = D) H3 (upd H3 D (.lst ((List.replicate j true).map V.bl ++ [V.bl true]))) := Kp.upd e3 trivial rfl
      have nDH : H D = none := by
        cases z : H D with
        | none => rfl
        | some o => rw [k1 _ _ z fun y => absurd y nDk.symm] at nD; cases nD
      refine ⟨_, e3, by rw [List.length_map, List.length_replicate, sizeLine_eq]; omega, kp_upd_new (k2.trans k3) nDH, ?_, by rw [upd_same, List.replicate_succ', List.map_append]; rfl⟩
      obtain ⟨dx3, ob3⟩ := sc3.ob
      obtain ⟨kv3, eh3, _⟩ := sc3.hk
      refine sc3.kp kD (fun z => ?_) (fun z => ?_) (fun z => ?_) nDk
      · have z' : B.p = D := z
        rw [z', e3] at ob3; cases ob3
      · have z' : B.r = D := z
        have e4 := sc1.rk
        rw [z', nD] at e4
        cases e4
      · have z' : B.h = D := z
        rw [z', e3] at eh3; cases eh3
    · rintro H2 ⟨k2, sc2, e2⟩
      refine ⟨D, _, rfl, .inl (.inl e2), ?_⟩
      have ea : (List.replicate ys.length true).all id = true := by
        rw [List.all_eq_true]
        intro x hx
        rw [List.eq_of_mem_replicate hx]
        rfl
      rw [ea]
      exact q _ k2 sc2
def Sm.plain : Sm → Bool
  | .ite _ _ _ => false
  | .loop _ _ => false
  | _ => true
def sp_isplain (K : PySem.W.Frag) : Sp := fun vs H Q _ => ∃ (A : ScA) (v : V) (t : Sm) (j : Nat) (hds : List (Str × Nat)) (rs ns : List Str) (m : Nat), vs = [.ref A.p, v] ∧ ScAt K H A hds rs ns m ∧ Dp K H v t.d ∧ t.Wf ns rs hds j ∧ t.plain = true ∧ (∀ q ∈ hds, q.2 ≤ 100) ∧
  ∀ H', Kp (fun b => b = A.k) H H' → ScAt K H' A hds rs ns m → Q (.bl true) H'
theorem ok_is_plain (T : Top K mg) : FnOk P w K mg base CX0 9 (He.ma K (He.ga K "Scope") "is_plain") T.fd_Scope_is_plain ["self", "thing"] (sp_isplain K) := by
  have G_Scope_is_variable := ok_is_variable (P := P) (w := w) (base := base) T
  have G_Scope_is_row := ok_is_row (P := P) (w := w) (base := base) T
  have G_Scope_is_expression := ok_isex (P := P) (w := w) (base := base) T 4
  have G_Scope_is_call := ok_is_call (P := P) (w := w) (base := base) T
  have G_is_number := ok_is_number (P := P) (w := w) (base := base) T
  refine T.F_Scope_is_plain.ok sc_Scope_is_plain (fun vs H Q E h => ?_) (fun cdv A outer s H vs Q E hr h => ?_)
  · obtain ⟨A, v, t, j, hds, rs, ns, m, rfl, _⟩ := h
    rfl
  · obtain ⟨B, v, t, j, hds, rs, ns, m, rfl, sc, dv, wf, pl, h100, q⟩ := h
    refine ⟨_, PSs.nox (pss_cons (ps_set (i := 2) sc_Scope_is_plain.nd rfl (Or.inl rfl) (pe_ix ix_tup (pv 1) pe_int (fun _ _ => rfl)))
        (pss_cons (ps_if (pt_cmpR op_eq (pv 2) pe_str (nomark _)) (pss_one (ps_ret (pe_and (pe_cmpR op_eq (pe_callB call_len_seq (by rfl) T.m_len (by decide +kernel) (pa_cons (pv 1) pa_nil)) pe_int (nomark _)) (pe_and (pe_meth (pv 0) T.cl_Scope T.me_Scope_is_variable G_Scope_is_variable (hr.mono (by omega)) T.b_Scope_is_variable .nil pass0 (pa_cons (pe_ix ix_tup (pv 1) pe_int (fun _ _ => rfl)) pa_nil)) (pe_one (pe_meth (pv 0) T.cl_Scope T.me_Scope_is_expression G_Scope_is_expression (hr.mono (by omega)) T.b2_Scope_is_expression.choose_spec.2 T.b2_Scope_is_expression.choose_spec.1 pass0 (pa_cons (pe_ix ix_tup (pv 1) pe_int (fun _ _ => rfl)) pa_nil))))))) pss_nil)
        (pss_cons (ps_if (pt_cmpR op_eq (pv 2) pe_str (nomark _)) (pss_cons (ps_if (PW.pt (pw_or (pt_cmpR op_ne (pe_callB call_len_seq (by rfl) T.m_len (by decide +kernel) (pa_cons (pv 1) pa_nil)) pe_int (nomark _)) (pw_or1 (pt_not (pt_val (pe_meth (pv 0) T.cl_Scope T.me_Scope_is_row G_Scope_is_row (hr.mono (by omega)) T.b_Scope_is_row .nil pass0 (pa_cons (pe_ix ix_tup (pv 1) pe_int (fun _ _ => rfl)) pa_nil))))))) (pss_one (ps_ret pe_bl)) pss_nil)
        (pss_one (ps_ret (pe_and (pe_meth (pv 0) T.cl_Scope T.me_Scope_is_expression G_Scope_is_expression (hr.mono (by omega)) T.b2_Scope_is_expression.choose_spec.2 T.b2_Scope_is_expression.choose_spec.1 pass0 (pa_cons (pe_ix ix_tup (pv 1) pe_int (fun _ _ => rfl)) pa_nil)) (pe_one (pe_meth (pv 0) T.cl_Scope T.me_Scope_is_expression G_Scope_is_expression (hr.mono (by omega)) T.b2_Scope_is_expression.choose_spec.2 T.b2_Scope_is_expression.choose_spec.1 pass0 (pa_cons (pe_ix ix_tup (pv 1) pe_int (fun _ _ => rfl)) pa_nil))))))) pss_nil)
        (pss_cons (ps_if (pt_cmpR op_eq (pv 2) pe_str (nomark _)) (pss_one (ps_ret (pe_and (pe_cmpR op_eq (pe_callB call_len_seq (by rfl) T.m_len (by decide +kernel) (pa_cons (pv 1) pa_nil)) pe_int (nomark _)) (pe_one (pe_meth (pv 0) T.cl_Scope T.me_Scope_is_call G_Scope_is_call (hr.mono (by omega)) T.b_Scope_is_call .nil pass0 (pa_cons (pv 1) pa_nil)))))) pss_nil)
        (pss_cons (ps_if (pt_cmpR op_ne (pe_callB call_len_seq (by rfl) T.m_len (by decide +kernel) (pa_cons (pv 1) pa_nil)) pe_int (nomark _)) (pss_one (ps_ret pe_bl)) pss_nil)
        (pss_cons (ps_if (pt_cmpR op_eq (pv 2) pe_str (nomark _)) (pss_one (ps_ret (pe_and (pe_call G_is_number (hr.mono (by omega)) (by rfl) T.g_is_number T.F_is_number.kp T.b_is_number .nil pass0 (pa_cons (pe_ix ix_tup (pv 1) pe_int (fun _ _ => rfl)) pa_nil)) (pe_one (pe_chain op_le op_le pe_int (pe_ix ix_tup (pv 1) pe_int (fun _ _ => rfl)) (pe_glob (v := .int 99) (by rfl) T.c_MOST_FAIL ⟨_, rfl⟩)))))) pss_nil)
        (pss_one (ps_ret (pe_and (pe_cmpR op_in_seq (pv 2) (pe_tup (pa_cons pe_str (pa_cons pe_str pa_nil))) (by rfl)) (pe_one (pe_meth (pv 0) T.cl_Scope T.me_Scope_is_expression G_Scope_is_expression (hr.mono (by omega)) T.b2_Scope_is_expression.choose_spec.2 T.b2_Scope_is_expression.choose_spec.1 pass0 (pa_cons (pe_ix ix_tup (pv 1) pe_int (fun _ _ => rfl)) pa_nil)))))))))))), ?_⟩
    obtain ⟨dx, ob⟩ := sc.ob
    cases t with
    | set x e =>
      simp only [Sm.d] at dv
      simp only [Sm.Wf] at wf
      obtain ⟨p, xs, rfl, hp, dxs⟩ := dp_tup dv
      obtain ⟨y0, r0, rfl, g0, dxs⟩ := dpAll_cons dxs
      obtain ⟨y1, r1, rfl, g1, dxs⟩ := dpAll_cons dxs
      obtain ⟨y2, r2, rfl, g2, dxs⟩ := dpAll_cons dxs
      cases dpAll_nil dxs
      cases dp_str g0
      refine ⟨_, rfl, p, _, 0, _, rfl, rfl, hp, atI_nat (j := 0) rfl, ?_⟩
      dsimp only [gName, List.set]
      cases dp_str g1
      refine ⟨_, rfl, rfl, _, rfl, ifD rfl ?_⟩
      refine ⟨_, rfl, p, _, rfl, .inr hp, rfl, _, rfl, ifD rfl ⟨_, rfl, B.p, dx, _, rfl, ob, scF_no (by decide +kernel) (by decide +kernel) (by decide +kernel) (by decide +kernel), _, rfl, p, _, 1, _, rfl, rfl, hp, atI_nat (j := 1) rfl, B, x, hds, rs, ns, m, rfl, sc, wf.1, fun H1 k1 sc1 => ⟨_, rfl, ifT rfl ?_⟩⟩⟩
      obtain ⟨dx1, ob1⟩ := sc1.ob
      exact ⟨_, rfl, B.p, dx1, _, rfl, ob1, scF_no (by decide +kernel) (by decide +kernel) (by decide +kernel) (by decide +kernel), _, rfl, p, _, 2, _, rfl, rfl, (sqT_kp k1 hp), atI_nat (j := 2) rfl, B, y2, e, 1, hds, rs, ns, m, rfl, sc1, dp_kp k1 _ _ e.noL g2, wf.2, by decide, fun H2 k2 sc2 => q _ (k1.trans k2) sc2⟩
    | put ro e f =>
      simp only [Sm.d] at dv
      simp only [Sm.Wf] at wf
      obtain ⟨p, xs, rfl, hp, dxs⟩ := dp_tup dv
      obtain ⟨y0, r0, rfl, g0, dxs⟩ := dpAll_cons dxs
      obtain ⟨y1, r1, rfl, g1, dxs⟩ := dpAll_cons dxs
      obtain ⟨y2, r2, rfl, g2, dxs⟩ := dpAll_cons dxs
      obtain ⟨y3, r3, rfl, g3, dxs⟩ := dpAll_cons dxs
      cases dpAll_nil dxs
      cases dp_str g0
      refine ⟨_, rfl, p, _, 0, _, rfl, rfl, hp, atI_nat (j := 0) rfl, ?_⟩
      dsimp only [gName, List.set]
      cases dp_str g1
      refine ⟨_, rfl, rfl, _, rfl, ifN (fun e => absurd (V.str.inj e) (by decide +kernel)) ?_⟩
      refine ⟨_, rfl, rfl, _, rfl, ifD rfl ?_⟩
      refine ⟨_, rfl, p, _, rfl, .inr hp, rfl, _, rfl, ifNF rfl ⟨_, rfl, B.p, dx, _, rfl, ob, scF_no (by decide +kernel) (by decide +kernel) (by decide +kernel) (by decide +kernel), _, rfl, p, _, 1, _, rfl, rfl, hp, atI_nat (j := 1) rfl, B, ro, hds, rs, ns, m, rfl, sc, wf.1, _, rfl, ifF rfl ?_⟩⟩
      refine ⟨_, rfl, B.p, dx, _, rfl, ob, scF_no (by decide +kernel) (by decide +kernel) (by decide +kernel) (by decide +kernel), _, rfl, p, _, 2, _, rfl, rfl, hp, atI_nat (j := 2) rfl, B, y2, e, 1, hds, rs, ns, m, rfl, sc, g2, wf.2.1, by decide, fun H1 k1 sc1 => ⟨_, rfl, ifT rfl ?_⟩⟩
      obtain ⟨dx1, ob1⟩ := sc1.ob
      exact ⟨_, rfl, B.p, dx1, _, rfl, ob1, scF_no (by decide +kernel) (by decide +kernel) (by decide +kernel) (by decide +kernel), _, rfl, p, _, 3, _, rfl, rfl, (sqT_kp k1 hp), atI_nat (j := 3) rfl, B, y3, f, 1, hds, rs, ns, m, rfl, sc1, dp_kp k1 _ _ f.noL g3, wf.2.2, by decide, fun H2 k2 sc2 => q _ (k1.trans k2) sc2⟩
    | call x g es =>
      have dv0 := dv
      simp only [Sm.d] at dv0
      simp only [Sm.d] at dv
      simp only [Sm.Wf] at wf
      obtain ⟨p, xs, rfl, hp, dxs⟩ := dp_tup dv
      obtain ⟨y0, r0, rfl, g0, dxs⟩ := dpAll_cons dxs
      obtain ⟨y1, r1, rfl, g1, dxs⟩ := dpAll_cons dxs
      obtain ⟨y2, r2, rfl, g2, dxs⟩ := dpAll_cons dxs
      obtain ⟨y3, r3, rfl, g3, dxs⟩ := dpAll_cons dxs
      cases dpAll_nil dxs
      cases dp_str g0
      refine ⟨_, rfl, p, _, 0, _, rfl, rfl, hp, atI_nat (j := 0) rfl, ?_⟩
      dsimp only [gName, List.set]
      refine ⟨_, rfl, rfl, _, rfl, ifN (fun e => absurd (V.str.inj e) (by decide +kernel)) ?_⟩
      refine ⟨_, rfl, rfl, _, rfl, ifN (fun e => absurd (V.str.inj e) (by decide +kernel)) ?_⟩
      refine ⟨_, rfl, rfl, _, rfl, ifD rfl ?_⟩
      exact ⟨_, rfl, p, _, rfl, .inr hp, rfl, _, rfl, ifD rfl ⟨_, rfl, B.p, dx, _, rfl, ob, scF_no (by decide +kernel) (by decide +kernel) (by decide +kernel) (by decide +kernel), _, rfl, B, .ref p, x, g, es, hds, rs, ns, m, rfl, sc, dv0, wf.1, wf.2.1, wf.2.2, h100 _ wf.2.1, fun H1 k1 sc1 => q _ k1 sc1⟩⟩
    | fail n =>
      simp only [Sm.d] at dv
      simp only [Sm.Wf] at wf
      obtain ⟨p, xs, rfl, hp, dxs⟩ := dp_tup dv
      obtain ⟨y0, r0, rfl, g0, dxs⟩ := dpAll_cons dxs
      obtain ⟨y1, r1, rfl, g1, dxs⟩ := dpAll_cons dxs
      cases dpAll_nil dxs
      cases dp_str g0
      refine ⟨_, rfl, p, _, 0, _, rfl, rfl, hp, atI_nat (j := 0) rfl, ?_⟩
      dsimp only [gName, List.set]
      cases dp_int g1
      refine ⟨_, rfl, rfl, _, rfl, ifN (fun e => absurd (V.str.inj e) (by decide +kernel)) ?_⟩
      refine ⟨_, rfl, rfl, _, rfl, ifN (fun e => absurd (V.str.inj e) (by decide +kernel)) ?_⟩
      refine ⟨_, rfl, rfl, _, rfl, ifN (fun e => absurd (V.str.inj e) (by decide +kernel)) ?_⟩
      refine ⟨_, rfl, p, _, rfl, .inr hp, rfl, _, rfl, ifNF rfl ?_⟩
      refine ⟨_, rfl, rfl, _, rfl, ifD rfl ?_⟩
      exact ⟨_, rfl, p, _, 1, _, rfl, rfl, hp, atI_nat (j := 1) rfl, n, rfl, ⟨by omega, by omega⟩, _, rfl, ifT rfl ⟨_, rfl, p, _, 1, _, rfl, rfl, hp, atI_nat (j := 1) rfl, _, _, rfl, rfl, _, rfl, ifD wf.1 ⟨_, _, rfl, rfl, blD (by omega) (q _ Kp.refl sc)⟩⟩⟩
    | tell e =>
      simp only [Sm.d] at dv
      simp only [Sm.Wf] at wf
      obtain ⟨p, xs, rfl, hp, dxs⟩ := dp_tup dv
      obtain ⟨y0, r0, rfl, g0, dxs⟩ := dpAll_cons dxs
      obtain ⟨y1, r1, rfl, g1, dxs⟩ := dpAll_cons dxs
      cases dpAll_nil dxs
      cases dp_str g0
      refine ⟨_, rfl, p, _, 0, _, rfl, rfl, hp, atI_nat (j := 0) rfl, ?_⟩
      dsimp only [gName, List.set]
      refine ⟨_, rfl, rfl, _, rfl, ifN (fun e => absurd (V.str.inj e) (by decide +kernel)) ?_⟩
      refine ⟨_, rfl, rfl, _, rfl, ifN (fun e => absurd (V.str.inj e) (by decide +kernel)) ?_⟩
      refine ⟨_, rfl, rfl, _, rfl, ifN (fun e => absurd (V.str.inj e) (by decide +kernel)) ?_⟩
      refine ⟨_, rfl, p, _, rfl, .inr hp, rfl, _, rfl, ifNF rfl ?_⟩
      refine ⟨_, rfl, rfl, _, rfl, ifN (fun e => absurd (V.str.inj e) (by decide +kernel)) ?_⟩
      refine ⟨_, rfl, (by show 2 ≤ sizeLine; rw [sizeLine_eq]; decide), fun pl npl => ⟨pl, _, rfl, .inr (.of upd_same), rfl, by decide +kernel, ?_⟩⟩
      have sl := same_new (o := .tup [V.str "tell", .str "give"]) npl
      refine ⟨_, rfl, ifT (by decide +kernel) ?_⟩
      exact ⟨_, rfl, B.p, dx, _, rfl, (sl _ _ ob), scF_no (by decide +kernel) (by decide +kernel) (by decide +kernel) (by decide +kernel), _, rfl, p, _, 1, _, rfl, rfl, (sqT_sm sl hp), atI_nat (j := 1) rfl, B, y1, e, 1, hds, rs, ns, m, rfl, (sc.sm sl), dp_sm sl g1, wf, by decide, fun H1 k1 sc1 => q _ ((Kp.of_same sl).trans k1) sc1⟩
    | give e =>
      simp only [Sm.d] at dv
      simp only [Sm.Wf] at wf
      obtain ⟨p, xs, rfl, hp, dxs⟩ := dp_tup dv
      obtain ⟨y0, r0, rfl, g0, dxs⟩ := dpAll_cons dxs
      obtain ⟨y1, r1, rfl, g1, dxs⟩ := dpAll_cons dxs
      cases dpAll_nil dxs
      cases dp_str g0
      refine ⟨_, rfl, p, _, 0, _, rfl, rfl, hp, atI_nat (j := 0) rfl, ?_⟩
      dsimp only [gName, List.set]
      refine ⟨_, rfl, rfl, _, rfl, ifN (fun e => absurd (V.str.inj e) (by decide +kernel)) ?_⟩
      refine ⟨_, rfl, rfl, _, rfl, ifN (fun e => absurd (V.str.inj e) (by decide +kernel)) ?_⟩
      refine ⟨_, rfl, rfl, _, rfl, ifN (fun e => absurd (V.str.inj e) (by decide +kernel)) ?_⟩
      refine ⟨_, rfl, p, _, rfl, .inr hp, rfl, _, rfl, ifNF rfl ?_⟩
      refine ⟨_, rfl, rfl, _, rfl, ifN (fun e => absurd (V.str.inj e) (by decide +kernel)) ?_⟩
      refine ⟨_, rfl, (by show 2 ≤ sizeLine; rw [sizeLine_eq]; decide), fun pl npl => ⟨pl, _, rfl, .inr (.of upd_same), rfl, by decide +kernel, ?_⟩⟩
      have sl := same_new (o := .tup [V.str "tell", .str "give"]) npl
      refine ⟨_, rfl, ifT (by decide +kernel) ?_⟩
      exact ⟨_, rfl, B.p, dx, _, rfl, (sl _ _ ob), scF_no (by decide +kernel) (by decide +kernel) (by decide +kernel) (by decide +kernel), _, rfl, p, _, 1, _, rfl, rfl, (sqT_sm sl hp), atI_nat (j := 1) rfl, B, y1, e, 1, hds, rs, ns, m, rfl, (sc.sm sl), dp_sm sl g1, wf, by decide, fun H1 k1 sc1 => q _ ((Kp.of_same sl).trans k1) sc1⟩
    | ite e ys zs => cases pl
    | loop e b => cases pl
end

namespace SetN
open PySem PySem.Spec PyProof.Rows
theorem strs_at {us : List Value} {xs : List Str} (h : StrsAre us xs) : ∀ (i : Nat) (v : Value), us[i]? = some v → ∃ t, v = .str (xs.getD i Str.empty) t := by
  induction h with
  | nil => intro i v e; cases e
  | cons n t _ ih =>
    intro i v e
    cases i with
    | zero => cases e; exact ⟨t, rfl⟩
    | succ i => exact ih i v e
theorem strsAre_of : ∀ {ys : List Str} {us : List Value}, Vals (ys.map V.str) us → StrsAre us ys
  | [], _, h => by cases h; exact .nil
  | _ :: ys, _, h => by
    cases h with
    | cons r t =>
      obtain ⟨k, rfl⟩ := r
      exact .cons _ k (strsAre_of t)
section
variable {prog : Program} {w : World} {A : Around} {R : Result → Shared → Prop} {I : Addr} {fp wr : List Addr} {G : Array GenState → Array GenState → Prop} {n : Nat} {P : Nat → Value → Prop} {St : Nat → Shared → Prop}
theorem loopN (W : WalksS prog w A.in1 I fp wr G n P St) (S : Addr) (hSf : S ∉ fp) (xs : List Str) (hsz : xs.length = n) (hnd : xs.Nodup) (hn1 : n ≤ 60)
    (hval : ∀ i v, P i v → ∃ t, v = .str (xs.getD i Str.empty) t) :
    ∀ (k i : Nat) (s : Shared), n - i = k → i ≤ n → St i s →
      s.heap.SetOf (PySem.strKind prog w) S (fun k' => (xs.take i).any (· == k')) i →
      (∀ s', Moved (S :: wr) G s s' → s'.heap.SetOf (PySem.strKind prog w) S (fun k' => (xs.take n).any (· == k')) n → R (.ok (.ret .none)) s') →
      codeAny (model prog w) A (.builtin "set.update.loop" ⟨[.ref S, .ref I], []⟩) R s := by
  have hSw : S ∉ wr := fun h => hSf (W.sub _ h)
  have hsub : ∀ b ∈ wr, b ∈ S :: wr := fun b hb => List.mem_cons_of_mem _ hb
  intro k
  induction k with
  | zero =>
    intro i s hk hi hst hS hR
    have hin : i = n := by omega
    subst hin
    refine codeAny_builtin PyProof.Rows.F.entry_set_update_loop ?_
    rw [Around.under_plainId PyProof.Rows.F.plain_set_update_loop _]
    show wpAny _ A.in1 (pyNext (.ref I) >>= _) _ _ s
    refine wpAny_bind (W.done s _ _ hst fun s' hm => ?_)
    show wpAny _ A.in1 (ret Value.none) _ _ s'
    exact wpAny_pure (hR s' (hm.mono hsub) (by
      obtain ⟨o, es, ep, t, ho, rest⟩ := hS
      exact ⟨o, es, ep, t, hm.heap S _ hSw ho, rest⟩))
  | succ k ih =>
    intro i s hk hi hst hS hR
    have hlt : i < n := by omega
    refine codeAny_builtin PyProof.Rows.F.entry_set_update_loop ?_
    rw [Around.under_plainId PyProof.Rows.F.plain_set_update_loop _]
    show wpAny _ A.in1 (pyNext (.ref I) >>= _) _ _ s
    refine wpAny_bind (W.item i s _ _ hlt hst fun v s' hP hst' hm => ?_)
    obtain ⟨t, rfl⟩ := hval i v hP
    have hS' : s'.heap.SetOf (PySem.strKind prog w) S (fun k' => (xs.take i).any (· == k')) i := by
      obtain ⟨o, es, ep, tb, ho, rest⟩ := hS
      exact ⟨o, es, ep, tb, hm.heap S _ hSw ho, rest⟩
    show wpAny _ A.in1 (holding [Value.str (xs.getD i Str.empty) t] (setAdd S (.str (xs.getD i Str.empty) t)) >>= _) _ _ s'
    refine wpAny_bind (wpAny_holding ?_)
    unfold setAdd
    refine wpAny_holding ?_
    refine wpAny_bind ((PySem.strKind prog w).pyHash (k := xs.getD i Str.empty) (strKind_is _ _ _ _) ?_)
    refine wpAny_setAddHashed_of (knd := PySem.strKind prog w) (s := { s' with toks := s'.toks + 1 }) (strKind_is _ _ _ _) rfl hS' (by unfold scanBound; omega) fun h' hsb hS2 => ?_
    have hSi : h'.SetOf (PySem.strKind prog w) S (fun k' => (xs.take (i + 1)).any (· == k')) (i + 1) := by
      have hlx : i < xs.length := by omega
      have eg : xs.getD i Str.empty = xs[i] := by rw [List.getD_eq_getElem?_getD, List.getElem?_eq_getElem hlx] <;> rfl
      have no : (xs.take i).any (· == xs.getD i Str.empty) = false := by
        rw [eg]
        refine List.any_eq_false.mpr fun x hx => ?_
        obtain ⟨j, hj, e3⟩ := List.getElem_of_mem hx
        have hji : j < i := by
          rw [List.length_take] at hj
          omega
        have e4 : xs[j]'(Nat.lt_trans hji hlx) = x := by
          rw [← e3, List.getElem_take]
        intro e5
        have e6 : x = xs[i] := eq_of_beq e5
        exact absurd (e4.trans e6) (List.pairwise_iff_getElem.mp hnd j i (Nat.lt_trans hji hlx) hlx hji)
      refine SetOf_congr hS2 (fun k' => ?_) (by rw [if_neg (by rw [no]; exact Bool.false_ne_true)])
      rw [List.take_succ, List.getElem?_eq_getElem hlx, List.any_append, eg]
      show (_ || decide (k' = xs[i])) = (_ || [xs[i]].any (· == k'))
      rw [List.any_cons, List.any_nil, Bool.or_false]
      congr 1
      by_cases e : k' = xs[i]
      · rw [e, decide_eq_true rfl]
        exact (beq_self_eq_true _).symm
      · rw [decide_eq_false e]
        exact (beq_eq_false_iff_ne.mpr fun q => e q.symm).symm
    refine wpAny_pure ⟨plainId_quiet PyProof.Rows.F.plain_set_update_loop _, ih (i + 1) _ (by omega) hlt (W.frame _ s' _ _ hst' (Nat.le_succ _) fun b hb o e => ?_) hSi fun s'' hm'' hS'' => ?_⟩
    · rw [hsb.2 b (fun h : b = S => hSf (by rw [← h]; exact hb))]; exact e
    · refine hR s'' (Moved.trans W.gtrans ((hm.mono hsub).then_heap (Nat.le_succ _) fun b o hb e => ?_) hm'') hS''
      rw [hsb.2 b (fun h : b = S => hb (by rw [h]; exact List.mem_cons_self))]; exact e
end

section
variable {prog : Program} {w : World} {A : Around} {E : Value → Shared → Prop} {s : Shared}
set_option maxHeartbeats 3200000 in
theorem call_set_tupleN {l : Addr} {items : Array Value} {xs : List Str} {Q : Value → Shared → Prop}
    (hh : A.handled = none) (hl : s.heap.IsTuple l items) (hi : PyProof.Rows.StrsAre items.toList xs) (hnd : xs.Nodup) (hn1 : xs.length ≤ 60)
    (h : ∀ (h' : Heap) (tk : Nat), h'.SetOf (PySem.strKind prog w) s.heap.objs.size (fun k' => (xs.take items.size).any (· == k')) items.size →
      (∀ b o, b < s.heap.objs.size → s.heap.get? b = some o → h'.get? b = some o) → Q (.ref s.heap.objs.size) { s with heap := h', toks := tk }) :
    wpAny (model prog w) A (call (.type "set") [.ref l]) Q E s := by
  obtain ⟨c, tl, hmro⟩ := PySem.F.called_set.mro
  have hmade := PySem.F.called_set.made
  have hsub := PySem.F.called_set.sub
  refine wpAny_call (codeAny_of_tree ?_)
  show wpAny _ _ (callAny (.type "set") _) _ _ _
  refine wpAny_pure ⟨Code.quiet_builtin _ (by decide +kernel), codeAny_builtin PySem.F.entry_type_call ?_⟩
  rw [Around.under_plain (weight_type_call_type "set" [.ref l] []) rfl]
  have h1 := PySem.F.called_set.notType
  have h2 := PySem.F.called_set.canCreate
  have hct := PySem.F.typeCall_set_1 (.ref l)
  repeat (any_goals (first | assumption | wp_step))

  refine codeAny_mono (code_set_new_1 (.ref l) (E := E) (Q₁ := fun obj s₁ => ∃ led : Bool, obj = .ref s.heap.objs.size ∧ s₁ = { s with heap := s.heap.push { cls := .type "set", dict := none, data := .set #[] 0 (.fresh 0 0 led) } }) fun led => ⟨led, rfl, rfl⟩) fun r s₁ hr => ?_
  cases r with
  | error e => exact hr
  | ok fl =>
    cases fl with
    | ret obj =>
      obtain ⟨led, rfl, rfl⟩ := hr
      have hS : (s.heap.push { cls := .type "set", dict := none, data := .set #[] 0 (.fresh 0 0 led) }).get? s.heap.objs.size = some { cls := .type "set", dict := none, data := .set #[] 0 (.fresh 0 0 led) } := Heap.get?_push_size _ rfl
      have hT : Shared.TypeIs { s with heap := s.heap.push { cls := .type "set", dict := none, data := .set #[] 0 (.fresh 0 0 led) } } (.ref s.heap.objs.size) "set" := ⟨_, hS, rfl⟩
      have hli := PySem.F.called_set.init.lookup
      have hbi := PySem.F.called_set.init.bind (.ref s.heap.objs.size)
      repeat (any_goals (first | assumption | wp_step))

      refine codeAny_mono (codeAny_call_builtin (R := wants (fun r s₂ => r = .none ∧ ∃ h' tk, s₂ = { s with heap := h', toks := tk } ∧
          h'.SetOf (PySem.strKind prog w) s.heap.objs.size (fun k' => (xs.take items.size).any (· == k')) items.size ∧
          (∀ b o, b < s.heap.objs.size → s.heap.get? b = some o → h'.get? b = some o)) E) PySem.F.called_set.init.plain PySem.F.entry_set_init (check_set_init_1 hT ?_)) fun r₂ s₂ hr₂ => ?_
      · obtain ⟨ol, hol, hcl, nl, hdl⟩ := hl
        obtain ⟨ocls, odict, odata, oslots⟩ := ol
        simp only at hcl hdl
        subst hcl; subst hdl
        have hol' : (s.heap.push { cls := .type "set", dict := none, data := .set #[] 0 (.fresh 0 0 led) }).get? l = some { cls := .type "tuple", dict := odict, data := .seq items nl, slots := oslots } := Heap.get?_push_of_some _ hol
        have hsls := PySem.F.sub_tuple_set
        have hslf := PySem.F.sub_tuple_frozenset
        have hne : (Value.type "tuple" == Value.type "dict") = false := by decide
        have hl1 : (s.heap.push { cls := .type "set", dict := none, data := .set #[] 0 (.fresh 0 0 led) }).IsTuple l items := ⟨_, hol', rfl, nl, rfl⟩
        unfold Builtin.«set.__init__» noKeywords Builtin.Frozenset.updateFrom
        generalize hPI : pyIter = PI
        wp_walk
        subst hPI

        refine wpAny_pyIter_tuple hl1 ?_
        refine wpAny_bind (wpAny_runValue ?_)
        have hlS : l < s.heap.objs.size := Heap.lt_size hol
        have hh3 : A.in1.in1.in1.handled = none := by simp [hh]
        have hneI : l ≠ (s.heap.push { cls := .type "set", dict := none, data := .set #[] 0 (.fresh 0 0 led) }).objs.size := by
          rw [Heap.size_push]; exact Nat.ne_of_lt (Nat.lt_succ_of_lt hlS)
        have hSf : s.heap.objs.size ∉ [(s.heap.push { cls := .type "set", dict := none, data := .set #[] 0 (.fresh 0 0 led) }).objs.size, l] := by
          rw [Heap.size_push]; simp only [List.mem_cons, List.mem_singleton, List.not_mem_nil, or_false, not_or]
          exact ⟨Nat.ne_of_lt (Nat.lt_succ_self _), Nat.ne_of_gt hlS⟩
        have hsz : xs.length = items.size := by rw [← _root_.PyProof.Rows.StrsAre.len_eq hi, Array.length_toList]
        have hval : ∀ (i : Nat) (v : Value), items[i]? = some v → ∃ t, v = .str (xs.getD i Str.empty) t := fun i v hv => strs_at hi i v (by rw [Array.getElem?_toList]; exact hv)
        refine loopN ((Walks.tuple hh3 _ l hneI items).toS) s.heap.objs.size
          hSf xs hsz hnd (by rw [← hsz]; exact hn1) hval (items.size - 0) 0 _ (by omega) (Nat.zero_le _)
          ⟨⟨_, Heap.get?_push_size _ rfl, rfl, rfl⟩, (hl1.push _)⟩ ?hS0 ?hR
        case hS0 =>
          have hget : ((s.heap.push { cls := .type "set", dict := none, data := .set #[] 0 (.fresh 0 0 led) }).push { cls := .type "tuple_iterator", data := .fields #[.ref l, .int 0 0] }).get? s.heap.objs.size
              = some { cls := .type "set", dict := none, data := .set #[] 0 (.fresh 0 0 led) } := Heap.get?_push_of_some _ hS
          exact PyProof.Rows.SetOf_congr ((PyProof.Rows.setObjOf_fresh (knd := PySem.strKind prog w) led).setOf hget (by unfold scanBound; omega)) (fun _ => rfl) rfl
        case hR =>
          intro s' hm hS'
          obtain ⟨h', g', d', tk', os'⟩ := s'
          have eg : g' = s.gens := hm.gens
          have ed : d' = s.drawn := hm.drawn
          have eo : os' = s.os := hm.os
          subst eg; subst ed; subst eo
          show wpAny _ _ _ _ _ _
          refine wpAny_pure ?_
          show wpAny _ _ (ret Value.none) _ _ _
          refine wpAny_pure ⟨rfl, h', tk', rfl, hS', fun b o hb e => ?_⟩
          have hb1 : b ≠ s.heap.objs.size := Nat.ne_of_lt hb
          have hb2 : b ≠ (s.heap.push { cls := .type "set", dict := none, data := .set #[] 0 (.fresh 0 0 led) }).objs.size := by
            rw [Heap.size_push]; exact Nat.ne_of_lt (Nat.lt_succ_of_lt hb)
          exact hm.heap b o (by simp only [List.mem_cons, List.mem_singleton, List.not_mem_nil, or_false, not_or]; exact ⟨hb1, hb2⟩) (Heap.get?_push_of_some _ (Heap.get?_push_of_some _ e))

      · cases r₂ with
        | error e => exact hr₂
        | ok fl₂ =>
          cases fl₂ with
          | ret r =>
            obtain ⟨rfl, h', tk, rfl, hS', hk'⟩ := hr₂
            repeat (any_goals (first | assumption | wp_step))
            exact h _ _ hS' hk'
          | _ => exact hr₂.elim
    | _ => exact hr.elim

end

section
variable {X : Cx}
/-- len(set(xs)), xs a tuple of unlike texts -/
def tLenSetN (K : PySem.W.Frag) (ta : TE) : TE := fun σ H Q => ta σ H fun x H1 => ∃ l, ∃ xs : List Str, x = .ref l ∧ SqT K H1 l (xs.map V.str) ∧ xs.Nodup ∧ xs.length ≤ 60 ∧ Q (.int xs.length) H1
theorem pe_lenSetN {a : Expr} {ta : TE} {p p2 q pos : Pos} (hc : X.calm = true) (hg : Gl X "len") (hm : X.mg "len" = none) (hg2 : Gl X "set") (hm2 : X.mg "set" = none) (ha : PE X a ta)
    (na : starEach [a] X.env = (false, eval a X.env) :: starEach [] X.env := by rfl) : PE X (.Call (.Name "len" p) [.Call (.Name "set" p2) [a] [] q] [] pos) (tLenSetN X.K ta) := by
  refine ⟨fun pins s σ H Q I h => ?_⟩
  refine Call_ (ld_blt I hg hm boot_len ?_)
  refine PyProof.Rows.callWith_builtin1 (PyProof.Rows.args_cons ?_ rfl) rfl rfl
  refine Call_ (ld_blt I hg2 hm2 boot_set ?_)
  refine PyProof.Rows.callWith_type1 (PyProof.Rows.args_cons (thn (ha.run pins s σ H _ I h) fun v s1 ⟨x, H1, I1, r1, q1⟩ => PyProof.Rows.args_nil ?_) na) na rfl
  obtain ⟨l, xs, rfl, hq, hnd, h1, q1⟩ := q1
  cases r1
  obtain ⟨its, r, pl, hz⟩ := I1.tuple hq
  refine call_set_tupleN (I1.ok.hd hc) pl (by simpa using strsAre_of r) hnd h1 fun h' tk hS hk => ?_
  refine PyProof.Rows.args_nil ?_
  have hl : its.toArray.size = xs.length := by rw [List.size_toArray, ← r.length, List.length_map]
  rw [hl] at hS
  obtain ⟨o, es, ep, t, ho, hex, hd, _, _, _, hf, hn⟩ := hS
  have I2 : Inv X pins σ H1 { s1 with heap := h', toks := tk } := I1.kept fun b o e => hk b o (Heap.lt_size e) e
  exact call_len_set ho hex hd hf (by rw [hn] <;> omega) ⟨.int xs.length, H1, I2.tok _, ⟨_, by rw [hn]⟩, q1⟩
end
end SetN
open SetN

section
variable {P : Program} {w : World} {K : PySem.W.Frag} {mg : Str → Option Value} {base : Heap}
theorem kp_at {S : Addr → Prop} {H H1 : Hp} {d : Addr} {o : HO} (k : Kp S H H1) (n : H d = none) : Kp S H (upd H1 d o) := fun c x e f => by
  rw [upd_ne (ne_of_none e n)]
  exact k c x e f
theorem kp_on {S : Addr → Prop} {H H1 : Hp} {d : Addr} {o : HO} {u : HO} (k : Kp S H H1) (e1 : H d = some u) (m : Mut (some u)) (hs : S d) : Kp S H (upd H1 d o) := fun c x e f => by
  by_cases h : c = d
  · subst h
    rw [e1] at e
    cases e
    exact absurd m (f hs)
  · rw [upd_ne h]
    exact k c x e f
theorem putF_ne {x y : Str} {v u : V} {fs : List (Str × V)} (h : y ≠ x) : putF x v ((y, u) :: fs) = (y, u) :: putF x v fs := by
  show (if y = x then _ else _) = _
  rw [if_neg h]
/-- an address that is new later was new before -/
theorem nw_of {H H1 : Hp} {p a : Addr} (k : Kp (fun x => x = p) H H1) (e : ∃ o, H1 p = some o) (n : H1 a = none) : H a = none := by
  cases z : H a with
  | none => rfl
  | some o =>
    obtain ⟨o2, e2⟩ := e
    have := k a o z (fun y => by rw [y, e2] at n; cases n)
    rw [n] at this
    cases this
def sp_arep (K : PySem.W.Frag) : Sp := fun vs H Q _ => ∃ (t : Addr) (ps : List Str), vs = [.ref t] ∧ SqT K H t (ps.map V.str) ∧ (∀ x ∈ ps, IsNm x) ∧ ps.Nodup ∧ ps.length ≤ 4 ∧ ∀ H', Same H H' → Q (.bl true) H'
theorem ok_are_params (T : Top K mg) : FnOk P w K mg base CX0 2 (He.ga K "are_params") T.fd_are_params ["thing"] (sp_arep K) := by
  have G_is_name := ok_is_name (P := P) (w := w) (base := base) T
  refine T.F_are_params.ok sc_are_params (fun vs H Q E h => ?_) (fun cdv A outer s H vs Q E hr h => ?_)
  · obtain ⟨t, ps, rfl, _⟩ := h
    rfl
  · obtain ⟨t, ps, rfl, hp, hn, nd, l4, q⟩ := h
    refine ⟨_, PSs.nox (pss_cons (ps_if (PW.pt (pw_or (pt_not (pt_val (pe_callB call_isi (by rfl) T.m_isinstance (by decide +kernel) (pa_cons (pv 0) (pa_cons (pe_bltn (v := .ty "tuple") (by rfl) T.m_tuple (by decide +kernel) rfl) pa_nil))))) (pw_or (pt_cmpR op_gt (pe_callB call_len_seq (by rfl) T.m_len (by decide +kernel) (pa_cons (pv 0) pa_nil)) (pe_glob (v := .int 4) (by rfl) T.c_MOST_PARAMS ⟨_, rfl⟩) (nomark _)) (pw_or1 (pt_not (pt_val (pe_callB (cr_all (by rfl)) (by rfl) T.m_all (by decide +kernel) (pa_cons (pe_lc (own := [("one", 1)]) (by rfl) sc_are_params.nd (pi_tup (pv 0)) (blkOk_by (own := [("one", 1)]) (N := N_are_params) (sc := defScope s_are_params) (by decide +kernel)) (fun _ _ _ _ _ => (pg_name (i := 1) sc_are_params.nd rfl (Or.inl rfl))) (fun _ _ _ _ _ => pts_nil) (fun _ _ _ _ _ => (pe_call G_is_name (hr.mono (by omega)) (by rfl) T.g_is_name T.F_is_name.kp T.b_is_name .nil pass0 (pa_cons (pv 1) pa_nil)))) pa_nil)))))))) (pss_one (ps_ret pe_bl)) pss_nil)
        (pss_one (ps_ret (pe_cmpR op_eq (SetN.pe_lenSetN (by rfl) (by rfl) T.m_len (by rfl) T.m_set (pv 0)) (pe_callB call_len_seq (by rfl) T.m_len (by decide +kernel) (pa_cons (pv 0) pa_nil)) (nomark _))))), ?_⟩
    have lp : (ps.map V.str).length = ps.length := List.length_map ..
    refine ⟨_, rfl, _, _, _, _, true, rfl, .ty _, ty_tup hp, kit_tup (.tuple []), _, rfl, ifF rfl ?_⟩
    refine ⟨_, rfl, t, _, rfl, .inr hp, _, _, rfl, rfl, _, rfl, ifN (by omega) ?_⟩
    refine ⟨_, rfl, t, rfl, ⟨_, hp⟩, fun D nD => ?_⟩
    have s1 := same_new (o := .lst []) nD
    refine lc_tup (K := K) (a := t) (xs := ps.map V.str) (fun j H' => Same H H' ∧ H' D = some (.lst ((List.replicate j true).map V.bl))) ?_ ?_ ?_ ?_
    · exact ⟨s1, upd_same⟩
    · intro j H' _ k
      exact sqT_sm k.1 hp
    · rintro j y H2 hy ⟨k2, e2⟩
      have jl : j < ps.length := by rw [← lp]; exact (List.getElem?_eq_some_iff.mp hy).1
      rw [List.getElem?_map] at hy
      obtain ⟨x, hx, rfl⟩ := Option.map_eq_some_iff.mp hy
      have nx := hn x (List.mem_of_getElem? hx)
      refine ⟨rfl, _, rfl, .str x, rfl, .inl ⟨x, rfl, Nat.le_trans nx.hi (by decide), fun H3 s3 => ?_⟩⟩
      rw [nmB_ok.mpr nx]
      have e3 := s3 _ _ e2
      refine ⟨_, e3, by rw [List.length_map, List.length_replicate, sizeLine_eq]; omega, ?_, by rw [upd_same, List.replicate_succ', List.map_append]; rfl⟩
      exact fun c x e => by rw [upd_ne (ne_of_none e nD)]; exact (k2.trans s3) c x e
    · rintro H2 ⟨k2, e2⟩
      refine ⟨D, _, rfl, .inl (.inl e2), ?_⟩
      have ea : (List.replicate (ps.map V.str).length true).all id = true := by
        rw [List.all_eq_true]
        intro x hx
        rw [List.eq_of_mem_replicate hx]
        rfl
      rw [ea]
      refine ⟨_, rfl, ifF rfl ?_⟩
      have hp2 := sqT_sm k2 hp
      exact ⟨_, rfl, t, ps, rfl, hp2, nd, by omega, _, rfl, t, _, rfl, .inr hp2, rfl, blD (by rw [lp]) (q _ k2)⟩
def sp_scinit (K : PySem.W.Frag) : Sp := fun vs H Q _ => ∃ (p dx t rA hA : Addr) (ps : List Str) (rs : List V) (kvs : List (Key × V)), vs = [.ref p, .ref t, .ref rA, .ref hA] ∧ H p = some (.ins (He.ga K "Scope") dx []) ∧ SqT K H t (ps.map V.str) ∧ H rA = some (.lst rs) ∧ H hA = some (.dK kvs) ∧
  ps.Nodup ∧ ps.length ≤ 12 ∧ ∀ H' r h k, Kp (fun x => x = p) H H' → H r = none → H h = none → H k = none → h ≠ k → H' p = some (.ins (He.ga K "Scope") dx (scF r h k 0)) → H' r = some (.lst rs) → H' h = some (.dK kvs) → H' k = some (.dK (knD ps)) → Q .non H'
theorem ok_Scope_init (T : Top K mg) : FnOk P w K mg base CX0 1 (He.ma K (He.ga K "Scope") "__init__") T.fd_Scope___init__ ["self", "params", "rows", "heads"] (sp_scinit K) := by
  refine T.F_Scope___init__.ok sc_Scope___init__ (fun vs H Q E h => ?_) (fun cdv A outer s H vs Q E hr h => ?_)
  · obtain ⟨p, dx, t, rA, hA, ps, rs, kvs, rfl, _⟩ := h
    rfl
  · obtain ⟨p, dx, t, rA, hA, ps, rs, kvs, rfl, ep, ht, eR, eH, nd, l12, q⟩ := h
    refine ⟨_, PSs.nox (pss_cons (ps_fld (pv 0) (pe_callTy call_list_of (by rfl) T.m_list (by decide +kernel) (pa_cons (pv 2) pa_nil)) rfl)
        (pss_cons (ps_fld (pv 0) (pe_callTy call_dictD (by rfl) T.m_dict (by decide +kernel) (pa_cons (pv 3) pa_nil)) rfl)
        (pss_cons (ps_fld (pv 0) pe_dnewK rfl)
        (pss_cons (ps_fld (pv 0) pe_int rfl)
        (pss_one (ps_for PassesOwn.never (by rfl) (pi_tup (pv 1)) (pg_name (i := 4) sc_Scope___init__.nd rfl (Or.inl rfl)) (pss_one (ps_dput (hu_of hr) (pe_fld (pv 0) rfl) (pv 4) pe_bl (by rfl))))))))), ?_⟩
    refine ⟨_, rfl, rA, _, rfl, .inl (.of eR), fun r nr => ?_⟩
    have hpr : p ≠ r := ne_of_none ep nr
    refine ⟨_, rfl, p, _, dx, _, rfl, by rw [upd_ne hpr]; exact ep, T.cl_Scope, T.no_Scope_rows, by decide, ?_⟩
    have k1 : Kp (fun x => x = p) H (upd (upd H r (.lst rs)) p (.ins (He.ga K "Scope") dx [("rows", .ref r)])) := kp_on (kp_at Kp.refl nr) ep trivial rfl
    rw [show putF ("rows" : Str) (V.ref r) [] = [(("rows" : Str), V.ref r)] from rfl]
    have eh1 : (upd (upd H r (.lst rs)) p (.ins (He.ga K "Scope") dx [("rows", .ref r)])) hA = some (.dK kvs) := k1 _ _ eH fun z => by rw [z, ep] at eH; cases eH
    have er1 : (upd (upd H r (.lst rs)) p (.ins (He.ga K "Scope") dx [("rows", .ref r)])) r = some (.lst rs) := by rw [upd_ne hpr.symm]; exact upd_same
    have ep1 : (upd (upd H r (.lst rs)) p (.ins (He.ga K "Scope") dx [("rows", .ref r)])) p = some (.ins (He.ga K "Scope") dx [("rows", .ref r)]) := upd_same
    generalize upd (upd H r (.lst rs)) p (.ins (He.ga K "Scope") dx [("rows", .ref r)]) = H1 at k1 eh1 er1 ep1 ⊢
    refine ⟨_, rfl, hA, kvs, rfl, .of eh1, fun h nh => ?_⟩
    have hph : p ≠ h := ne_of_none ep1 nh
    have nh0 := nw_of k1 ⟨_, ep1⟩ nh
    refine ⟨_, rfl, p, _, dx, _, rfl, by rw [upd_ne hph]; exact ep1, T.cl_Scope, T.no_Scope_heads, (by show 1 < 1000; decide), ?_⟩
    rw [putF_ne (x := ("heads" : Str)) (y := ("rows" : Str)) (by decide +kernel), show putF ("heads" : Str) (V.ref h) [] = [(("heads" : Str), V.ref h)] from rfl]
    have k2 : Kp (fun x => x = p) H (upd (upd H1 h (.dK kvs)) p (.ins (He.ga K "Scope") dx [("rows", .ref r), ("heads", .ref h)])) := kp_on (kp_at k1 nh0) ep trivial rfl
    have eh2 : (upd (upd H1 h (.dK kvs)) p (.ins (He.ga K "Scope") dx [("rows", .ref r), ("heads", .ref h)])) h = some (.dK kvs) := by rw [upd_ne hph.symm]; exact upd_same
    have er2 : (upd (upd H1 h (.dK kvs)) p (.ins (He.ga K "Scope") dx [("rows", .ref r), ("heads", .ref h)])) r = some (.lst rs) := by rw [upd_ne hpr.symm, upd_ne (ne_of_none er1 nh)]; exact er1
    have ep2 : (upd (upd H1 h (.dK kvs)) p (.ins (He.ga K "Scope") dx [("rows", .ref r), ("heads", .ref h)])) p = some (.ins (He.ga K "Scope") dx [("rows", .ref r), ("heads", .ref h)]) := upd_same
    generalize upd (upd H1 h (.dK kvs)) p (.ins (He.ga K "Scope") dx [("rows", .ref r), ("heads", .ref h)]) = H2 at k2 eh2 er2 ep2 ⊢
    intro k nk
    have hpk : p ≠ k := ne_of_none ep2 nk
    have nk0 := nw_of k2 ⟨_, ep2⟩ nk
    refine ⟨_, rfl, p, _, dx, _, rfl, by rw [upd_ne hpk]; exact ep2, T.cl_Scope, T.no_Scope_known, (by show 2 < 1000; decide), ?_⟩
    rw [putF_ne (x := ("known" : Str)) (y := ("rows" : Str)) (by decide +kernel), putF_ne (x := ("known" : Str)) (y := ("heads" : Str)) (by decide +kernel), show putF ("known" : Str) (V.ref k) [] = [(("known" : Str), V.ref k)] from rfl]
    have k3 : Kp (fun x => x = p) H (upd (upd H2 k (.dK [])) p (.ins (He.ga K "Scope") dx [("rows", .ref r), ("heads", .ref h), ("known", .ref k)])) := kp_on (kp_at k2 nk0) ep trivial rfl
    have ek3 : (upd (upd H2 k (.dK [])) p (.ins (He.ga K "Scope") dx [("rows", .ref r), ("heads", .ref h), ("known", .ref k)])) k = some (.dK []) := by rw [upd_ne hpk.symm]; exact upd_same
    have hhk : h ≠ k := ne_of_none eh2 nk
    have eh3 : (upd (upd H2 k (.dK [])) p (.ins (He.ga K "Scope") dx [("rows", .ref r), ("heads", .ref h), ("known", .ref k)])) h = some (.dK kvs) := by rw [upd_ne hph.symm, upd_ne hhk]; exact eh2
    have er3 : (upd (upd H2 k (.dK [])) p (.ins (He.ga K "Scope") dx [("rows", .ref r), ("heads", .ref h), ("known", .ref k)])) r = some (.lst rs) := by rw [upd_ne hpr.symm, upd_ne (ne_of_none er2 nk)]; exact er2
    have ep3 : (upd (upd H2 k (.dK [])) p (.ins (He.ga K "Scope") dx [("rows", .ref r), ("heads", .ref h), ("known", .ref k)])) p = some (.ins (He.ga K "Scope") dx [("rows", .ref r), ("heads", .ref h), ("known", .ref k)]) := upd_same
    generalize upd (upd H2 k (.dK [])) p (.ins (He.ga K "Scope") dx [("rows", .ref r), ("heads", .ref h), ("known", .ref k)]) = H3 at k3 ek3 eh3 er3 ep3 ⊢
    refine ⟨_, rfl, p, _, dx, _, rfl, ep3, T.cl_Scope, T.no_Scope_many, (by show 3 < 1000; decide), ?_⟩
    rw [putF_ne (x := ("many" : Str)) (y := ("rows" : Str)) (by decide +kernel), putF_ne (x := ("many" : Str)) (y := ("heads" : Str)) (by decide +kernel), putF_ne (x := ("many" : Str)) (y := ("known" : Str)) (by decide +kernel), show putF ("many" : Str) (V.int 0) [] = [(("many" : Str), V.int 0)] from rfl]
    have k4 : Kp (fun x => x = p) H (upd H3 p (.ins (He.ga K "Scope") dx (scF r h k 0))) := kp_on k3 ep trivial rfl
    have ek4 : (upd H3 p (.ins (He.ga K "Scope") dx (scF r h k 0))) k = some (.dK []) := by rw [upd_ne hpk.symm]; exact ek3
    have eh4 : (upd H3 p (.ins (He.ga K "Scope") dx (scF r h k 0))) h = some (.dK kvs) := by rw [upd_ne hph.symm]; exact eh3
    have er4 : (upd H3 p (.ins (He.ga K "Scope") dx (scF r h k 0))) r = some (.lst rs) := by rw [upd_ne hpr.symm]; exact er3
    have ep4 : (upd H3 p (.ins (He.ga K "Scope") dx (scF r h k 0))) p = some (.ins (He.ga K "Scope") dx (scF r h k 0)) := upd_same
    refine ⟨_, rfl, t, rfl, ⟨_, sqT_kp k4 ht⟩, ?_⟩
    show _
    have lp : (ps.map V.str).length = ps.length := List.length_map ..
    refine for_tup (K := K) (xs := ps.map V.str) (fun j σ' H' => Kp (fun x => x = p) H H' ∧ H' p = some (.ins (He.ga K "Scope") dx (scF r h k 0)) ∧ H' r = some (.lst rs) ∧ H' h = some (.dK kvs) ∧ H' k = some (.dK (knD (ps.take j))) ∧ ∃ x4, σ' = [some (.ref p), some (.ref t), some (.ref rA), some (.ref hA), x4]) ?_ ?_ ?_ ?_
    · exact ⟨k4, ep4, er4, eh4, ek4, _, rfl⟩
    · rintro j σ' H' _ ⟨k', _⟩
      exact sqT_kp k' ht
    · rintro j y σ' H5 hy ⟨k5, ep5, er5, eh5, ek5, x4, rfl⟩
      have jl : j < ps.length := by rw [← lp]; exact (List.getElem?_eq_some_iff.mp hy).1
      rw [List.getElem?_map] at hy
      obtain ⟨x, hx, rfl⟩ := Option.map_eq_some_iff.mp hy
      refine ⟨_, rfl, p, _, dx, _, _, rfl, ep5, T.cl_Scope, T.no_Scope_known, scF_known _ _ _ _, _, rfl, k, _, rfl, .inl ⟨_, .inr x, ek5, rfl, ?_, rfl⟩, ?_⟩
      · rw [sizeLine_eq]
        unfold knD
        rw [List.length_map, List.length_take]
        omega
      · have ht1 : ps.take (j + 1) = ps.take j ++ [x] := by
          rw [List.take_succ, hx]
          rfl
        have nx : x ∉ ps.take j := fun hm => by
          have nd' : (ps.take (j + 1)).Nodup := nd.sublist (List.take_sublist _ _)
          rw [ht1, List.nodup_append] at nd'
          exact nd'.2.2 _ hm _ (List.mem_singleton.mpr rfl) rfl
        rw [put_kn, if_neg nx, ← ht1]
        refine ⟨kp_at k5 nk0, ?_, ?_, ?_, upd_same, _, rfl⟩
        · rw [upd_ne hpk]; exact ep5
        · rw [upd_ne (fun z => by rw [z, ek5] at er5; cases er5)]; exact er5
        · rw [upd_ne hhk]; exact eh5
    · rintro σ' H5 ⟨k5, ep5, er5, eh5, ek5, x4, rfl⟩
      rw [lp, List.take_length] at ek5
      exact q _ _ _ _ k5 nr nh0 nk0 hhk ep5 er5 eh5 ek5
end

section
variable {P : Program} {w : World} {K : PySem.W.Frag} {mg : Str → Option Value} {base : Heap}
theorem strs_dp {H : Hp} : ∀ zs : List Str, DpAll K H (zs.map V.str) (zs.map PyData.str)
  | [] => .nil
  | _ :: r => .cons (.str _) (strs_dp r)
def kvN : List (Key × V) := [(.inr "set", .int 1), (.inr "put", .int 1), (.inr "tell", .int 0), (.inr "give", .int 0), (.inr "call", .int 2)]
def nmN : List (Str × Nat) := [("set", 1), ("put", 1), ("tell", 0), ("give", 0), ("call", 2)]
theorem nm_get : ∀ q ∈ nmN, valV (mergeK [] kvN) (.inr q.1) = some (.int (q.2 : Int)) ∧ q.1 ≠ "fail" ∧ q.2 ≤ 2 := by
  intro q hq
  unfold nmN at hq
  simp only [List.mem_cons, List.not_mem_nil, or_false] at hq
  rcases hq with rfl | rfl | rfl | rfl | rfl <;> exact ⟨rfl, by decide +kernel, by decide⟩
theorem via {α β : Sort _} {C : Prop} (A : α → β → Prop) (h : ∀ a b, A a b → C) (k : (∀ a b, A a b → C) → C) : C := k h
def sp_plainby (K : PySem.W.Frag) : Sp := fun vs H Q _ => ∃ (W : Addr) (t : Sm) (nms rws : List Str) (hds : List (Str × Nat)) (j : Nat), vs = [.ref W] ∧ H W = some (.lst (t.words.map V.str)) ∧ t.Wf nms rws hds j ∧ t.plain = true ∧ t.words.length ≤ 1000 ∧ (∀ q ∈ hds, q.2 ≤ 100) ∧ (∀ x ∈ nms, IsNm x) ∧
  ∀ H' v, Same H H' → Dp K H' v t.d → Q v H'
theorem ok_plain_by (T : Top K mg) : FnOk P w K mg base CX0 13 (He.ga K "plain_by") T.fd_plain_by ["words"] (sp_plainby K) := by
  have G_all_expressions := ok_all_expressions (P := P) (w := w) (base := base) T
  have G_number_by := ok_number_by (P := P) (w := w) (base := base) T
  refine T.F_plain_by.ok sc_plain_by (fun vs H Q E h => ?_) (fun cdv A outer s H vs Q E hr h => ?_)
  · obtain ⟨W, t, nms, rws, hds, j, rfl, _⟩ := h
    rfl
  · obtain ⟨W, t, nms, rws, hds, j, rfl, eW, wf, pl, lW, h100, hn, q⟩ := h
    refine ⟨_, PSs.nox (pss_cons (ps_set (i := 1) sc_plain_by.nd rfl (Or.inl rfl) (pe_ix ix_list (pv 0) pe_int (fun _ _ => rfl)))
        (pss_cons (ps_if (pt_cmpR op_eq (pv 1) pe_str (nomark _)) (pss_one (ps_ret (pe_ifExp (pt_cmpR op_eq (pe_callB call_len_seq (by rfl) T.m_len (by decide +kernel) (pa_cons (pv 0) pa_nil)) pe_int (nomark _)) (pe_tup (pa_cons (pv 1) (pa_cons (pe_call G_number_by (hr.mono (by omega)) (by rfl) T.g_number_by T.F_number_by.kp T.b_number_by .nil pass0 (pa_cons (pe_ix ix_list (pv 0) pe_int (fun _ _ => rfl)) pa_nil)) pa_nil))) pe_non))) pss_nil)
        (pss_cons (ps_set (i := 2) sc_plain_by.nd rfl (Or.inl rfl) (pe_dget2 (hu_of hr) (pe_disp (pps_cons pe_str pe_int (pps_cons pe_str pe_int (pps_cons pe_str pe_int (pps_cons pe_str pe_int (pps_cons pe_str pe_int pps_nil))))) (by rfl) (by rfl) (fun z => by cases z) (by decide)) (pv 1) pe_int ⟨rfl, rfl, rfl, rfl⟩))
        (pss_cons (ps_if (pt_cmpR op_le (pe_callB call_len_seq (by rfl) T.m_len (by decide +kernel) (pa_cons (pv 0) pa_nil)) (pv 2) (nomark _)) (pss_one (ps_ret pe_non)) pss_nil)
        (pss_cons (ps_set (i := 3) sc_plain_by.nd rfl (Or.inl rfl) (pe_call G_all_expressions (hr.mono (by omega)) (by rfl) T.g_all_expressions T.F_all_expressions.kp T.b1_all_expressions.choose_spec.2 T.b1_all_expressions.choose_spec.1 pass0 (pa_cons (pe_slice sl_list (pv 0) (po_some (pe_op op_add (pv 2) pe_int)) po_none) pa_nil)))
        (pss_cons (ps_if (pt_cmpR op_isN (pv 3) pe_non (nomark _)) (pss_one (ps_ret pe_non)) pss_nil)
        (pss_cons (ps_if (pt_cmpR op_eq (pv 1) pe_str (nomark _)) (pss_one (ps_ret (pe_tup (pa_cons (pv 1) (pa_cons (pe_ix ix_list (pv 0) pe_int (fun _ _ => rfl)) (pa_cons (pe_ix ix_list (pv 0) pe_int (fun _ _ => rfl)) (pa_cons (pv 3) pa_nil))))))) pss_nil)
        (pss_one (ps_ret (pe_op op_catA (pe_callTy call_tuple_of (by rfl) T.m_tuple (by decide +kernel) (pa_cons (pe_slice sl_list (pv 0) po_none (po_some (pe_op op_add (pv 2) pe_int))) pa_nil)) (pv 3))))))))))), ?_⟩
    have big : ∀ n : Nat, n ≤ 10000 → n ≤ sizeLine := fun n h => by rw [sizeLine_eq]; omega
    -- all but fail
    refine via (fun (ws0 : List Str) (es : List Ex) => ∃ q0 ∈ nmN, ws0.length = q0.2 + 1 ∧ ws0[0]? = some q0.1 ∧ t.words = ws0 ++ wordsL es ∧ (∀ e ∈ es, e.Wf nms rws 4) ∧ es.length ≤ 100 ∧ (q0.1 = "call" → ∃ x h, ws0 = ([("call" : Str), x, h] : List Str) ∧ t.d = .tuple [.str "call", .str x, .str h, .tuple (es.map Ex.d)]) ∧ (q0.1 ≠ "call" → t.d = .tuple (ws0.map PyData.str ++ es.map Ex.d) ∧ es ≠ [])) (fun ws0 es h => ?_) fun leaf => ?_
    · obtain ⟨⟨hd, n⟩, hq, l0, w0, hw, hes, les, hc, hnc⟩ := h
      obtain ⟨hget, nf, n2⟩ := nm_get _ hq
      simp only at l0 w0 hget nf n2 hc hnc
      rw [hw] at eW lW
      have hat : atI ((ws0 ++ wordsL es).map V.str) 0 = some (.str hd) := by
        refine atI_nat (j := 0) ?_
        rw [List.getElem?_map, List.getElem?_append_left (by omega), w0]
        rfl
      refine ⟨_, rfl, W, _, _, _, rfl, rfl, .of eW, hat, ?_⟩
      dsimp only [gName, List.set]
      refine ⟨_, rfl, rfl, _, rfl, ifN (fun e => nf (V.str.inj e)) ?_⟩
      intro p np
      refine ⟨upd_same, kvN, rfl, by decide, p, rfl, .inl ⟨_, .of upd_same⟩, _, rfl, _, DGet.k (k := .inr hd) upd_same, ?_⟩
      rw [hget]
      have s1 : Same H (upd (upd H p (.dK [])) p (.dK (mergeK [] kvN))) := fun c x e => by
        rw [upd_ne (ne_of_none e np), upd_ne (ne_of_none e np)]; exact e
      generalize upd (upd H p (.dK [])) p (.dK (mergeK [] kvN)) = H1 at s1 ⊢
      dsimp only [gName, List.set, Option.getD]
      have eW1 := s1 _ _ eW
      have lw : ((ws0 ++ wordsL es).map V.str).length = ws0.length + (wordsL es).length := by rw [List.length_map, List.length_append]
      have lW2 : ws0.length + (wordsL es).length ≤ 1000 := by rw [← List.length_append]; exact lW
      have more : n < ws0.length + (wordsL es).length := by omega
      refine ⟨_, rfl, W, _, rfl, .inl (.of eW1), _, rfl, _, _, rfl, rfl, _, rfl, ifN (by rw [lw]; omega) ?_⟩
      refine ⟨_, rfl, _, rfl, _, _, rfl, rfl, _, rfl, W, _, rfl, .inl (.inl eW1), fun S nS => ?_⟩
      have ec : cutV ((ws0 ++ wordsL es).map V.str) (some ((n : Int) + 1)) none = (wordsL es).map V.str := by
        rw [show ((n : Int) + 1) = ((n + 1 : Nat) : Int) from rfl, cutV_from, ← List.map_drop, List.drop_append_of_le_length (by omega), List.drop_of_length_le (by omega), List.nil_append]
      have sS := same_new (o := .lst ((wordsL es).map V.str)) nS
      refine ⟨S, es, .non, nms, rws, rfl, by rw [ec]; exact upd_same, by omega, les, .inl rfl, hes, hn, fun H3 v s3 dv => ?_⟩
      rw [ec] at s3
      have s13 := s1.trans (sS.trans s3)
      dsimp only [gName, List.set]
      obtain ⟨pe, ys, rfl, hpe, dys⟩ := dp_tup dv
      refine ⟨_, rfl, rfl, _, rfl, ifN (fun e => by cases e) ?_⟩
      have eW3 := s13 _ _ eW
      by_cases hcl : hd = "call"
      · subst hcl
        obtain ⟨x, h, ew, ed⟩ := hc rfl
        subst ew
        rw [ed] at q
        refine ⟨_, rfl, rfl, _, rfl, ifD rfl ?_⟩
        refine ⟨_, rfl, _, rfl, W, _, 1, _, rfl, rfl, .of eW3, atI_nat (j := 1) rfl, _, rfl, W, _, 2, _, rfl, rfl, .of eW3, atI_nat (j := 2) rfl, _, rfl, big 4 (by decide), fun t nt => ?_⟩
        have st := same_new (o := .tup [.str "call", .str x, .str h, .ref pe]) nt
        exact q _ _ (s13.trans st) (.tup (.of upd_same) (.cons (.str _) (.cons (.str _) (.cons (.str _) (.cons (dp_sm st dv) .nil)))))
      · refine ⟨_, rfl, rfl, _, rfl, ifN (fun e => hcl (V.str.inj e)) ?_⟩
        obtain ⟨ed, _⟩ := hnc hcl
        rw [ed] at q
        have et : cutV ((ws0 ++ wordsL es).map V.str) none (some ((n : Int) + 1)) = ws0.map V.str := by
          rw [show ((n : Int) + 1) = ((n + 1 : Nat) : Int) from rfl, cutV_to, ← List.map_take, List.take_append_of_le_length (by omega), List.take_of_length_le (by omega)]
        refine ⟨_, rfl, _, rfl, _, _, rfl, rfl, _, rfl, W, _, rfl, .inl (.inl eW3), fun S2 nS2 => ?_⟩
        rw [et]
        have sS2 := same_new (o := .lst (ws0.map V.str)) nS2
        refine ⟨S2, _, rfl, .inl ⟨.of upd_same, fun S3 nS3 => ?_⟩⟩
        have sS3 := same_new (o := .tup (ws0.map V.str)) nS3
        refine ⟨_, rfl, cat_use (.tup (.of upd_same) (strs_dp _) : Dp K _ (.ref S3) (.tuple (ws0.map PyData.str))) (dp_sm (sS2.trans sS3) dv) (strs_noL _) (exs_noL _) (by rw [List.length_map, List.length_map, sizeLine_eq]; omega) (fun H4 r s4 dr => q _ _ (s13.trans (sS2.trans (sS3.trans s4))) dr)⟩
    · have lf := fun ws0 es q0 h1 h2 h3 h4 h5 h6 h7 h8 => leaf ws0 es ⟨q0, h1, h2, h3, h4, h5, h6, h7, h8⟩
      cases t with
      | ite e ys ns => cases pl
      | loop e b => cases pl
      | set x e =>
        simp only [Sm.Wf] at wf
        exact lf ([("set" : Str), x] : List Str) [e] ("set", 1) (by decide +kernel) rfl rfl (by simp [Sm.words, wordsL]) (fun y hy => by rw [List.mem_singleton.mp hy]; exact wf.2) (by show 1 ≤ 100; decide) (fun h => absurd h (by decide +kernel)) (fun _ => ⟨by simp [Sm.d], by simp⟩)
      | put r e f =>
        simp only [Sm.Wf] at wf
        exact lf ([("put" : Str), r] : List Str) [e, f] ("put", 1) (by decide +kernel) rfl rfl (by simp [Sm.words, wordsL]) (fun y hy => by
          simp only [List.mem_cons, List.not_mem_nil, or_false] at hy
          rcases hy with rfl | rfl
          · exact wf.2.1
          · exact wf.2.2) (by show 2 ≤ 100; decide) (fun h => absurd h (by decide +kernel)) (fun _ => ⟨by simp [Sm.d], by simp⟩)
      | tell e =>
        simp only [Sm.Wf] at wf
        exact lf ([("tell" : Str)] : List Str) [e] ("tell", 0) (by decide +kernel) rfl rfl (by simp [Sm.words, wordsL]) (fun y hy => by rw [List.mem_singleton.mp hy]; exact wf) (by show 1 ≤ 100; decide) (fun h => absurd h (by decide +kernel)) (fun _ => ⟨by simp [Sm.d], by simp⟩)
      | give e =>
        simp only [Sm.Wf] at wf
        exact lf ([("give" : Str)] : List Str) [e] ("give", 0) (by decide +kernel) rfl rfl (by simp [Sm.words, wordsL]) (fun y hy => by rw [List.mem_singleton.mp hy]; exact wf) (by show 1 ≤ 100; decide) (fun h => absurd h (by decide +kernel)) (fun _ => ⟨by simp [Sm.d], by simp⟩)
      | call x h es =>
        simp only [Sm.Wf] at wf
        exact lf ([("call" : Str), x, h] : List Str) es ("call", 2) (by decide +kernel) rfl rfl (by simp [Sm.words]) wf.2.2 (h100 _ wf.2.1) (fun _ => ⟨x, h, rfl, by simp [Sm.d]⟩) (fun h => absurd rfl h)
      | fail n =>
        simp only [Sm.Wf] at wf
        have i32 : In32 n := ⟨by omega, by omega⟩
        simp only [Sm.words] at eW
        refine ⟨_, rfl, W, _, 0, _, rfl, rfl, .of eW, atI_nat (j := 0) rfl, ?_⟩
        dsimp only [gName, List.set]
        refine ⟨_, rfl, rfl, _, rfl, ifD rfl ?_⟩
        refine ⟨_, rfl, W, _, rfl, .inl (.of eW), rfl, _, rfl, ifD rfl ?_⟩
        refine ⟨_, rfl, _, rfl, W, _, 1, _, rfl, rfl, .of eW, atI_nat (j := 1) rfl, numS n, rfl, .inl ⟨n, rfl, i32, fun H' s' => ?_⟩⟩
        refine ⟨big 2 (by decide), fun t nt => ?_⟩
        have st := same_new (o := .tup [.str "fail", .int n]) nt
        exact q _ _ (s'.trans st) (.tup (.of upd_same) (.cons (.str _) (.cons (.int _) .nil)))
end

section
variable {P : Program} {w : World} {K : PySem.W.Frag} {mg : Str → Option Value} {base : Heap}
theorem putF_hit (x : Str) (v u : V) (fs : List (Str × V)) : putF x v ((x, u) :: fs) = (x, v) :: fs := by
  show (if x = x then _ else _) = _
  rw [if_pos rfl]
def opF (k : Str) (a : V) (f : Addr) (s : Addr) (b : Bool) : List (Str × V) := [("kind", .str k), ("asked", a), ("first", .ref f), ("second", .ref s), ("turned", .bl b)]
theorem opF_kind (k : Str) (a : V) (f : Addr) (s : Addr) (b : Bool) : (opF k a f s b).lookup ("kind" : Str) = some (.str k) := by
  unfold opF
  rw [List.lookup_cons, show (("kind" : Str) == "kind") = true by decide +kernel]
theorem opF_asked (k : Str) (a : V) (f : Addr) (s : Addr) (b : Bool) : (opF k a f s b).lookup ("asked" : Str) = some (a) := by
  unfold opF
  rw [List.lookup_cons, show (("asked" : Str) == "kind") = false by decide +kernel, List.lookup_cons, show (("asked" : Str) == "asked") = true by decide +kernel]
theorem opF_first (k : Str) (a : V) (f : Addr) (s : Addr) (b : Bool) : (opF k a f s b).lookup ("first" : Str) = some (.ref f) := by
  unfold opF
  rw [List.lookup_cons, show (("first" : Str) == "kind") = false by decide +kernel, List.lookup_cons, show (("first" : Str) == "asked") = false by decide +kernel, List.lookup_cons, show (("first" : Str) == "first") = true by decide +kernel]
theorem opF_second (k : Str) (a : V) (f : Addr) (s : Addr) (b : Bool) : (opF k a f s b).lookup ("second" : Str) = some (.ref s) := by
  unfold opF
  rw [List.lookup_cons, show (("second" : Str) == "kind") = false by decide +kernel, List.lookup_cons, show (("second" : Str) == "asked") = false by decide +kernel, List.lookup_cons, show (("second" : Str) == "first") = false by decide +kernel, List.lookup_cons, show (("second" : Str) == "second") = true by decide +kernel]
theorem opF_turned (k : Str) (a : V) (f : Addr) (s : Addr) (b : Bool) : (opF k a f s b).lookup ("turned" : Str) = some (.bl b) := by
  unfold opF
  rw [List.lookup_cons, show (("turned" : Str) == "kind") = false by decide +kernel, List.lookup_cons, show (("turned" : Str) == "asked") = false by decide +kernel, List.lookup_cons, show (("turned" : Str) == "first") = false by decide +kernel, List.lookup_cons, show (("turned" : Str) == "second") = false by decide +kernel, List.lookup_cons, show (("turned" : Str) == "turned") = true by decide +kernel]
theorem opF_no {k : Str} {a : V} {f : Addr} {s : Addr} {b : Bool} {m : Str} (h0 : (m == ("kind" : Str)) = false) (h1 : (m == ("asked" : Str)) = false) (h2 : (m == ("first" : Str)) = false) (h3 : (m == ("second" : Str)) = false) (h4 : (m == ("turned" : Str)) = false) : (opF k a f s b).lookup m = none := by
  unfold opF
  rw [List.lookup_cons, h0, List.lookup_cons, h1, List.lookup_cons, h2, List.lookup_cons, h3, List.lookup_cons, h4]
  rfl
theorem opF_put_kind (k : Str) (a : V) (f : Addr) (s : Addr) (b : Bool) (z' : Str) : putF ("kind" : Str) (.str z') (opF k a f s b) = opF z' a f s b := by
  unfold opF
  rw [putF_hit]
theorem opF_put_asked (k : Str) (a : V) (f : Addr) (s : Addr) (b : Bool) (z' : V) : putF ("asked" : Str) (z') (opF k a f s b) = opF k z' f s b := by
  unfold opF
  rw [putF_ne (x := ("asked" : Str)) (y := ("kind" : Str)) (by decide +kernel), putF_hit]
theorem opF_put_first (k : Str) (a : V) (f : Addr) (s : Addr) (b : Bool) (z' : Addr) : putF ("first" : Str) (.ref z') (opF k a f s b) = opF k a z' s b := by
  unfold opF
  rw [putF_ne (x := ("first" : Str)) (y := ("kind" : Str)) (by decide +kernel), putF_ne (x := ("first" : Str)) (y := ("asked" : Str)) (by decide +kernel), putF_hit]
theorem opF_put_second (k : Str) (a : V) (f : Addr) (s : Addr) (b : Bool) (z' : Addr) : putF ("second" : Str) (.ref z') (opF k a f s b) = opF k a f z' b := by
  unfold opF
  rw [putF_ne (x := ("second" : Str)) (y := ("kind" : Str)) (by decide +kernel), putF_ne (x := ("second" : Str)) (y := ("asked" : Str)) (by decide +kernel), putF_ne (x := ("second" : Str)) (y := ("first" : Str)) (by decide +kernel), putF_hit]
theorem opF_put_turned (k : Str) (a : V) (f : Addr) (s : Addr) (b : Bool) (z' : Bool) : putF ("turned" : Str) (.bl z') (opF k a f s b) = opF k a f s z' := by
  unfold opF
  rw [putF_ne (x := ("turned" : Str)) (y := ("kind" : Str)) (by decide +kernel), putF_ne (x := ("turned" : Str)) (y := ("asked" : Str)) (by decide +kernel), putF_ne (x := ("turned" : Str)) (y := ("first" : Str)) (by decide +kernel), putF_ne (x := ("turned" : Str)) (y := ("second" : Str)) (by decide +kernel), putF_hit]
def rdF (hp : Addr) (hd : Addr) (h : V) (sc : V) (rw : Addr) (fr : Addr) (pg : V) : List (Str × V) := [("helpers", .ref hp), ("heads", .ref hd), ("head", h), ("scope", sc), ("rows", .ref rw), ("frames", .ref fr), ("program", pg)]
theorem rdF_helpers (hp : Addr) (hd : Addr) (h : V) (sc : V) (rw : Addr) (fr : Addr) (pg : V) : (rdF hp hd h sc rw fr pg).lookup ("helpers" : Str) = some (.ref hp) := by
  unfold rdF
  rw [List.lookup_cons, show (("helpers" : Str) == "helpers") = true by decide +kernel]
theorem rdF_heads (hp : Addr) (hd : Addr) (h : V) (sc : V) (rw : Addr) (fr : Addr) (pg : V) : (rdF hp hd h sc rw fr pg).lookup ("heads" : Str) = some (.ref hd) := by
  unfold rdF
  rw [List.lookup_cons, show (("heads" : Str) == "helpers") = false by decide +kernel, List.lookup_cons, show (("heads" : Str) == "heads") = true by decide +kernel]
theorem rdF_head (hp : Addr) (hd : Addr) (h : V) (sc : V) (rw : Addr) (fr : Addr) (pg : V) : (rdF hp hd h sc rw fr pg).lookup ("head" : Str) = some (h) := by
  unfold rdF
  rw [List.lookup_cons, show (("head" : Str) == "helpers") = false by decide +kernel, List.lookup_cons, show (("head" : Str) == "heads") = false by decide +kernel, List.lookup_cons, show (("head" : Str) == "head") = true by decide +kernel]
theorem rdF_scope (hp : Addr) (hd : Addr) (h : V) (sc : V) (rw : Addr) (fr : Addr) (pg : V) : (rdF hp hd h sc rw fr pg).lookup ("scope" : Str) = some (sc) := by
  unfold rdF
  rw [List.lookup_cons, show (("scope" : Str) == "helpers") = false by decide +kernel, List.lookup_cons, show (("scope" : Str) == "heads") = false by decide +kernel, List.lookup_cons, show (("scope" : Str) == "head") = false by decide +kernel, List.lookup_cons, show (("scope" : Str) == "scope") = true by decide +kernel]
theorem rdF_rows (hp : Addr) (hd : Addr) (h : V) (sc : V) (rw : Addr) (fr : Addr) (pg : V) : (rdF hp hd h sc rw fr pg).lookup ("rows" : Str) = some (.ref rw) := by
  unfold rdF
  rw [List.lookup_cons, show (("rows" : Str) == "helpers") = false by decide +kernel, List.lookup_cons, show (("rows" : Str) == "heads") = false by decide +kernel, List.lookup_cons, show (("rows" : Str) == "head") = false by decide +kernel, List.lookup_cons, show (("rows" : Str) == "scope") = false by decide +kernel, List.lookup_cons, show (("rows" : Str) == "rows") = true by decide +kernel]
theorem rdF_frames (hp : Addr) (hd : Addr) (h : V) (sc : V) (rw : Addr) (fr : Addr) (pg : V) : (rdF hp hd h sc rw fr pg).lookup ("frames" : Str) = some (.ref fr) := by
  unfold rdF
  rw [List.lookup_cons, show (("frames" : Str) == "helpers") = false by decide +kernel, List.lookup_cons, show (("frames" : Str) == "heads") = false by decide +kernel, List.lookup_cons, show (("frames" : Str) == "head") = false by decide +kernel, List.lookup_cons, show (("frames" : Str) == "scope") = false by decide +kernel, List.lookup_cons, show (("frames" : Str) == "rows") = false by decide +kernel, List.lookup_cons, show (("frames" : Str) == "frames") = true by decide +kernel]
theorem rdF_program (hp : Addr) (hd : Addr) (h : V) (sc : V) (rw : Addr) (fr : Addr) (pg : V) : (rdF hp hd h sc rw fr pg).lookup ("program" : Str) = some (pg) := by
  unfold rdF
  rw [List.lookup_cons, show (("program" : Str) == "helpers") = false by decide +kernel, List.lookup_cons, show (("program" : Str) == "heads") = false by decide +kernel, List.lookup_cons, show (("program" : Str) == "head") = false by decide +kernel, List.lookup_cons, show (("program" : Str) == "scope") = false by decide +kernel, List.lookup_cons, show (("program" : Str) == "rows") = false by decide +kernel, List.lookup_cons, show (("program" : Str) == "frames") = false by decide +kernel, List.lookup_cons, show (("program" : Str) == "program") = true by decide +kernel]
theorem rdF_no {hp : Addr} {hd : Addr} {h : V} {sc : V} {rw : Addr} {fr : Addr} {pg : V} {m : Str} (h0 : (m == ("helpers" : Str)) = false) (h1 : (m == ("heads" : Str)) = false) (h2 : (m == ("head" : Str)) = false) (h3 : (m == ("scope" : Str)) = false) (h4 : (m == ("rows" : Str)) = false) (h5 : (m == ("frames" : Str)) = false) (h6 : (m == ("program" : Str)) = false) : (rdF hp hd h sc rw fr pg).lookup m = none := by
  unfold rdF
  rw [List.lookup_cons, h0, List.lookup_cons, h1, List.lookup_cons, h2, List.lookup_cons, h3, List.lookup_cons, h4, List.lookup_cons, h5, List.lookup_cons, h6]
  rfl
theorem rdF_put_helpers (hp : Addr) (hd : Addr) (h : V) (sc : V) (rw : Addr) (fr : Addr) (pg : V) (z' : Addr) : putF ("helpers" : Str) (.ref z') (rdF hp hd h sc rw fr pg) = rdF z' hd h sc rw fr pg := by
  unfold rdF
  rw [putF_hit]
theorem rdF_put_heads (hp : Addr) (hd : Addr) (h : V) (sc : V) (rw : Addr) (fr : Addr) (pg : V) (z' : Addr) : putF ("heads" : Str) (.ref z') (rdF hp hd h sc rw fr pg) = rdF hp z' h sc rw fr pg := by
  unfold rdF
  rw [putF_ne (x := ("heads" : Str)) (y := ("helpers" : Str)) (by decide +kernel), putF_hit]
theorem rdF_put_head (hp : Addr) (hd : Addr) (h : V) (sc : V) (rw : Addr) (fr : Addr) (pg : V) (z' : V) : putF ("head" : Str) (z') (rdF hp hd h sc rw fr pg) = rdF hp hd z' sc rw fr pg := by
  unfold rdF
  rw [putF_ne (x := ("head" : Str)) (y := ("helpers" : Str)) (by decide +kernel), putF_ne (x := ("head" : Str)) (y := ("heads" : Str)) (by decide +kernel), putF_hit]
theorem rdF_put_scope (hp : Addr) (hd : Addr) (h : V) (sc : V) (rw : Addr) (fr : Addr) (pg : V) (z' : V) : putF ("scope" : Str) (z') (rdF hp hd h sc rw fr pg) = rdF hp hd h z' rw fr pg := by
  unfold rdF
  rw [putF_ne (x := ("scope" : Str)) (y := ("helpers" : Str)) (by decide +kernel), putF_ne (x := ("scope" : Str)) (y := ("heads" : Str)) (by decide +kernel), putF_ne (x := ("scope" : Str)) (y := ("head" : Str)) (by decide +kernel), putF_hit]
theorem rdF_put_rows (hp : Addr) (hd : Addr) (h : V) (sc : V) (rw : Addr) (fr : Addr) (pg : V) (z' : Addr) : putF ("rows" : Str) (.ref z') (rdF hp hd h sc rw fr pg) = rdF hp hd h sc z' fr pg := by
  unfold rdF
  rw [putF_ne (x := ("rows" : Str)) (y := ("helpers" : Str)) (by decide +kernel), putF_ne (x := ("rows" : Str)) (y := ("heads" : Str)) (by decide +kernel), putF_ne (x := ("rows" : Str)) (y := ("head" : Str)) (by decide +kernel), putF_ne (x := ("rows" : Str)) (y := ("scope" : Str)) (by decide +kernel), putF_hit]
theorem rdF_put_frames (hp : Addr) (hd : Addr) (h : V) (sc : V) (rw : Addr) (fr : Addr) (pg : V) (z' : Addr) : putF ("frames" : Str) (.ref z') (rdF hp hd h sc rw fr pg) = rdF hp hd h sc rw z' pg := by
  unfold rdF
  rw [putF_ne (x := ("frames" : Str)) (y := ("helpers" : Str)) (by decide +kernel), putF_ne (x := ("frames" : Str)) (y := ("heads" : Str)) (by decide +kernel), putF_ne (x := ("frames" : Str)) (y := ("head" : Str)) (by decide +kernel), putF_ne (x := ("frames" : Str)) (y := ("scope" : Str)) (by decide +kernel), putF_ne (x := ("frames" : Str)) (y := ("rows" : Str)) (by decide +kernel), putF_hit]
theorem rdF_put_program (hp : Addr) (hd : Addr) (h : V) (sc : V) (rw : Addr) (fr : Addr) (pg : V) (z' : V) : putF ("program" : Str) (z') (rdF hp hd h sc rw fr pg) = rdF hp hd h sc rw fr z' := by
  unfold rdF
  rw [putF_ne (x := ("program" : Str)) (y := ("helpers" : Str)) (by decide +kernel), putF_ne (x := ("program" : Str)) (y := ("heads" : Str)) (by decide +kernel), putF_ne (x := ("program" : Str)) (y := ("head" : Str)) (by decide +kernel), putF_ne (x := ("program" : Str)) (y := ("scope" : Str)) (by decide +kernel), putF_ne (x := ("program" : Str)) (y := ("rows" : Str)) (by decide +kernel), putF_ne (x := ("program" : Str)) (y := ("frames" : Str)) (by decide +kernel), putF_hit]
end

section
variable {P : Program} {w : World} {K : PySem.W.Frag} {mg : Str → Option Value} {base : Heap}
theorem same_made {H : Hp} {a dx C : Addr} (ha : H a = none) (hx : H dx = none) (ne : dx ≠ a) : Same H (upd (upd H dx (.own a)) a (.ins C dx [])) := fun c o e => by
  rw [upd_ne (ne_of_none e ha), upd_ne (ne_of_none e hx)]
  exact e
theorem none_sm {H H1 : Hp} {a : Addr} (s : Same H H1) (h : H1 a = none) : H a = none := by
  cases e : H a with
  | none => rfl
  | some o => rw [s a o e] at h; cases h
def OpAt (K : PySem.W.Frag) (H : Hp) (o : Addr) (k : Str) (a : V) (f s : Addr) (b : Bool) : Prop := ∃ dx, H o = some (.ins (He.ga K "Open") dx (opF k a f s b))
def sp_opinit (K : PySem.W.Frag) : Sp := fun vs H Q _ => ∃ (o dx : Addr) (k : Str) (a : V), vs = [.ref o, .str k, a] ∧ H o = some (.ins (He.ga K "Open") dx []) ∧
  ∀ H' f s, Kp (fun x => x = o) H H' → H f = none → H s = none → f ≠ s → H' o = some (.ins (He.ga K "Open") dx (opF k a f s false)) → H' f = some (.lst []) → H' s = some (.lst []) → Q .non H'
theorem ok_Open_init (T : Top K mg) : FnOk P w K mg base CX0 1 (He.ma K (He.ga K "Open") "__init__") T.fd_Open___init__ ["self", "kind", "asked"] (sp_opinit K) := by
  refine T.F_Open___init__.ok sc_Open___init__ (fun vs H Q E h => ?_) (fun cdv A outer s H vs Q E hr h => ?_)
  · obtain ⟨o, dx, k, a, rfl, _⟩ := h
    rfl
  · obtain ⟨p, dx, k, a, rfl, ep, q⟩ := h
    refine ⟨_, PSs.nox (pss_cons (ps_fld (pv 0) (pv 1) rfl)
        (pss_cons (ps_fld (pv 0) (pv 2) rfl)
        (pss_cons (ps_fld (pv 0) (pe_lst pa_nil) rfl)
        (pss_cons (ps_fld (pv 0) (pe_lst pa_nil) rfl)
        (pss_one (ps_fld (pv 0) pe_bl rfl)))))), ?_⟩
    refine ⟨_, rfl, _, rfl, p, _, dx, _, rfl, ep, T.cl_Open, T.no_Open_kind, by decide, ?_⟩
    rw [show putF ("kind" : Str) (V.str k) [] = [(("kind" : Str), V.str k)] from rfl]
    have k1 : Kp (fun x => x = p) H (upd H p (.ins (He.ga K "Open") dx [("kind", .str k)])) := kp_on Kp.refl ep trivial rfl
    have ep1 : (upd H p (.ins (He.ga K "Open") dx [("kind", .str k)])) p = some (.ins (He.ga K "Open") dx [("kind", .str k)]) := upd_same
    generalize upd H p (.ins (He.ga K "Open") dx [("kind", .str k)]) = H1 at k1 ep1 ⊢
    refine ⟨_, rfl, _, rfl, p, _, dx, _, rfl, ep1, T.cl_Open, T.no_Open_asked, (by show 1 < 1000; decide), ?_⟩
    rw [putF_ne (x := ("asked" : Str)) (y := ("kind" : Str)) (by decide +kernel), show putF ("asked" : Str) a [] = [(("asked" : Str), a)] from rfl]
    have k2 : Kp (fun x => x = p) H (upd H1 p (.ins (He.ga K "Open") dx [("kind", .str k), ("asked", a)])) := kp_on k1 ep trivial rfl
    have ep2 : (upd H1 p (.ins (He.ga K "Open") dx [("kind", .str k), ("asked", a)])) p = some (.ins (He.ga K "Open") dx [("kind", .str k), ("asked", a)]) := upd_same
    generalize upd H1 p (.ins (He.ga K "Open") dx [("kind", .str k), ("asked", a)]) = H2 at k2 ep2 ⊢
    refine ⟨Nat.zero_le _, fun f nf => ?_⟩
    have hpf : p ≠ f := ne_of_none ep2 nf
    have nf0 := nw_of k2 ⟨_, ep2⟩ nf
    refine ⟨_, rfl, p, _, dx, _, rfl, by rw [upd_ne hpf]; exact ep2, T.cl_Open, T.no_Open_first, (by show 2 < 1000; decide), ?_⟩
    rw [putF_ne (x := ("first" : Str)) (y := ("kind" : Str)) (by decide +kernel), putF_ne (x := ("first" : Str)) (y := ("asked" : Str)) (by decide +kernel), show putF ("first" : Str) (V.ref f) [] = [(("first" : Str), V.ref f)] from rfl]
    have k3 : Kp (fun x => x = p) H (upd (upd H2 f (.lst [])) p (.ins (He.ga K "Open") dx [("kind", .str k), ("asked", a), ("first", .ref f)])) := kp_on (kp_at k2 nf0) ep trivial rfl
    have ep3 : (upd (upd H2 f (.lst [])) p (.ins (He.ga K "Open") dx [("kind", .str k), ("asked", a), ("first", .ref f)])) p = some (.ins (He.ga K "Open") dx [("kind", .str k), ("asked", a), ("first", .ref f)]) := upd_same
    have ef3 : (upd (upd H2 f (.lst [])) p (.ins (He.ga K "Open") dx [("kind", .str k), ("asked", a), ("first", .ref f)])) f = some (.lst []) := by rw [upd_ne hpf.symm]; exact upd_same
    generalize upd (upd H2 f (.lst [])) p (.ins (He.ga K "Open") dx [("kind", .str k), ("asked", a), ("first", .ref f)]) = H3 at k3 ep3 ef3 ⊢
    refine ⟨Nat.zero_le _, fun s ns => ?_⟩
    have hps : p ≠ s := ne_of_none ep3 ns
    have hfs : f ≠ s := ne_of_none ef3 ns
    have ns0 := nw_of k3 ⟨_, ep3⟩ ns
    refine ⟨_, rfl, p, _, dx, _, rfl, by rw [upd_ne hps]; exact ep3, T.cl_Open, T.no_Open_second, (by show 3 < 1000; decide), ?_⟩
    rw [putF_ne (x := ("second" : Str)) (y := ("kind" : Str)) (by decide +kernel), putF_ne (x := ("second" : Str)) (y := ("asked" : Str)) (by decide +kernel), putF_ne (x := ("second" : Str)) (y := ("first" : Str)) (by decide +kernel), show putF ("second" : Str) (V.ref s) [] = [(("second" : Str), V.ref s)] from rfl]
    have k4 : Kp (fun x => x = p) H (upd (upd H3 s (.lst [])) p (.ins (He.ga K "Open") dx [("kind", .str k), ("asked", a), ("first", .ref f), ("second", .ref s)])) := kp_on (kp_at k3 ns0) ep trivial rfl
    have ep4 : (upd (upd H3 s (.lst [])) p (.ins (He.ga K "Open") dx [("kind", .str k), ("asked", a), ("first", .ref f), ("second", .ref s)])) p = some (.ins (He.ga K "Open") dx [("kind", .str k), ("asked", a), ("first", .ref f), ("second", .ref s)]) := upd_same
    have ef4 : (upd (upd H3 s (.lst [])) p (.ins (He.ga K "Open") dx [("kind", .str k), ("asked", a), ("first", .ref f), ("second", .ref s)])) f = some (.lst []) := by rw [upd_ne hpf.symm, upd_ne hfs]; exact ef3
    have es4 : (upd (upd H3 s (.lst [])) p (.ins (He.ga K "Open") dx [("kind", .str k), ("asked", a), ("first", .ref f), ("second", .ref s)])) s = some (.lst []) := by rw [upd_ne hps.symm]; exact upd_same
    generalize upd (upd H3 s (.lst [])) p (.ins (He.ga K "Open") dx [("kind", .str k), ("asked", a), ("first", .ref f), ("second", .ref s)]) = H4 at k4 ep4 ef4 es4 ⊢
    refine ⟨_, rfl, p, _, dx, _, rfl, ep4, T.cl_Open, T.no_Open_turned, (by show 4 < 1000; decide), ?_⟩
    rw [putF_ne (x := ("turned" : Str)) (y := ("kind" : Str)) (by decide +kernel), putF_ne (x := ("turned" : Str)) (y := ("asked" : Str)) (by decide +kernel), putF_ne (x := ("turned" : Str)) (y := ("first" : Str)) (by decide +kernel), putF_ne (x := ("turned" : Str)) (y := ("second" : Str)) (by decide +kernel), show putF ("turned" : Str) (V.bl false) [] = [(("turned" : Str), V.bl false)] from rfl]
    refine q _ f s (kp_on k4 ep trivial rfl) nf0 ns0 hfs upd_same ?_ ?_
    · rw [upd_ne hpf.symm]; exact ef4
    · rw [upd_ne hps.symm]; exact es4
def sp_opthere (K : PySem.W.Frag) : Sp := fun vs H Q _ => ∃ (o : Addr) (k : Str) (a : V) (f s : Addr) (b : Bool), vs = [.ref o] ∧ OpAt K H o k a f s b ∧ Q (.ref (if b = true then s else f)) H
theorem ok_Open_there (T : Top K mg) : FnOk P w K mg base CX0 1 (He.ma K (He.ga K "Open") "there") T.fd_Open_there ["self"] (sp_opthere K) := by
  refine T.F_Open_there.ok sc_Open_there (fun vs H Q E h => ?_) (fun cdv A outer s H vs Q E hr h => ?_)
  · obtain ⟨o, k, a, f, s, b, rfl, _⟩ := h
    rfl
  · obtain ⟨o, k, a, f, s, b, rfl, ⟨dx, e⟩, q⟩ := h
    refine ⟨_, PSs.nox (pss_one (ps_ret (pe_ifExp (pt_val (pe_fld (pv 0) rfl)) (pe_fld (pv 0) rfl) (pe_fld (pv 0) rfl)))), ?_⟩
    refine ⟨_, rfl, o, _, dx, _, _, rfl, e, T.cl_Open, T.no_Open_turned, opF_turned _ _ _ _ _, _, rfl, ?_⟩
    cases b with
    | true =>
      rw [if_pos rfl] at q ⊢
      exact ⟨_, rfl, o, _, dx, _, _, rfl, e, T.cl_Open, T.no_Open_second, opF_second _ _ _ _ _, q⟩
    | false =>
      rw [if_neg Bool.false_ne_true] at q ⊢
      exact ⟨_, rfl, o, _, dx, _, _, rfl, e, T.cl_Open, T.no_Open_first, opF_first _ _ _ _ _, q⟩
def sp_opclosed (K : PySem.W.Frag) : Sp := fun vs H Q _ => ∃ (o : Addr) (k : Str) (a : V) (f s : Addr) (b : Bool) (d : PyData) (xs ys : List V) (ds es : List PyData), vs = [.ref o] ∧ OpAt K H o k a f s b ∧ Dp K H a d ∧ nLd d = true ∧ H f = some (.lst xs) ∧ DpAll K H xs ds ∧ nLs ds = true ∧ H s = some (.lst ys) ∧ DpAll K H ys es ∧ nLs es = true ∧
  ∀ H' v, Same H H' → Dp K H' v (if k = "while" then .tuple [.str "while", d, .tuple ds] else .tuple [.str "if", d, .tuple ds, .tuple es]) → Q v H'
theorem ok_Open_closed (T : Top K mg) : FnOk P w K mg base CX0 1 (He.ma K (He.ga K "Open") "closed") T.fd_Open_closed ["self"] (sp_opclosed K) := by
  refine T.F_Open_closed.ok sc_Open_closed (fun vs H Q E h => ?_) (fun cdv A outer s H vs Q E hr h => ?_)
  · obtain ⟨o, k, a, f, s, b, d, xs, ys, ds, es, rfl, _⟩ := h
    rfl
  · obtain ⟨o, k, a, f, s, b, d, xs, ys, ds, es, rfl, ⟨dx, e⟩, da, nd, ef, df, nds, es', dse, nes, q⟩ := h
    refine ⟨_, PSs.nox (pss_cons (ps_if (pt_cmpR op_eq (pe_fld (pv 0) rfl) pe_str (nomark _)) (pss_one (ps_ret (pe_tup (pa_cons pe_str (pa_cons (pe_fld (pv 0) rfl) (pa_cons (pe_callTy call_tuple_of (by rfl) T.m_tuple (by decide +kernel) (pa_cons (pe_fld (pv 0) rfl) pa_nil)) pa_nil)))))) pss_nil)
        (pss_one (ps_ret (pe_tup (pa_cons pe_str (pa_cons (pe_fld (pv 0) rfl) (pa_cons (pe_callTy call_tuple_of (by rfl) T.m_tuple (by decide +kernel) (pa_cons (pe_fld (pv 0) rfl) pa_nil)) (pa_cons (pe_callTy call_tuple_of (by rfl) T.m_tuple (by decide +kernel) (pa_cons (pe_fld (pv 0) rfl) pa_nil)) pa_nil)))))))), ?_⟩
    refine ⟨_, rfl, o, _, dx, _, _, rfl, e, T.cl_Open, T.no_Open_kind, opF_kind _ _ _ _ _, rfl, _, rfl, ?_⟩
    by_cases hk : k = "while"
    · rw [if_pos hk] at q
      refine ifD (by rw [hk]) ?_
      refine ⟨_, rfl, o, _, dx, _, _, rfl, e, T.cl_Open, T.no_Open_asked, opF_asked _ _ _ _ _, _, rfl, o, _, dx, _, _, rfl, e, T.cl_Open, T.no_Open_first, opF_first _ _ _ _ _, f, _, rfl, .inl ⟨.of ef, fun t nt => ?_⟩⟩
      have st := same_new (o := .tup xs) nt
      refine ⟨(by show 3 ≤ sizeLine; rw [sizeLine_eq]; decide), fun u nu => ?_⟩
      have su := same_new (o := .tup [.str "while", a, .ref t]) nu
      exact q _ _ (st.trans su) (.tup (.of upd_same) (.cons (.str _) (.cons (dp_sm su (dp_sm st da)) (.cons (dp_sm su (.tup (.of upd_same) (dpAll_same df st nds))) .nil))))
    · rw [if_neg hk] at q
      refine ifN (fun z => hk (V.str.inj z)) ?_
      refine ⟨_, rfl, o, _, dx, _, _, rfl, e, T.cl_Open, T.no_Open_asked, opF_asked _ _ _ _ _, _, rfl, o, _, dx, _, _, rfl, e, T.cl_Open, T.no_Open_first, opF_first _ _ _ _ _, f, _, rfl, .inl ⟨.of ef, fun t nt => ?_⟩⟩
      have st := same_new (o := .tup xs) nt
      refine ⟨_, rfl, o, _, dx, _, _, rfl, st _ _ e, T.cl_Open, T.no_Open_second, opF_second _ _ _ _ _, s, _, rfl, .inl ⟨.of (st _ _ es'), fun t2 nt2 => ?_⟩⟩
      have st2 := same_new (o := .tup ys) nt2
      refine ⟨(by show 4 ≤ sizeLine; rw [sizeLine_eq]; decide), fun u nu => ?_⟩
      have su := same_new (o := .tup [.str "if", a, .ref t, .ref t2]) nu
      exact q _ _ (st.trans (st2.trans su)) (.tup (.of upd_same) (.cons (.str _) (.cons (dp_sm (st.trans (st2.trans su)) da) (.cons (dp_sm (st2.trans su) (.tup (.of upd_same) (dpAll_same df st nds))) (.cons (dp_sm su (.tup (.of upd_same) (dpAll_same dse (st.trans st2) nes))) .nil)))))
end

section
variable {P : Program} {w : World} {K : PySem.W.Frag} {mg : Str → Option Value} {base : Heap}
def sp_rdinit (K : PySem.W.Frag) : Sp := fun vs H Q _ => ∃ (p dx : Addr), vs = [.ref p] ∧ H p = some (.ins (He.ga K "Reader") dx []) ∧
  ∀ H' hp hd rw fr, Kp (fun x => x = p) H H' → H hp = none → H hd = none → H rw = none → H fr = none → hp ≠ rw → hp ≠ fr → rw ≠ fr → H' p = some (.ins (He.ga K "Reader") dx (rdF hp hd .non .non rw fr .non)) → H' hp = some (.lst []) → H' hd = some (.dK []) → H' rw = some (.lst []) → H' fr = some (.lst []) → Q .non H'
theorem ok_Reader_init (T : Top K mg) : FnOk P w K mg base CX0 1 (He.ma K (He.ga K "Reader") "__init__") T.fd_Reader___init__ ["self"] (sp_rdinit K) := by
  refine T.F_Reader___init__.ok sc_Reader___init__ (fun vs H Q E h => ?_) (fun cdv A outer s H vs Q E hr h => ?_)
  · obtain ⟨p, dx, rfl, _⟩ := h
    rfl
  · obtain ⟨p, dx, rfl, ep, q⟩ := h
    refine ⟨_, PSs.nox (pss_cons (ps_fld (pv 0) (pe_lst pa_nil) rfl)
        (pss_cons (ps_fld (pv 0) pe_dnewK rfl)
        (pss_cons (ps_fld (pv 0) pe_non rfl)
        (pss_cons (ps_fld (pv 0) pe_non rfl)
        (pss_cons (ps_fld (pv 0) (pe_lst pa_nil) rfl)
        (pss_cons (ps_fld (pv 0) (pe_lst pa_nil) rfl)
        (pss_one (ps_fld (pv 0) pe_non rfl)))))))), ?_⟩
    have k0 : Kp (fun x => x = p) H H := Kp.refl
    have nwS : ∀ {H1 : Hp} {a : Addr}, Kp (fun x => x = p) H H1 → H1 p ≠ none → H1 a = none → H a = none := fun {H1 a} k e n => by
      cases z : H1 p with
      | none => exact absurd z e
      | some o => exact nw_of k ⟨o, z⟩ n
    have ep0 : H p = some (.ins (He.ga K "Reader") dx []) := ep
    refine ⟨Nat.zero_le _, fun hp nhp => ?_⟩
    have hp_hp : p ≠ hp := ne_of_none ep0 nhp
    have n0hp := nwS k0 (fun z => by rw [ep0] at z; cases z) nhp
    refine ⟨_, rfl, p, _, dx, _, rfl, by rw [upd_ne hp_hp]; exact ep0, T.cl_Reader, T.no_Reader_helpers, (by show 0 < 1000; decide), ?_⟩
    rw [show putF ("helpers" : Str) (V.ref hp) [] = [(("helpers" : Str), V.ref hp)] from rfl]
    have k1 : Kp (fun x => x = p) H (upd (upd H hp (.lst [])) p (.ins (He.ga K "Reader") dx [("helpers", .ref hp)])) := kp_on (kp_at k0 n0hp) ep trivial rfl
    have ep1 : (upd (upd H hp (.lst [])) p (.ins (He.ga K "Reader") dx [("helpers", .ref hp)])) p = some (.ins (He.ga K "Reader") dx [("helpers", .ref hp)]) := upd_same
    have ehp1 : (upd (upd H hp (.lst [])) p (.ins (He.ga K "Reader") dx [("helpers", .ref hp)])) hp = some (.lst []) := by rw [upd_ne hp_hp.symm]; exact upd_same
    generalize upd (upd H hp (.lst [])) p (.ins (He.ga K "Reader") dx [("helpers", .ref hp)]) = G1 at k1 ep1 ehp1 ⊢
    intro hd nhd
    have hp_hd : p ≠ hd := ne_of_none ep1 nhd
    have n0hd := nwS k1 (fun z => by rw [ep1] at z; cases z) nhd
    have ne_hp_hd : hp ≠ hd := ne_of_none ehp1 nhd
    refine ⟨_, rfl, p, _, dx, _, rfl, by rw [upd_ne hp_hd]; exact ep1, T.cl_Reader, T.no_Reader_heads, (by show 1 < 1000; decide), ?_⟩
    rw [putF_ne (x := ("heads" : Str)) (y := ("helpers" : Str)) (by decide +kernel), show putF ("heads" : Str) (V.ref hd) [] = [(("heads" : Str), V.ref hd)] from rfl]
    have k2 : Kp (fun x => x = p) H (upd (upd G1 hd (.dK [])) p (.ins (He.ga K "Reader") dx [("helpers", .ref hp), ("heads", .ref hd)])) := kp_on (kp_at k1 n0hd) ep trivial rfl
    have ep2 : (upd (upd G1 hd (.dK [])) p (.ins (He.ga K "Reader") dx [("helpers", .ref hp), ("heads", .ref hd)])) p = some (.ins (He.ga K "Reader") dx [("helpers", .ref hp), ("heads", .ref hd)]) := upd_same
    have ehp2 : (upd (upd G1 hd (.dK [])) p (.ins (He.ga K "Reader") dx [("helpers", .ref hp), ("heads", .ref hd)])) hp = some (.lst []) := by rw [upd_ne hp_hp.symm, upd_ne ne_hp_hd]; exact ehp1
    have ehd2 : (upd (upd G1 hd (.dK [])) p (.ins (He.ga K "Reader") dx [("helpers", .ref hp), ("heads", .ref hd)])) hd = some (.dK []) := by rw [upd_ne hp_hd.symm]; exact upd_same
    generalize upd (upd G1 hd (.dK [])) p (.ins (He.ga K "Reader") dx [("helpers", .ref hp), ("heads", .ref hd)]) = G2 at k2 ep2 ehp2 ehd2 ⊢
    refine ⟨_, rfl, p, _, dx, _, rfl, ep2, T.cl_Reader, T.no_Reader_head, (by show 2 < 1000; decide), ?_⟩
    rw [putF_ne (x := ("head" : Str)) (y := ("helpers" : Str)) (by decide +kernel), putF_ne (x := ("head" : Str)) (y := ("heads" : Str)) (by decide +kernel), show putF ("head" : Str) (V.non) [] = [(("head" : Str), V.non)] from rfl]
    have k3 : Kp (fun x => x = p) H (upd G2 p (.ins (He.ga K "Reader") dx [("helpers", .ref hp), ("heads", .ref hd), ("head", .non)])) := kp_on k2 ep trivial rfl
    have ep3 : (upd G2 p (.ins (He.ga K "Reader") dx [("helpers", .ref hp), ("heads", .ref hd), ("head", .non)])) p = some (.ins (He.ga K "Reader") dx [("helpers", .ref hp), ("heads", .ref hd), ("head", .non)]) := upd_same
    have ehp3 : (upd G2 p (.ins (He.ga K "Reader") dx [("helpers", .ref hp), ("heads", .ref hd), ("head", .non)])) hp = some (.lst []) := by rw [upd_ne hp_hp.symm]; exact ehp2
    have ehd3 : (upd G2 p (.ins (He.ga K "Reader") dx [("helpers", .ref hp), ("heads", .ref hd), ("head", .non)])) hd = some (.dK []) := by rw [upd_ne hp_hd.symm]; exact ehd2
    generalize upd G2 p (.ins (He.ga K "Reader") dx [("helpers", .ref hp), ("heads", .ref hd), ("head", .non)]) = G3 at k3 ep3 ehp3 ehd3 ⊢
    refine ⟨_, rfl, p, _, dx, _, rfl, ep3, T.cl_Reader, T.no_Reader_scope, (by show 3 < 1000; decide), ?_⟩
    rw [putF_ne (x := ("scope" : Str)) (y := ("helpers" : Str)) (by decide +kernel), putF_ne (x := ("scope" : Str)) (y := ("heads" : Str)) (by decide +kernel), putF_ne (x := ("scope" : Str)) (y := ("head" : Str)) (by decide +kernel), show putF ("scope" : Str) (V.non) [] = [(("scope" : Str), V.non)] from rfl]
    have k4 : Kp (fun x => x = p) H (upd G3 p (.ins (He.ga K "Reader") dx [("helpers", .ref hp), ("heads", .ref hd), ("head", .non), ("scope", .non)])) := kp_on k3 ep trivial rfl
    have ep4 : (upd G3 p (.ins (He.ga K "Reader") dx [("helpers", .ref hp), ("heads", .ref hd), ("head", .non), ("scope", .non)])) p = some (.ins (He.ga K "Reader") dx [("helpers", .ref hp), ("heads", .ref hd), ("head", .non), ("scope", .non)]) := upd_same
    have ehp4 : (upd G3 p (.ins (He.ga K "Reader") dx [("helpers", .ref hp), ("heads", .ref hd), ("head", .non), ("scope", .non)])) hp = some (.lst []) := by rw [upd_ne hp_hp.symm]; exact ehp3
    have ehd4 : (upd G3 p (.ins (He.ga K "Reader") dx [("helpers", .ref hp), ("heads", .ref hd), ("head", .non), ("scope", .non)])) hd = some (.dK []) := by rw [upd_ne hp_hd.symm]; exact ehd3
    generalize upd G3 p (.ins (He.ga K "Reader") dx [("helpers", .ref hp), ("heads", .ref hd), ("head", .non), ("scope", .non)]) = G4 at k4 ep4 ehp4 ehd4 ⊢
    refine ⟨Nat.zero_le _, fun rw nrw => ?_⟩
    have hp_rw : p ≠ rw := ne_of_none ep4 nrw
    have n0rw := nwS k4 (fun z => by rw [ep4] at z; cases z) nrw
    have ne_hp_rw : hp ≠ rw := ne_of_none ehp4 nrw
    have ne_hd_rw : hd ≠ rw := ne_of_none ehd4 nrw
    refine ⟨_, rfl, p, _, dx, _, rfl, by rw [upd_ne hp_rw]; exact ep4, T.cl_Reader, T.no_Reader_rows, (by show 4 < 1000; decide), ?_⟩
    rw [putF_ne (x := ("rows" : Str)) (y := ("helpers" : Str)) (by decide +kernel), putF_ne (x := ("rows" : Str)) (y := ("heads" : Str)) (by decide +kernel), putF_ne (x := ("rows" : Str)) (y := ("head" : Str)) (by decide +kernel), putF_ne (x := ("rows" : Str)) (y := ("scope" : Str)) (by decide +kernel), show putF ("rows" : Str) (V.ref rw) [] = [(("rows" : Str), V.ref rw)] from rfl]
    have k5 : Kp (fun x => x = p) H (upd (upd G4 rw (.lst [])) p (.ins (He.ga K "Reader") dx [("helpers", .ref hp), ("heads", .ref hd), ("head", .non), ("scope", .non), ("rows", .ref rw)])) := kp_on (kp_at k4 n0rw) ep trivial rfl
    have ep5 : (upd (upd G4 rw (.lst [])) p (.ins (He.ga K "Reader") dx [("helpers", .ref hp), ("heads", .ref hd), ("head", .non), ("scope", .non), ("rows", .ref rw)])) p = some (.ins (He.ga K "Reader") dx [("helpers", .ref hp), ("heads", .ref hd), ("head", .non), ("scope", .non), ("rows", .ref rw)]) := upd_same
    have ehp5 : (upd (upd G4 rw (.lst [])) p (.ins (He.ga K "Reader") dx [("helpers", .ref hp), ("heads", .ref hd), ("head", .non), ("scope", .non), ("rows", .ref rw)])) hp = some (.lst []) := by rw [upd_ne hp_hp.symm, upd_ne ne_hp_rw]; exact ehp4
    have ehd5 : (upd (upd G4 rw (.lst [])) p (.ins (He.ga K "Reader") dx [("helpers", .ref hp), ("heads", .ref hd), ("head", .non), ("scope", .non), ("rows", .ref rw)])) hd = some (.dK []) := by rw [upd_ne hp_hd.symm, upd_ne ne_hd_rw]; exact ehd4
    have erw5 : (upd (upd G4 rw (.lst [])) p (.ins (He.ga K "Reader") dx [("helpers", .ref hp), ("heads", .ref hd), ("head", .non), ("scope", .non), ("rows", .ref rw)])) rw = some (.lst []) := by rw [upd_ne hp_rw.symm]; exact upd_same
    generalize upd (upd G4 rw (.lst [])) p (.ins (He.ga K "Reader") dx [("helpers", .ref hp), ("heads", .ref hd), ("head", .non), ("scope", .non), ("rows", .ref rw)]) = G5 at k5 ep5 ehp5 ehd5 erw5 ⊢
    refine ⟨Nat.zero_le _, fun fr nfr => ?_⟩
    have hp_fr : p ≠ fr := ne_of_none ep5 nfr
    have n0fr := nwS k5 (fun z => by rw [ep5] at z; cases z) nfr
    have ne_hp_fr : hp ≠ fr := ne_of_none ehp5 nfr
    have ne_hd_fr : hd ≠ fr := ne_of_none ehd5 nfr
    have ne_rw_fr : rw ≠ fr := ne_of_none erw5 nfr
    refine ⟨_, rfl, p, _, dx, _, rfl, by rw [upd_ne hp_fr]; exact ep5, T.cl_Reader, T.no_Reader_frames, (by show 5 < 1000; decide), ?_⟩
    rw [putF_ne (x := ("frames" : Str)) (y := ("helpers" : Str)) (by decide +kernel), putF_ne (x := ("frames" : Str)) (y := ("heads" : Str)) (by decide +kernel), putF_ne (x := ("frames" : Str)) (y := ("head" : Str)) (by decide +kernel), putF_ne (x := ("frames" : Str)) (y := ("scope" : Str)) (by decide +kernel), putF_ne (x := ("frames" : Str)) (y := ("rows" : Str)) (by decide +kernel), show putF ("frames" : Str) (V.ref fr) [] = [(("frames" : Str), V.ref fr)] from rfl]
    have k6 : Kp (fun x => x = p) H (upd (upd G5 fr (.lst [])) p (.ins (He.ga K "Reader") dx [("helpers", .ref hp), ("heads", .ref hd), ("head", .non), ("scope", .non), ("rows", .ref rw), ("frames", .ref fr)])) := kp_on (kp_at k5 n0fr) ep trivial rfl
    have ep6 : (upd (upd G5 fr (.lst [])) p (.ins (He.ga K "Reader") dx [("helpers", .ref hp), ("heads", .ref hd), ("head", .non), ("scope", .non), ("rows", .ref rw), ("frames", .ref fr)])) p = some (.ins (He.ga K "Reader") dx [("helpers", .ref hp), ("heads", .ref hd), ("head", .non), ("scope", .non), ("rows", .ref rw), ("frames", .ref fr)]) := upd_same
    have ehp6 : (upd (upd G5 fr (.lst [])) p (.ins (He.ga K "Reader") dx [("helpers", .ref hp), ("heads", .ref hd), ("head", .non), ("scope", .non), ("rows", .ref rw), ("frames", .ref fr)])) hp = some (.lst []) := by rw [upd_ne hp_hp.symm, upd_ne ne_hp_fr]; exact ehp5
    have ehd6 : (upd (upd G5 fr (.lst [])) p (.ins (He.ga K "Reader") dx [("helpers", .ref hp), ("heads", .ref hd), ("head", .non), ("scope", .non), ("rows", .ref rw), ("frames", .ref fr)])) hd = some (.dK []) := by rw [upd_ne hp_hd.symm, upd_ne ne_hd_fr]; exact ehd5
    have erw6 : (upd (upd G5 fr (.lst [])) p (.ins (He.ga K "Reader") dx [("helpers", .ref hp), ("heads", .ref hd), ("head", .non), ("scope", .non), ("rows", .ref rw), ("frames", .ref fr)])) rw = some (.lst []) := by rw [upd_ne hp_rw.symm, upd_ne ne_rw_fr]; exact erw5
    have efr6 : (upd (upd G5 fr (.lst [])) p (.ins (He.ga K "Reader") dx [("helpers", .ref hp), ("heads", .ref hd), ("head", .non), ("scope", .non), ("rows", .ref rw), ("frames", .ref fr)])) fr = some (.lst []) := by rw [upd_ne hp_fr.symm]; exact upd_same
    generalize upd (upd G5 fr (.lst [])) p (.ins (He.ga K "Reader") dx [("helpers", .ref hp), ("heads", .ref hd), ("head", .non), ("scope", .non), ("rows", .ref rw), ("frames", .ref fr)]) = G6 at k6 ep6 ehp6 ehd6 erw6 efr6 ⊢
    refine ⟨_, rfl, p, _, dx, _, rfl, ep6, T.cl_Reader, T.no_Reader_program, (by show 6 < 1000; decide), ?_⟩
    rw [putF_ne (x := ("program" : Str)) (y := ("helpers" : Str)) (by decide +kernel), putF_ne (x := ("program" : Str)) (y := ("heads" : Str)) (by decide +kernel), putF_ne (x := ("program" : Str)) (y := ("head" : Str)) (by decide +kernel), putF_ne (x := ("program" : Str)) (y := ("scope" : Str)) (by decide +kernel), putF_ne (x := ("program" : Str)) (y := ("rows" : Str)) (by decide +kernel), putF_ne (x := ("program" : Str)) (y := ("frames" : Str)) (by decide +kernel), show putF ("program" : Str) (V.non) [] = [(("program" : Str), V.non)] from rfl]
    have k7 : Kp (fun x => x = p) H (upd G6 p (.ins (He.ga K "Reader") dx [("helpers", .ref hp), ("heads", .ref hd), ("head", .non), ("scope", .non), ("rows", .ref rw), ("frames", .ref fr), ("program", .non)])) := kp_on k6 ep trivial rfl
    have ep7 : (upd G6 p (.ins (He.ga K "Reader") dx [("helpers", .ref hp), ("heads", .ref hd), ("head", .non), ("scope", .non), ("rows", .ref rw), ("frames", .ref fr), ("program", .non)])) p = some (.ins (He.ga K "Reader") dx [("helpers", .ref hp), ("heads", .ref hd), ("head", .non), ("scope", .non), ("rows", .ref rw), ("frames", .ref fr), ("program", .non)]) := upd_same
    have ehp7 : (upd G6 p (.ins (He.ga K "Reader") dx [("helpers", .ref hp), ("heads", .ref hd), ("head", .non), ("scope", .non), ("rows", .ref rw), ("frames", .ref fr), ("program", .non)])) hp = some (.lst []) := by rw [upd_ne hp_hp.symm]; exact ehp6
    have ehd7 : (upd G6 p (.ins (He.ga K "Reader") dx [("helpers", .ref hp), ("heads", .ref hd), ("head", .non), ("scope", .non), ("rows", .ref rw), ("frames", .ref fr), ("program", .non)])) hd = some (.dK []) := by rw [upd_ne hp_hd.symm]; exact ehd6
    have erw7 : (upd G6 p (.ins (He.ga K "Reader") dx [("helpers", .ref hp), ("heads", .ref hd), ("head", .non), ("scope", .non), ("rows", .ref rw), ("frames", .ref fr), ("program", .non)])) rw = some (.lst []) := by rw [upd_ne hp_rw.symm]; exact erw6
    have efr7 : (upd G6 p (.ins (He.ga K "Reader") dx [("helpers", .ref hp), ("heads", .ref hd), ("head", .non), ("scope", .non), ("rows", .ref rw), ("frames", .ref fr), ("program", .non)])) fr = some (.lst []) := by rw [upd_ne hp_fr.symm]; exact efr6
    generalize upd G6 p (.ins (He.ga K "Reader") dx [("helpers", .ref hp), ("heads", .ref hd), ("head", .non), ("scope", .non), ("rows", .ref rw), ("frames", .ref fr), ("program", .non)]) = G7 at k7 ep7 ehp7 ehd7 erw7 efr7 ⊢
    exact q _ hp hd rw fr k7 n0hp n0hd n0rw n0fr ne_hp_rw ne_hp_fr ne_rw_fr ep7 ehp7 ehd7 erw7 efr7
end

section
variable {P : Program} {w : World} {K : PySem.W.Frag} {mg : Str → Option Value} {base : Heap}
theorem atI_lastR (oi : List Addr) (o : Addr) : atI ((oi ++ [o]).map V.ref) (-1) = some (.ref o) := by
  rw [List.map_append]
  exact atI_last _ _
/-- a body that is being read -/
structure Bd (K : PySem.W.Frag) (Hb H : Hp) (R hp hd : Addr) (hA : V) (A : ScA) (rw fr : Addr) (hds : List (Str × Nat)) (rs ns : List Str) (oi : List Addr) (o L : Addr) (xs : List V) (ts : List Sm) (m : Nat) : Prop where
  sb : Same Hb H
  ob : ∃ dx, H R = some (.ins (He.ga K "Reader") dx (rdF hp hd hA (.ref A.p) rw fr .non))
  ef : H fr = some (.lst ((oi ++ [o]).map V.ref))
  top : ∃ k a f s b, OpAt K H o k a f s b ∧ L = if b = true then s else f
  ls : H L = some (.lst xs)
  da : DpAll K H xs (Sm.ds ts)
  sc : ScAt K H A hds rs ns m
  ne : L ≠ fr
  rl : A.r ≠ L
  rr : A.r ≠ fr
  n1 : Hb L = none
  n2 : Hb fr = none
  n3 : Hb A.p = none
  n4 : Hb A.k = none
def fS (fr : Addr) (A : ScA) : Addr → Prop := fun b => b = fr ∨ b = A.p ∨ b = A.k
def bS (L fr : Addr) (A : ScA) : Addr → Prop := fun b => b = L ∨ b = fr ∨ b = A.p ∨ b = A.k
theorem ds_len : ∀ ts : List Sm, (Sm.ds ts).length = ts.length
  | [] => rfl
  | _ :: r => congrArg (· + 1) (ds_len r)
theorem ds_app : ∀ (ts us : List Sm), Sm.ds (ts ++ us) = Sm.ds ts ++ Sm.ds us
  | [], _ => rfl
  | _ :: r, us => congrArg (_ :: ·) (ds_app r us)
theorem kp_seq {S S' : Addr → Prop} {H H1 H2 : Hp} (k : Kp S H H1) (k' : Kp S' H1 H2) (h : ∀ c o, H c = some o → S' c → S c) : Kp S H H2 := fun c o e f => k' c o (k c o e f) fun z => f (h c o e z)
theorem kp_wk {S S' : Addr → Prop} {H H1 : Hp} (k : Kp S' H H1) (h : ∀ c, S' c → S c) : Kp S H H1 := fun c o e f => k c o e fun z => f (h c z)
theorem dpAll_snoc {H : Hp} : ∀ {xs : List V} {ds : List PyData} {x : V} {d : PyData}, DpAll K H xs ds → Dp K H x d → DpAll K H (xs ++ [x]) (ds ++ [d])
  | _, _, _, _, .nil, h => .cons h .nil
  | _, _, _, _, .cons a b, h => .cons a (dpAll_snoc b h)
section
variable {Hb H : Hp} {R hp hd : Addr} {hA : V} {A : ScA} {rw fr : Addr} {hds : List (Str × Nat)} {rs ns : List Str} {oi : List Addr} {o L : Addr} {xs : List V} {ts : List Sm} {m : Nat}
theorem Bd.sm {H' : Hp} (h : Bd K Hb H R hp hd hA A rw fr hds rs ns oi o L xs ts m) (s : Same H H') : Bd K Hb H' R hp hd hA A rw fr hds rs ns oi o L xs ts m := by
  obtain ⟨dx, ob⟩ := h.ob
  obtain ⟨k, a, f, s2, b, ⟨dxo, obo⟩, el⟩ := h.top
  exact ⟨h.sb.trans s, ⟨dx, s _ _ ob⟩, s _ _ h.ef, ⟨k, a, f, s2, b, ⟨dxo, s _ _ obo⟩, el⟩, s _ _ h.ls, dpAll_same h.da s (Sm.noLs _), h.sc.sm s, h.ne, h.rl, h.rr, h.n1, h.n2, h.n3, h.n4⟩
theorem opF_ne_scF {k : Str} {a : V} {f s : Addr} {b : Bool} {r h k' : Addr} {n : Int} : opF k a f s b ≠ scF r h k' n := fun e => by
  have e2 := congrArg (fun l => (l.map Prod.fst).head?) e
  unfold opF scF at e2
  exact absurd (show ("kind" : Str) = "rows" from Option.some.inj e2) (by decide +kernel)
theorem rdF_ne_scF {hp hd : Addr} {h sc : V} {rw fr : Addr} {pg : V} {r h' k' : Addr} {n : Int} : rdF hp hd h sc rw fr pg ≠ scF r h' k' n := fun e => by
  have e2 := congrArg (fun l => (l.map Prod.fst).head?) e
  unfold rdF scF at e2
  exact absurd (show ("helpers" : Str) = "rows" from Option.some.inj e2) (by decide +kernel)
theorem opF_ne_rdF {hp hd : Addr} {h sc : V} {rw fr : Addr} {pg : V} {k : Str} {a : V} {f s : Addr} {b : Bool} : opF k a f s b ≠ rdF hp hd h sc rw fr pg := fun e => by
  have e2 := congrArg (fun l => (l.map Prod.fst).head?) e
  unfold opF rdF at e2
  exact absurd (show ("kind" : Str) = "helpers" from Option.some.inj e2) (by decide +kernel)
/-- which addresses are unlike -/
structure BdN (R : Addr) (A : ScA) (rw fr o L : Addr) : Prop where
  ro : R ≠ o
  rp : R ≠ A.p
  rk : R ≠ A.k
  rf : R ≠ fr
  rl : R ≠ L
  op : o ≠ A.p
  ok : o ≠ A.k
  of : o ≠ fr
  ol : o ≠ L
  lp : L ≠ A.p
  lk : L ≠ A.k
  fp : fr ≠ A.p
  fk : fr ≠ A.k
  pk : A.p ≠ A.k
theorem Bd.nn (h : Bd K Hb H R hp hd hA A rw fr hds rs ns oi o L xs ts m) : BdN R A rw fr o L := by
  obtain ⟨dx, ob⟩ := h.ob
  obtain ⟨k, a, f, s2, b, ⟨dxo, obo⟩, el⟩ := h.top
  obtain ⟨dxs, obs⟩ := h.sc.ob
  obtain ⟨ks, ek, _⟩ := h.sc.kk
  have ef := h.ef
  have ll := h.ls
  have c1 : ∀ {a b : Addr} {u v : HO}, H a = some u → H b = some v → u ≠ v → a ≠ b := fun {a b u v} e1 e2 hn z => by
    subst z
    rw [e1] at e2
    exact hn (Option.some.inj e2)
  refine ⟨c1 ob obo (fun z => ?_), c1 ob obs (fun z => ?_), c1 ob ek (fun z => by cases z), c1 ob ef (fun z => by cases z), c1 ob ll (fun z => by cases z), c1 obo obs (fun z => ?_), c1 obo ek (fun z => by cases z), c1 obo ef (fun z => by cases z), c1 obo ll (fun z => by cases z), c1 ll obs (fun z => by cases z), c1 ll ek (fun z => by cases z), c1 ef obs (fun z => by cases z), c1 ef ek (fun z => by cases z), c1 obs ek (fun z => by cases z)⟩
  · injection z with _ _ z
    exact opF_ne_rdF z.symm
  · injection z with _ _ z
    exact rdF_ne_scF z
  · injection z with _ _ z
    exact opF_ne_scF z
end
end

section
variable {P : Program} {w : World} {K : PySem.W.Frag} {mg : Str → Option Value} {base : Heap}
theorem via2 {S X : Hp → Prop} {C : Prop} (k : (∀ H, S H → X H) → C) (h : ∀ H, S H → X H) : C := k h
theorem last_get {α : Type} {xs : List α} (h : xs ≠ []) : ∃ xi x, xs = xi ++ [x] := ⟨xs.dropLast, xs.getLast h, (List.dropLast_concat_getLast h).symm⟩
def kwST : List Str := ["set", "put", "tell", "give", "call", "fail"]
theorem Sm.words_pl : ∀ t : Sm, t.plain = true → ∃ z r, t.words = z :: r ∧ z ∈ kwST
  | .set .., _ => ⟨_, _, rfl, by decide +kernel⟩
  | .put .., _ => ⟨_, _, rfl, by decide +kernel⟩
  | .tell .., _ => ⟨_, _, rfl, by decide +kernel⟩
  | .give .., _ => ⟨_, _, rfl, by decide +kernel⟩
  | .call .., _ => ⟨_, _, rfl, by decide +kernel⟩
  | .fail .., _ => ⟨_, _, rfl, by decide +kernel⟩
  | .ite .., h => by cases h
  | .loop .., h => by cases h
theorem kwST_no : ∀ z ∈ kwST, inV (.str z) [.str "if", .str "while"] = false := by decide +kernel
section
variable {Hb H : Hp} {R hp hd : Addr} {hA : V} {A : ScA} {rw fr : Addr} {hds : List (Str × Nat)} {rs ns : List Str} {oi : List Addr} {o L : Addr} {xs : List V} {ts : List Sm} {m : Nat}
theorem same_kp {S : Addr → Prop} {Hb H H' : Hp} (s : Same Hb H) (k : Kp S H H') (h : ∀ c, S c → Hb c = none) : Same Hb H' := fun c o e => k c o (s c o e) fun z => by rw [h c z] at e; cases e
theorem Bd.next {H' : Hp} {m' : Nat} (h : Bd K Hb H R hp hd hA A rw fr hds rs ns oi o L xs ts m) (k : Kp (fun b => b = A.p ∨ b = A.k) H H') (sc : ScAt K H' A hds rs ns m') : Bd K Hb H' R hp hd hA A rw fr hds rs ns oi o L xs ts m' := by
  have nn := h.nn
  obtain ⟨dx, ob⟩ := h.ob
  obtain ⟨kk, a, f, s2, b, ⟨dxo, obo⟩, el⟩ := h.top
  have no : ∀ {c : Addr}, c ≠ A.p → c ≠ A.k → ¬ (c = A.p ∨ c = A.k) := fun {c} h1 h2 z => z.elim h1 h2
  refine ⟨same_kp h.sb k (fun c z => z.elim (fun e => e ▸ h.n3) (fun e => e ▸ h.n4)), ⟨dx, k _ _ ob fun z => absurd z (no nn.rp nn.rk)⟩, k _ _ h.ef fun z => absurd z (no nn.fp nn.fk), ⟨kk, a, f, s2, b, ⟨dxo, k _ _ obo fun z => absurd z (no nn.op nn.ok)⟩, el⟩, k _ _ h.ls fun z => absurd z (no nn.lp nn.lk), dpAll_kp k _ _ (Sm.noLs _) h.da, sc, h.ne, h.rl, h.rr, h.n1, h.n2, h.n3, h.n4⟩
theorem Bd.none {H' : Hp} {c : Addr} (h : Bd K Hb H' R hp hd hA A rw fr hds rs ns oi o L xs ts m) (k : Kp (bS L fr A) H H') (n : H' c = none) : H c = none := by
  cases z : H c with
  | none => rfl
  | some u =>
    have := k c u z (fun y => by
      obtain ⟨dxs, obs⟩ := h.sc.ob
      obtain ⟨ks, ek, _⟩ := h.sc.kk
      have ll := h.ls
      have ef := h.ef
      rcases y with y | y | y | y
      · rw [← y, n] at ll; cases ll
      · rw [← y, n] at ef; cases ef
      · rw [← y, n] at obs; cases obs
      · rw [← y, n] at ek; cases ek)
    rw [n] at this
    cases this
theorem Bd.push {x : V} {t : Sm} (h : Bd K Hb H R hp hd hA A rw fr hds rs ns oi o L xs ts m) (d : Dp K H x t.d) : Bd K Hb (upd H L (.lst (xs ++ [x]))) R hp hd hA A rw fr hds rs ns oi o L (xs ++ [x]) (ts ++ [t]) m := by
  have nn := h.nn
  obtain ⟨dx, ob⟩ := h.ob
  obtain ⟨kk, a, f, s2, b, ⟨dxo, obo⟩, el⟩ := h.top
  have k : Kp (fun b => b = L) H (upd H L (.lst (xs ++ [x]))) := Kp.upd h.ls trivial rfl
  obtain ⟨kvs, eh, _⟩ := h.sc.hk
  refine ⟨same_kp h.sb k (fun c z => by rw [show c = L from z]; exact h.n1), ⟨dx, by rw [upd_ne nn.rl]; exact ob⟩, by rw [upd_ne h.ne.symm]; exact h.ef, ⟨kk, a, f, s2, b, ⟨dxo, by rw [upd_ne nn.ol]; exact obo⟩, el⟩, upd_same, ?_, h.sc.kp k nn.lp.symm h.rl (fun z => ?_) nn.lk.symm, h.ne, h.rl, h.rr, h.n1, h.n2, h.n3, h.n4⟩
  · rw [ds_app]
    exact dpAll_snoc (dpAll_kp k _ _ (Sm.noLs _) h.da) (dp_kp k _ _ t.noL d)
  · have ll := h.ls
    rw [← (show A.h = L from z), eh] at ll
    cases ll
end
def sp_tkst (K : PySem.W.Frag) : Sp := fun vs H Q _ => ∃ (Hb : Hp) (R hp hd : Addr) (hA : V) (A : ScA) (rw fr : Addr) (hds : List (Str × Nat)) (rs ns : List Str) (oi : List Addr) (o L : Addr) (xs : List V) (ts : List Sm) (m : Nat) (W : Addr),
  vs = [.ref R, .ref W] ∧ Bd K Hb H R hp hd hA A rw fr hds rs ns oi o L xs ts m ∧ (∀ ti t, ts = ti ++ [t] → t.ends = false) ∧ m < 25 ∧ ts.length ≤ 100 ∧ (∀ q ∈ hds, q.2 ≤ 100) ∧
  ((∃ (t : Sm) (j : Nat), t.plain = true ∧ H W = some (.lst (t.words.map V.str)) ∧ t.Wf ns rs hds j ∧ t.words.length ≤ 1000 ∧ ∀ H' x, Kp (bS L fr A) H H' → Bd K Hb H' R hp hd hA A rw fr hds rs ns oi o L (xs ++ [x]) (ts ++ [t]) (m + 1) → Q (.bl true) H') ∨
  (∃ (kd : Str) (e : Ex), (kd = "if" ∨ kd = "while") ∧ H W = some (.lst ((kd :: e.words).map V.str)) ∧ e.Wf ns rs 4 ∧ oi.length < 4 ∧ e.words.length ≤ 1000 ∧ ∀ H' o' f' s' a, Kp (fS fr A) H H' → H o' = none → H f' = none → H s' = none → f' ≠ s' → Dp K H' a e.d → OpAt K H' o' kd a f' s' false → H' s' = some (.lst []) →
    Bd K Hb H' R hp hd hA A rw fr hds rs ns (oi ++ [o]) o' f' [] [] (m + 1) → Q (.bl true) H'))
theorem ok_takes_statement (T : Top K mg) : FnOk P w K mg base CX0 14 (He.ma K (He.ga K "Reader") "takes_statement") T.fd_Reader_takes_statement ["self", "words"] (sp_tkst K) := by
  have G_Open_there := ok_Open_there (P := P) (w := w) (base := base) T
  have G_Open___init__ := ok_Open_init (P := P) (w := w) (base := base) T
  have G_ends_there := ok_ends_there (P := P) (w := w) (base := base) T
  have G_Scope_takes_one := ok_takes_one (P := P) (w := w) (base := base) T
  have G_all_expressions := ok_all_expressions (P := P) (w := w) (base := base) T
  have G_Scope_is_expression := ok_isex (P := P) (w := w) (base := base) T 4
  have G_plain_by := ok_plain_by (P := P) (w := w) (base := base) T
  have G_Scope_is_plain := ok_is_plain (P := P) (w := w) (base := base) T
  refine T.F_Reader_takes_statement.ok sc_Reader_takes_statement (fun vs H Q E h => ?_) (fun cdv A outer s H vs Q E hr h => ?_)
  · obtain ⟨Hb, R, hp, hd, hA, A, rw, fr, hds, rs, ns, oi, o, L, xs, ts, m, W, rfl, _⟩ := h
    rfl
  · obtain ⟨Hb, R, hp, hd, hA, B, rw, fr, hds, rs, ns, oi, o, L, xs, ts, m, W, rfl, bd, hend, hm, lt, h100, hq⟩ := h
    refine ⟨_, PSs.nox (pss_cons (ps_set (i := 2) sc_Reader_takes_statement.nd rfl (Or.inl rfl) (pe_meth0 (pe_ix ix_list (pe_fld (pv 0) rfl) (pe_un un_neg pe_int) (fun _ _ => rfl)) T.cl_Open T.me_Open_there G_Open_there (hr.mono (by omega)) T.b_Open_there .nil pass0))
        (pss_cons (ps_if (PW.pt (pw_or (PW.pt (pw_and (pt_truth (pv 2) (by intro _; rfl)) (pw_and1 (pt_val (pe_call G_ends_there (hr.mono (by omega)) (by rfl) T.g_ends_there T.F_ends_there.kp T.b_ends_there .nil pass0 (pa_cons (pe_ix ix_list (pv 2) (pe_un un_neg pe_int) (fun _ _ => rfl)) pa_nil)))))) (pw_or1 (pt_not (pt_val (pe_meth0 (pe_fld (pv 0) rfl) T.cl_Scope T.me_Scope_takes_one G_Scope_takes_one (hr.mono (by omega)) T.b_Scope_takes_one .nil pass0)))))) (pss_one (ps_ret pe_bl)) pss_nil)
        (pss_cons (ps_if (pt_cmpR op_in_seq (pe_ix ix_list (pv 1) pe_int (fun _ _ => rfl)) (pe_tup (pa_cons pe_str (pa_cons pe_str pa_nil))) (by rfl)) (pss_cons (ps_set (i := 3) sc_Reader_takes_statement.nd rfl (Or.inl rfl) (pe_call G_all_expressions (hr.mono (by omega)) (by rfl) T.g_all_expressions T.F_all_expressions.kp T.b_all_expressions.choose_spec.2 T.b_all_expressions.choose_spec.1 pass0 (pa_cons (pe_slice sl_list (pv 1) (po_some pe_int) po_none) (pa_cons pe_int pa_nil))))
        (pss_cons (ps_if (PW.pt (pw_or (pt_cmpR op_isN (pv 3) pe_non (nomark _)) (pw_or (pt_cmpR op_gt (pe_callB call_len_seq (by rfl) T.m_len (by decide +kernel) (pa_cons (pe_fld (pv 0) rfl) pa_nil)) (pe_glob (v := .int 4) (by rfl) T.c_MOST_DEEP ⟨_, rfl⟩) (nomark _)) (pw_or1 (pt_not (pt_val (pe_meth (pe_fld (pv 0) rfl) T.cl_Scope T.me_Scope_is_expression G_Scope_is_expression (hr.mono (by omega)) T.b2_Scope_is_expression.choose_spec.2 T.b2_Scope_is_expression.choose_spec.1 pass0 (pa_cons (pe_ix ix_tup (pv 3) pe_int (fun _ _ => rfl)) pa_nil)))))))) (pss_one (ps_ret pe_bl)) pss_nil)
        (pss_cons (ps_expr (pe_bm PySem.F.plainAttrs_list PySem.F.slot_list_append PySem.F.type_list_append mt_append (pe_fld (pv 0) rfl) (pa_cons (pe_make T.mk_Open G_Open___init__ (hr.mono (by omega)) (by rfl) T.g_Open T.b_Open___init__ .nil pass0 (pa_cons (pe_ix ix_list (pv 1) pe_int (fun _ _ => rfl)) (pa_cons (pe_ix ix_tup (pv 3) pe_int (fun _ _ => rfl)) pa_nil))) pa_nil)))
        (pss_one (ps_ret pe_bl))))) pss_nil)
        (pss_cons (ps_set (i := 4) sc_Reader_takes_statement.nd rfl (Or.inl rfl) (pe_call G_plain_by (hr.mono (by omega)) (by rfl) T.g_plain_by T.F_plain_by.kp T.b_plain_by .nil pass0 (pa_cons (pv 1) pa_nil)))
        (pss_cons (ps_if (PW.pt (pw_or (pt_cmpR op_isN (pv 4) pe_non (nomark _)) (pw_or1 (pt_not (pt_val (pe_meth (pe_fld (pv 0) rfl) T.cl_Scope T.me_Scope_is_plain G_Scope_is_plain (hr.mono (by omega)) T.b_Scope_is_plain .nil pass0 (pa_cons (pv 4) pa_nil))))))) (pss_one (ps_ret pe_bl)) pss_nil)
        (pss_cons (ps_expr (pe_bm PySem.F.plainAttrs_list PySem.F.slot_list_append PySem.F.type_list_append mt_append (pv 2) (pa_cons (pv 4) pa_nil)))
        (pss_one (ps_ret pe_bl)))))))), ?_⟩
    have big : ∀ n : Nat, n ≤ 10000 → n ≤ sizeLine := fun n h => by rw [sizeLine_eq]; omega
    have nn := bd.nn
    obtain ⟨dx, ob⟩ := bd.ob
    obtain ⟨k, a, f, s2, b, ⟨dxo, obo⟩, el⟩ := bd.top
    refine ⟨_, rfl, R, _, dx, _, _, rfl, ob, T.cl_Reader, T.no_Reader_frames, rdF_frames _ _ _ _ _ _ _, 1, rfl, fr, _, -1, _, rfl, rfl, .of bd.ef, atI_lastR oi o, o, dxo, _, rfl, obo, opF_no (by decide +kernel) (by decide +kernel) (by decide +kernel) (by decide +kernel) (by decide +kernel), o, k, a, f, s2, b, rfl, ⟨dxo, obo⟩, ?_⟩
    rw [← el]
    dsimp only [gName, List.set]
    apply via2 (S := Same H)
    · intro c
      by_cases hx : ts = []
      rotate_left
      · obtain ⟨ti, t0, et⟩ := last_get hx
        have da := bd.da
        have lx := dpAll_len da
        rw [ds_len] at lx
        have xne : xs ≠ [] := fun z => by
          rw [z, et, List.length_append] at lx
          simp at lx
        obtain ⟨xi, x0, ex⟩ := last_get xne
        have d0 : Dp K H x0 t0.d := by
          rw [ex] at da
          rw [ex, et, List.length_append, List.length_append] at lx
          obtain ⟨d, hd, dx0⟩ := dpAll_getV da (show (xi ++ [x0])[xi.length]? = some x0 by rw [List.getElem?_append_right (Nat.le_refl _), Nat.sub_self]; rfl)
          rw [et, ds_app, List.getElem?_append_right (by rw [ds_len]; simp at lx; omega), ds_len, show xi.length - ti.length = 0 by simp at lx; omega] at hd
          cases hd
          exact dx0
        refine ⟨_, rfl, true, .inl ⟨_, .of bd.ls, by rw [ex]; simp⟩, ifT rfl ⟨_, rfl, 1, rfl, L, _, -1, _, rfl, rfl, .of bd.ls, by rw [ex]; exact atI_last _ _, x0, t0, rfl, d0, fun H1 s1 => ?_⟩⟩
        rw [hend ti t0 et]
        refine ⟨_, rfl, ifF rfl ?_⟩
        exact c H1 s1
      · have e0 : xs = [] := by
          have := bd.da
          rw [hx] at this
          exact dpAll_nil this
        refine ⟨_, rfl, false, .inl ⟨_, .of bd.ls, by rw [e0]; rfl⟩, ifF rfl ?_⟩
        exact c H (Same.refl _)
    · intro H1 s1
      have ob1 := s1 _ _ ob
      obtain ⟨dxs, obs⟩ := bd.sc.ob
      have obs1 := s1 _ _ obs
      refine ⟨_, rfl, R, _, dx, _, _, rfl, ob1, T.cl_Reader, T.no_Reader_scope, rdF_scope _ _ _ _ _ _ _, B.p, dxs, _, rfl, obs1, scF_no (by decide +kernel) (by decide +kernel) (by decide +kernel) (by decide +kernel), B, hds, rs, ns, m, rfl, bd.sc.sm s1, hm, fun H2 k2 sc2 => ⟨_, rfl, ifF rfl ?_⟩⟩
      have bd2 : Bd K Hb H2 R hp hd hA B rw fr hds rs ns oi o L xs ts (m + 1) := (bd.sm s1).next (kp_wk k2 fun c z => .inl z) sc2
      have k02 : Kp (fun b => b = B.p ∨ b = B.k) H H2 := (Kp.of_same s1).trans (kp_wk k2 fun c z => .inl z)
      clear k2 sc2 ob1 obs1 s1
      have lW2 : ∀ {y : List V}, H W = some (.lst y) → H2 W = some (.lst y) := fun {y} e => k02 _ _ e fun z => by
        obtain ⟨ks, ek, _⟩ := bd.sc.kk
        rcases z with z | z
        · rw [z, obs] at e; cases e
        · rw [z, ek] at e; cases e
      rcases hq with ⟨t, j, pl, eW, wf, lW, q⟩ | ⟨kd, e, hkd, eW, wf, lo, lwe, q⟩
      · obtain ⟨z, r, hz, zk⟩ := t.words_pl pl
        have hat : atI (t.words.map V.str) 0 = some (.str z) := by rw [hz]; exact atI_nat (j := 0) rfl
        have eW2 := lW2 eW
        refine ⟨_, rfl, W, _, 0, _, rfl, rfl, .of eW2, hat, big 2 (by decide), fun pt npt => ⟨pt, _, rfl, .inr (.of upd_same), rfl, by decide +kernel, false, by show V.bl (inV _ _) = _; rw [kwST_no z zk], ?_⟩⟩
        have s3 := same_new (o := .tup [.str "if", .str "while"]) npt
        refine ⟨_, rfl, W, t, ns, rs, hds, j, rfl, s3 _ _ eW2, wf, pl, lW, h100, (fun x hx => (bd.sc.vn x hx).1), fun H4 v s4 dv => ?_⟩
        dsimp only [gName, List.set]
        have bd4 := (bd2.sm s3).sm s4
        obtain ⟨dx4, ob4⟩ := bd4.ob
        obtain ⟨dxs4, obs4⟩ := bd4.sc.ob
        obtain ⟨ps, wd, xs', rfl, hs, hen⟩ := sm_head dv
        refine ⟨_, rfl, rfl, _, rfl, ifN (fun e => by cases e) ⟨_, rfl, R, _, dx4, _, _, rfl, ob4, T.cl_Reader, T.no_Reader_scope, rdF_scope _ _ _ _ _ _ _, B.p, dxs4, _, rfl, obs4, scF_no (by decide +kernel) (by decide +kernel) (by decide +kernel) (by decide +kernel), _, rfl, B, .ref ps, t, j, hds, rs, ns, m + 1, rfl, bd4.sc, dv, wf, pl, h100, fun H5 k5 sc5 => ⟨_, rfl, ifF rfl ?_⟩⟩⟩
        have bd5 : Bd K Hb H5 R hp hd hA B rw fr hds rs ns oi o L xs ts (m + 1) := bd4.next (kp_wk k5 fun c z => .inr z) sc5
        have d5 := dp_kp k5 _ _ t.noL dv
        have lxs := dpAll_len bd5.da
        rw [ds_len] at lxs
        refine ⟨_, rfl, .inl ⟨rfl, _, .of bd5.ls⟩, _, rfl, L, xs, _, rfl, rfl, bd5.ls, by rw [sizeLine_eq]; omega, ?_⟩
        refine q _ _ ?_ (bd5.push d5)
        have k25 : Kp (bS L fr B) H2 H5 := (Kp.of_same s3).trans ((Kp.of_same s4).trans (kp_wk k5 fun c z => .inr (.inr (.inr z))))
        exact (kp_wk k02 fun c z => .inr (.inr z)).trans (k25.trans (Kp.upd bd5.ls trivial (.inl rfl)))
      · have hat : atI ((kd :: e.words).map V.str) 0 = some (.str kd) := atI_nat (j := 0) rfl
        have eW2 := lW2 eW
        have hin : inV (.str kd) [.str "if", .str "while"] = true := by rcases hkd with rfl | rfl <;> decide +kernel
        refine ⟨_, rfl, W, _, 0, _, rfl, rfl, .of eW2, hat, big 2 (by decide), fun pt npt => ⟨pt, _, rfl, .inr (.of upd_same), rfl, by decide +kernel, true, by show V.bl (inV _ _) = _; rw [hin], ?_⟩⟩
        have s3 := same_new (o := .tup [.str "if", .str "while"]) npt
        have eW3 := s3 _ _ eW2
        generalize upd H2 pt (.tup [.str "if", .str "while"]) = H3 at s3 eW3 ⊢
        have ew1 : wordsL [e] = e.words := by simp [wordsL]
        refine ⟨_, rfl, 1, rfl, W, _, rfl, .inl (.inl eW3), fun S nS => ?_⟩
        have ec : cutV ((kd :: e.words).map V.str) (some 1) none = e.words.map V.str := cutV_from ((kd :: e.words).map V.str) 1
        rw [ec]
        have s4 := same_new (o := .lst (e.words.map V.str)) nS
        refine ⟨S, [e], .int 1, ns, rs, rfl, by rw [ew1]; exact upd_same, by rw [ew1]; omega, by show 1 ≤ 100; decide, .inr rfl, (fun x hx => by rw [List.mem_singleton.mp hx]; exact wf), (fun x hx => (bd.sc.vn x hx).1), fun H5 v s5 dv => ?_⟩
        dsimp only [gName, List.set]
        have s25 := s3.trans (s4.trans s5)
        have bd5 := bd2.sm s25
        obtain ⟨dx5, ob5⟩ := bd5.ob
        obtain ⟨dxs5, obs5⟩ := bd5.sc.ob
        obtain ⟨pe, ys, rfl, hpe, dys⟩ := dp_tup dv
        obtain ⟨y0, r0, rfl, g0, dys⟩ := dpAll_cons dys
        cases dpAll_nil dys
        refine ⟨_, rfl, rfl, _, rfl, ifN (fun e => by cases e) ?_⟩
        refine ⟨_, rfl, R, _, dx5, _, _, rfl, ob5, T.cl_Reader, T.no_Reader_frames, rdF_frames _ _ _ _ _ _ _, fr, _, rfl, .inl (.of bd5.ef), _, _, rfl, rfl, _, rfl, ifN (by rw [List.length_map, List.length_append]; simp; omega) ?_⟩
        refine ⟨_, rfl, R, _, dx5, _, _, rfl, ob5, T.cl_Reader, T.no_Reader_scope, rdF_scope _ _ _ _ _ _ _, B.p, dxs5, _, rfl, obs5, scF_no (by decide +kernel) (by decide +kernel) (by decide +kernel) (by decide +kernel), _, rfl, pe, _, 0, _, rfl, rfl, hpe, atI_nat (j := 0) rfl, B, y0, e, 1, hds, rs, ns, m + 1, rfl, bd5.sc, g0, wf, by decide, fun H6 k6 sc6 => ⟨_, rfl, ifF rfl ?_⟩⟩
        have bd6 : Bd K Hb H6 R hp hd hA B rw fr hds rs ns oi o L xs ts (m + 1) := bd5.next (kp_wk k6 fun c z => .inr z) sc6
        have g6 := dp_kp k6 _ _ e.noL g0
        have hpe6 := sqT_kp k6 hpe
        have eW6 : H6 W = some (.lst ((kd :: e.words).map V.str)) := k6 _ _ (s25 _ _ eW2) fun z => by
          obtain ⟨ks, ek, _⟩ := bd2.sc.kk
          rw [show W = B.k from z, ek] at eW2
          cases eW2
        obtain ⟨dx6, ob6⟩ := bd6.ob
        have k06 : Kp (fS fr B) H H6 := (kp_wk k02 fun c z => .inr z).trans ((Kp.of_same s25).trans (kp_wk k6 fun c z => .inr (.inr z)))
        have k06b : Kp (bS L fr B) H H6 := kp_wk k06 fun c z => .inr z
        refine ⟨_, rfl, R, _, dx6, _, _, rfl, ob6, T.cl_Reader, T.no_Reader_frames, rdF_frames _ _ _ _ _ _ _, .inl ⟨rfl, _, .of bd6.ef⟩, _, rfl, W, _, 0, _, rfl, rfl, .of eW6, hat, _, rfl, pe, _, 0, _, rfl, rfl, hpe6, atI_nat (j := 0) rfl, fun o' dx' no' ndx' ne' => ?_⟩
        have s7 := same_made (C := He.ga K "Open") no' ndx' ne'
        refine ⟨o', dx', kd, y0, rfl, upd_same, fun H8 f' s' k8 nf' ns' fs' eo' ef' es' => ⟨rfl, ?_⟩⟩
        have s68 : Same H6 H8 := same_kp s7 k8 (fun c z => by rw [show c = o' from z]; exact no')
        have nf6 := none_sm s7 nf'
        have ns6 := none_sm s7 ns'
        have bd8 := bd6.sm s68
        have ne_fr : ∀ {c : Addr}, H6 c = none → c ≠ fr := fun {c} n => (ne_of_none bd6.ef n).symm
        have kU : Kp (fun b => b = fr) H8 (upd H8 fr (.lst ((oi ++ [o]).map V.ref ++ [.ref o']))) := Kp.upd bd8.ef trivial rfl
        have nn8 := bd8.nn
        obtain ⟨dx8, ob8⟩ := bd8.ob
        refine ⟨fr, _, _, rfl, rfl, bd8.ef, by rw [List.length_map, List.length_append, sizeLine_eq]; simp; omega, ?_⟩
        refine q _ o' f' s' y0 (k06.trans ((Kp.of_same s68).trans (kp_wk kU fun c z => .inl z))) (bd6.none k06b no') (bd6.none k06b nf6) (bd6.none k06b ns6) fs' (dp_kp kU _ _ e.noL (dp_sm s68 g6)) ⟨dx', by rw [upd_ne (ne_fr no')]; exact eo'⟩ (by rw [upd_ne (ne_fr ns6)]; exact es') ?_
        have eh := bd8.sc.hk
        obtain ⟨kvs, eh, _⟩ := eh
        refine ⟨same_kp bd8.sb kU (fun c z => by rw [show c = fr from z]; exact bd.n2), ⟨dx8, by rw [upd_ne nn8.rf]; exact ob8⟩, ?_, ⟨kd, y0, f', s', false, ⟨dx', by rw [upd_ne (ne_fr no')]; exact eo'⟩, rfl⟩, by rw [upd_ne (ne_fr nf6)]; exact ef', .nil, bd8.sc.kp kU nn8.fp.symm bd.rr (fun z => ?_) nn8.fk.symm, ne_fr nf6, ne_of_none bd6.sc.rk nf6, bd.rr, none_sm bd6.sb nf6, bd.n2, bd.n3, bd.n4⟩
        · rw [upd_same, List.map_append (l₁ := oi ++ [o])]
          rfl
        · have ll := bd8.ef
          rw [← (show B.h = fr from z), eh] at ll
          cases ll
end

section
variable {P : Program} {w : World} {K : PySem.W.Frag} {mg : Str → Option Value} {base : Heap}
def sp_tkelse (K : PySem.W.Frag) : Sp := fun vs H Q _ => ∃ (R dx hp hd : Addr) (hA sc : V) (rw fr : Addr) (oi : List Addr) (o f s : Addr) (a : V), vs = [.ref R] ∧ H R = some (.ins (He.ga K "Reader") dx (rdF hp hd hA sc rw fr .non)) ∧ H fr = some (.lst ((oi ++ [o]).map V.ref)) ∧ OpAt K H o "if" a f s false ∧
  ∀ H', Kp (fun b => b = o) H H' → OpAt K H' o "if" a f s true → Q (.bl true) H'
theorem ok_takes_else (T : Top K mg) : FnOk P w K mg base CX0 1 (He.ma K (He.ga K "Reader") "takes_else") T.fd_Reader_takes_else ["self"] (sp_tkelse K) := by
  refine T.F_Reader_takes_else.ok sc_Reader_takes_else (fun vs H Q E h => ?_) (fun cdv A outer s H vs Q E hr h => ?_)
  · obtain ⟨R, dx, hp, hd, hA, sc, rw, fr, oi, o, f, s, a, rfl, _⟩ := h
    rfl
  · obtain ⟨R, dx, hp, hd, hA, sc, rw, fr, oi, o, f, s, a, rfl, ob, ef, ⟨dxo, obo⟩, q⟩ := h
    refine ⟨_, PSs.nox (pss_cons (ps_set (i := 1) sc_Reader_takes_else.nd rfl (Or.inl rfl) (pe_ix ix_list (pe_fld (pv 0) rfl) (pe_un un_neg pe_int) (fun _ _ => rfl)))
        (pss_cons (ps_if (PW.pt (pw_or (pt_cmpR op_ne (pe_fld (pv 1) rfl) pe_str (nomark _)) (pw_or1 (pt_val (pe_fld (pv 1) rfl))))) (pss_one (ps_ret pe_bl)) pss_nil)
        (pss_cons (ps_fld (pv 1) pe_bl rfl)
        (pss_one (ps_ret pe_bl))))), ?_⟩
    refine ⟨_, rfl, R, _, dx, _, _, rfl, ob, T.cl_Reader, T.no_Reader_frames, rdF_frames _ _ _ _ _ _ _, 1, rfl, fr, _, -1, _, rfl, rfl, .of ef, atI_lastR oi o, ?_⟩
    dsimp only [gName, List.set]
    refine ⟨_, rfl, o, _, dxo, _, _, rfl, obo, T.cl_Open, T.no_Open_kind, opF_kind _ _ _ _ _, rfl, _, rfl, ifNF rfl ?_⟩
    refine ⟨_, rfl, o, _, dxo, _, _, rfl, obo, T.cl_Open, T.no_Open_turned, opF_turned _ _ _ _ _, _, rfl, ifF rfl ?_⟩
    refine ⟨_, rfl, o, _, dxo, _, rfl, obo, T.cl_Open, T.no_Open_turned, (by show 5 < 1000; decide), ?_⟩
    rw [opF_put_turned]
    exact q _ (Kp.upd obo trivial rfl) ⟨dxo, upd_same⟩
/-- what a frame has become -/
def clD (k : Str) (d : PyData) (ds es : List PyData) : PyData := if k = "while" then .tuple [.str "while", d, .tuple ds] else .tuple [.str "if", d, .tuple ds, .tuple es]
/-- the end of an inner body, of a helper, of main -/
def sp_tkend (K : PySem.W.Frag) : Sp := fun vs H Q _ => ∃ (R dx hp hd hA : Addr) (sc : V) (rw fr : Addr) (oi : List Addr) (o f s : Addr) (k : Str) (a : V) (b : Bool) (xs : List V) (ds : List PyData),
  vs = [.ref R] ∧ H R = some (.ins (He.ga K "Reader") dx (rdF hp hd (.ref hA) sc rw fr .non)) ∧ H fr = some (.lst ((oi ++ [o]).map V.ref)) ∧ OpAt K H o k a f s b ∧ H f = some (.lst xs) ∧ DpAll K H xs ds ∧ nLs ds = true ∧ f ≠ fr ∧ oi.length ≤ 100 ∧
  ((∃ (o1 f1 s1 : Addr) (k1 : Str) (a1 : V) (b1 : Bool) (xs1 ys : List V) (es : List PyData) (d : PyData), oi.getLast? = some o1 ∧ OpAt K H o1 k1 a1 f1 s1 b1 ∧ H (if b1 = true then s1 else f1) = some (.lst xs1) ∧ xs1.length ≤ 100 ∧ (if b1 = true then s1 else f1) ≠ fr ∧ s ≠ fr ∧
      Dp K H a d ∧ nLd d = true ∧ H s = some (.lst ys) ∧ DpAll K H ys es ∧ nLs es = true ∧
      ∀ H' x, Kp (fun c => c = fr ∨ c = (if b1 = true then s1 else f1)) H H' → H' fr = some (.lst (oi.map V.ref)) → H' (if b1 = true then s1 else f1) = some (.lst (xs1 ++ [x])) → Dp K H' x (clD k d ds es) → Q (.bl true) H') ∨
   (oi = [] ∧ ∃ (nm : Str) (ps : List Str) (pa : Addr) (hl : List V) (kvs : List (Key × V)), SqT K H hA [.str "helper", .str nm, .ref pa] ∧ SqT K H pa (ps.map V.str) ∧ H hp = some (.lst hl) ∧ hl.length ≤ 100 ∧ H hd = some (.dK kvs) ∧ kvs.length ≤ 100 ∧ hp ≠ fr ∧
      ∀ H' x, Kp (fun c => c = fr ∨ c = hp ∨ c = hd ∨ c = R) H H' → H' R = some (.ins (He.ga K "Reader") dx (rdF hp hd .non sc rw fr .non)) → H' hp = some (.lst (hl ++ [x])) → Dp K H' x (.tuple [.str nm, .tuple (ps.map PyData.str), .tuple ds]) → H' hd = some (.dK (putK kvs (.inr nm) (.int (ps.length : Int)))) → Q (.bl true) H') ∨
   (oi = [] ∧ ∃ (ps : List Str) (pa : Addr) (hl : List V) (hds : List PyData) (rl : List V) (rds : List PyData), SqT K H hA [.str "main", .str "", .ref pa] ∧ SqT K H pa (ps.map V.str) ∧ H hp = some (.lst hl) ∧ DpAll K H hl hds ∧ nLs hds = true ∧ H rw = some (.lst rl) ∧ DpAll K H rl rds ∧ nLs rds = true ∧ hp ≠ fr ∧ rw ≠ fr ∧
      ∀ H' pg, Kp (fun c => c = fr ∨ c = R) H H' → H' R = some (.ins (He.ga K "Reader") dx (rdF hp hd .non sc rw fr pg)) → Dp K H' pg (.tuple [.tuple hds, .tuple (ps.map PyData.str), .tuple rds, .tuple ds]) → Q (.bl true) H'))
theorem ok_takes_end (T : Top K mg) : FnOk P w K mg base CX0 2 (He.ma K (He.ga K "Reader") "takes_end") T.fd_Reader_takes_end ["self"] (sp_tkend K) := by
  have G_Open_there := ok_Open_there (P := P) (w := w) (base := base) T
  have G_Open_closed := ok_Open_closed (P := P) (w := w) (base := base) T
  refine T.F_Reader_takes_end.ok sc_Reader_takes_end (fun vs H Q E h => ?_) (fun cdv A outer s H vs Q E hr h => ?_)
  · obtain ⟨R, dx, hp, hd, hA, sc, rw, fr, oi, o, f, s, k, a, b, xs, ds, rfl, _⟩ := h
    rfl
  · obtain ⟨R, dx, hp, hd, hA, sc, rw, fr, oi, o, f, s, k, a, b, xs, ds, rfl, ob, ef, ⟨dxo, obo⟩, el, da, nds, nf, l100, hq⟩ := h
    refine ⟨_, PSs.nox (pss_cons (ps_set (i := 1) sc_Reader_takes_end.nd rfl (Or.inl rfl) (pe_bm0 PySem.F.plainAttrs_list PySem.F.slot_list_pop PySem.F.type_list_pop mt_pop (pe_fld (pv 0) rfl)))
        (pss_cons (ps_if (pt_truth (pe_fld (pv 0) rfl) (by intro _; rfl)) (pss_cons (ps_expr (pe_bm PySem.F.plainAttrs_list PySem.F.slot_list_append PySem.F.type_list_append mt_append (pe_meth0 (pe_ix ix_list (pe_fld (pv 0) rfl) (pe_un un_neg pe_int) (fun _ _ => rfl)) T.cl_Open T.me_Open_there G_Open_there (hr.mono (by omega)) T.b_Open_there .nil pass0) (pa_cons (pe_meth0 (pv 1) T.cl_Open T.me_Open_closed G_Open_closed (hr.mono (by omega)) T.b_Open_closed .nil pass0) pa_nil)))
        (pss_one (ps_ret pe_bl))) pss_nil)
        (pss_cons (ps_if (pt_cmpR op_eq (pe_ix ix_tup (pe_fld (pv 0) rfl) pe_int (fun _ _ => rfl)) pe_str (nomark _)) (pss_cons (ps_expr (pe_bm PySem.F.plainAttrs_list PySem.F.slot_list_append PySem.F.type_list_append mt_append (pe_fld (pv 0) rfl) (pa_cons (pe_tup (pa_cons (pe_ix ix_tup (pe_fld (pv 0) rfl) pe_int (fun _ _ => rfl)) (pa_cons (pe_ix ix_tup (pe_fld (pv 0) rfl) pe_int (fun _ _ => rfl)) (pa_cons (pe_callTy call_tuple_of (by rfl) T.m_tuple (by decide +kernel) (pa_cons (pe_fld (pv 1) rfl) pa_nil)) pa_nil)))) pa_nil)))
        (pss_one (ps_dput (hu_of hr) (pe_fld (pv 0) rfl) (pe_ix ix_tup (pe_fld (pv 0) rfl) pe_int (fun _ _ => rfl)) (pe_callB call_len_seq (by rfl) T.m_len (by decide +kernel) (pa_cons (pe_ix ix_tup (pe_fld (pv 0) rfl) pe_int (fun _ _ => rfl)) pa_nil)) (by rfl)))) (pss_one (ps_fld (pv 0) (pe_tup (pa_cons (pe_callTy call_tuple_of (by rfl) T.m_tuple (by decide +kernel) (pa_cons (pe_fld (pv 0) rfl) pa_nil)) (pa_cons (pe_ix ix_tup (pe_fld (pv 0) rfl) pe_int (fun _ _ => rfl)) (pa_cons (pe_callTy call_tuple_of (by rfl) T.m_tuple (by decide +kernel) (pa_cons (pe_fld (pv 0) rfl) pa_nil)) (pa_cons (pe_callTy call_tuple_of (by rfl) T.m_tuple (by decide +kernel) (pa_cons (pe_fld (pv 1) rfl) pa_nil)) pa_nil))))) rfl)))
        (pss_cons (ps_fld (pv 0) pe_non rfl)
        (pss_one (ps_ret pe_bl)))))), ?_⟩
    have big : ∀ n : Nat, n ≤ 10000 → n ≤ sizeLine := fun n h => by rw [sizeLine_eq]; omega
    refine ⟨_, rfl, R, _, dx, _, _, rfl, ob, T.cl_Reader, T.no_Reader_frames, rdF_frames _ _ _ _ _ _ _, .inl ⟨rfl, _, .of ef⟩, fr, _, .ref o, rfl, rfl, ef, by rw [List.length_map, List.length_append, List.getElem?_map]; simp, ?_⟩
    have edl : ((oi ++ [o]).map V.ref).dropLast = oi.map V.ref := by rw [List.map_append]; simp
    rw [edl]
    dsimp only [gName, List.set]
    have kF : Kp (fun c => c = fr) H (upd H fr (.lst (oi.map V.ref))) := Kp.upd ef trivial rfl
    have hRf : R ≠ fr := fun z => by rw [z, ef] at ob; cases ob
    have hof : o ≠ fr := fun z => by rw [z, ef] at obo; cases obo
    have ob1 : (upd H fr (.lst (oi.map V.ref))) R = some (.ins (He.ga K "Reader") dx (rdF hp hd (.ref hA) sc rw fr .non)) := by rw [upd_ne hRf]; exact ob
    have obo1 : (upd H fr (.lst (oi.map V.ref))) o = some (.ins (He.ga K "Open") dxo (opF k a f s b)) := by rw [upd_ne hof]; exact obo
    have el1 : (upd H fr (.lst (oi.map V.ref))) f = some (.lst xs) := by rw [upd_ne nf]; exact el
    have ef1 : (upd H fr (.lst (oi.map V.ref))) fr = some (.lst (oi.map V.ref)) := upd_same
    generalize upd H fr (.lst (oi.map V.ref)) = H1 at kF ob1 obo1 el1 ef1 ⊢
    have da1 := dpAll_kp kF _ _ nds da
    have rdf := fun (hA sc pg : V) (H' : Hp) => rdF_frames hp hd hA sc rw fr pg
    rcases hq with ⟨o1, f1, s1, k1, a1, b1, xs1, ys, es, d, eo1, ⟨dx1, ob2⟩, eL, lx1, nL, nsf, dd, ndd, esl, des, nes, q⟩ | ⟨rfl, nm, ps, pa, hl, kvs, hhA, hpa, ehp, l1, ehd, l2, nhp, q⟩ | ⟨rfl, ps, pa, hl, hds, rl, rds, hhA, hpa, ehp, dhl, nhd, erw, drl, nrd, nhp, nrw, q⟩
    · obtain ⟨oj, rfl⟩ := List.getLast?_eq_some_iff.mp eo1
      have ob21 : H1 o1 = some (.ins (He.ga K "Open") dx1 (opF k1 a1 f1 s1 b1)) := kF _ _ ob2 fun z => by rw [show o1 = fr from z, ef] at ob2; cases ob2
      have eL1 := kF _ _ eL fun z => absurd z nL
      have es1 := kF _ _ esl fun z => absurd z nsf
      refine ⟨_, rfl, R, _, dx, _, _, rfl, ob1, T.cl_Reader, T.no_Reader_frames, rdF_frames _ _ _ _ _ _ _, true, .inl ⟨_, .of ef1, by simp⟩, ifT rfl ?_⟩
      refine ⟨_, rfl, R, _, dx, _, _, rfl, ob1, T.cl_Reader, T.no_Reader_frames, rdF_frames _ _ _ _ _ _ _, 1, rfl, fr, _, -1, _, rfl, rfl, .of ef1, atI_lastR oj o1, o1, dx1, _, rfl, ob21, opF_no (by decide +kernel) (by decide +kernel) (by decide +kernel) (by decide +kernel) (by decide +kernel), o1, k1, a1, f1, s1, b1, rfl, ⟨dx1, ob21⟩, ?_⟩
      refine ⟨.inl ⟨rfl, _, .of eL1⟩, _, rfl, o, dxo, _, rfl, obo1, opF_no (by decide +kernel) (by decide +kernel) (by decide +kernel) (by decide +kernel) (by decide +kernel), o, k, a, f, s, b, d, xs, ys, ds, es, rfl, ⟨dxo, obo1⟩, dp_kp kF _ _ ndd dd, ndd, el1, da1, nds, es1, dpAll_kp kF _ _ nes des, nes, fun H2 v s2 dv => ?_⟩
      have eL2 := s2 _ _ eL1
      refine ⟨_, xs1, v, rfl, rfl, eL2, by rw [sizeLine_eq]; omega, ?_⟩
      have kU : Kp (fun c => c = (if b1 = true then s1 else f1)) H2 (upd H2 (if b1 = true then s1 else f1) (.lst (xs1 ++ [v]))) := Kp.upd eL2 trivial rfl
      refine q _ v ((kp_wk kF fun c z => .inl z).trans ((Kp.of_same s2).trans (kp_wk kU fun c z => .inr z))) ?_ upd_same (dp_kp kU _ _ ?_ dv)
      · rw [upd_ne nL.symm]
        exact s2 _ _ ef1
      · unfold clD
        split <;> simp [nLd, nLs, ndd, nds, nes]
    · have ehp1 := kF _ _ ehp fun z => absurd z nhp
      have nhd : hd ≠ fr := fun z => by rw [z, ef] at ehd; cases ehd
      have ehd1 := kF _ _ ehd fun z => absurd z nhd
      have hhA1 := sqT_kp kF hhA
      have hpa1 := sqT_kp kF hpa
      refine ⟨_, rfl, R, _, dx, _, _, rfl, ob1, T.cl_Reader, T.no_Reader_frames, rdF_frames _ _ _ _ _ _ _, false, .inl ⟨_, .of ef1, rfl⟩, ifF rfl ?_⟩
      refine ⟨_, rfl, R, _, dx, _, _, rfl, ob1, T.cl_Reader, T.no_Reader_head, rdF_head _ _ _ _ _ _ _, hA, _, 0, _, rfl, rfl, hhA1, atI_nat (j := 0) rfl, rfl, _, rfl, ifD rfl ?_⟩
      refine ⟨_, rfl, R, _, dx, _, _, rfl, ob1, T.cl_Reader, T.no_Reader_helpers, rdF_helpers _ _ _ _ _ _ _, .inl ⟨rfl, _, .of ehp1⟩, _, rfl, R, _, dx, _, _, rfl, ob1, T.cl_Reader, T.no_Reader_head, rdF_head _ _ _ _ _ _ _, hA, _, 1, _, rfl, rfl, hhA1, atI_nat (j := 1) rfl, _, rfl, R, _, dx, _, _, rfl, ob1, T.cl_Reader, T.no_Reader_head, rdF_head _ _ _ _ _ _ _, hA, _, 2, _, rfl, rfl, hhA1, atI_nat (j := 2) rfl, _, rfl, o, _, dxo, _, _, rfl, obo1, T.cl_Open, T.no_Open_first, opF_first _ _ _ _ _, f, _, rfl, .inl ⟨.of el1, fun t nt => ?_⟩⟩
      have st := same_new (o := .tup xs) nt
      refine ⟨(by show 3 ≤ sizeLine; rw [sizeLine_eq]; decide), fun u nu => ?_⟩
      have su := same_new (o := .tup [.str nm, .ref pa, .ref t]) nu
      have s12 := st.trans su
      have dv : Dp K (upd (upd H1 t (.tup xs)) u (.tup [.str nm, .ref pa, .ref t])) (.ref u) (.tuple [.str nm, .tuple (ps.map PyData.str), .tuple ds]) := .tup (.of upd_same) (.cons (.str _) (.cons (.tup (sqT_sm s12 hpa1) (strs_dp _)) (.cons (dp_sm su (.tup (.of upd_same) (dpAll_same da1 st nds))) .nil)))
      have ehp2 := s12 _ _ ehp1
      have ehd2 := s12 _ _ ehd1
      have ob2 := s12 _ _ ob1
      have hhA2 := sqT_sm s12 hhA1
      have hpa2 := sqT_sm s12 hpa1
      generalize upd (upd H1 t (.tup xs)) u (.tup [.str nm, .ref pa, .ref t]) = H2 at dv ehp2 ehd2 ob2 hhA2 hpa2 s12 ⊢
      refine ⟨hp, hl, .ref u, rfl, rfl, ehp2, by rw [sizeLine_eq]; omega, ?_⟩
      have kU : Kp (fun c => c = hp) H2 (upd H2 hp (.lst (hl ++ [.ref u]))) := Kp.upd ehp2 trivial rfl
      have ehp3 : (upd H2 hp (.lst (hl ++ [.ref u]))) hp = some (.lst (hl ++ [.ref u])) := upd_same
      have hpR : R ≠ hp := fun z => by rw [z, ehp2] at ob2; cases ob2
      have hpd : hd ≠ hp := fun z => by rw [z, ehp2] at ehd2; cases ehd2
      have hdR : R ≠ hd := fun z => by rw [z, ehd2] at ob2; cases ob2
      have ob3 := kU _ _ ob2 fun z => absurd z hpR
      have ehd3 := kU _ _ ehd2 fun z => absurd z hpd
      have hhA3 := sqT_kp kU hhA2
      have hpa3 := sqT_kp kU hpa2
      have nD : nLd (.tuple [.str nm, .tuple (ps.map PyData.str), .tuple ds]) = true := by simp [nLd, nLs, nds, strs_noL]
      have dv3 := dp_kp kU _ _ nD dv
      generalize upd H2 hp (.lst (hl ++ [.ref u])) = H3 at kU ehp3 ob3 ehd3 hhA3 hpa3 dv3 ⊢
      refine ⟨_, rfl, R, _, dx, _, _, rfl, ob3, T.cl_Reader, T.no_Reader_head, rdF_head _ _ _ _ _ _ _, hA, _, 2, _, rfl, rfl, hhA3, atI_nat (j := 2) rfl, pa, _, rfl, .inr hpa3, _, rfl, R, _, dx, _, _, rfl, ob3, T.cl_Reader, T.no_Reader_heads, rdF_heads _ _ _ _ _ _ _, _, rfl, R, _, dx, _, _, rfl, ob3, T.cl_Reader, T.no_Reader_head, rdF_head _ _ _ _ _ _ _, hA, _, 1, _, rfl, rfl, hhA3, atI_nat (j := 1) rfl, hd, _, rfl, .inl ⟨kvs, .inr nm, ehd3, rfl, by rw [sizeLine_eq]; omega, rfl⟩, ?_⟩
      rw [List.length_map]
      have kV : Kp (fun c => c = hd) H3 (upd H3 hd (.dK (putK kvs (.inr nm) (.int (ps.length : Int))))) := Kp.upd ehd3 trivial rfl
      have ob4 : (upd H3 hd (.dK (putK kvs (.inr nm) (.int (ps.length : Int))))) R = some (.ins (He.ga K "Reader") dx (rdF hp hd (.ref hA) sc rw fr .non)) := kV _ _ ob3 fun z => absurd z hdR
      have kW := Kp.upd (S := fun c => c = R) (u := .ins (He.ga K "Reader") dx (rdF hp hd .non sc rw fr .non)) ob4 trivial rfl
      refine ⟨_, rfl, R, _, dx, _, rfl, ob4, T.cl_Reader, T.no_Reader_head, (by show 7 < 1000; decide), ?_⟩
      rw [show putF ("head" : Str) V.non (rdF hp hd (.ref hA) sc rw fr .non) = rdF hp hd .non sc rw fr .non from rdF_put_head ..]
      refine q _ (.ref u) ?_ upd_same ?_ (dp_kp kW _ _ nD (dp_kp kV _ _ nD dv3)) ?_
      · exact (kp_wk kF fun c z => .inl z).trans ((Kp.of_same s12).trans ((kp_wk kU fun c z => .inr (.inl z)).trans ((kp_wk kV fun c z => .inr (.inr (.inl z))).trans (kp_wk kW fun c z => .inr (.inr (.inr z))))))
      · rw [upd_ne hpR.symm, upd_ne hpd.symm]
        exact ehp3
      · rw [upd_ne hdR.symm]
        exact upd_same
    · have ehp1 := kF _ _ ehp fun z => absurd z nhp
      have erw1 := kF _ _ erw fun z => absurd z nrw
      have hhA1 := sqT_kp kF hhA
      have hpa1 := sqT_kp kF hpa
      have dhl1 := dpAll_kp kF _ _ nhd dhl
      have drl1 := dpAll_kp kF _ _ nrd drl
      refine ⟨_, rfl, R, _, dx, _, _, rfl, ob1, T.cl_Reader, T.no_Reader_frames, rdF_frames _ _ _ _ _ _ _, false, .inl ⟨_, .of ef1, rfl⟩, ifF rfl ?_⟩
      refine ⟨_, rfl, R, _, dx, _, _, rfl, ob1, T.cl_Reader, T.no_Reader_head, rdF_head _ _ _ _ _ _ _, hA, _, 0, _, rfl, rfl, hhA1, atI_nat (j := 0) rfl, rfl, _, rfl, ifN (fun e => absurd (V.str.inj e) (by decide +kernel)) ?_⟩
      refine ⟨_, rfl, R, _, dx, _, _, rfl, ob1, T.cl_Reader, T.no_Reader_helpers, rdF_helpers _ _ _ _ _ _ _, hp, _, rfl, .inl ⟨.of ehp1, fun t1 nt1 => ?_⟩⟩
      have st1 := same_new (o := .tup hl) nt1
      refine ⟨_, rfl, R, _, dx, _, _, rfl, (st1 _ _ ob1), T.cl_Reader, T.no_Reader_head, rdF_head _ _ _ _ _ _ _, hA, _, 2, _, rfl, rfl, (sqT_sm st1 hhA1), atI_nat (j := 2) rfl, _, rfl, R, _, dx, _, _, rfl, (st1 _ _ ob1), T.cl_Reader, T.no_Reader_rows, rdF_rows _ _ _ _ _ _ _, rw, _, rfl, .inl ⟨.of (st1 _ _ erw1), fun t2 nt2 => ?_⟩⟩
      have st2 := same_new (o := .tup rl) nt2
      refine ⟨_, rfl, o, _, dxo, _, _, rfl, st2 _ _ (st1 _ _ obo1), T.cl_Open, T.no_Open_first, opF_first _ _ _ _ _, f, _, rfl, .inl ⟨.of (st2 _ _ (st1 _ _ el1)), fun t3 nt3 => ?_⟩⟩
      have st3 := same_new (o := .tup xs) nt3
      refine ⟨(by show 4 ≤ sizeLine; rw [sizeLine_eq]; decide), fun u nu => ?_⟩
      have su := same_new (o := .tup [.ref t1, .ref pa, .ref t2, .ref t3]) nu
      have sA := st1.trans (st2.trans (st3.trans su))
      have dv : Dp K (upd (upd (upd (upd H1 t1 (.tup hl)) t2 (.tup rl)) t3 (.tup xs)) u (.tup [.ref t1, .ref pa, .ref t2, .ref t3])) (.ref u) (.tuple [.tuple hds, .tuple (ps.map PyData.str), .tuple rds, .tuple ds]) :=
        .tup (.of upd_same) (.cons (dp_sm (st2.trans (st3.trans su)) (.tup (.of upd_same) (dpAll_same dhl1 st1 nhd))) (.cons (.tup (sqT_sm sA hpa1) (strs_dp _)) (.cons (dp_sm (st3.trans su) (.tup (.of upd_same) (dpAll_same drl1 (st1.trans st2) nrd))) (.cons (dp_sm su (.tup (.of upd_same) (dpAll_same da1 (st1.trans (st2.trans st3)) nds))) .nil))))
      have ob2 := sA _ _ ob1
      generalize upd (upd (upd (upd H1 t1 (.tup hl)) t2 (.tup rl)) t3 (.tup xs)) u (.tup [.ref t1, .ref pa, .ref t2, .ref t3]) = H2 at dv ob2 sA ⊢
      have nD : nLd (.tuple [.tuple hds, .tuple (ps.map PyData.str), .tuple rds, .tuple ds]) = true := by simp [nLd, nLs, nds, strs_noL, nhd, nrd]
      refine ⟨_, rfl, R, _, dx, _, rfl, ob2, T.cl_Reader, T.no_Reader_program, (by show 7 < 1000; decide), ?_⟩
      rw [show putF ("program" : Str) (V.ref u) (rdF hp hd (.ref hA) sc rw fr .non) = rdF hp hd (.ref hA) sc rw fr (.ref u) from rdF_put_program ..]
      have kU := Kp.upd (S := fun c => c = R) (u := .ins (He.ga K "Reader") dx (rdF hp hd (.ref hA) sc rw fr (.ref u))) ob2 trivial rfl
      have ob3 : (upd H2 R (.ins (He.ga K "Reader") dx (rdF hp hd (.ref hA) sc rw fr (.ref u)))) R = some (.ins (He.ga K "Reader") dx (rdF hp hd (.ref hA) sc rw fr (.ref u))) := upd_same
      have kW := Kp.upd (S := fun c => c = R) (u := .ins (He.ga K "Reader") dx (rdF hp hd .non sc rw fr (.ref u))) ob3 trivial rfl
      refine ⟨_, rfl, R, _, dx, _, rfl, ob3, T.cl_Reader, T.no_Reader_head, (by show 7 < 1000; decide), ?_⟩
      rw [show putF ("head" : Str) V.non (rdF hp hd (.ref hA) sc rw fr (.ref u)) = rdF hp hd .non sc rw fr (.ref u) from rdF_put_head ..]
      refine q _ (.ref u) ?_ upd_same (dp_kp kW _ _ nD (dp_kp kU _ _ nD dv))
      exact (kp_wk kF fun c z => .inl z).trans ((Kp.of_same sA).trans ((kp_wk kU fun c z => .inr z).trans (kp_wk kW fun c z => .inr z)))
end

section
variable {P : Program} {w : World} {K : PySem.W.Frag} {mg : Str → Option Value} {base : Heap}
def sp_tkhead (K : PySem.W.Frag) : Sp := fun vs H Q _ => ∃ (R dx hp hd : Addr) (sc : V) (rw fr W : Addr) (hl : List V) (kvs : List (Key × V)) (ps : List Str) (kd nm : Str), vs = [.ref R, .ref W] ∧ H R = some (.ins (He.ga K "Reader") dx (rdF hp hd .non sc rw fr .non)) ∧ H hp = some (.lst hl) ∧ H hd = some (.dK kvs) ∧
  (∀ x ∈ ps, IsNm x) ∧ ps.Nodup ∧ ps.length ≤ 4 ∧ ((kd = "helper" ∧ H W = some (.lst ((kd :: nm :: ps).map V.str)) ∧ IsNm nm ∧ hl.length < 4 ∧ valV kvs (.inr nm) = none) ∨ (kd = "main" ∧ nm = ("" : Str) ∧ H W = some (.lst ((kd :: ps).map V.str)))) ∧
  ∀ H' hA (A : ScA) fr' o f s pa, Kp (fun b => b = R) H H' → H' R = some (.ins (He.ga K "Reader") dx (rdF hp hd (.ref hA) (.ref A.p) rw fr' .non)) → SqT K H' hA [.str kd, .str nm, .ref pa] → SqT K H' pa (ps.map V.str) →
    H fr' = none → H f = none → H A.p = none → H A.k = none → H A.r = none → H' fr' = some (.lst ([o].map V.ref)) → OpAt K H' o "body" .non f s false → H' f = some (.lst []) → (∃ dxs, H' A.p = some (.ins (He.ga K "Scope") dxs (scF A.r A.h A.k 0))) → H' A.r = some (.lst []) → H' A.h = some (.dK kvs) → H' A.k = some (.dK (knD ps)) → A.h ≠ A.k → A.r ≠ fr' → A.r ≠ f → f ≠ fr' → Q (.bl true) H'
theorem ok_takes_head (T : Top K mg) : FnOk P w K mg base CX0 3 (He.ma K (He.ga K "Reader") "takes_head") T.fd_Reader_takes_head ["self", "words"] (sp_tkhead K) := by
  have G_is_name := ok_is_name (P := P) (w := w) (base := base) T
  have G_are_params := ok_are_params (P := P) (w := w) (base := base) T
  have G_Scope___init__ := ok_Scope_init (P := P) (w := w) (base := base) T
  have G_Open___init__ := ok_Open_init (P := P) (w := w) (base := base) T
  refine T.F_Reader_takes_head.ok sc_Reader_takes_head (fun vs H Q E h => ?_) (fun cdv A outer s H vs Q E hr h => ?_)
  · obtain ⟨R, dx, hp, hd, sc, rw, fr, W, hl, kvs, ps, kd, nm, rfl, _⟩ := h
    rfl
  · obtain ⟨R, dx, hp, hd, sc, rw, fr, W, hl, kvs, ps, kd, nm, rfl, ob, ehp, ehd, hn, nd, l4, hq, q⟩ := h
    refine ⟨_, PSs.nox (pss_cons (ps_set (i := 2) sc_Reader_takes_head.nd rfl (Or.inl rfl) (pe_callTy call_tuple_of (by rfl) T.m_tuple (by decide +kernel) (pa_cons (pe_slice sl_list (pv 1) (po_some pe_int) po_none) pa_nil)))
        (pss_cons (ps_if (pt_cmpR op_eq (pe_ix ix_list (pv 1) pe_int (fun _ _ => rfl)) pe_str (nomark _)) (pss_cons (ps_set (i := 2) sc_Reader_takes_head.nd rfl (Or.inl rfl) (pe_callTy call_tuple_of (by rfl) T.m_tuple (by decide +kernel) (pa_cons (pe_slice sl_list (pv 1) (po_some pe_int) po_none) pa_nil)))
        (pss_one (ps_if (PW.pt (pw_or (pt_cmpR op_lt (pe_callB call_len_seq (by rfl) T.m_len (by decide +kernel) (pa_cons (pv 1) pa_nil)) pe_int (nomark _)) (pw_or (pt_cmpR op_eq (pe_callB call_len_seq (by rfl) T.m_len (by decide +kernel) (pa_cons (pe_fld (pv 0) rfl) pa_nil)) (pe_glob (v := .int 4) (by rfl) T.c_MOST_HELPERS ⟨_, rfl⟩) (nomark _)) (pw_or (pt_not (pt_val (pe_call G_is_name (hr.mono (by omega)) (by rfl) T.g_is_name T.F_is_name.kp T.b_is_name .nil pass0 (pa_cons (pe_ix ix_list (pv 1) pe_int (fun _ _ => rfl)) pa_nil)))) (pw_or1 (pt_cmp (pc_din (hu_of hr) (pe_ix ix_list (pv 1) pe_int (fun _ _ => rfl)) (pe_fld (pv 0) rfl)))))))) (pss_one (ps_ret pe_bl)) pss_nil))) pss_nil)
        (pss_cons (ps_if (PW.pt (pw_or (pt_cmpR op_notIn_seq (pe_ix ix_list (pv 1) pe_int (fun _ _ => rfl)) (pe_tup (pa_cons pe_str (pa_cons pe_str pa_nil))) (by rfl)) (pw_or1 (pt_not (pt_val (pe_call G_are_params (hr.mono (by omega)) (by rfl) T.g_are_params T.F_are_params.kp T.b_are_params .nil pass0 (pa_cons (pv 2) pa_nil))))))) (pss_one (ps_ret pe_bl)) pss_nil)
        (pss_cons (ps_fld (pv 0) (pe_tup (pa_cons (pe_ix ix_list (pv 1) pe_int (fun _ _ => rfl)) (pa_cons (pe_ifExp (pt_cmpR op_eq (pe_ix ix_list (pv 1) pe_int (fun _ _ => rfl)) pe_str (nomark _)) (pe_ix ix_list (pv 1) pe_int (fun _ _ => rfl)) pe_str) (pa_cons (pv 2) pa_nil)))) rfl)
        (pss_cons (ps_fld (pv 0) (pe_make T.mk_Scope G_Scope___init__ (hr.mono (by omega)) (by rfl) T.g_Scope T.b_Scope___init__ .nil pass0 (pa_cons (pv 2) (pa_cons (pe_lst pa_nil) (pa_cons (pe_fld (pv 0) rfl) pa_nil)))) rfl)
        (pss_cons (ps_fld (pv 0) (pe_lst (pa_cons (pe_make T.mk_Open G_Open___init__ (hr.mono (by omega)) (by rfl) T.g_Open T.b_Open___init__ .nil pass0 (pa_cons pe_str (pa_cons pe_non pa_nil))) pa_nil)) rfl)
        (pss_one (ps_ret pe_bl)))))))), ?_⟩
    have big : ∀ n : Nat, n ≤ 10000 → n ≤ sizeLine := fun n h => by rw [sizeLine_eq]; omega
    rcases hq with ⟨rfl, eW, nn, l3, nv⟩ | ⟨rfl, rfl, eW⟩
    · have hat0 : atI ((("helper" : Str) :: nm :: ps).map V.str) 0 = some (.str "helper") := atI_nat (j := 0) rfl
      have hat1 : atI ((("helper" : Str) :: nm :: ps).map V.str) 1 = some (.str nm) := atI_nat (j := 1) rfl
      refine ⟨_, rfl, 1, rfl, W, _, rfl, .inl (.inl eW), fun S nS => ⟨S, _, rfl, .inl ⟨.of upd_same, fun t0 nt0 => ?_⟩⟩⟩
      have s1 := (same_new (o := .lst (cutV ((("helper" : Str) :: nm :: ps).map V.str) (some 1) none)) nS).trans (same_new (o := .tup (cutV ((("helper" : Str) :: nm :: ps).map V.str) (some 1) none)) nt0)
      generalize upd (upd H S (.lst (cutV ((("helper" : Str) :: nm :: ps).map V.str) (some 1) none))) t0 (.tup (cutV ((("helper" : Str) :: nm :: ps).map V.str) (some 1) none)) = H1 at s1 ⊢
      dsimp only [gName, List.set]
      refine ⟨_, rfl, W, _, 0, _, rfl, rfl, .of (s1 _ _ eW), hat0, rfl, _, rfl, ifD rfl ?_⟩
      refine ⟨_, rfl, 2, rfl, W, _, rfl, .inl (.inl (s1 _ _ eW)), fun S2 nS2 => ⟨S2, _, rfl, .inl ⟨.of upd_same, fun t nt => ?_⟩⟩⟩
      have ec : cutV ((("helper" : Str) :: nm :: ps).map V.str) (some 2) none = ps.map V.str := cutV_from ((("helper" : Str) :: nm :: ps).map V.str) 2
      rw [ec] at nt ⊢
      have s2 := (same_new (o := .lst (ps.map V.str)) nS2).trans (same_new (o := .tup (ps.map V.str)) nt)
      have hpt : SqT K (upd (upd H1 S2 (.lst (ps.map V.str))) t (.tup (ps.map V.str))) t (ps.map V.str) := .of upd_same
      generalize upd (upd H1 S2 (.lst (ps.map V.str))) t (.tup (ps.map V.str)) = H2 at s2 hpt ⊢
      dsimp only [gName, List.set]
      have s02 := s1.trans s2
      have lW : ((("helper" : Str) :: nm :: ps).map V.str).length = ps.length + 2 := by simp
      refine ⟨_, rfl, W, _, rfl, .inl (.of (s02 _ _ eW)), _, _, rfl, rfl, _, rfl, ifN (by rw [lW]; omega) ?_⟩
      refine ⟨_, rfl, R, _, dx, _, _, rfl, (s02 _ _ ob), T.cl_Reader, T.no_Reader_helpers, rdF_helpers _ _ _ _ _ _ _, hp, _, rfl, .inl (.of (s02 _ _ ehp)), rfl, _, rfl, ifN (fun e => by have := V.int.inj e; omega) ?_⟩
      refine ⟨_, rfl, W, _, 1, _, rfl, rfl, .of (s02 _ _ eW), hat1, .str nm, rfl, .inl ⟨nm, rfl, Nat.le_trans nn.hi (by decide), fun H3 s3 => ?_⟩⟩
      rw [nmB_ok.mpr nn]
      refine ⟨_, rfl, ifF rfl ?_⟩
      have s03 := s02.trans s3
      have hget : DGet H3 hd (.str nm) none := by
        have := DGet.k (k := .inr nm) (s03 _ _ ehd)
        rw [nv] at this
        exact this
      refine ⟨_, rfl, W, _, 1, _, rfl, rfl, .of (s03 _ _ eW), hat1, _, rfl, R, _, dx, _, _, rfl, (s03 _ _ ob), T.cl_Reader, T.no_Reader_heads, rdF_heads _ _ _ _ _ _ _, hd, _, rfl, hget, _, rfl, ifF rfl ?_⟩
      have hpt3 := sqT_sm s3 hpt
      clear s1 s2 s3 s02 hpt hget
      have hin0 : inV (V.str "helper") [.str "helper", .str "main"] = true := by decide +kernel
      refine ⟨_, rfl, W, _, 0, _, rfl, rfl, .of (s03 _ _ eW), hat0, big 2 (by decide), fun pt npt => ⟨pt, _, rfl, .inr (.of upd_same), rfl, by decide +kernel, false, by rw [if_pos rfl, hin0]; rfl, ?_⟩⟩
      have s34 := same_new (o := .tup [.str "helper", .str "main"]) npt
      refine ⟨_, rfl, t, ps, rfl, sqT_sm s34 hpt3, hn, nd, l4, fun H5 s45 => ⟨_, rfl, ifF rfl ?_⟩⟩
      have hpt5 := sqT_sm s45 (sqT_sm s34 hpt3)
      have s05 := s03.trans (s34.trans s45)
      clear s34 s45 s03 hpt3 npt
      refine ⟨_, rfl, W, _, 0, _, rfl, rfl, .of (s05 _ _ eW), hat0, _, rfl, W, _, 0, _, rfl, rfl, .of (s05 _ _ eW), hat0, rfl, _, rfl, ifD rfl ⟨_, rfl, W, _, 1, _, rfl, rfl, .of (s05 _ _ eW), hat1, _, rfl, big 3 (by decide), fun u nu => ?_⟩⟩
      have s56 := same_new (o := .tup [.str "helper", .str nm, .ref t]) nu
      have hu6 : SqT K (upd H5 u (.tup [.str "helper", .str nm, .ref t])) u [.str "helper", .str nm, .ref t] := .of upd_same
      have hpt6 := sqT_sm s56 hpt5
      have ob6 := (s05.trans s56) _ _ ob
      have ehd6 := (s05.trans s56) _ _ ehd
      have k06 : Kp (fun b => b = R) H (upd H5 u (.tup [.str "helper", .str nm, .ref t])) := Kp.of_same (s05.trans s56)
      generalize upd H5 u (.tup [.str "helper", .str nm, .ref t]) = H6 at hu6 hpt6 ob6 ehd6 k06 ⊢
      clear s56 s05 hpt5 nu
      refine ⟨_, rfl, R, _, dx, _, rfl, (ob6), T.cl_Reader, T.no_Reader_head, (by show 7 < 1000; decide), ?_⟩
      rw [show putF ("head" : Str) (V.ref u) (rdF hp hd .non sc rw fr .non) = rdF hp hd (.ref u) sc rw fr .non from rdF_put_head ..]
      have k67 : Kp (fun b => b = R) H6 (upd H6 R (.ins (He.ga K "Reader") dx (rdF hp hd (.ref u) sc rw fr .non))) := Kp.upd ob6 trivial rfl
      have ob7 : (upd H6 R (.ins (He.ga K "Reader") dx (rdF hp hd (.ref u) sc rw fr .non))) R = some (.ins (He.ga K "Reader") dx (rdF hp hd (.ref u) sc rw fr .non)) := upd_same
      have hdR : hd ≠ R := fun z => by rw [z, ob6] at ehd6; cases ehd6
      have ehd7 := k67 _ _ ehd6 fun z => absurd z hdR
      have hu7 := sqT_kp k67 hu6
      have hpt7 := sqT_kp k67 hpt6
      have k07 := k06.trans k67
      generalize upd H6 R (.ins (He.ga K "Reader") dx (rdF hp hd (.ref u) sc rw fr .non)) = H7 at ob7 ehd7 hu7 hpt7 k07 ⊢
      clear k06 k67 ob6 ehd6 hu6 hpt6
      refine ⟨_, rfl, Nat.zero_le _, fun l nl => ⟨_, rfl, R, _, dx, _, _, rfl, ((same_new nl) _ _ ob7), T.cl_Reader, T.no_Reader_heads, rdF_heads _ _ _ _ _ _ _, fun x dxx nx ndx nex => ?_⟩⟩
      have s78 := (same_new (o := .lst []) nl).trans (same_made (C := He.ga K "Scope") nx ndx nex)
      have sM := same_made (C := He.ga K "Scope") nx ndx nex
      have nx7 : H7 x = none := none_sm (same_new (o := .lst []) nl) nx
      refine ⟨x, dxx, t, l, hd, ps, [], kvs, rfl, upd_same, sqT_sm s78 hpt7, sM _ _ upd_same, s78 _ _ ehd7, nd, by omega, fun H9 r h k k89 nr8 nh8 nk8 hhk ex9 er9 eh9 ek9 => ⟨rfl, ?_⟩⟩
      have s79 : Same H7 H9 := same_kp s78 k89 (fun c z => by rw [show c = x from z]; exact nx7)
      have nr7 := none_sm s78 nr8
      have nh7 := none_sm s78 nh8
      have nk7 := none_sm s78 nk8
      have ob9 := s79 _ _ ob7
      have hu9 := sqT_sm s79 hu7
      have hpt9 := sqT_sm s79 hpt7
      have k09 := k07.trans (Kp.of_same s79)
      clear k89 s78 sM nr8 nh8 nk8
      have nb : ∀ {c : Addr}, H7 c = none → H c = none := fun {c} n => by
        cases z : H c with
        | none => rfl
        | some v =>
          have := k07 c v z fun y => by rw [y, ob7] at n; cases n
          rw [n] at this
          cases this
      have nxR : x ≠ R := fun z => by rw [z, ob7] at nx7; cases nx7
      have nrR : r ≠ R := fun z => by rw [z, ob7] at nr7; cases nr7
      have nhR : h ≠ R := fun z => by rw [z, ob7] at nh7; cases nh7
      have nkR : k ≠ R := fun z => by rw [z, ob7] at nk7; cases nk7
      refine ⟨_, rfl, R, _, dx, _, rfl, (ob9), T.cl_Reader, T.no_Reader_scope, (by show 7 < 1000; decide), ?_⟩
      rw [show putF ("scope" : Str) (V.ref x) (rdF hp hd (.ref u) sc rw fr .non) = rdF hp hd (.ref u) (.ref x) rw fr .non from rdF_put_scope ..]
      have k9a : Kp (fun b => b = R) H9 (upd H9 R (.ins (He.ga K "Reader") dx (rdF hp hd (.ref u) (.ref x) rw fr .non))) := Kp.upd ob9 trivial rfl
      have obA : (upd H9 R (.ins (He.ga K "Reader") dx (rdF hp hd (.ref u) (.ref x) rw fr .non))) R = some (.ins (He.ga K "Reader") dx (rdF hp hd (.ref u) (.ref x) rw fr .non)) := upd_same
      have huA := sqT_kp k9a hu9
      have hptA := sqT_kp k9a hpt9
      have exA := k9a _ _ ex9 fun z => absurd z nxR
      have erA := k9a _ _ er9 fun z => absurd z nrR
      have ehA := k9a _ _ eh9 fun z => absurd z nhR
      have ekA := k9a _ _ ek9 fun z => absurd z nkR
      have k0A := k09.trans k9a
      generalize upd H9 R (.ins (He.ga K "Reader") dx (rdF hp hd (.ref u) (.ref x) rw fr .non)) = HA at obA huA hptA exA erA ehA ekA k0A ⊢
      clear k09 k9a ob9 hu9 hpt9 ex9 er9 eh9 ek9 s79
      have nbA : ∀ {c : Addr}, HA c = none → H c = none := fun {c} n => by
        cases z : H c with
        | none => rfl
        | some v =>
          have := k0A c v z fun y => by rw [y, obA] at n; cases n
          rw [n] at this
          cases this
      intro o dxo no ndxo neo
      have sMo := same_made (C := He.ga K "Open") no ndxo neo
      refine ⟨o, dxo, "body", .non, rfl, upd_same, fun HC f s kBC nfB nsB fs eoC efC esC => ⟨rfl, big 1 (by decide), fun fr' nfr => ?_⟩⟩
      have sAC : Same HA HC := same_kp sMo kBC (fun c z => by rw [show c = o from z]; exact no)
      have nfA := none_sm sMo nfB
      have sCD := same_new (o := .lst [.ref o]) nfr
      have nfrA := none_sm sAC nfr
      have sAD := sAC.trans sCD
      refine ⟨_, rfl, R, _, dx, _, rfl, (sAD _ _ obA), T.cl_Reader, T.no_Reader_frames, (by show 7 < 1000; decide), ?_⟩
      rw [show putF ("frames" : Str) (V.ref fr') (rdF hp hd (.ref u) (.ref x) rw fr .non) = rdF hp hd (.ref u) (.ref x) rw fr' .non from rdF_put_frames ..]
      have kDE : Kp (fun b => b = R) (upd HC fr' (.lst [.ref o])) (upd (upd HC fr' (.lst [.ref o])) R (.ins (He.ga K "Reader") dx (rdF hp hd (.ref u) (.ref x) rw fr' .non))) := Kp.upd (sAD _ _ obA) trivial rfl
      have nR : ∀ {c : Addr}, HA c = none → c ≠ R := fun {c} n z => by rw [z, obA] at n; cases n
      refine q _ u ⟨x, r, h, k⟩ fr' o f s t (k0A.trans ((Kp.of_same sAD).trans kDE)) upd_same (sqT_kp kDE (sqT_sm sAD huA)) (sqT_kp kDE (sqT_sm sAD hptA)) (nbA nfrA) (nbA nfA) (nb nx7) (nb nk7) (nb nr7) (kDE _ _ upd_same fun z => absurd z (nR nfrA)) ⟨dxo, kDE _ _ (sCD _ _ eoC) fun z => absurd z (nR no)⟩ (kDE _ _ (sCD _ _ efC) fun z => absurd z (nR nfA)) ⟨dxx, kDE _ _ (sAD _ _ exA) fun z => absurd z nxR⟩ (kDE _ _ (sAD _ _ erA) fun z => absurd z nrR) (kDE _ _ (sAD _ _ ehA) fun z => absurd z nhR) (kDE _ _ (sAD _ _ ekA) fun z => absurd z nkR) hhk (ne_of_none erA nfrA) (ne_of_none erA nfA) (ne_of_none efC nfr)
    · have hat0 : atI ((("main" : Str) :: ps).map V.str) 0 = some (.str "main") := atI_nat (j := 0) rfl
      refine ⟨_, rfl, 1, rfl, W, _, rfl, .inl (.inl eW), fun S nS => ⟨S, _, rfl, .inl ⟨.of upd_same, fun t nt => ?_⟩⟩⟩
      have ec : cutV ((("main" : Str) :: ps).map V.str) (some 1) none = ps.map V.str := cutV_from ((("main" : Str) :: ps).map V.str) 1
      rw [ec] at nt ⊢
      have s03 := (same_new (o := .lst (ps.map V.str)) nS).trans (same_new (o := .tup (ps.map V.str)) nt)
      have hpt3 : SqT K (upd (upd H S (.lst (ps.map V.str))) t (.tup (ps.map V.str))) t (ps.map V.str) := .of upd_same
      generalize upd (upd H S (.lst (ps.map V.str))) t (.tup (ps.map V.str)) = H3 at s03 hpt3 ⊢
      dsimp only [gName, List.set]
      refine ⟨_, rfl, W, _, 0, _, rfl, rfl, .of (s03 _ _ eW), hat0, rfl, _, rfl, ifN (fun e => absurd (V.str.inj e) (by decide +kernel)) ?_⟩
      have hin0 : inV (V.str "main") [.str "helper", .str "main"] = true := by decide +kernel
      refine ⟨_, rfl, W, _, 0, _, rfl, rfl, .of (s03 _ _ eW), hat0, big 2 (by decide), fun pt npt => ⟨pt, _, rfl, .inr (.of upd_same), rfl, by decide +kernel, false, by rw [if_pos rfl, hin0]; rfl, ?_⟩⟩
      have s34 := same_new (o := .tup [.str "helper", .str "main"]) npt
      refine ⟨_, rfl, t, ps, rfl, sqT_sm s34 hpt3, hn, nd, l4, fun H5 s45 => ⟨_, rfl, ifF rfl ?_⟩⟩
      have hpt5 := sqT_sm s45 (sqT_sm s34 hpt3)
      have s05 := s03.trans (s34.trans s45)
      clear s34 s45 s03 hpt3 npt
      refine ⟨_, rfl, W, _, 0, _, rfl, rfl, .of (s05 _ _ eW), hat0, _, rfl, W, _, 0, _, rfl, rfl, .of (s05 _ _ eW), hat0, rfl, _, rfl, ifN (fun e => absurd (V.str.inj e) (by decide +kernel)) ⟨_, rfl, big 3 (by decide), fun u nu => ?_⟩⟩
      have s56 := same_new (o := .tup [.str "main", .str "", .ref t]) nu
      have hu6 : SqT K (upd H5 u (.tup [.str "main", .str "", .ref t])) u [.str "main", .str "", .ref t] := .of upd_same
      have hpt6 := sqT_sm s56 hpt5
      have ob6 := (s05.trans s56) _ _ ob
      have ehd6 := (s05.trans s56) _ _ ehd
      have k06 : Kp (fun b => b = R) H (upd H5 u (.tup [.str "main", .str "", .ref t])) := Kp.of_same (s05.trans s56)
      generalize upd H5 u (.tup [.str "main", .str "", .ref t]) = H6 at hu6 hpt6 ob6 ehd6 k06 ⊢
      clear s56 s05 hpt5 nu
      refine ⟨_, rfl, R, _, dx, _, rfl, (ob6), T.cl_Reader, T.no_Reader_head, (by show 7 < 1000; decide), ?_⟩
      rw [show putF ("head" : Str) (V.ref u) (rdF hp hd .non sc rw fr .non) = rdF hp hd (.ref u) sc rw fr .non from rdF_put_head ..]
      have k67 : Kp (fun b => b = R) H6 (upd H6 R (.ins (He.ga K "Reader") dx (rdF hp hd (.ref u) sc rw fr .non))) := Kp.upd ob6 trivial rfl
      have ob7 : (upd H6 R (.ins (He.ga K "Reader") dx (rdF hp hd (.ref u) sc rw fr .non))) R = some (.ins (He.ga K "Reader") dx (rdF hp hd (.ref u) sc rw fr .non)) := upd_same
      have hdR : hd ≠ R := fun z => by rw [z, ob6] at ehd6; cases ehd6
      have ehd7 := k67 _ _ ehd6 fun z => absurd z hdR
      have hu7 := sqT_kp k67 hu6
      have hpt7 := sqT_kp k67 hpt6
      have k07 := k06.trans k67
      generalize upd H6 R (.ins (He.ga K "Reader") dx (rdF hp hd (.ref u) sc rw fr .non)) = H7 at ob7 ehd7 hu7 hpt7 k07 ⊢
      clear k06 k67 ob6 ehd6 hu6 hpt6
      refine ⟨_, rfl, Nat.zero_le _, fun l nl => ⟨_, rfl, R, _, dx, _, _, rfl, ((same_new nl) _ _ ob7), T.cl_Reader, T.no_Reader_heads, rdF_heads _ _ _ _ _ _ _, fun x dxx nx ndx nex => ?_⟩⟩
      have s78 := (same_new (o := .lst []) nl).trans (same_made (C := He.ga K "Scope") nx ndx nex)
      have sM := same_made (C := He.ga K "Scope") nx ndx nex
      have nx7 : H7 x = none := none_sm (same_new (o := .lst []) nl) nx
      refine ⟨x, dxx, t, l, hd, ps, [], kvs, rfl, upd_same, sqT_sm s78 hpt7, sM _ _ upd_same, s78 _ _ ehd7, nd, by omega, fun H9 r h k k89 nr8 nh8 nk8 hhk ex9 er9 eh9 ek9 => ⟨rfl, ?_⟩⟩
      have s79 : Same H7 H9 := same_kp s78 k89 (fun c z => by rw [show c = x from z]; exact nx7)
      have nr7 := none_sm s78 nr8
      have nh7 := none_sm s78 nh8
      have nk7 := none_sm s78 nk8
      have ob9 := s79 _ _ ob7
      have hu9 := sqT_sm s79 hu7
      have hpt9 := sqT_sm s79 hpt7
      have k09 := k07.trans (Kp.of_same s79)
      clear k89 s78 sM nr8 nh8 nk8
      have nb : ∀ {c : Addr}, H7 c = none → H c = none := fun {c} n => by
        cases z : H c with
        | none => rfl
        | some v =>
          have := k07 c v z fun y => by rw [y, ob7] at n; cases n
          rw [n] at this
          cases this
      have nxR : x ≠ R := fun z => by rw [z, ob7] at nx7; cases nx7
      have nrR : r ≠ R := fun z => by rw [z, ob7] at nr7; cases nr7
      have nhR : h ≠ R := fun z => by rw [z, ob7] at nh7; cases nh7
      have nkR : k ≠ R := fun z => by rw [z, ob7] at nk7; cases nk7
      refine ⟨_, rfl, R, _, dx, _, rfl, (ob9), T.cl_Reader, T.no_Reader_scope, (by show 7 < 1000; decide), ?_⟩
      rw [show putF ("scope" : Str) (V.ref x) (rdF hp hd (.ref u) sc rw fr .non) = rdF hp hd (.ref u) (.ref x) rw fr .non from rdF_put_scope ..]
      have k9a : Kp (fun b => b = R) H9 (upd H9 R (.ins (He.ga K "Reader") dx (rdF hp hd (.ref u) (.ref x) rw fr .non))) := Kp.upd ob9 trivial rfl
      have obA : (upd H9 R (.ins (He.ga K "Reader") dx (rdF hp hd (.ref u) (.ref x) rw fr .non))) R = some (.ins (He.ga K "Reader") dx (rdF hp hd (.ref u) (.ref x) rw fr .non)) := upd_same
      have huA := sqT_kp k9a hu9
      have hptA := sqT_kp k9a hpt9
      have exA := k9a _ _ ex9 fun z => absurd z nxR
      have erA := k9a _ _ er9 fun z => absurd z nrR
      have ehA := k9a _ _ eh9 fun z => absurd z nhR
      have ekA := k9a _ _ ek9 fun z => absurd z nkR
      have k0A := k09.trans k9a
      generalize upd H9 R (.ins (He.ga K "Reader") dx (rdF hp hd (.ref u) (.ref x) rw fr .non)) = HA at obA huA hptA exA erA ehA ekA k0A ⊢
      clear k09 k9a ob9 hu9 hpt9 ex9 er9 eh9 ek9 s79
      have nbA : ∀ {c : Addr}, HA c = none → H c = none := fun {c} n => by
        cases z : H c with
        | none => rfl
        | some v =>
          have := k0A c v z fun y => by rw [y, obA] at n; cases n
          rw [n] at this
          cases this
      intro o dxo no ndxo neo
      have sMo := same_made (C := He.ga K "Open") no ndxo neo
      refine ⟨o, dxo, "body", .non, rfl, upd_same, fun HC f s kBC nfB nsB fs eoC efC esC => ⟨rfl, big 1 (by decide), fun fr' nfr => ?_⟩⟩
      have sAC : Same HA HC := same_kp sMo kBC (fun c z => by rw [show c = o from z]; exact no)
      have nfA := none_sm sMo nfB
      have sCD := same_new (o := .lst [.ref o]) nfr
      have nfrA := none_sm sAC nfr
      have sAD := sAC.trans sCD
      refine ⟨_, rfl, R, _, dx, _, rfl, (sAD _ _ obA), T.cl_Reader, T.no_Reader_frames, (by show 7 < 1000; decide), ?_⟩
      rw [show putF ("frames" : Str) (V.ref fr') (rdF hp hd (.ref u) (.ref x) rw fr .non) = rdF hp hd (.ref u) (.ref x) rw fr' .non from rdF_put_frames ..]
      have kDE : Kp (fun b => b = R) (upd HC fr' (.lst [.ref o])) (upd (upd HC fr' (.lst [.ref o])) R (.ins (He.ga K "Reader") dx (rdF hp hd (.ref u) (.ref x) rw fr' .non))) := Kp.upd (sAD _ _ obA) trivial rfl
      have nR : ∀ {c : Addr}, HA c = none → c ≠ R := fun {c} n z => by rw [z, obA] at n; cases n
      refine q _ u ⟨x, r, h, k⟩ fr' o f s t (k0A.trans ((Kp.of_same sAD).trans kDE)) upd_same (sqT_kp kDE (sqT_sm sAD huA)) (sqT_kp kDE (sqT_sm sAD hptA)) (nbA nfrA) (nbA nfA) (nb nx7) (nb nk7) (nb nr7) (kDE _ _ upd_same fun z => absurd z (nR nfrA)) ⟨dxo, kDE _ _ (sCD _ _ eoC) fun z => absurd z (nR no)⟩ (kDE _ _ (sCD _ _ efC) fun z => absurd z (nR nfA)) ⟨dxx, kDE _ _ (sAD _ _ exA) fun z => absurd z nxR⟩ (kDE _ _ (sAD _ _ erA) fun z => absurd z nrR) (kDE _ _ (sAD _ _ ehA) fun z => absurd z nhR) (kDE _ _ (sAD _ _ ekA) fun z => absurd z nkR) hhk (ne_of_none erA nfrA) (ne_of_none erA nfA) (ne_of_none efC nfr)
end

section
variable {P : Program} {w : World} {K : PySem.W.Frag} {mg : Str → Option Value} {base : Heap}
def sp_tkrow (K : PySem.W.Frag) : Sp := fun vs H Q _ => ∃ (R dx hp hd hA pa dxs : Addr) (A : ScA) (rw fr W : Addr) (ps rs : List Str) (rl : List V) (x : Str) (n : Nat), vs = [.ref R, .ref W] ∧ H R = some (.ins (He.ga K "Reader") dx (rdF hp hd (.ref hA) (.ref A.p) rw fr .non)) ∧ SqT K H hA [.str "main", .str "", .ref pa] ∧ SqT K H pa (ps.map V.str) ∧
  H A.p = some (.ins (He.ga K "Scope") dxs (scF A.r A.h A.k 0)) ∧ H A.r = some (.lst (rs.map V.str)) ∧ H rw = some (.lst rl) ∧ rl.length < 3 ∧ H W = some (.lst (([("row" : Str), x, numS (n : Int)] : List Str).map V.str)) ∧ IsNm x ∧ x ∉ ps ∧ x ∉ rs ∧ 1 ≤ n ∧ n ≤ 8 ∧ ps.length ≤ 4 ∧ rs.length ≤ 3 ∧ rw ≠ A.r ∧ W ≠ rw ∧
  ∀ H' y, Kp (fun c => c = rw ∨ c = A.r) H H' → H' rw = some (.lst (rl ++ [y])) → Dp K H' y (.tuple [.str x, .int (n : Int)]) → H' A.r = some (.lst ((rs ++ [x]).map V.str)) → Q (.bl true) H'
theorem ok_takes_row (T : Top K mg) : FnOk P w K mg base CX0 3 (He.ma K (He.ga K "Reader") "takes_row") T.fd_Reader_takes_row ["self", "words"] (sp_tkrow K) := by
  have G_is_name := ok_is_name (P := P) (w := w) (base := base) T
  have G_number_by := ok_number_by (P := P) (w := w) (base := base) T
  have G_is_size := ok_is_size (P := P) (w := w) (base := base) T
  refine T.F_Reader_takes_row.ok sc_Reader_takes_row (fun vs H Q E h => ?_) (fun cdv A outer s H vs Q E hr h => ?_)
  · obtain ⟨R, dx, hp, hd, hA, pa, dxs, A, rw, fr, W, ps, rs, rl, x, n, rfl, _⟩ := h
    rfl
  · obtain ⟨R, dx, hp, hd, hA, pa, dxs, B, rw, fr, W, ps, rs, rl, x, n, rfl, ob, hhA, hpa, obs, er, erw, l3, eW, nx, nps, nrs, n1, n8, l4, lrs, nrw, hWr, q⟩ := h
    refine ⟨_, PSs.nox (pss_cons (ps_if (PW.pt (pw_or (pt_cmpR op_ne (pe_ix ix_tup (pe_fld (pv 0) rfl) pe_int (fun _ _ => rfl)) pe_str (nomark _)) (pw_or (pt_cmpR op_gt (pe_fld (pe_fld (pv 0) rfl) rfl) pe_int (nomark _)) (pw_or (pt_cmpR op_ne (pe_callB call_len_seq (by rfl) T.m_len (by decide +kernel) (pa_cons (pv 1) pa_nil)) pe_int (nomark _)) (pw_or1 (pt_cmpR op_eq (pe_callB call_len_seq (by rfl) T.m_len (by decide +kernel) (pa_cons (pe_fld (pv 0) rfl) pa_nil)) (pe_glob (v := .int 3) (by rfl) T.c_MOST_ROWS ⟨_, rfl⟩) (nomark _))))))) (pss_one (ps_ret pe_bl)) pss_nil)
        (pss_cons (ps_if (PW.pt (pw_or (pt_not (pt_val (pe_call G_is_name (hr.mono (by omega)) (by rfl) T.g_is_name T.F_is_name.kp T.b_is_name .nil pass0 (pa_cons (pe_ix ix_list (pv 1) pe_int (fun _ _ => rfl)) pa_nil)))) (pw_or1 (pt_cmpR op_in_seq (pe_ix ix_list (pv 1) pe_int (fun _ _ => rfl)) (pe_op op_catA (pe_ix ix_tup (pe_fld (pv 0) rfl) pe_int (fun _ _ => rfl)) (pe_callTy call_tuple_of (by rfl) T.m_tuple (by decide +kernel) (pa_cons (pe_fld (pe_fld (pv 0) rfl) rfl) pa_nil))) (by rfl))))) (pss_one (ps_ret pe_bl)) pss_nil)
        (pss_cons (ps_if (pt_not (pt_val (pe_call G_is_size (hr.mono (by omega)) (by rfl) T.g_is_size T.F_is_size.kp T.b_is_size .nil pass0 (pa_cons (pe_call G_number_by (hr.mono (by omega)) (by rfl) T.g_number_by T.F_number_by.kp T.b_number_by .nil pass0 (pa_cons (pe_ix ix_list (pv 1) pe_int (fun _ _ => rfl)) pa_nil)) pa_nil)))) (pss_one (ps_ret pe_bl)) pss_nil)
        (pss_cons (ps_expr (pe_bm PySem.F.plainAttrs_list PySem.F.slot_list_append PySem.F.type_list_append mt_append (pe_fld (pv 0) rfl) (pa_cons (pe_tup (pa_cons (pe_ix ix_list (pv 1) pe_int (fun _ _ => rfl)) (pa_cons (pe_call G_number_by (hr.mono (by omega)) (by rfl) T.g_number_by T.F_number_by.kp T.b_number_by .nil pass0 (pa_cons (pe_ix ix_list (pv 1) pe_int (fun _ _ => rfl)) pa_nil)) pa_nil))) pa_nil)))
        (pss_cons (ps_expr (pe_bm PySem.F.plainAttrs_list PySem.F.slot_list_append PySem.F.type_list_append mt_append (pe_fld (pe_fld (pv 0) rfl) rfl) (pa_cons (pe_ix ix_list (pv 1) pe_int (fun _ _ => rfl)) pa_nil)))
        (pss_one (ps_ret pe_bl))))))), ?_⟩
    have big : ∀ n : Nat, n ≤ 10000 → n ≤ sizeLine := fun n h => by rw [sizeLine_eq]; omega
    have hat1 : atI (([("row" : Str), x, numS (n : Int)] : List Str).map V.str) 1 = some (.str x) := atI_nat (j := 1) rfl
    have hat2 : atI (([("row" : Str), x, numS (n : Int)] : List Str).map V.str) 2 = some (.str (numS (n : Int))) := atI_nat (j := 2) rfl
    have i32 : In32 (n : Int) := ⟨by omega, by omega⟩
    refine ⟨_, rfl, R, _, dx, _, _, rfl, (ob), T.cl_Reader, T.no_Reader_head, rdF_head _ _ _ _ _ _ _, hA, _, 0, _, rfl, rfl, hhA, atI_nat (j := 0) rfl, rfl, _, rfl, ifNF rfl ?_⟩
    refine ⟨_, rfl, R, _, dx, _, _, rfl, (ob), T.cl_Reader, T.no_Reader_scope, rdF_scope _ _ _ _ _ _ _, B.p, _, dxs, _, _, rfl, obs, T.cl_Scope, T.no_Scope_many, scF_many _ _ _ _, _, _, rfl, rfl, _, rfl, ifN (by omega) ?_⟩
    refine ⟨_, rfl, W, _, rfl, .inl (.of eW), rfl, _, rfl, ifNF rfl ?_⟩
    refine ⟨_, rfl, R, _, dx, _, _, rfl, (ob), T.cl_Reader, T.no_Reader_rows, rdF_rows _ _ _ _ _ _ _, rw, _, rfl, .inl (.of erw), rfl, _, rfl, ifN (fun e => by have := V.int.inj e; omega) ?_⟩
    refine ⟨_, rfl, W, _, 1, _, rfl, rfl, .of eW, hat1, .str x, rfl, .inl ⟨x, rfl, Nat.le_trans nx.hi (by decide), fun H1 s1 => ?_⟩⟩
    rw [nmB_ok.mpr nx]
    refine ⟨_, rfl, ifF rfl ?_⟩
    refine ⟨_, rfl, W, _, 1, _, rfl, rfl, .of (s1 _ _ eW), hat1, _, rfl, R, _, dx, _, _, rfl, (s1 _ _ ob), T.cl_Reader, T.no_Reader_head, rdF_head _ _ _ _ _ _ _, hA, _, 2, _, rfl, rfl, sqT_sm s1 hhA, atI_nat (j := 2) rfl, _, rfl, R, _, dx, _, _, rfl, (s1 _ _ ob), T.cl_Reader, T.no_Reader_scope, rdF_scope _ _ _ _ _ _ _, B.p, _, dxs, _, _, rfl, s1 _ _ obs, T.cl_Scope, T.no_Scope_rows, scF_rows _ _ _ _, B.r, _, rfl, .inl ⟨.of (s1 _ _ er), fun t nt => ?_⟩⟩
    have st := same_new (o := .tup (rs.map V.str)) nt
    refine cat_use (.tup (sqT_sm (s1.trans st) hpa) (strs_dp _) : Dp K _ (.ref pa) (.tuple (ps.map PyData.str))) (.tup (.of upd_same) (strs_dp _) : Dp K _ (.ref t) (.tuple (rs.map PyData.str))) (strs_noL _) (strs_noL _) (by rw [List.length_map, List.length_map, sizeLine_eq]; omega) (fun H3 r s3 dr => ?_)
    have s03 := s1.trans (st.trans s3)
    obtain ⟨pr, us, rfl, hpr, dus⟩ := dp_tup dr
    rw [← List.map_append] at dus
    cases dpAll_strs dus
    refine ⟨pr, _, rfl, .inr hpr, rfl, flat_strs _, _, rfl, ?_⟩
    rw [if_neg Bool.false_ne_true, in_strs]
    refine ifN (fun z => (List.mem_append.mp z).elim nps nrs) ?_
    clear dr hpr dus st s3 s1
    refine ⟨_, rfl, W, _, 2, _, rfl, rfl, .of (s03 _ _ eW), hat2, numS (n : Int), rfl, .inl ⟨n, rfl, i32, fun H4 s4 => ?_⟩⟩
    have s04 := s03.trans s4
    refine ⟨(n : Int), rfl, by omega, by omega, _, rfl, ifF rfl ?_⟩
    refine ⟨_, rfl, R, _, dx, _, _, rfl, (s04 _ _ ob), T.cl_Reader, T.no_Reader_rows, rdF_rows _ _ _ _ _ _ _, .inl ⟨rfl, _, .of (s04 _ _ erw)⟩, _, rfl, W, _, 1, _, rfl, rfl, .of (s04 _ _ eW), hat1, _, rfl, W, _, 2, _, rfl, rfl, .of (s04 _ _ eW), hat2, numS (n : Int), rfl, .inl ⟨n, rfl, i32, fun H5 s5 => ?_⟩⟩
    have s05 := s04.trans s5
    refine ⟨big 2 (by decide), fun u nu => ?_⟩
    have su := same_new (o := .tup [.str x, .int (n : Int)]) nu
    have dv : Dp K (upd H5 u (.tup [.str x, .int (n : Int)])) (.ref u) (.tuple [.str x, .int (n : Int)]) := .tup (.of upd_same) (.cons (.str _) (.cons (.int _) .nil))
    have s06 := s05.trans su
    generalize upd H5 u (.tup [.str x, .int (n : Int)]) = H6 at dv s06 ⊢
    refine ⟨rw, rl, .ref u, rfl, rfl, s06 _ _ erw, by rw [sizeLine_eq]; omega, ?_⟩
    have k67 : Kp (fun c => c = rw) H6 (upd H6 rw (.lst (rl ++ [.ref u]))) := Kp.upd (s06 _ _ erw) trivial rfl
    have nD : nLd (.tuple [.str x, .int (n : Int)]) = true := rfl
    have hRw : R ≠ rw := fun z => by rw [z, erw] at ob; cases ob
    have hpw : B.p ≠ rw := fun z => by rw [z, erw] at obs; cases obs
    have hRr : R ≠ B.r := fun z => by rw [z, er] at ob; cases ob
    have ob7 := k67 _ _ (s06 _ _ ob) fun z => absurd z hRw
    have obs7 := k67 _ _ (s06 _ _ obs) fun z => absurd z hpw
    have er7 := k67 _ _ (s06 _ _ er) fun z => absurd z nrw.symm
    have erw7 : (upd H6 rw (.lst (rl ++ [.ref u]))) rw = some (.lst (rl ++ [.ref u])) := upd_same
    have dv7 := dp_kp k67 _ _ nD dv
    have k07 : Kp (fun c => c = rw ∨ c = B.r) H (upd H6 rw (.lst (rl ++ [.ref u]))) := (Kp.of_same s06).trans (kp_wk k67 fun c z => .inl z)
    have eW7 : W ≠ rw → (upd H6 rw (.lst (rl ++ [.ref u]))) W = some (.lst (([("row" : Str), x, numS (n : Int)] : List Str).map V.str)) := fun z => k67 _ _ (s06 _ _ eW) fun y => absurd y z
    have nWr : W ≠ rw := hWr
    generalize upd H6 rw (.lst (rl ++ [.ref u])) = H7 at k67 ob7 obs7 er7 erw7 dv7 k07 eW7 ⊢
    refine ⟨_, rfl, R, _, dx, _, _, rfl, (ob7), T.cl_Reader, T.no_Reader_scope, rdF_scope _ _ _ _ _ _ _, B.p, _, dxs, _, _, rfl, obs7, T.cl_Scope, T.no_Scope_rows, scF_rows _ _ _ _, .inl ⟨rfl, _, .of er7⟩, _, rfl, W, _, 1, _, rfl, rfl, .of (eW7 nWr), hat1, B.r, _, .str x, rfl, rfl, er7, by rw [List.length_map, sizeLine_eq]; omega, ?_⟩
    have k78 : Kp (fun c => c = B.r) H7 (upd H7 B.r (.lst (rs.map V.str ++ [.str x]))) := Kp.upd er7 trivial rfl
    refine q _ (.ref u) (k07.trans (kp_wk k78 fun c z => .inr z)) ?_ (dp_kp k78 _ _ nD dv7) (by rw [upd_same, List.map_append]; rfl)
    rw [upd_ne nrw]
    exact erw7
end

section
variable {P : Program} {w : World} {K : PySem.W.Frag} {mg : Str → Option Value} {base : Heap}
theorem eqv_one (ws : List Str) (x : Str) : PyData.eqv (.list (ws.map PyData.str)) (.list [.str x]) = decide (ws = [x]) := by
  rcases ws with _ | ⟨z, _ | ⟨y, r⟩⟩
  · simp [PyData.eqv, PyData.eqvAll]
  · by_cases h : z = x
    · simp [PyData.eqv, PyData.eqvAll, h]
    · simp [PyData.eqv, PyData.eqvAll, h]
  · simp [PyData.eqv, PyData.eqvAll]
def sp_takes (K : PySem.W.Frag) : Sp := fun vs H Q E => ∃ (R dx hp hd : Addr) (h sc : V) (rw fr W : Addr) (z : Str) (r : List Str), vs = [.ref R, .ref W] ∧ H R = some (.ins (He.ga K "Reader") dx (rdF hp hd h sc rw fr .non)) ∧ H W = some (.lst ((z :: r).map V.str)) ∧ (∀ y ∈ z :: r, PyData.strOk y = true) ∧
  ((h = .non ∧ sp_tkhead K vs H Q E) ∨ (h ≠ .non ∧ z = "row" ∧ sp_tkrow K vs H Q E) ∨ (h ≠ .non ∧ z = "end" ∧ r = [] ∧ ∀ H', Same H H' → sp_tkend K [.ref R] H' Q E) ∨ (h ≠ .non ∧ z = "else" ∧ r = [] ∧ ∀ H', Same H H' → sp_tkelse K [.ref R] H' Q E) ∨
   (h ≠ .non ∧ z ≠ "row" ∧ z ≠ "end" ∧ z ≠ "else" ∧ ∀ H', Same H H' → sp_tkst K vs H' Q E))
theorem ok_takes (T : Top K mg) : FnOk P w K mg base CX0 15 (He.ma K (He.ga K "Reader") "takes") T.fd_Reader_takes ["self", "words"] (sp_takes K) := by
  have G_Reader_takes_head := ok_takes_head (P := P) (w := w) (base := base) T
  have G_Reader_takes_row := ok_takes_row (P := P) (w := w) (base := base) T
  have G_Reader_takes_end := ok_takes_end (P := P) (w := w) (base := base) T
  have G_Reader_takes_else := ok_takes_else (P := P) (w := w) (base := base) T
  have G_Reader_takes_statement := ok_takes_statement (P := P) (w := w) (base := base) T
  refine T.F_Reader_takes.ok sc_Reader_takes (fun vs H Q E h => ?_) (fun cdv A outer s H vs Q E hr h => ?_)
  · obtain ⟨R, dx, hp, hd, h, sc, rw, fr, W, z, r, rfl, _⟩ := h
    rfl
  · obtain ⟨R, dx, hp, hd, h, sc, rw, fr, W, z, r, rfl, ob, eW, wk, hq⟩ := h
    refine ⟨_, PSs.nox (pss_cons (ps_if (pt_cmpR op_notN (pe_fld (pv 0) rfl) pe_non (nomark _)) (pss_one (ps_ret pe_bl)) pss_nil)
        (pss_cons (ps_if (pt_cmpR op_isN (pe_fld (pv 0) rfl) pe_non (nomark _)) (pss_one (ps_ret (pe_meth (pv 0) T.cl_Reader T.me_Reader_takes_head G_Reader_takes_head (hr.mono (by omega)) T.b_Reader_takes_head .nil pass0 (pa_cons (pv 1) pa_nil)))) pss_nil)
        (pss_cons (ps_if (pt_cmpR op_eq (pe_ix ix_list (pv 1) pe_int (fun _ _ => rfl)) pe_str (nomark _)) (pss_one (ps_ret (pe_meth (pv 0) T.cl_Reader T.me_Reader_takes_row G_Reader_takes_row (hr.mono (by omega)) T.b_Reader_takes_row .nil pass0 (pa_cons (pv 1) pa_nil)))) pss_nil)
        (pss_cons (ps_if (pt_cmpR (op_eqD hr.units) (pv 1) (pe_lst (pa_cons pe_str pa_nil)) (nomark _)) (pss_one (ps_ret (pe_meth0 (pv 0) T.cl_Reader T.me_Reader_takes_end G_Reader_takes_end (hr.mono (by omega)) T.b_Reader_takes_end .nil pass0))) pss_nil)
        (pss_cons (ps_if (pt_cmpR (op_eqD hr.units) (pv 1) (pe_lst (pa_cons pe_str pa_nil)) (nomark _)) (pss_one (ps_ret (pe_meth0 (pv 0) T.cl_Reader T.me_Reader_takes_else G_Reader_takes_else (hr.mono (by omega)) T.b_Reader_takes_else .nil pass0))) pss_nil)
        (pss_one (ps_ret (pe_meth (pv 0) T.cl_Reader T.me_Reader_takes_statement G_Reader_takes_statement (hr.mono (by omega)) T.b_Reader_takes_statement .nil pass0 (pa_cons (pv 1) pa_nil))))))))), ?_⟩
    have no : ∀ {m : Str} {a b : V} {c : Addr}, (m == ("helpers" : Str)) = false → (m == ("heads" : Str)) = false → (m == ("head" : Str)) = false → (m == ("scope" : Str)) = false → (m == ("rows" : Str)) = false → (m == ("frames" : Str)) = false → (m == ("program" : Str)) = false → (rdF hp hd a b rw c .non).lookup m = none := fun h1 h2 h3 h4 h5 h6 h7 => rdF_no h1 h2 h3 h4 h5 h6 h7
    have hat : atI ((z :: r).map V.str) 0 = some (.str z) := atI_nat (j := 0) rfl
    refine ⟨_, rfl, R, _, dx, _, _, rfl, ob, T.cl_Reader, T.no_Reader_program, rdF_program _ _ _ _ _ _ _, rfl, _, rfl, ifNF rfl ?_⟩
    rcases hq with ⟨rfl, hq⟩ | hq
    · refine ⟨_, rfl, R, _, dx, _, _, rfl, ob, T.cl_Reader, T.no_Reader_head, rdF_head _ _ _ _ _ _ _, rfl, _, rfl, ifD rfl ?_⟩
      exact ⟨_, rfl, R, dx, _, rfl, ob, no (by decide +kernel) (by decide +kernel) (by decide +kernel) (by decide +kernel) (by decide +kernel) (by decide +kernel) (by decide +kernel), _, rfl, hq⟩
    · have hh : h ≠ .non := by rcases hq with ⟨e, _⟩ | ⟨e, _⟩ | ⟨e, _⟩ | ⟨e, _⟩ <;> exact e
      refine ⟨_, rfl, R, _, dx, _, _, rfl, ob, T.cl_Reader, T.no_Reader_head, rdF_head _ _ _ _ _ _ _, rfl, _, rfl, ifN hh ?_⟩
      have cmp : ∀ (H1 : Hp) (x : Str) (l : Addr), PyData.strOk x = true → Same H H1 → H1 l = none → ∃ d e, Dp K (upd H1 l (.lst [.str x])) (.ref W) d ∧ Dp K (upd H1 l (.lst [.str x])) (.ref l) e ∧ SeqAt.shaped d = true ∧ SeqAt.shaped e = true ∧ PyData.eqv d e = decide (z :: r = [x]) := fun H1 x l kx s n =>
        ⟨.list ((z :: r).map PyData.str), .list [.str x], .lst (.of (same_new n _ _ (s _ _ eW))) (strs_dpAll _), .lst (.of upd_same) (.cons (.str _) .nil), strs_shaped _ wk, strs_shaped [x] (fun y hy => by rw [List.mem_singleton.mp hy]; exact kx), eqv_one _ _⟩
      rcases hq with ⟨_, rfl, hq⟩ | ⟨_, rfl, rfl, hq⟩ | ⟨_, rfl, rfl, hq⟩ | ⟨_, n1, n2, n3, hq⟩
      · refine ⟨_, rfl, W, _, 0, _, rfl, rfl, .of eW, hat, rfl, _, rfl, ifD rfl ?_⟩
        exact ⟨_, rfl, R, dx, _, rfl, ob, no (by decide +kernel) (by decide +kernel) (by decide +kernel) (by decide +kernel) (by decide +kernel) (by decide +kernel) (by decide +kernel), _, rfl, hq⟩
      · refine ⟨_, rfl, W, _, 0, _, rfl, rfl, .of eW, hat, rfl, _, rfl, ifN (fun e => absurd (V.str.inj e) (by decide +kernel)) ?_⟩
        refine ⟨_, rfl, by show 1 ≤ sizeLine; rw [sizeLine_eq]; decide, fun l nl => ?_⟩
        obtain ⟨d, e, c1, c2, c3, c4, c5⟩ := cmp H "end" l (by decide +kernel) (Same.refl _) nl
        refine ⟨d, e, c1, c2, c3, c4, _, rfl, ?_⟩
        rw [c5]
        exact ifD rfl ⟨_, rfl, R, dx, _, rfl, same_new nl _ _ ob, no (by decide +kernel) (by decide +kernel) (by decide +kernel) (by decide +kernel) (by decide +kernel) (by decide +kernel) (by decide +kernel), hq _ (same_new nl)⟩
      · refine ⟨_, rfl, W, _, 0, _, rfl, rfl, .of eW, hat, rfl, _, rfl, ifN (fun e => absurd (V.str.inj e) (by decide +kernel)) ?_⟩
        refine ⟨_, rfl, by show 1 ≤ sizeLine; rw [sizeLine_eq]; decide, fun l nl => ?_⟩
        obtain ⟨d, e, c1, c2, c3, c4, c5⟩ := cmp H "end" l (by decide +kernel) (Same.refl _) nl
        refine ⟨d, e, c1, c2, c3, c4, _, rfl, ?_⟩
        rw [c5]
        refine ifN (by decide +kernel) ?_
        refine ⟨_, rfl, by show 1 ≤ sizeLine; rw [sizeLine_eq]; decide, fun l2 nl2 => ?_⟩
        obtain ⟨d, e, c1, c2, c3, c4, c5⟩ := cmp _ "else" l2 (by decide +kernel) (same_new nl) nl2
        refine ⟨d, e, c1, c2, c3, c4, _, rfl, ?_⟩
        rw [c5]
        exact ifD rfl ⟨_, rfl, R, dx, _, rfl, same_new nl2 _ _ (same_new nl _ _ ob), no (by decide +kernel) (by decide +kernel) (by decide +kernel) (by decide +kernel) (by decide +kernel) (by decide +kernel) (by decide +kernel), hq _ ((same_new nl).trans (same_new nl2))⟩
      · refine ⟨_, rfl, W, _, 0, _, rfl, rfl, .of eW, hat, rfl, _, rfl, ifN (fun e => n1 (V.str.inj e)) ?_⟩
        refine ⟨_, rfl, by show 1 ≤ sizeLine; rw [sizeLine_eq]; decide, fun l nl => ?_⟩
        obtain ⟨d, e, c1, c2, c3, c4, c5⟩ := cmp H "end" l (by decide +kernel) (Same.refl _) nl
        refine ⟨d, e, c1, c2, c3, c4, _, rfl, ?_⟩
        rw [c5]
        refine ifN (fun e => n2 (List.cons.inj e).1) ?_
        refine ⟨_, rfl, by show 1 ≤ sizeLine; rw [sizeLine_eq]; decide, fun l2 nl2 => ?_⟩
        obtain ⟨d, e, c1, c2, c3, c4, c5⟩ := cmp _ "else" l2 (by decide +kernel) (same_new nl) nl2
        refine ⟨d, e, c1, c2, c3, c4, _, rfl, ?_⟩
        rw [c5]
        refine ifN (fun e => n3 (List.cons.inj e).1) ?_
        exact ⟨_, rfl, R, dx, _, rfl, same_new nl2 _ _ (same_new nl _ _ ob), no (by decide +kernel) (by decide +kernel) (by decide +kernel) (by decide +kernel) (by decide +kernel) (by decide +kernel) (by decide +kernel), _, rfl, hq _ ((same_new nl).trans (same_new nl2))⟩
end

section
variable {K : PySem.W.Frag}
abbrev kRE : List Str := [("else" : Str)]
abbrev kRX : List Str := [("end" : Str)]
/-- the reader has no program yet -/
def NoPg (K : PySem.W.Frag) (R : Addr) (H : Hp) : Prop := ∃ (dx hp hd : Addr) (h sc : V) (rw fr : Addr), H R = some (.ins (He.ga K "Reader") dx (rdF hp hd h sc rw fr .non))
theorem NoPg.sm {R : Addr} {H H' : Hp} (h : NoPg K R H) (s : Same H H') : NoPg K R H' := by
  obtain ⟨dx, hp, hd, h, sc, rw, fr, ob⟩ := h
  exact ⟨dx, hp, hd, h, sc, rw, fr, s _ _ ob⟩
def Go (K : PySem.W.Frag) (E : XK) (Hb : Hp) (R : Addr) (fin : Hp → Prop) : List (List Str) → Hp → Prop
  | [], H => Same Hb H ∧ fin H
  | ws :: rest, H => (Same Hb H ∧ NoPg K R H) ∧ ∀ W H0, Same H H0 → H W = none → H0 W = some (.lst (ws.map V.str)) → ∀ Q : VK, (∀ H', Go K E Hb R fin rest H' → Q (.bl true) H') → sp_takes K [.ref R, .ref W] H0 Q E
theorem Go.sb {E : XK} {Hb : Hp} {R : Addr} {fin : Hp → Prop} : ∀ {l : List (List Str)} {H : Hp}, Go K E Hb R fin l H → Same Hb H
  | [], _, h => h.1
  | _ :: _, _, h => h.1.1
theorem Go.sm {E : XK} {Hb : Hp} {R : Addr} {fin : Hp → Prop} (hf : ∀ H H', Same H H' → fin H → fin H') : ∀ {l : List (List Str)} {H H' : Hp}, Go K E Hb R fin l H → Same H H' → Go K E Hb R fin l H'
  | [], _, _, h, s => ⟨h.1.trans s, hf _ _ s h.2⟩
  | _ :: _, _, _, h, s => ⟨⟨h.1.1.trans s, h.1.2.sm s⟩, fun W H0 s0 n e => h.2 W H0 (s.trans s0) (none_sm s n) e⟩
mutual
/-- the rows of a statement: an else with nothing behind it may stand there or not -/
def Sm.Rws : Sm → List (List Str) → Prop
  | .ite e ys ns, rws => ∃ r1 r2, Sm.RwsL ys r1 ∧ Sm.RwsL ns r2 ∧ (rws = (("if" : Str) :: e.words) :: (r1 ++ (kRE :: (r2 ++ [kRX]))) ∨ (ns = [] ∧ rws = (("if" : Str) :: e.words) :: (r1 ++ [kRX])))
  | .loop e b, rws => ∃ r1, Sm.RwsL b r1 ∧ rws = (("while" : Str) :: e.words) :: (r1 ++ [kRX])
  | .set x e, rws => rws = [(Sm.set x e).words]
  | .put r e f, rws => rws = [(Sm.put r e f).words]
  | .tell e, rws => rws = [(Sm.tell e).words]
  | .call x h es, rws => rws = [(Sm.call x h es).words]
  | .fail n, rws => rws = [(Sm.fail n).words]
  | .give e, rws => rws = [(Sm.give e).words]
def Sm.RwsL : List Sm → List (List Str) → Prop
  | [], rws => rws = []
  | s :: r, rws => ∃ r1 r2, s.Rws r1 ∧ Sm.RwsL r r2 ∧ rws = r1 ++ r2
end
def RwOk (rws : List (List Str)) : Prop := ∀ ws ∈ rws, ws.length ≤ 1000 ∧ ∀ y ∈ ws, PyData.strOk y = true
section
variable {E : XK} {fin : Hp → Prop} {Hb H : Hp} {R hp hd : Addr} {hA : V} {A : ScA} {rw fr : Addr} {hds : List (Str × Nat)} {rs ns : List Str} {oi : List Addr} {o L : Addr} {xs : List V} {ts : List Sm} {m : Nat}
theorem Bd.npg {H : Hp} {R hp hd : Addr} {hA : V} {A : ScA} {rw fr : Addr} {hds : List (Str × Nat)} {rs ns : List Str} {oi : List Addr} {o L : Addr} {xs : List V} {ts : List Sm} {m : Nat} (bd : Bd K Hb H R hp hd hA A rw fr hds rs ns oi o L xs ts m) : NoPg K R H := by
  obtain ⟨dx, ob⟩ := bd.ob
  exact ⟨dx, _, _, _, _, _, _, ob⟩
/-- the end of an inner body -/
theorem go_end (bd : Bd K Hb H R hp hd hA A rw fr hds rs ns oi o L xs ts m) {hAa : Addr} (eh : hA = .ref hAa) {H3 : Hp} {o' f' s' L' : Addr} {kd : Str} {a : V} {b : Bool} {d : PyData} {xs' xs1 xs2 : List V} {ts' l1 l2 : List Sm} {m' : Nat} {t : Sm} {rest : List (List Str)}
    (bd3 : Bd K Hb H3 R hp hd hA A rw fr hds rs ns (oi ++ [o]) o' L' xs' ts' m') (k : Kp (fS fr A) H H3) (op : OpAt K H3 o' kd a f' s' b) (e1 : H3 f' = some (.lst xs1)) (d1 : DpAll K H3 xs1 (Sm.ds l1)) (e2 : H3 s' = some (.lst xs2)) (d2 : DpAll K H3 xs2 (Sm.ds l2)) (da : Dp K H3 a d) (nd : nLd d = true)
    (n1 : f' ≠ fr) (n2 : s' ≠ fr) (ed : t.d = clD kd d (Sm.ds l1) (Sm.ds l2)) (lt : ts.length ≤ 90) (lo : oi.length ≤ 90)
    (next : ∀ H' x, Kp (bS L fr A) H H' → Bd K Hb H' R hp hd hA A rw fr hds rs ns oi o L (xs ++ [x]) (ts ++ [t]) m' → Go K E Hb R fin rest H') : Go K E Hb R fin (kRX :: rest) H3 := by
  refine ⟨⟨bd3.sb, bd3.npg⟩, fun W H0 s0 nW eW Q hQ => ?_⟩
  subst eh
  have nn := bd.nn
  obtain ⟨dx, ob⟩ := (bd3.sm s0).ob
  obtain ⟨ko, ao, fo, so, bo, ⟨dxo, obo⟩, el⟩ := bd.top
  have lx := dpAll_len bd.da
  rw [ds_len] at lx
  have nS : ∀ {c : Addr}, c ≠ fr → c ≠ A.p → c ≠ A.k → ¬ fS fr A c := fun {c} h1 h2 h3 z => z.elim h1 fun z => z.elim h2 h3
  refine ⟨R, dx, hp, hd, .ref hAa, .ref A.p, rw, fr, W, "end", [], rfl, ob, eW, (fun y hy => by rw [List.mem_singleton.mp hy]; decide +kernel), .inr (.inr (.inl ⟨(fun z => by cases z), rfl, rfl, fun H4 s4 => ?_⟩))⟩
  have s34 := s0.trans s4
  have bd4 := bd3.sm s34
  obtain ⟨dx4, ob4⟩ := bd4.ob
  obtain ⟨dxo', obo'⟩ := op
  have obo4 : H4 o = some (.ins (He.ga K "Open") dxo (opF ko ao fo so bo)) := s34 _ _ (k _ _ obo fun z => absurd z (nS nn.of nn.op nn.ok))
  have ls4 : H4 L = some (.lst xs) := s34 _ _ (k _ _ bd.ls fun z => absurd z (nS bd.ne nn.lp nn.lk))
  have daL : DpAll K H4 xs (Sm.ds ts) := dpAll_same (dpAll_kp k _ _ (Sm.noLs _) bd.da) s34 (Sm.noLs _)
  refine ⟨R, dx4, hp, hd, hAa, .ref A.p, rw, fr, oi ++ [o], o', f', s', kd, a, b, xs1, Sm.ds l1, rfl, ob4, bd4.ef, ⟨dxo', s34 _ _ obo'⟩, s34 _ _ e1, dpAll_same d1 s34 (Sm.noLs _), Sm.noLs _, n1, by rw [List.length_append]; simp; omega, .inl ⟨o, fo, so, ko, ao, bo, xs, xs2, Sm.ds l2, d, List.getLast?_concat, ⟨dxo, obo4⟩, ?_, by omega, ?_, n2, dp_sm s34 da, nd, s34 _ _ e2, dpAll_same d2 s34 (Sm.noLs _), Sm.noLs _, fun H5 x k5 ef5 eL5 dv => hQ _ ?_⟩⟩
  · rw [← el]; exact ls4
  · rw [← el]; exact bd.ne
  rw [← el] at k5 eL5
  have nn4 := bd4.nn
  have nS5 : ∀ {c : Addr}, c ≠ fr → c ≠ L → ¬ (c = fr ∨ c = L) := fun {c} h1 h2 z => z.elim h1 h2
  refine next H5 x ((kp_wk k fun c z => .inr z).trans ((Kp.of_same s34).trans (kp_wk k5 fun c z => z.elim (fun z => .inr (.inl z)) .inl))) ?_
  have dvk : Dp K H5 x t.d := by rw [ed]; exact dv
  have eh4 := bd4.sc.hk
  obtain ⟨kvs, eh4, _⟩ := eh4
  refine ⟨same_kp bd4.sb k5 (fun c z => z.elim (fun e => e ▸ bd.n2) (fun e => e ▸ bd.n1)), ⟨dx4, k5 _ _ ob4 fun z => absurd z (nS5 nn.rf nn.rl)⟩, ef5, ⟨ko, ao, fo, so, bo, ⟨dxo, k5 _ _ obo4 fun z => absurd z (nS5 nn.of nn.ol)⟩, el⟩, eL5, ?_, bd4.sc.kp k5 (nS5 nn.fp.symm nn.lp.symm) (nS5 bd.rr bd.rl) (fun z => ?_) (nS5 nn.fk.symm nn.lk.symm), bd.ne, bd.rl, bd.rr, bd.n1, bd.n2, bd.n3, bd.n4⟩
  · rw [ds_app]
    exact dpAll_snoc (dpAll_kp k5 _ _ (Sm.noLs _) daL) dvk
  · rcases z with z | z
    · have := bd4.ef
      rw [← z, eh4] at this
      cases this
    · rw [← z, eh4] at ls4
      cases ls4
end
end

section
variable {K : PySem.W.Frag}
section
variable {E : XK} {fin : Hp → Prop} {Hb H : Hp} {R hp hd : Addr} {hA : V} {A : ScA} {rw fr : Addr} {hds : List (Str × Nat)} {rs ns : List Str} {oi : List Addr} {o L : Addr} {xs : List V} {ts : List Sm} {m : Nat}
theorem kw_no : ∀ z ∈ kwST, z ≠ "row" ∧ z ≠ "end" ∧ z ≠ "else" := by decide +kernel
theorem go_pl (bd : Bd K Hb H R hp hd hA A rw fr hds rs ns oi o L xs ts m) {hAa : Addr} (eh : hA = .ref hAa) {t : Sm} {j : Nat} {rest : List (List Str)} (pl : t.plain = true) (wf : t.Wf ns rs hds j) (hend : ∀ ti t0, ts = ti ++ [t0] → t0.ends = false) (hm : m < 25) (lt : ts.length ≤ 100) (h100 : ∀ q ∈ hds, q.2 ≤ 100) (ok : RwOk [t.words])
    (next : ∀ H' x, Kp (bS L fr A) H H' → Bd K Hb H' R hp hd hA A rw fr hds rs ns oi o L (xs ++ [x]) (ts ++ [t]) (m + 1) → Go K E Hb R fin rest H') : Go K E Hb R fin (t.words :: rest) H := by
  refine ⟨⟨bd.sb, bd.npg⟩, fun W H0 s0 nW eW Q hQ => ?_⟩
  subst eh
  obtain ⟨dx, ob⟩ := (bd.sm s0).ob
  obtain ⟨z, r, hz, zk⟩ := t.words_pl pl
  obtain ⟨o1, o2⟩ := ok t.words (List.mem_singleton.mpr rfl)
  obtain ⟨n1, n2, n3⟩ := kw_no z zk
  refine ⟨R, dx, hp, hd, .ref hAa, .ref A.p, rw, fr, W, z, r, rfl, ob, by rw [← hz]; exact eW, by rw [← hz]; exact o2, .inr (.inr (.inr (.inr ⟨(fun z => by cases z), n1, n2, n3, fun H4 s4 => ?_⟩)))⟩
  have s34 := s0.trans s4
  exact ⟨Hb, R, hp, hd, .ref hAa, A, rw, fr, hds, rs, ns, oi, o, L, xs, ts, m, W, rfl, bd.sm s34, hend, hm, lt, h100, .inl ⟨t, j, pl, s4 _ _ eW, wf, o1, fun H' x k b => hQ _ (next H' x ((Kp.of_same s34).trans k) b)⟩⟩
theorem go_op (bd : Bd K Hb H R hp hd hA A rw fr hds rs ns oi o L xs ts m) {hAa : Addr} (eh : hA = .ref hAa) {kd : Str} {e : Ex} {rest : List (List Str)} (hk : kd = "if" ∨ kd = "while") (wf : e.Wf ns rs 4) (hend : ∀ ti t0, ts = ti ++ [t0] → t0.ends = false) (hm : m < 25) (lt : ts.length ≤ 100) (h100 : ∀ q ∈ hds, q.2 ≤ 100) (lo : oi.length < 4) (ok : RwOk [kd :: e.words])
    (next : ∀ H' o' f' s' a, Kp (fS fr A) H H' → H o' = none → H f' = none → H s' = none → f' ≠ s' → Dp K H' a e.d → OpAt K H' o' kd a f' s' false → H' s' = some (.lst []) →
      Bd K Hb H' R hp hd hA A rw fr hds rs ns (oi ++ [o]) o' f' [] [] (m + 1) → Go K E Hb R fin rest H') : Go K E Hb R fin ((kd :: e.words) :: rest) H := by
  refine ⟨⟨bd.sb, bd.npg⟩, fun W H0 s0 nW eW Q hQ => ?_⟩
  subst eh
  obtain ⟨dx, ob⟩ := (bd.sm s0).ob
  obtain ⟨o1, o2⟩ := ok (kd :: e.words) (List.mem_singleton.mpr rfl)
  have n3 : kd ≠ "row" ∧ kd ≠ "end" ∧ kd ≠ "else" := by rcases hk with rfl | rfl <;> decide +kernel
  refine ⟨R, dx, hp, hd, .ref hAa, .ref A.p, rw, fr, W, kd, e.words, rfl, ob, eW, o2, .inr (.inr (.inr (.inr ⟨(fun z => by cases z), n3.1, n3.2.1, n3.2.2, fun H4 s4 => ?_⟩)))⟩
  have s34 := s0.trans s4
  exact ⟨Hb, R, hp, hd, .ref hAa, A, rw, fr, hds, rs, ns, oi, o, L, xs, ts, m, W, rfl, bd.sm s34, hend, hm, lt, h100, .inr ⟨kd, e, hk, s4 _ _ eW, wf, lo, by rw [List.length_cons] at o1; omega, fun H' o' f' s' a k n1 n2 n3 n4 da op es b => hQ _ (next H' o' f' s' a ((Kp.of_same s34).trans k) (none_sm s34 n1) (none_sm s34 n2) (none_sm s34 n3) n4 da op es b)⟩⟩
theorem go_else (bd : Bd K Hb H R hp hd hA A rw fr hds rs ns oi o L xs ts m) {hAa : Addr} (eh : hA = .ref hAa) {f s : Addr} {a : V} {rest : List (List Str)} (op : OpAt K H o "if" a f s false) (es : H s = some (.lst [])) (nf : s ≠ fr) (nr : A.r ≠ s) (nb : Hb s = none) (no : Hb o = none)
    (next : ∀ H', Kp (fun b => b = o) H H' → OpAt K H' o "if" a f s true → Bd K Hb H' R hp hd hA A rw fr hds rs ns oi o s [] [] m → Go K E Hb R fin rest H') : Go K E Hb R fin (kRE :: rest) H := by
  refine ⟨⟨bd.sb, bd.npg⟩, fun W H0 s0 nW eW Q hQ => ?_⟩
  subst eh
  obtain ⟨dx, ob⟩ := (bd.sm s0).ob
  refine ⟨R, dx, hp, hd, .ref hAa, .ref A.p, rw, fr, W, "else", [], rfl, ob, eW, (fun y hy => by rw [List.mem_singleton.mp hy]; decide +kernel), .inr (.inr (.inr (.inl ⟨(fun z => by cases z), rfl, rfl, fun H4 s4 => ?_⟩)))⟩
  have s34 := s0.trans s4
  have bd4 := bd.sm s34
  obtain ⟨dx4, ob4⟩ := bd4.ob
  obtain ⟨dxo, obo⟩ := op
  refine ⟨R, dx4, hp, hd, .ref hAa, .ref A.p, rw, fr, oi, o, f, s, a, rfl, ob4, bd4.ef, ⟨dxo, s34 _ _ obo⟩, fun H5 k5 op5 => hQ _ (next H5 ((Kp.of_same s34).trans k5) op5 ?_)⟩
  have nn := bd4.nn
  have es4 := s34 _ _ es
  have nos : s ≠ o := fun z => by rw [z, obo] at es; cases es
  have bo : ∀ {c : Addr} {u : HO}, H4 c = some u → c ≠ o → H5 c = some u := fun {c u} e n => k5 _ _ e fun z => absurd z n
  obtain ⟨kvs, ehh, _⟩ := bd4.sc.hk
  have nro : A.r ≠ o := fun z => by have := bd4.sc.rk; rw [z, s34 _ _ obo] at this; cases this
  have nho : A.h ≠ o := fun z => by rw [z, s34 _ _ obo] at ehh; cases ehh
  exact ⟨same_kp bd4.sb k5 (fun c z => by rw [show c = o from z]; exact no), ⟨dx4, bo ob4 nn.ro⟩, bo bd4.ef nn.of.symm, ⟨_, _, _, _, _, op5, rfl⟩, bo es4 nos, .nil, bd4.sc.kp k5 nn.op.symm nro nho nn.ok.symm, nf, nr, bd.rr, nb, bd.n2, bd.n3, bd.n4⟩
end
end

section
variable {K : PySem.W.Frag}
section
variable {E : XK} {fin : Hp → Prop} {Hb : Hp} {R hp hd hAa : Addr} {A : ScA} {rw fr : Addr} {hds : List (Str × Nat)} {rs ns : List Str}
theorem rwOk_app {a b : List (List Str)} (h : RwOk (a ++ b)) : RwOk a ∧ RwOk b := ⟨fun x hx => h x (List.mem_append.mpr (.inl hx)), fun x hx => h x (List.mem_append.mpr (.inr hx))⟩
theorem rwOk_cons {a : List Str} {b : List (List Str)} (h : RwOk (a :: b)) : RwOk [a] ∧ RwOk b := ⟨fun x hx => h x (by rw [List.mem_singleton.mp hx]; exact List.mem_cons_self ..), fun x hx => h x (List.mem_cons_of_mem _ hx)⟩
/-- what an inner body leaves alone -/
theorem kp_in {S : Addr → Prop} {H H1 H2 : Hp} {f : Addr} (k : Kp (fS fr A) H H1) (k' : Kp (bS f fr A) H1 H2) (n : H f = none) : Kp (fS fr A) H H2 := kp_seq k k' fun c o e z => by
  rcases z with z | z
  · rw [z, n] at e; cases e
  · exact z
mutual
theorem go_st (h100 : ∀ q ∈ hds, q.2 ≤ 100) : ∀ (t : Sm) {H : Hp} {oi : List Addr} {o L : Addr} {xs : List V} {ts : List Sm} {m j : Nat} {rws rest : List (List Str)}, Bd K Hb H R hp hd (.ref hAa) A rw fr hds rs ns oi o L xs ts m → t.Rws rws → t.Wf ns rs hds j → (∀ ti t0, ts = ti ++ [t0] → t0.ends = false) → m + t.size ≤ 25 → ts.length ≤ m → oi.length + j ≤ 4 → RwOk rws →
    (∀ H' x, Kp (bS L fr A) H H' → Bd K Hb H' R hp hd (.ref hAa) A rw fr hds rs ns oi o L (xs ++ [x]) (ts ++ [t]) (m + t.size) → Go K E Hb R fin rest H') → Go K E Hb R fin (rws ++ rest) H
  | .set x e, _, _, _, _, _, _, m, _, _, _, bd, hr, wf, he, hm, ht, hj, ok, nx => by
    simp only [Sm.Rws] at hr
    simp only [Sm.size] at hm nx
    subst hr
    exact go_pl bd rfl rfl wf he (by omega) (by omega) h100 ok nx
  | .put r e f, _, _, _, _, _, _, m, _, _, _, bd, hr, wf, he, hm, ht, hj, ok, nx => by
    simp only [Sm.Rws] at hr
    simp only [Sm.size] at hm nx
    subst hr
    exact go_pl bd rfl rfl wf he (by omega) (by omega) h100 ok nx
  | .tell e, _, _, _, _, _, _, m, _, _, _, bd, hr, wf, he, hm, ht, hj, ok, nx => by
    simp only [Sm.Rws] at hr
    simp only [Sm.size] at hm nx
    subst hr
    exact go_pl bd rfl rfl wf he (by omega) (by omega) h100 ok nx
  | .call x h es, _, _, _, _, _, _, m, _, _, _, bd, hr, wf, he, hm, ht, hj, ok, nx => by
    simp only [Sm.Rws] at hr
    simp only [Sm.size] at hm nx
    subst hr
    exact go_pl bd rfl rfl wf he (by omega) (by omega) h100 ok nx
  | .fail n, _, _, _, _, _, _, m, _, _, _, bd, hr, wf, he, hm, ht, hj, ok, nx => by
    simp only [Sm.Rws] at hr
    simp only [Sm.size] at hm nx
    subst hr
    exact go_pl bd rfl rfl wf he (by omega) (by omega) h100 ok nx
  | .give e, _, _, _, _, _, _, m, _, _, _, bd, hr, wf, he, hm, ht, hj, ok, nx => by
    simp only [Sm.Rws] at hr
    simp only [Sm.size] at hm nx
    subst hr
    exact go_pl bd rfl rfl wf he (by omega) (by omega) h100 ok nx
  | .loop e b, H, oi, o, L, xs, ts, m, j, _, rest, bd, hr, wf, he, hm, ht, hj, ok, nx => by
    simp only [Sm.Rws] at hr
    simp only [Sm.size] at hm nx
    simp only [Sm.Wf] at wf
    obtain ⟨r1, h1, rfl⟩ := hr
    obtain ⟨j0, we, wb⟩ := wf
    obtain ⟨ok1, ok2⟩ := rwOk_cons ok
    rw [List.cons_append, List.append_assoc]
    refine go_op bd rfl (.inr rfl) we he (by omega) (by omega) h100 (by omega) ok1 fun H1 o' f' s' a k1 no nf ns' nfs da op es bd1 => ?_
    have nfr : ∀ {c : Addr}, H c = none → c ≠ fr := fun {c} n => (ne_of_none bd.ef n).symm
    refine go_ls h100 b bd1 h1 wb (by simp) (by omega) (by simp) (by rw [List.length_append]; simp; omega) (rwOk_app ok2).1 fun H2 xs2 k2 bd2 => ?_
    have nn := bd1.nn
    obtain ⟨dxo, obo⟩ := op
    have ns1 : s' ≠ A.p ∧ s' ≠ A.k := by
      obtain ⟨dxs, obs⟩ := bd.sc.ob
      obtain ⟨ks, ek, _⟩ := bd.sc.kk
      exact ⟨(ne_of_none obs ns').symm, (ne_of_none ek ns').symm⟩
    have kk := kp_in (S := fun _ => False) k1 k2 nf
    refine go_end (kd := "while") (l1 := b) (l2 := []) (t := .loop e b) (m' := m + 1 + Sm.sizes b) bd rfl bd2 kk ⟨dxo, k2 _ _ obo fun z => absurd z (by rintro (z | z | z | z); exact nn.ol z; exact nn.of z; exact nn.op z; exact nn.ok z)⟩ bd2.ls (by simpa using bd2.da) (k2 _ _ es fun z => absurd z (by rintro (z | z | z | z); exact nfs z.symm; exact nfr ns' z; exact ns1.1 z; exact ns1.2 z)) .nil (dp_kp k2 _ _ e.noL da) e.noL (nfr nf) (nfr ns') (by unfold clD; rw [if_pos rfl]; rfl) (by omega) (by omega) fun H3 x k3 bd3 => nx H3 x k3 ?_
    rw [show m + (1 + Sm.sizes b) = m + 1 + Sm.sizes b by omega]
    exact bd3
  | .ite e ys ns2, H, oi, o, L, xs, ts, m, j, _, rest, bd, hr, wf, he, hm, ht, hj, ok, nx => by
    simp only [Sm.Rws] at hr
    simp only [Sm.size] at hm nx
    simp only [Sm.Wf] at wf
    obtain ⟨r1, r2, h1, h2, hr⟩ := hr
    obtain ⟨j0, we, wy, wn⟩ := wf
    have nfr : ∀ {c : Addr}, H c = none → c ≠ fr := fun {c} n => (ne_of_none bd.ef n).symm
    rcases hr with rfl | ⟨rfl, rfl⟩
    · obtain ⟨ok1, ok2⟩ := rwOk_cons ok
      have ok3 := (rwOk_cons (rwOk_app ok2).2).2
      rw [List.cons_append, List.append_assoc, List.cons_append, List.append_assoc]
      refine go_op bd rfl (.inl rfl) we he (by omega) (by omega) h100 (by omega) ok1 fun H1 o' f' s' a k1 no nf ns' nfs da op es bd1 => ?_
      refine go_ls h100 ys bd1 h1 wy (by simp) (by omega) (by simp) (by rw [List.length_append]; simp; omega) (rwOk_app ok2).1 fun H2 xs1 k2 bd2 => ?_
      have nn := bd1.nn
      obtain ⟨dxo, obo⟩ := op
      have ns1 : s' ≠ A.p ∧ s' ≠ A.k := by
        obtain ⟨dxs, obs⟩ := bd.sc.ob
        obtain ⟨ks, ek, _⟩ := bd.sc.kk
        exact ⟨(ne_of_none obs ns').symm, (ne_of_none ek ns').symm⟩
      have kk2 := kp_in (S := fun _ => False) k1 k2 nf
      have obo2 := k2 _ _ obo fun z => absurd z (by rintro (z | z | z | z); exact nn.ol z; exact nn.of z; exact nn.op z; exact nn.ok z)
      have es2 := k2 _ _ es fun z => absurd z (by rintro (z | z | z | z); exact nfs z.symm; exact nfr ns' z; exact ns1.1 z; exact ns1.2 z)
      refine go_else bd2 rfl ⟨dxo, obo2⟩ es2 (nfr ns') (ne_of_none bd.sc.rk ns') (none_sm bd.sb ns') (none_sm bd.sb no) fun H3 k3 op3 bd3 => ?_
      have kk3 : Kp (fS fr A) H H3 := kp_seq kk2 k3 fun c u e z => by rw [show c = o' from z, no] at e; cases e
      refine go_ls h100 ns2 bd3 h2 wn (by simp) (by omega) (by simp) (by rw [List.length_append]; simp; omega) (rwOk_app ok3).1 fun H4 xs2 k4 bd4 => ?_
      have kk4 := kp_in (S := fun _ => False) kk3 k4 ns'
      have nn3 := bd3.nn
      obtain ⟨dxo3, obo3⟩ := op3
      have nfk : ¬ bS s' fr A f' := by
        rintro (z | z | z | z)
        · exact nfs z
        · exact nfr nf z
        · exact nn.lp z
        · exact nn.lk z
      have e1 := k4 _ _ (k3 _ _ bd2.ls fun z => absurd z nn.ol.symm) fun z => absurd z nfk
      have d1 := dpAll_kp k4 _ _ (Sm.noLs _) (dpAll_kp k3 _ _ (Sm.noLs _) bd2.da)
      rw [List.nil_append] at d1
      refine go_end (kd := "if") (l1 := ys) (l2 := ns2) (t := .ite e ys ns2) (m' := m + 1 + Sm.sizes ys + Sm.sizes ns2) bd rfl bd4 kk4 ⟨dxo3, k4 _ _ obo3 fun z => absurd z (by rintro (z | z | z | z); exact nn3.ol z; exact nn3.of z; exact nn3.op z; exact nn3.ok z)⟩ e1 d1 bd4.ls (by simpa using bd4.da) (dp_kp k4 _ _ e.noL (dp_kp k3 _ _ e.noL (dp_kp k2 _ _ e.noL da))) e.noL (nfr nf) (nfr ns') (by unfold clD; rw [if_neg (by decide +kernel)]; rfl) (by omega) (by omega) fun H5 x k5 bd5 => nx H5 x k5 ?_
      rw [show m + (1 + Sm.sizes ys + Sm.sizes ns2) = m + 1 + Sm.sizes ys + Sm.sizes ns2 by omega]
      exact bd5
    · obtain ⟨ok1, ok2⟩ := rwOk_cons ok
      rw [List.cons_append, List.append_assoc]
      refine go_op bd rfl (.inl rfl) we he (by omega) (by omega) h100 (by omega) ok1 fun H1 o' f' s' a k1 no nf ns' nfs da op es bd1 => ?_
      refine go_ls h100 ys bd1 h1 wy (by simp) (by omega) (by simp) (by rw [List.length_append]; simp; omega) (rwOk_app ok2).1 fun H2 xs2 k2 bd2 => ?_
      have nn := bd1.nn
      obtain ⟨dxo, obo⟩ := op
      have ns1 : s' ≠ A.p ∧ s' ≠ A.k := by
        obtain ⟨dxs, obs⟩ := bd.sc.ob
        obtain ⟨ks, ek, _⟩ := bd.sc.kk
        exact ⟨(ne_of_none obs ns').symm, (ne_of_none ek ns').symm⟩
      have kk := kp_in (S := fun _ => False) k1 k2 nf
      refine go_end (kd := "if") (l1 := ys) (l2 := []) (t := .ite e ys []) (m' := m + 1 + Sm.sizes ys) bd rfl bd2 kk ⟨dxo, k2 _ _ obo fun z => absurd z (by rintro (z | z | z | z); exact nn.ol z; exact nn.of z; exact nn.op z; exact nn.ok z)⟩ bd2.ls (by simpa using bd2.da) (k2 _ _ es fun z => absurd z (by rintro (z | z | z | z); exact nfs z.symm; exact nfr ns' z; exact ns1.1 z; exact ns1.2 z)) .nil (dp_kp k2 _ _ e.noL da) e.noL (nfr nf) (nfr ns') (by unfold clD; rw [if_neg (by decide +kernel)]; rfl) (by omega) (by omega) fun H3 x k3 bd3 => nx H3 x k3 ?_
      simp only [Sm.sizes]
      rw [show m + (1 + Sm.sizes ys + 0) = m + 1 + Sm.sizes ys by omega]
      exact bd3
theorem go_ls (h100 : ∀ q ∈ hds, q.2 ≤ 100) : ∀ (l : List Sm) {H : Hp} {oi : List Addr} {o L : Addr} {xs : List V} {ts : List Sm} {m j : Nat} {rws rest : List (List Str)}, Bd K Hb H R hp hd (.ref hAa) A rw fr hds rs ns oi o L xs ts m → Sm.RwsL l rws → Sm.Wfs ns rs hds l j → (l ≠ [] → ∀ ti t0, ts = ti ++ [t0] → t0.ends = false) → m + Sm.sizes l ≤ 25 → ts.length ≤ m → oi.length + j ≤ 4 → RwOk rws →
    (∀ H' xs', Kp (bS L fr A) H H' → Bd K Hb H' R hp hd (.ref hAa) A rw fr hds rs ns oi o L xs' (ts ++ l) (m + Sm.sizes l) → Go K E Hb R fin rest H') → Go K E Hb R fin (rws ++ rest) H
  | [], H, oi, o, L, xs, ts, m, j, _, rest, bd, hr, wf, he, hm, ht, hj, ok, nx => by
    simp only [Sm.RwsL] at hr
    subst hr
    exact nx H xs Kp.refl (by simpa [Sm.sizes] using bd)
  | t :: l, H, oi, o, L, xs, ts, m, j, _, rest, bd, hr, wf, he, hm, ht, hj, ok, nx => by
    simp only [Sm.RwsL] at hr
    simp only [Sm.sizes] at hm nx
    simp only [Sm.Wfs] at wf
    obtain ⟨r1, r2, h1, h2, rfl⟩ := hr
    obtain ⟨w1, w2, w3⟩ := wf
    rw [List.append_assoc]
    have p1 := t.size_pos
    refine go_st h100 t bd h1 w1 (he (by simp)) (by omega) ht hj (rwOk_app ok).1 fun H1 x k1 bd1 => ?_
    refine go_ls h100 l bd1 h2 w3 (fun hl ti t0 e => ?_) (by omega) (by rw [List.length_append]; simp; omega) hj (rwOk_app ok).2 fun H2 xs2 k2 bd2 => nx H2 xs2 (k1.trans k2) ?_
    · obtain ⟨rfl, e2⟩ := List.append_inj' e rfl
      cases e2
      exact w2 hl
    · rw [show m + (t.size + Sm.sizes l) = m + t.size + Sm.sizes l by omega, show ts ++ t :: l = ts ++ [t] ++ l by simp]
      exact bd2
end
end
end

section
variable {K : PySem.W.Frag}
/-- between helpers -/
structure Ou (K : PySem.W.Frag) (Hb H : Hp) (R hp hd rw : Addr) (hs : List (Str × List Str × List Sm)) : Prop where
  sb : Same Hb H
  ob : ∃ dx sc fr, H R = some (.ins (He.ga K "Reader") dx (rdF hp hd .non sc rw fr .non))
  hl : ∃ hl, H hp = some (.lst hl) ∧ DpAll K H hl (hs.map hpD)
  hk : ∃ kvs : List (Key × V), H hd = some (.dK kvs) ∧ kvs.length ≤ hs.length ∧ (∀ q ∈ hs.map hdOf, valV kvs (.inr q.1) = some (.int (q.2 : Int))) ∧ ∀ x, x ∉ hs.map (·.1) → valV kvs (.inr x) = none
  er : H rw = some (.lst [])
  nr : hp ≠ rw
  n1 : Hb hp = none
  n2 : Hb hd = none
  n3 : Hb rw = none
  n4 : Hb R = none
theorem Ou.npg {Hb H : Hp} {R hp hd rw : Addr} {hs : List (Str × List Str × List Sm)} (u : Ou K Hb H R hp hd rw hs) : NoPg K R H := by
  obtain ⟨dx, sc, fr, ob⟩ := u.ob
  exact ⟨dx, _, _, _, _, _, _, ob⟩
def HpRw (h : Str × List Str × List Sm) (rws : List (List Str)) : Prop := ∃ rb, Sm.RwsL h.2.2 rb ∧ rws = (("helper" : Str) :: h.1 :: h.2.1) :: (rb ++ [kRX])
section
variable {E : XK} {fin : Hp → Prop} {Hb : Hp} {R hp hd rw : Addr}
theorem go_hp {hs : List (Str × List Str × List Sm)} {h : Str × List Str × List Sm} {H : Hp} {rws rest : List (List Str)} (u : Ou K Hb H R hp hd rw hs) (hr : HpRw h rws) (wf : HpWf (hs.map hdOf) h) (l3 : hs.length < 4) (nn : h.1 ∉ hs.map (·.1)) (h4 : ∀ q ∈ hs.map hdOf, q.2 ≤ 100) (ok : RwOk rws)
    (next : ∀ H', Ou K Hb H' R hp hd rw (hs ++ [h]) → Go K E Hb R fin rest H') : Go K E Hb R fin (rws ++ rest) H := by
  obtain ⟨rb, hb, rfl⟩ := hr
  obtain ⟨ok1, ok2⟩ := rwOk_cons ok
  rw [List.cons_append, List.append_assoc]
  refine ⟨⟨u.sb, u.npg⟩, fun W H0 s0 nW eW Q hQ => ?_⟩
  obtain ⟨dx, sc, fr, ob⟩ := u.ob
  obtain ⟨hl, ehp, dhl⟩ := u.hl
  obtain ⟨kvs, ehd, lk, fk, nk⟩ := u.hk
  have lhl := dpAll_len dhl
  rw [List.length_map] at lhl
  obtain ⟨vs, vnm, vl, sub, wb⟩ := wf.bd
  have ob0 := s0 _ _ ob
  have ehp0 := s0 _ _ ehp
  have ehd0 := s0 _ _ ehd
  have erw0 := s0 _ _ u.er
  have dhl0 := dpAll_same dhl s0 (hps_noL hs)
  have sb0 := u.sb.trans s0
  obtain ⟨o1, o2⟩ := ok1 _ (List.mem_singleton.mpr rfl)
  refine ⟨R, dx, hp, hd, .non, sc, rw, fr, W, "helper", h.1 :: h.2.1, rfl, ob0, eW, o2, .inl ⟨rfl, R, dx, hp, hd, sc, rw, fr, W, hl, kvs, h.2.1, "helper", h.1, rfl, ob0, ehp0, ehd0, wf.pk, wf.pn, wf.pl, .inl ⟨rfl, eW, wf.nm, by omega, nk _ nn⟩, ?_⟩⟩
  intro H1 hA A fr' o f s pa k1 ob1 hhA hpa nfr nf nap nak nar efr op ef obs er eh ek hhk rr rl nff
  refine hQ _ ?_
  have bd1 : Bd K Hb H1 R hp hd (.ref hA) A rw fr' (hs.map hdOf) [] vs [] o f [] [] 0 := ⟨same_kp sb0 k1 (fun c z => by rw [show c = R from z]; exact u.n4), ⟨dx, ob1⟩, efr, ⟨"body", .non, f, s, false, op, rfl⟩, ef, .nil,
    ⟨obs, er, ⟨kvs, eh, fk⟩, ⟨_, ek, wf.pn, sub⟩, vl, (fun x hx => ⟨vnm x hx, by simp⟩), hhk⟩, nff, rl, rr, none_sm sb0 nf, none_sm sb0 nfr, none_sm sb0 nap, none_sm sb0 nak⟩
  have nR : ∀ {c : Addr} {u : HO}, H0 c = some u → (∀ C d l, u ≠ .ins C d l) → c ≠ R := fun {c u} e hn z => by rw [z, ob0] at e; cases e; exact hn _ _ _ rfl
  have ehp1 := k1 _ _ ehp0 fun z => absurd z (nR ehp0 (fun _ _ _ z => by cases z))
  have ehd1 := k1 _ _ ehd0 fun z => absurd z (nR ehd0 (fun _ _ _ z => by cases z))
  have erw1 := k1 _ _ erw0 fun z => absurd z (nR erw0 (fun _ _ _ z => by cases z))
  have dhl1 := dpAll_kp k1 _ _ (hps_noL hs) dhl0
  have sz := wf.sz
  refine go_ls h4 h.2.2 bd1 hb wb (by simp) (by omega) (by simp) (by simp) (rwOk_app ok2).1 fun H2 xs2 k2 bd2 => ?_
  have nn1 := bd1.nn
  obtain ⟨dxo, obo⟩ := op
  have obo2 := k2 _ _ obo fun z => absurd z (by rintro (z | z | z | z); exact nn1.ol z; exact nn1.of z; exact nn1.op z; exact nn1.ok z)
  have off : ∀ {c : Addr} {u : HO}, H0 c = some u → ¬ bS f fr' A c := fun {c u} e => by
    rintro (z | z | z | z)
    · exact ne_of_none e nf z
    · exact ne_of_none e nfr z
    · exact ne_of_none e nap z
    · exact ne_of_none e nak z
  have ehp2 := k2 _ _ ehp1 fun z => absurd z (off ehp0)
  have ehd2 := k2 _ _ ehd1 fun z => absurd z (off ehd0)
  have erw2 := k2 _ _ erw1 fun z => absurd z (off erw0)
  have dhl2 := dpAll_kp k2 _ _ (hps_noL hs) dhl1
  have hhA2 := sqT_kp k2 hhA
  have hpa2 := sqT_kp k2 hpa
  refine ⟨⟨bd2.sb, bd2.npg⟩, fun W2 G0 t0 nW2 eW2 Q hQ => ?_⟩
  obtain ⟨dx2, ob2⟩ := (bd2.sm t0).ob
  refine ⟨R, dx2, hp, hd, .ref hA, .ref A.p, rw, fr', W2, "end", [], rfl, ob2, eW2, (fun y hy => by rw [List.mem_singleton.mp hy]; decide +kernel), .inr (.inr (.inl ⟨(fun z => by cases z), rfl, rfl, fun G4 t4 => ?_⟩))⟩
  have t04 := t0.trans t4
  have bd4 := bd2.sm t04
  obtain ⟨dx4, ob4⟩ := bd4.ob
  have da4 := bd4.da
  rw [List.nil_append] at da4
  have hpf := ne_of_none ehp0 nfr
  refine ⟨R, dx4, hp, hd, hA, .ref A.p, rw, fr', [], o, f, s, "body", .non, false, xs2, Sm.ds h.2.2, rfl, ob4, bd4.ef, ⟨dxo, t04 _ _ obo2⟩, bd4.ls, da4, Sm.noLs _, nff, by simp, .inr (.inl ⟨rfl, h.1, h.2.1, pa, hl, kvs, sqT_sm t04 hhA2, sqT_sm t04 hpa2, t04 _ _ ehp2, by omega, t04 _ _ ehd2, by omega, hpf, fun H5 x k5 ob5 ehp5 dv5 ehd5 => hQ _ (next H5 ?_)⟩)⟩
  have ek5 : ∀ {c : Addr}, (c = fr' ∨ c = hp ∨ c = hd ∨ c = R) → Hb c = none := fun {c} z => by
    rcases z with z | z | z | z
    · rw [z]; exact bd1.n2
    · rw [z]; exact u.n1
    · rw [z]; exact u.n2
    · rw [z]; exact u.n4
  refine ⟨same_kp bd4.sb k5 (fun c z => ek5 z), ⟨_, _, _, ob5⟩, ⟨hl ++ [x], ehp5, ?_⟩, ⟨_, ehd5, ?_, ?_, ?_⟩, k5 _ _ (t04 _ _ erw2) ?_, u.nr, u.n1, u.n2, u.n3, u.n4⟩
  · rw [List.map_append]
    exact dpAll_snoc (dpAll_kp k5 _ _ (hps_noL hs) (dpAll_same dhl2 t04 (hps_noL hs))) dv5
  · have := length_putK kvs (.inr h.1) (.int (h.2.1.length : Int))
    rw [List.length_append, List.length_singleton]
    omega
  · intro q hq
    rw [valV_put]
    rw [List.map_append] at hq
    rcases List.mem_append.mp hq with hq | hq
    · have : q.1 ≠ h.1 := fun e => by
        obtain ⟨y, hy, rfl⟩ := List.mem_map.mp hq
        exact nn (by rw [← e]; exact List.mem_map_of_mem (f := (·.1)) hy)
      rw [if_neg (fun z => this (by injection z))]
      exact fk q hq
    · rw [List.mem_singleton.mp hq]
      exact if_pos rfl
  · intro x hx
    rw [List.map_append, List.mem_append] at hx
    rw [valV_put, if_neg (fun z => hx (.inr (by injection z with z; rw [z]; exact List.mem_singleton.mpr rfl)))]
    exact nk x fun z => hx (.inl z)
  · rintro (z | z | z | z)
    · exact absurd z (ne_of_none erw0 nfr)
    · exact absurd z u.nr.symm
    · rw [z, ehd0] at erw0; cases erw0
    · rw [z, ob0] at erw0; cases erw0
end
end

section
variable {K : PySem.W.Frag}
/-- main's rows are being told -/
structure Mr (K : PySem.W.Frag) (Hb H : Hp) (R hp hd hA pa : Addr) (A : ScA) (rw fr o f s : Addr) (hs : List (Str × List Str × List Sm)) (ps : List Str) (rl : List (Str × Nat)) : Prop where
  sb : Same Hb H
  ob : ∃ dx, H R = some (.ins (He.ga K "Reader") dx (rdF hp hd (.ref hA) (.ref A.p) rw fr .non))
  hh : SqT K H hA [.str "main", .str "", .ref pa]
  ph : SqT K H pa (ps.map V.str)
  hl : ∃ hl, H hp = some (.lst hl) ∧ DpAll K H hl (hs.map hpD)
  er : ∃ xs, H rw = some (.lst xs) ∧ DpAll K H xs (rl.map rwD)
  ef : H fr = some (.lst ([o].map V.ref))
  op : OpAt K H o "body" .non f s false
  ls : H f = some (.lst [])
  obs : ∃ dxs, H A.p = some (.ins (He.ga K "Scope") dxs (scF A.r A.h A.k 0))
  rk : H A.r = some (.lst ((rl.map (·.1)).map V.str))
  hk : ∃ kvs : List (Key × V), H A.h = some (.dK kvs) ∧ ∀ q ∈ hs.map hdOf, valV kvs (.inr q.1) = some (.int (q.2 : Int))
  kk : H A.k = some (.dK (knD ps))
  nhk : A.h ≠ A.k
  d1 : A.r ≠ fr
  d2 : A.r ≠ f
  d3 : f ≠ fr
  d4 : rw ≠ A.r
  d5 : rw ≠ f
  d6 : rw ≠ fr
  d7 : hp ≠ A.r
  d8 : hp ≠ f
  d9 : hp ≠ fr
  d0 : hp ≠ rw
  n1 : Hb f = none
  n2 : Hb fr = none
  n3 : Hb A.p = none
  n4 : Hb A.k = none
  n5 : Hb rw = none
  n6 : Hb A.r = none
  n7 : Hb R = none
def rowW (r : Str × Nat) : List Str := [("row" : Str), r.1, numS (r.2 : Int)]
theorem Mr.npg {Hb H : Hp} {R hp hd hA pa : Addr} {A : ScA} {rw fr o f s : Addr} {hs : List (Str × List Str × List Sm)} {ps : List Str} {rl : List (Str × Nat)} (u : Mr K Hb H R hp hd hA pa A rw fr o f s hs ps rl) : NoPg K R H := by
  obtain ⟨dx, ob⟩ := u.ob
  exact ⟨dx, _, _, _, _, _, _, ob⟩
section
variable {E : XK} {fin : Hp → Prop} {Hb : Hp} {R hp hd rw : Addr} {hs : List (Str × List Str × List Sm)} {ps : List Str}
theorem go_mh {H : Hp} {rest : List (List Str)} (u : Ou K Hb H R hp hd rw hs) (pk : ∀ x ∈ ps, IsNm x) (pn : ps.Nodup) (pl : ps.length ≤ 4) (ok : RwOk [("main" : Str) :: ps])
    (next : ∀ H' hA pa A fr o f s, Mr K Hb H' R hp hd hA pa A rw fr o f s hs ps [] → Go K E Hb R fin rest H') : Go K E Hb R fin ((("main" : Str) :: ps) :: rest) H := by
  refine ⟨⟨u.sb, u.npg⟩, fun W H0 s0 nW eW Q hQ => ?_⟩
  obtain ⟨dx, sc, fr, ob⟩ := u.ob
  obtain ⟨hl, ehp, dhl⟩ := u.hl
  obtain ⟨kvs, ehd, lk, fk, nk⟩ := u.hk
  have ob0 := s0 _ _ ob
  have ehp0 := s0 _ _ ehp
  have ehd0 := s0 _ _ ehd
  have erw0 := s0 _ _ u.er
  have dhl0 := dpAll_same dhl s0 (hps_noL hs)
  have sb0 := u.sb.trans s0
  obtain ⟨o1, o2⟩ := ok _ (List.mem_singleton.mpr rfl)
  refine ⟨R, dx, hp, hd, .non, sc, rw, fr, W, "main", ps, rfl, ob0, eW, o2, .inl ⟨rfl, R, dx, hp, hd, sc, rw, fr, W, hl, kvs, ps, "main", "", rfl, ob0, ehp0, ehd0, pk, pn, pl, .inr ⟨rfl, rfl, eW⟩, ?_⟩⟩
  intro H1 hA A fr' o f s pa k1 ob1 hhA hpa nfr nf nap nak nar efr op ef obs er eh ek hhk rr rl nff
  have nR : ∀ {c : Addr} {u : HO}, H0 c = some u → (∀ C d l, u ≠ .ins C d l) → c ≠ R := fun {c u} e hn z => by rw [z, ob0] at e; cases e; exact hn _ _ _ rfl
  have ehp1 := k1 _ _ ehp0 fun z => absurd z (nR ehp0 (fun _ _ _ z => by cases z))
  have erw1 := k1 _ _ erw0 fun z => absurd z (nR erw0 (fun _ _ _ z => by cases z))
  have dhl1 := dpAll_kp k1 _ _ (hps_noL hs) dhl0
  exact hQ _ (next H1 hA pa A fr' o f s ⟨same_kp sb0 k1 (fun c z => by rw [show c = R from z]; exact u.n4), ⟨dx, ob1⟩, hhA, hpa, ⟨hl, ehp1, dhl1⟩, ⟨[], erw1, .nil⟩, efr, op, ef, obs, er, ⟨kvs, eh, fk⟩, ek, hhk, rr, rl, nff, ne_of_none erw0 nar, ne_of_none erw0 nf, ne_of_none erw0 nfr, ne_of_none ehp0 nar, ne_of_none ehp0 nf, ne_of_none ehp0 nfr, u.nr, none_sm sb0 nf, none_sm sb0 nfr, none_sm sb0 nap, none_sm sb0 nak, u.n3, none_sm sb0 nar, u.n4⟩)
variable {hA pa : Addr} {A : ScA} {fr o f s : Addr} {rl : List (Str × Nat)}
theorem go_rw {H : Hp} {rest : List (List Str)} (u : Mr K Hb H R hp hd hA pa A rw fr o f s hs ps rl) {r : Str × Nat} (l3 : rl.length < 3) (nm : IsNm r.1) (n1 : 1 ≤ r.2) (n8 : r.2 ≤ 8) (np : r.1 ∉ ps) (nr : r.1 ∉ rl.map (·.1)) (pl : ps.length ≤ 4) (ok : RwOk [rowW r])
    (next : ∀ H', Mr K Hb H' R hp hd hA pa A rw fr o f s hs ps (rl ++ [r]) → Go K E Hb R fin rest H') : Go K E Hb R fin (rowW r :: rest) H := by
  refine ⟨⟨u.sb, u.npg⟩, fun W H0 s0 nW eW Q hQ => ?_⟩
  obtain ⟨dx, ob⟩ := u.ob
  obtain ⟨hl, ehp, dhl⟩ := u.hl
  obtain ⟨xs, erw, dxs⟩ := u.er
  obtain ⟨dxsc, obs⟩ := u.obs
  obtain ⟨kvs, eh, fk⟩ := u.hk
  obtain ⟨dxo, obo⟩ := u.op
  have lx := dpAll_len dxs
  rw [List.length_map] at lx
  obtain ⟨o1, o2⟩ := ok _ (List.mem_singleton.mpr rfl)
  have ob0 := s0 _ _ ob
  refine ⟨R, dx, hp, hd, .ref hA, .ref A.p, rw, fr, W, "row", [r.1, numS (r.2 : Int)], rfl, ob0, eW, o2, .inr (.inl ⟨(fun z => by cases z), rfl, ?_⟩)⟩
  refine ⟨R, dx, hp, hd, hA, pa, dxsc, A, rw, fr, W, ps, rl.map (·.1), xs, r.1, r.2, rfl, ob0, sqT_sm s0 u.hh, sqT_sm s0 u.ph, s0 _ _ obs, s0 _ _ u.rk, s0 _ _ erw, by omega, eW, nm, np, nr, n1, n8, pl, by rw [List.length_map]; omega, u.d4, (ne_of_none erw nW).symm, fun H1 y k1 erw1 dy er1 => hQ _ (next H1 ?_)⟩
  have k01 : Kp (fun c => c = rw ∨ c = A.r) H H1 := (Kp.of_same s0).trans k1
  have sv : ∀ {c : Addr} {v : HO}, H c = some v → c ≠ rw → c ≠ A.r → H1 c = some v := fun {c v} e h1 h2 => k01 _ _ e fun z => (z.elim h1 h2).elim
  have nlst : ∀ {c : Addr} {v : HO}, H c = some v → (∀ l, v ≠ .lst l) → c ≠ rw ∧ c ≠ A.r := fun {c v} e hn => ⟨fun z => by rw [z, erw] at e; cases e; exact hn _ rfl, fun z => by rw [z, u.rk] at e; cases e; exact hn _ rfl⟩
  have sv2 : ∀ {c : Addr} {v : HO}, H c = some v → (∀ l, v ≠ .lst l) → H1 c = some v := fun {c v} e hn => sv e (nlst e hn).1 (nlst e hn).2
  refine ⟨same_kp u.sb k01 (fun c z => z.elim (fun e => e ▸ u.n5) (fun e => e ▸ u.n6)), ⟨dx, sv2 ob (fun _ z => by cases z)⟩, sqT_kp k01 u.hh, sqT_kp k01 u.ph, ⟨hl, sv ehp u.d0 u.d7, dpAll_kp k01 _ _ (hps_noL hs) dhl⟩, ⟨xs ++ [y], erw1, ?_⟩, sv u.ef u.d6.symm u.d1.symm, ⟨dxo, sv2 obo (fun _ z => by cases z)⟩, sv u.ls u.d5.symm u.d2.symm, ⟨dxsc, sv2 obs (fun _ z => by cases z)⟩, ?_, ⟨kvs, sv2 eh (fun _ z => by cases z), fk⟩, sv2 u.kk (fun _ z => by cases z), u.nhk, u.d1, u.d2, u.d3, u.d4, u.d5, u.d6, u.d7, u.d8, u.d9, u.d0, u.n1, u.n2, u.n3, u.n4, u.n5, u.n6, u.n7⟩
  · rw [List.map_append]
    exact dpAll_snoc (dpAll_kp k01 _ _ (rws_noL rl) dxs) dy
  · rw [List.map_append]
    exact er1
theorem go_rws (pl : ps.length ≤ 4) : ∀ (rs : List (Str × Nat)) {H : Hp} {rl : List (Str × Nat)} {rest : List (List Str)}, Mr K Hb H R hp hd hA pa A rw fr o f s hs ps rl → rl.length + rs.length ≤ 3 → ((rl ++ rs).map (·.1)).Nodup → (∀ r ∈ rs, IsNm r.1 ∧ 1 ≤ r.2 ∧ r.2 ≤ 8 ∧ r.1 ∉ ps) → RwOk (rs.map rowW) →
    (∀ H', Mr K Hb H' R hp hd hA pa A rw fr o f s hs ps (rl ++ rs) → Go K E Hb R fin rest H') → Go K E Hb R fin (rs.map rowW ++ rest) H
  | [], H, rl, rest, u, _, _, _, _, nx => nx H (by simpa using u)
  | r :: rs, H, rl, rest, u, l3, nd, hr, ok, nx => by
    obtain ⟨h1, h2, h3, h4⟩ := hr r (List.mem_cons_self ..)
    rw [List.length_cons] at l3
    refine go_rw u (by omega) h1 h2 h3 h4 (fun z => ?_) pl (rwOk_cons ok).1 fun H1 u1 => go_rws pl rs u1 (by rw [List.length_append]; simp; omega) (by simpa using nd) (fun x hx => hr x (List.mem_cons_of_mem _ hx)) (rwOk_cons ok).2 fun H2 u2 => nx H2 (by simpa using u2)
    rw [List.map_append, List.nodup_append] at nd
    exact nd.2.2 _ z _ (List.mem_cons_self ..) rfl
end
end

section
variable {K : PySem.W.Frag}
/-- the reader has the program -/
def Fin (K : PySem.W.Frag) (R : Addr) (d : PyData) (H : Hp) : Prop := ∃ dx hp hd h sc rw fr pg, H R = some (.ins (He.ga K "Reader") dx (rdF hp hd h sc rw fr pg)) ∧ Dp K H pg d
def HpsRw : List (Str × List Str × List Sm) → List (List Str) → Prop
  | [], rws => rws = []
  | h :: r, rws => ∃ r1 r2, HpRw h r1 ∧ HpsRw r r2 ∧ rws = r1 ++ r2
def PgRw (p : Pg) (rws : List (List Str)) : Prop := ∃ r1 rb, HpsRw p.hs r1 ∧ Sm.RwsL p.bd rb ∧ rws = r1 ++ ((("main" : Str) :: p.ps) :: (p.rs.map rowW ++ (rb ++ [kRX])))
section
variable {E : XK} {Hb : Hp} {R hp hd rw : Addr}
theorem go_mb {hA pa : Addr} {A : ScA} {fr o f s : Addr} {p : Pg} (wf : p.Wf) {H : Hp} (u : Mr K Hb H R hp hd hA pa A rw fr o f s p.hs p.ps p.rs) {rb : List (List Str)} (hb : Sm.RwsL p.bd rb) (h4 : ∀ q ∈ p.hs.map hdOf, q.2 ≤ 100) (ok : RwOk rb) : Go K E Hb R (Fin K R p.d) (rb ++ [kRX]) H := by
  obtain ⟨vs, vnm, vl, sub, vr, wb⟩ := wf.bd
  obtain ⟨dx, ob⟩ := u.ob
  obtain ⟨hl, ehp, dhl⟩ := u.hl
  obtain ⟨xs, erw, dxs⟩ := u.er
  obtain ⟨dxsc, obs⟩ := u.obs
  have sz := wf.sz
  have bd1 : Bd K Hb H R hp hd (.ref hA) A rw fr (p.hs.map hdOf) (p.rs.map (·.1)) vs [] o f [] [] 0 := ⟨u.sb, ⟨dx, ob⟩, u.ef, ⟨"body", .non, f, s, false, u.op, rfl⟩, u.ls, .nil,
    ⟨⟨dxsc, obs⟩, u.rk, u.hk, ⟨_, u.kk, wf.pn, sub⟩, vl, (fun x hx => ⟨vnm x hx, fun z => by
      obtain ⟨r, hr, rfl⟩ := List.mem_map.mp z
      exact vr r hr hx⟩), u.nhk⟩, u.d3, u.d2, u.d1, u.n1, u.n2, u.n3, u.n4⟩
  refine go_ls h4 p.bd bd1 hb wb (by simp) (by omega) (by simp) (by simp) ok fun H2 xs2 k2 bd2 => ?_
  have nn1 := bd1.nn
  obtain ⟨dxo, obo⟩ := u.op
  obtain ⟨ks, ek, _⟩ := bd1.sc.kk
  have obo2 := k2 _ _ obo fun z => absurd z (by rintro (z | z | z | z); exact nn1.ol z; exact nn1.of z; exact nn1.op z; exact nn1.ok z)
  have ehp2 := k2 _ _ ehp fun z => absurd z (by
    rintro (z | z | z | z)
    · exact u.d8 z
    · exact u.d9 z
    · rw [z, obs] at ehp; cases ehp
    · rw [z, ek] at ehp; cases ehp)
  have erw2 := k2 _ _ erw fun z => absurd z (by
    rintro (z | z | z | z)
    · exact u.d5 z
    · exact u.d6 z
    · rw [z, obs] at erw; cases erw
    · rw [z, ek] at erw; cases erw)
  have dhl2 := dpAll_kp k2 _ _ (hps_noL p.hs) dhl
  have dxs2 := dpAll_kp k2 _ _ (rws_noL p.rs) dxs
  have hh2 := sqT_kp k2 u.hh
  have ph2 := sqT_kp k2 u.ph
  refine ⟨⟨bd2.sb, bd2.npg⟩, fun W2 G0 t0 nW2 eW2 Q hQ => ?_⟩
  obtain ⟨dx2, ob2⟩ := (bd2.sm t0).ob
  refine ⟨R, dx2, hp, hd, .ref hA, .ref A.p, rw, fr, W2, "end", [], rfl, ob2, eW2, (fun y hy => by rw [List.mem_singleton.mp hy]; decide +kernel), .inr (.inr (.inl ⟨(fun z => by cases z), rfl, rfl, fun G4 t4 => ?_⟩))⟩
  have t04 := t0.trans t4
  have bd4 := bd2.sm t04
  obtain ⟨dx4, ob4⟩ := bd4.ob
  have da4 := bd4.da
  rw [List.nil_append] at da4
  refine ⟨R, dx4, hp, hd, hA, .ref A.p, rw, fr, [], o, f, s, "body", .non, false, xs2, Sm.ds p.bd, rfl, ob4, bd4.ef, ⟨dxo, t04 _ _ obo2⟩, bd4.ls, da4, Sm.noLs _, u.d3, by simp, .inr (.inr ⟨rfl, p.ps, pa, hl, p.hs.map hpD, xs, p.rs.map rwD, sqT_sm t04 hh2, sqT_sm t04 ph2, t04 _ _ ehp2, dpAll_same dhl2 t04 (hps_noL p.hs), hps_noL p.hs, t04 _ _ erw2, dpAll_same dxs2 t04 (rws_noL p.rs), rws_noL p.rs, u.d9, u.d6, fun H5 pg k5 ob5 dv5 => hQ _ ⟨?_, ⟨_, _, _, _, _, _, _, pg, ob5, dv5⟩⟩⟩)⟩
  exact same_kp bd4.sb k5 (fun c z => z.elim (fun e => e ▸ u.n2) (fun e => e ▸ u.n7))
theorem go_hps {fin : Hp → Prop} {rest : List (List Str)} : ∀ (h2 : List (Str × List Str × List Sm)) {hs : List (Str × List Str × List Sm)} {H : Hp} {rws : List (List Str)}, Ou K Hb H R hp hd rw hs → HpsRw h2 rws → (hs ++ h2).length ≤ 4 → ((hs ++ h2).map (·.1)).Nodup → (∀ (i : Nat) h, (hs ++ h2)[i]? = some h → HpWf (((hs ++ h2).take i).map hdOf) h) → RwOk rws →
    (∀ H', Ou K Hb H' R hp hd rw (hs ++ h2) → Go K E Hb R fin rest H') → Go K E Hb R fin (rws ++ rest) H
  | [], hs, H, rws, u, hr, l4, nd, hw, ok, nx => by
    simp only [HpsRw] at hr
    subst hr
    exact nx H (by simpa using u)
  | h :: r, hs, H, rws, u, hr, l4, nd, hw, ok, nx => by
    simp only [HpsRw] at hr
    obtain ⟨r1, r2, h1, h2, rfl⟩ := hr
    rw [List.append_assoc]
    rw [List.length_append, List.length_cons] at l4
    have wh : HpWf (hs.map hdOf) h := by
      have := hw hs.length h (by rw [List.getElem?_append_right (Nat.le_refl _), Nat.sub_self]; rfl)
      rwa [List.take_append_of_le_length (Nat.le_refl _), List.take_length] at this
    have hle : ∀ q ∈ hs.map hdOf, q.2 ≤ 100 := fun q hq => by
      obtain ⟨y, hy, rfl⟩ := List.mem_map.mp hq
      obtain ⟨i, hi⟩ := List.getElem?_of_mem hy
      have hil := (List.getElem?_eq_some_iff.mp hi).1
      have := (hw i y (by rw [List.getElem?_append_left hil]; exact hi)).pl
      show y.2.1.length ≤ 100
      omega
    refine go_hp u h1 wh (by omega) (fun z => ?_) hle (rwOk_app ok).1 fun H1 u1 => go_hps r u1 h2 (by simp; omega) (by simpa using nd) (by simpa using hw) (rwOk_app ok).2 fun H2 u2 => nx H2 (by simpa using u2)
    rw [List.map_append, List.nodup_append] at nd
    exact nd.2.2 _ z _ (List.mem_cons_self ..) rfl
theorem go_pg {p : Pg} (wf : p.Wf) {H : Hp} {rws : List (List Str)} (u : Ou K Hb H R hp hd rw []) (hr : PgRw p rws) (ok : RwOk rws) : Go K E Hb R (Fin K R p.d) rws H := by
  obtain ⟨r1, rb, h1, h2, rfl⟩ := hr
  obtain ⟨ok1, ok2⟩ := rwOk_app ok
  obtain ⟨ok2, ok3⟩ := rwOk_cons ok2
  obtain ⟨ok3, ok4⟩ := rwOk_app ok3
  have hle : ∀ q ∈ p.hs.map hdOf, q.2 ≤ 100 := fun q hq => by
    obtain ⟨y, hy, rfl⟩ := List.mem_map.mp hq
    obtain ⟨i, hi⟩ := List.getElem?_of_mem hy
    have := (wf.hok i y hi).pl
    show y.2.1.length ≤ 100
    omega
  refine go_hps p.hs u h1 (by simpa using wf.hl) (by simpa using wf.hn) (by simpa using wf.hok) ok1 fun H1 u1 => ?_
  rw [List.nil_append] at u1
  refine go_mh u1 wf.pk wf.pn wf.pl ok2 fun H2 hA pa A fr o f s u2 => ?_
  refine go_rws wf.pl p.rs u2 (by simpa using wf.rl) (by simpa using wf.rn) wf.rk ok3 fun H3 u3 => ?_
  rw [List.nil_append] at u3
  exact go_mb wf u3 h2 hle (rwOk_app ok4).1
end
end

/-! the words of a text, by its signs -/
def wsF : List Nat → List Nat → List (List Nat)
  | acc, [] => if acc = [] then [] else [acc]
  | acc, c :: r => if c = 32 then (if acc = [] then wsF [] r else acc :: wsF [] r) else wsF (acc ++ [c]) r
def wsC (l : List Nat) : List (List Nat) := wsF [] l
theorem pre_one (s c : Nat) (r : List Nat) : TL.pre [s] (c :: r) = decide (c = s) := by
  unfold TL.pre
  by_cases h : c = s
  · subst h
    simp
  · simp [h]
theorem spl_ws : ∀ (l acc : List Nat), (TL.spl [32] 0 acc l).filter (fun z => decide (z ≠ [])) = wsF acc l
  | [], acc => by
    rw [TL.spl_nil]
    unfold wsF
    by_cases h : acc = []
    · simp [h]
    · simp [h]
  | c :: r, acc => by
    unfold wsF
    unfold TL.spl
    rw [pre_one]
    by_cases h : c = 32
    · rw [if_pos (decide_eq_true h), if_pos h, List.filter_cons]
      show (if _ then acc :: (TL.spl [32] 0 [] r).filter _ else (TL.spl [32] 0 [] r).filter _) = _
      rw [spl_ws r []]
      by_cases h2 : acc = []
      · simp [h2]
      · simp [h2]
    · rw [if_neg (by simpa using h), if_neg h]
      exact spl_ws r _
theorem wsF_app : ∀ (a acc b : List Nat), wsF acc (a ++ 32 :: b) = wsF acc a ++ wsC b
  | [], acc, b => by
    show wsF acc (32 :: b) = wsF acc [] ++ wsC b
    unfold wsF
    rw [if_pos rfl]
    by_cases h : acc = []
    · rw [if_pos h, if_pos h]
      rfl
    · rw [if_neg h, if_neg h]
      rfl
  | c :: a, acc, b => by
    show wsF acc (c :: (a ++ 32 :: b)) = wsF acc (c :: a) ++ wsC b
    unfold wsF
    by_cases h : c = 32
    · rw [if_pos h, if_pos h]
      by_cases h2 : acc = []
      · rw [if_pos h2, if_pos h2]
        exact wsF_app a [] b
      · rw [if_neg h2, if_neg h2, wsF_app a [] b]
        rfl
    · rw [if_neg h, if_neg h]
      exact wsF_app a _ b
theorem wsC_app (a b : List Nat) : wsC (a ++ 32 :: b) = wsC a ++ wsC b := wsF_app a [] b
theorem wsC_pre (n : Nat) (b : List Nat) : wsC (List.replicate n 32 ++ b) = wsC b := by
  induction n with
  | zero => rfl
  | succ n ih =>
    rw [List.replicate_succ, List.cons_append]
    show wsC ([] ++ 32 :: _) = _
    rw [wsC_app, ih]
    rfl
theorem wsC_blank (n : Nat) : wsC (List.replicate n 32) = [] := by
  have := wsC_pre n []
  rw [List.append_nil] at this
  exact this
theorem wsC_suf (a : List Nat) (n : Nat) : wsC (a ++ List.replicate n 32) = wsC a := by
  cases n with
  | zero => rw [List.replicate_zero, List.append_nil]
  | succ n => rw [List.replicate_succ, wsC_app, wsC_blank, List.append_nil]
theorem wsF_word : ∀ (w acc : List Nat), (∀ c ∈ w, c ≠ 32) → wsF acc w = if acc ++ w = [] then [] else [acc ++ w]
  | [], acc, _ => by
    unfold wsF
    rw [List.append_nil]
  | c :: r, acc, h => by
    unfold wsF
    rw [if_neg (h c (List.mem_cons_self ..)), wsF_word r _ fun x hx => h x (List.mem_cons_of_mem _ hx), List.append_assoc]
    rfl
/-- a text that may go on: its words, and those behind it -/
def Cl (b : List Nat) (ws : List (List Nat)) : Prop := ∀ x, wsC (b ++ x) = ws ++ wsC x
theorem Cl.blank (n : Nat) : Cl (List.replicate n 32) [] := fun x => wsC_pre n x
theorem Cl.word {b w : List Nat} {ws : List (List Nat)} (h : Cl b ws) (hw : w ≠ []) (h32 : ∀ c ∈ w, c ≠ 32) (n : Nat) : Cl (b ++ (w ++ List.replicate (n + 1) 32)) (ws ++ [w]) := fun x => by
  rw [List.append_assoc, h, List.append_assoc, List.replicate_succ, List.cons_append, wsC_app, wsC_pre]
  have : wsC w = [w] := by
    have := wsF_word w [] h32
    rw [List.nil_append, if_neg hw] at this
    exact this
  rw [this, List.append_assoc]
theorem Cl.all {b : List Nat} {ws : List (List Nat)} (h : Cl b ws) : wsC b = ws := by
  have := h []
  rw [List.append_nil] at this
  rw [this]
  exact List.append_nil ws
/-! the words of a line -/
def wdsOf (l : Str) : List Str := (Txt.split (Txt.partition l "#").1 " ").filter fun z : Str => decide (z ≠ "")
def rwsOf (ls : List Str) : List (List Str) := (ls.map wdsOf).filter fun r => !r.isEmpty
theorem tl_ne (z : Str) : decide (z ≠ ("" : Str)) = decide (TL.tl z ≠ []) := by
  by_cases h : z = ""
  · subst h
    rfl
  · have h2 : TL.tl z ≠ [] := fun e => h (TL.ext_tl (e.trans rfl))
    rw [decide_eq_true h, decide_eq_true h2]
theorem words_tl (a : Str) : (((Txt.split a " ").filter fun z : Str => decide (z ≠ "")).map TL.tl) = wsC (TL.tl a) := by
  have e : ((Txt.split a " ").map TL.tl) = TL.spl [32] 0 [] (TL.tl a) := TL.split_spl a " " (by decide +kernel) (TL.kind_ok (by decide +kernel))
  unfold wsC
  rw [← spl_ws, ← e, List.filter_map]
  congr 1
  refine List.filter_congr fun z _ => ?_
  show decide (z ≠ "") = decide (TL.tl z ≠ [])
  exact tl_ne z
theorem wds_plain {a : Str} (h : ∀ c ∈ TL.tl a, c ≠ 35) : (wdsOf a).map TL.tl = wsC (TL.tl a) := by
  unfold wdsOf
  have e : Txt.partition a "#" = (a, Str.empty, Str.empty) := TL.partition_none (y := ("#" : Str)) (s := 35) (S := []) (by decide +kernel) fun z => h _ z rfl
  rw [e]
  exact words_tl a
theorem wds_hash {a b : Str} (h : ∀ c ∈ TL.tl a, c ≠ 35) : (wdsOf (a ++ "#" ++ b)).map TL.tl = wsC (TL.tl a) := by
  unfold wdsOf
  have e : Txt.partition (a ++ "#" ++ b) "#" = (a, ("#" : Str), b) := TL.partition_app (y := ("#" : Str)) (s := 35) (S := []) (by decide +kernel) fun z => h _ z rfl
  rw [e]
  exact words_tl a
def cmts : List Str := ["", "", "#", " # end", "#set x 1", "  #;~\"!"]
theorem cmts_cut : ∀ c ∈ cmts, c = "" ∨ ∃ n b, c = (⟨(List.replicate n 32).toArray⟩ : Str) ++ "#" ++ b := by
  intro c hc
  simp only [cmts, List.mem_cons, List.not_mem_nil, or_false] at hc
  rcases hc with rfl | rfl | rfl | rfl | rfl | rfl
  · exact .inl rfl
  · exact .inl rfl
  · exact .inr ⟨0, "", by decide +kernel⟩
  · exact .inr ⟨1, " end", by decide +kernel⟩
  · exact .inr ⟨0, "set x 1", by decide +kernel⟩
  · exact .inr ⟨2, ";~\"!", by decide +kernel⟩
theorem cmts_10 : ∀ c ∈ cmts, c.length ≤ 8 ∧ ∀ x ∈ TL.tl c, x ≠ 10 := by decide +kernel
theorem wds_cmt {a c : Str} (h : ∀ c ∈ TL.tl a, c ≠ 35) (hc : c ∈ cmts) : (wdsOf (a ++ c)).map TL.tl = wsC (TL.tl a) := by
  rcases cmts_cut c hc with rfl | ⟨n, b, rfl⟩
  · have : a ++ ("" : Str) = a := TL.ext_tl (by rw [TL.tl_append]; exact List.append_nil _)
    rw [this]
    exact wds_plain h
  · have : a ++ ((⟨(List.replicate n 32).toArray⟩ : Str) ++ "#" ++ b) = (a ++ (⟨(List.replicate n 32).toArray⟩ : Str)) ++ "#" ++ b := TL.ext_tl (by simp only [TL.tl_append, List.append_assoc])
    rw [this, wds_hash, TL.tl_append, TL.tl_mk, wsC_suf]
    intro x hx
    rw [TL.tl_append, TL.tl_mk] at hx
    rcases List.mem_append.mp hx with hx | hx
    · exact h x hx
    · rw [List.eq_of_mem_replicate hx]
      decide
theorem getD_getE (l : List Nat) (k : Nat) (h : k < l.length) : l.getD k 0 = l[k] := by
  unfold List.getD
  rw [List.getElem?_eq_getElem h]
  rfl
/-- what strip leaves -/
theorem strip_blank (z : Str) : ∃ lo n, TL.tl z = List.replicate lo 32 ++ TL.tl (Txt.stripChars z " ") ++ List.replicate n 32 := by
  unfold Txt.stripChars
  obtain ⟨a0, a1, -⟩ := lo_facts (Str.ofString " ").cps.contains z
  have f2 := hi_facts (Str.ofString " ").cps.contains z _ a0
  obtain ⟨b0, b1, b2, -⟩ := f2
  have is32 : ∀ c, (Str.ofString " ").cps.contains c = true → c = 32 := fun c hc => by
    have : c ∈ ([32] : List Nat) := by
      have e : (Str.ofString " ").cps = #[32] := by decide +kernel
      rw [e] at hc
      simpa using hc
    simpa using this
  rw [show Txt.stripBy (Str.ofString " ").cps.contains true true z = _ from PyProof.Rows.stripBy_eq _ _ _ _]
  generalize PySem.stripLo (Str.ofString " ").cps.contains true z = lo at a0 a1 b0 b1 b2 ⊢
  generalize PySem.stripHi (Str.ofString " ").cps.contains true z lo = hi at b0 b1 b2 ⊢
  have hl : (TL.tl z).length = z.length := (TL.len_tl z).symm
  refine ⟨lo, z.length - hi, ?_⟩
  rw [TL.tl_strSub]
  have c1 : (TL.tl z).take lo = List.replicate lo 32 := by
    refine List.eq_replicate_iff.mpr ⟨by rw [List.length_take, hl]; omega, fun b hb => ?_⟩
    obtain ⟨k, hk, e⟩ := List.mem_iff_getElem.mp hb
    rw [List.length_take, hl] at hk
    rw [List.getElem_take] at e
    refine e ▸ is32 _ ?_
    have := a1 k (by omega)
    rw [← getD_list] at this
    rw [show (TL.tl z).getD k 0 = (TL.tl z)[k]'(by omega) from getD_getE _ _ (by omega)] at this
    exact this
  have c2 : (TL.tl z).drop hi = List.replicate (z.length - hi) 32 := by
    refine List.eq_replicate_iff.mpr ⟨by rw [List.length_drop, hl], fun b hb => ?_⟩
    obtain ⟨k, hk, e⟩ := List.mem_iff_getElem.mp hb
    rw [List.length_drop, hl] at hk
    rw [List.getElem_drop] at e
    refine e ▸ is32 _ ?_
    have := b2 (hi + k) (by omega) (by omega)
    rw [← getD_list] at this
    rw [show (TL.tl z).getD (hi + k) 0 = (TL.tl z)[hi + k]'(by omega) from getD_getE _ _ (by omega)] at this
    exact this
  rw [← c1, ← c2, List.append_assoc]
  have d1 : ((TL.tl z).drop lo).take (hi - lo) ++ (TL.tl z).drop hi = (TL.tl z).drop lo := by
    have : (TL.tl z).drop hi = ((TL.tl z).drop lo).drop (hi - lo) := by
      rw [List.drop_drop]
      congr 1
      omega
    rw [this, List.take_append_drop]
  rw [d1, List.take_append_drop]

/-! rows of a program, and what an else more makes of them -/
def hdw (ws : List Str) : Str := ws.headD ""
mutual
def Sm.rows : Sm → List (List Str)
  | .ite e ys ns => (("if" : Str) :: e.words) :: (Sm.rowsL ys ++ ((if ns.isEmpty then [] else kRE :: Sm.rowsL ns) ++ [kRX]))
  | .loop e b => (("while" : Str) :: e.words) :: (Sm.rowsL b ++ [kRX])
  | .set x e => [(Sm.set x e).words]
  | .put r e f => [(Sm.put r e f).words]
  | .tell e => [(Sm.tell e).words]
  | .call x h es => [(Sm.call x h es).words]
  | .fail n => [(Sm.fail n).words]
  | .give e => [(Sm.give e).words]
def Sm.rowsL : List Sm → List (List Str)
  | [] => []
  | s :: r => s.rows ++ Sm.rowsL r
end
def hpR (h : Str × List Str × List Sm) : List (List Str) := (("helper" : Str) :: h.1 :: h.2.1) :: (Sm.rowsL h.2.2 ++ [kRX])
def Pg.rows (p : Pg) : List (List Str) := p.hs.flatMap hpR ++ ((("main" : Str) :: p.ps) :: (p.rs.map rowW ++ (Sm.rowsL p.bd ++ [kRX])))
mutual
theorem Sm.lines_rows : ∀ s : Sm, s.lines = s.rows.map rowS
  | .ite e ys ns => by
    unfold Sm.lines Sm.rows
    rw [Sm.linesL_rows ys]
    cases ns with
    | nil => simp [kEnd, kRX, rowS]; rfl
    | cons s r => rw [Sm.linesL_rows (s :: r)]; simp [kEnd, kRX, kElse, kRE, rowS]; exact ⟨rfl, rfl⟩
  | .loop e b => by
    unfold Sm.lines Sm.rows
    rw [Sm.linesL_rows b]
    simp [kEnd, kRX, rowS]; rfl
  | .set x e => by unfold Sm.lines Sm.rows; rfl
  | .put r e f => by unfold Sm.lines Sm.rows; rfl
  | .tell e => by unfold Sm.lines Sm.rows; rfl
  | .call x h es => by unfold Sm.lines Sm.rows; rfl
  | .fail n => by unfold Sm.lines Sm.rows; rfl
  | .give e => by unfold Sm.lines Sm.rows; rfl
theorem Sm.linesL_rows : ∀ l : List Sm, Sm.linesL l = (Sm.rowsL l).map rowS
  | [] => by unfold Sm.linesL Sm.rowsL; rfl
  | s :: r => by
    unfold Sm.linesL Sm.rowsL
    rw [Sm.lines_rows s, Sm.linesL_rows r, List.map_append]
end
theorem hpL_rows (h : Str × List Str × List Sm) : hpL h = (hpR h).map rowS := by
  unfold hpL hpR
  rw [Sm.linesL_rows]
  simp [kEnd, kRX, rowS]; rfl
theorem Pg.lines_rows (p : Pg) : p.lines = p.rows.map rowS := by
  unfold Pg.lines Pg.rows
  rw [Sm.linesL_rows, List.map_append, List.map_cons, List.map_append, List.map_append, List.map_map, List.map_flatMap]
  have : (fun a => List.map rowS (hpR a)) = hpL := funext fun h => (hpL_rows h).symm
  rw [this]
  rfl
/-- bodies that are open, by their words, the innermost last -/
def opens : List Str := ["if", "while", "helper", "main"]
def nf (F : List Str) (w : Str) : List Str := if w = "end" then F.dropLast else if w ∈ opens then F ++ [w] else if w = "else" then F.dropLast ++ [("else" : Str)] else F
def nfs (F : List Str) (rws : List (List Str)) : List Str := (rws.map hdw).foldl nf F
theorem nfs_cons (F : List Str) (ws : List Str) (r : List (List Str)) : nfs F (ws :: r) = nfs (nf F (hdw ws)) r := rfl
theorem nfs_app (F : List Str) (a b : List (List Str)) : nfs F (a ++ b) = nfs (nfs F a) b := by
  unfold nfs
  rw [List.map_append, List.foldl_append]
/-- where an else stands something is open -/
def Fine : List Str → List (List Str) → Prop
  | _, [] => True
  | F, ws :: r => (hdw ws = "else" → F ≠ []) ∧ Fine (nf F (hdw ws)) r
theorem fine_app : ∀ {a b : List (List Str)} {F : List Str}, Fine F a → Fine (nfs F a) b → Fine F (a ++ b)
  | [], _, _, _, h => h
  | _ :: a, _, _, h, h2 => ⟨h.1, fine_app h.2 h2⟩
/-- an else more ahead of an if's end, or not -/
def We : List Str → List (List Str) → List (List Str) → Prop
  | _, [], out => out = []
  | F, ws :: r, out => ∃ o1 o2, (o1 = [ws] ∨ (hdw ws = "end" ∧ F.getLast? = some ("if" : Str) ∧ o1 = [kRE, ws])) ∧ We (nf F (hdw ws)) r o2 ∧ out = o1 ++ o2
theorem we_app : ∀ {a b : List (List Str)} {F : List Str} {out : List (List Str)}, We F (a ++ b) out → ∃ o1 o2, We F a o1 ∧ We (nfs F a) b o2 ∧ out = o1 ++ o2
  | [], _, _, _, h => ⟨[], _, rfl, h, rfl⟩
  | ws :: a, b, F, out, h => by
    obtain ⟨o1, o2, h1, h2, rfl⟩ := h
    obtain ⟨o3, o4, h3, h4, rfl⟩ := we_app h2
    exact ⟨o1 ++ o3, o4, ⟨o1, o3, h1, h3, rfl⟩, h4, (List.append_assoc ..).symm⟩
theorem we_snoc : ∀ {a : List (List Str)} {F : List Str} {ws : List Str} {out o1 : List (List Str)}, We F a out → (o1 = [ws] ∨ (hdw ws = "end" ∧ (nfs F a).getLast? = some ("if" : Str) ∧ o1 = [kRE, ws])) → We F (a ++ [ws]) (out ++ o1)
  | [], F, ws, out, o1, h, h1 => by
    have : out = [] := h
    subst this
    exact ⟨o1, [], h1, rfl, (List.append_nil _).symm⟩
  | x :: a, F, ws, out, o1, h, h1 => by
    obtain ⟨o3, o4, h3, h4, rfl⟩ := h
    exact ⟨o3, o4 ++ o1, h3, we_snoc h4 h1, List.append_assoc ..⟩
theorem we_one {F : List Str} {ws : List Str} {out : List (List Str)} (h : We F [ws] out) : out = [ws] ∨ (hdw ws = "end" ∧ F.getLast? = some ("if" : Str) ∧ out = [kRE, ws]) := by
  obtain ⟨o1, o2, h1, h2, rfl⟩ := h
  have : o2 = [] := h2
  subst this
  rw [List.append_nil]
  exact h1
theorem We.len : ∀ {a : List (List Str)} {F : List Str} {out : List (List Str)}, We F a out → a.length ≤ out.length ∧ out.length ≤ 2 * a.length
  | [], _, out, h => by
    have : out = [] := h
    subst this
    exact ⟨Nat.le_refl _, Nat.le_refl _⟩
  | ws :: a, F, out, h => by
    obtain ⟨o1, o2, h1, h2, rfl⟩ := h
    have i := We.len h2
    have : 1 ≤ o1.length ∧ o1.length ≤ 2 := by
      rcases h1 with rfl | ⟨_, _, rfl⟩
      · simp
      · simp
    rw [List.length_append, List.length_cons]
    omega
theorem nf_plain {F : List Str} {w : Str} (h1 : w ≠ "end") (h2 : w ∉ opens) (h3 : w ≠ "else") : nf F w = F := by
  unfold nf
  rw [if_neg h1, if_neg h2, if_neg h3]
theorem nf_open {F : List Str} {w : Str} (h2 : w ∈ opens) : nf F w = F ++ [w] := by
  unfold nf
  have h1 : w ≠ "end" := by
    rintro rfl
    revert h2
    decide +kernel
  rw [if_neg h1, if_pos h2]
theorem nf_end {F : List Str} {x : Str} : nf (F ++ [x]) (hdw kRX) = F := by
  unfold nf
  rw [if_pos (show hdw kRX = "end" from rfl), List.dropLast_concat]
theorem nf_else {F : List Str} {x : Str} : nf (F ++ [x]) (hdw kRE) = F ++ [("else" : Str)] := by
  unfold nf
  rw [if_neg (by decide +kernel), if_neg (by decide +kernel), if_pos (show hdw kRE = "else" from rfl), List.dropLast_concat]
/-- what rows of a statement are, else or not -/
structure Rk (rows : List (List Str)) (R : List (List Str) → Prop) : Prop where
  fr : ∀ F, nfs F rows = F
  fine : ∀ F, Fine F rows
  we : ∀ F out, We F rows out → R out
theorem rk_plain {ws : List Str} {R : List (List Str) → Prop} (h1 : hdw ws ≠ "end") (h2 : hdw ws ∉ opens) (h3 : hdw ws ≠ "else") (h : R [ws]) : Rk [ws] R :=
  ⟨fun F => by rw [nfs_cons, nf_plain h1 h2 h3]; rfl, fun F => ⟨fun e => absurd e h3, trivial⟩, fun F out w => by
    rcases we_one w with rfl | ⟨e, _⟩
    · exact h
    · exact absurd e h1⟩
theorem hdw_open {ws : List Str} (h : hdw ws ∈ opens) : hdw ws ≠ "end" ∧ hdw ws ≠ "else" := by
  constructor
  · intro e
    rw [e] at h
    revert h
    decide +kernel
  · intro e
    rw [e] at h
    revert h
    decide +kernel
/-- a head, what stands within, an end -/
theorem rk_nest {hd : List Str} {rb : List (List Str)} {Rb R : List (List Str) → Prop} (h2 : hdw hd ∈ opens) (hb : Rk rb Rb) (h : ∀ r1, Rb r1 → R (hd :: (r1 ++ [kRX]))) (hi : hdw hd = "if" → ∀ r1, Rb r1 → R (hd :: (r1 ++ [kRE, kRX]))) : Rk (hd :: (rb ++ [kRX])) R := by
  obtain ⟨h1, h3⟩ := hdw_open h2
  refine ⟨fun F => ?_, fun F => ⟨fun e => absurd e h3, ?_⟩, fun F out w => ?_⟩
  · rw [nfs_cons, nf_open h2, nfs_app, hb.fr, nfs_cons, nf_end]
    rfl
  · rw [nf_open h2]
    refine fine_app (hb.fine _) ?_
    rw [hb.fr]
    exact ⟨fun e => absurd e (by decide +kernel), trivial⟩
  · obtain ⟨o1, o2, w1, w2, rfl⟩ := w
    rcases w1 with rfl | ⟨e, _⟩
    · rw [nf_open h2] at w2
      obtain ⟨o3, o4, w3, w4, rfl⟩ := we_app w2
      rw [hb.fr] at w4
      rcases we_one w4 with rfl | ⟨_, e, rfl⟩
      · exact h _ (hb.we _ _ w3)
      · rw [List.getLast?_concat] at e
        exact hi (Option.some.inj e) _ (hb.we _ _ w3)
    · exact absurd e h1
theorem rk_else {hd : List Str} {ra rb : List (List Str)} {Ra Rb R : List (List Str) → Prop} (h2 : hdw hd ∈ opens) (ha : Rk ra Ra) (hb : Rk rb Rb) (h : ∀ r1 r2, Ra r1 → Rb r2 → R (hd :: (r1 ++ (kRE :: (r2 ++ [kRX]))))) : Rk (hd :: (ra ++ ((kRE :: rb) ++ [kRX]))) R := by
  obtain ⟨h1, h3⟩ := hdw_open h2
  refine ⟨fun F => ?_, fun F => ⟨fun e => absurd e h3, ?_⟩, fun F out w => ?_⟩
  · rw [nfs_cons, nf_open h2, nfs_app, ha.fr, nfs_app, nfs_cons (F ++ [hdw hd]) kRE rb, nf_else, hb.fr, nfs_cons, nf_end]
    rfl
  · rw [nf_open h2]
    refine fine_app (ha.fine _) ?_
    rw [ha.fr]
    refine ⟨fun _ => by simp, ?_⟩
    rw [nf_else]
    refine fine_app (hb.fine _) ?_
    rw [hb.fr]
    exact ⟨fun e => absurd e (by decide +kernel), trivial⟩
  · obtain ⟨o1, o2, w1, w2, rfl⟩ := w
    rcases w1 with rfl | ⟨e, _⟩
    · rw [nf_open h2] at w2
      obtain ⟨o3, o4, w3, w4, rfl⟩ := we_app w2
      rw [ha.fr] at w4
      obtain ⟨o5, o6, w5, w6, rfl⟩ := w4
      rcases w5 with rfl | ⟨e, _⟩
      · rw [nf_else] at w6
        obtain ⟨o7, o8, w7, w8, rfl⟩ := we_app w6
        rw [hb.fr] at w8
        rcases we_one w8 with rfl | ⟨_, e, _⟩
        · exact h _ _ (ha.we _ _ w3) (hb.we _ _ w7)
        · rw [List.getLast?_concat] at e
          exact absurd (Option.some.inj e) (by decide +kernel)
      · exact absurd e (by decide +kernel)
    · exact absurd e h1
theorem rk_app {ra rb : List (List Str)} {Ra Rb R : List (List Str) → Prop} (ha : Rk ra Ra) (hb : Rk rb Rb) (h : ∀ r1 r2, Ra r1 → Rb r2 → R (r1 ++ r2)) : Rk (ra ++ rb) R := by
  refine ⟨fun F => by rw [nfs_app, ha.fr, hb.fr], fun F => fine_app (ha.fine _) (by rw [ha.fr]; exact hb.fine _), fun F out w => ?_⟩
  obtain ⟨o1, o2, w1, w2, rfl⟩ := we_app w
  rw [ha.fr] at w2
  exact h _ _ (ha.we _ _ w1) (hb.we _ _ w2)
theorem rk_nil {R : List (List Str) → Prop} (h : R []) : Rk [] R := ⟨fun _ => rfl, fun _ => trivial, fun _ out w => by
  have : out = [] := w
  subst this
  exact h⟩
mutual
theorem Sm.rk : ∀ s : Sm, Rk s.rows s.Rws
  | .ite e ys ns => by
    unfold Sm.rows
    have ry := Sm.rkL ys
    have rn := Sm.rkL ns
    cases ns with
    | nil =>
      refine rk_nest (by show ("if" : Str) ∈ opens; decide +kernel) ry (fun r1 h => ?_) (fun _ r1 h => ?_)
      · unfold Sm.Rws
        exact ⟨r1, [], h, by unfold Sm.RwsL; rfl, .inr ⟨rfl, rfl⟩⟩
      · unfold Sm.Rws
        exact ⟨r1, [], h, by unfold Sm.RwsL; rfl, .inl rfl⟩
    | cons s r =>
      refine rk_else (by show ("if" : Str) ∈ opens; decide +kernel) ry rn (fun r1 r2 h h' => ?_)
      unfold Sm.Rws
      exact ⟨r1, r2, h, h', .inl rfl⟩
  | .loop e b => by
    unfold Sm.rows
    refine rk_nest (by show ("while" : Str) ∈ opens; decide +kernel) (Sm.rkL b) (fun r1 h => ?_) (fun z r1 h => absurd z (by show ("while" : Str) ≠ "if"; decide +kernel))
    unfold Sm.Rws
    exact ⟨r1, h, rfl⟩
  | .set x e => by unfold Sm.rows; exact rk_plain (by show ("set" : Str) ≠ "end"; decide +kernel) (by show ("set" : Str) ∉ opens; decide +kernel) (by show ("set" : Str) ≠ "else"; decide +kernel) (by unfold Sm.Rws; rfl)
  | .put r e f => by unfold Sm.rows; exact rk_plain (by show ("put" : Str) ≠ "end"; decide +kernel) (by show ("put" : Str) ∉ opens; decide +kernel) (by show ("put" : Str) ≠ "else"; decide +kernel) (by unfold Sm.Rws; rfl)
  | .tell e => by unfold Sm.rows; exact rk_plain (by show ("tell" : Str) ≠ "end"; decide +kernel) (by show ("tell" : Str) ∉ opens; decide +kernel) (by show ("tell" : Str) ≠ "else"; decide +kernel) (by unfold Sm.Rws; rfl)
  | .call x h es => by unfold Sm.rows; exact rk_plain (by show ("call" : Str) ≠ "end"; decide +kernel) (by show ("call" : Str) ∉ opens; decide +kernel) (by show ("call" : Str) ≠ "else"; decide +kernel) (by unfold Sm.Rws; rfl)
  | .fail n => by unfold Sm.rows; exact rk_plain (by show ("fail" : Str) ≠ "end"; decide +kernel) (by show ("fail" : Str) ∉ opens; decide +kernel) (by show ("fail" : Str) ≠ "else"; decide +kernel) (by unfold Sm.Rws; rfl)
  | .give e => by unfold Sm.rows; exact rk_plain (by show ("give" : Str) ≠ "end"; decide +kernel) (by show ("give" : Str) ∉ opens; decide +kernel) (by show ("give" : Str) ≠ "else"; decide +kernel) (by unfold Sm.Rws; rfl)
theorem Sm.rkL : ∀ l : List Sm, Rk (Sm.rowsL l) (Sm.RwsL l)
  | [] => by unfold Sm.rowsL; exact rk_nil (by unfold Sm.RwsL; rfl)
  | s :: r => by
    unfold Sm.rowsL
    refine rk_app (Sm.rk s) (Sm.rkL r) fun r1 r2 h h' => ?_
    unfold Sm.RwsL
    exact ⟨r1, r2, h, h', rfl⟩
end
theorem hp_rk (h : Str × List Str × List Sm) : Rk (hpR h) (HpRw h) :=
  rk_nest (by show ("helper" : Str) ∈ opens; decide +kernel) (Sm.rkL h.2.2) (fun r1 h' => ⟨r1, h', rfl⟩) (fun z => absurd z (by show ("helper" : Str) ≠ "if"; decide +kernel))
theorem hps_rk : ∀ hs : List (Str × List Str × List Sm), Rk (hs.flatMap hpR) (HpsRw hs)
  | [] => rk_nil rfl
  | h :: r => rk_app (hp_rk h) (hps_rk r) fun r1 r2 a b => ⟨r1, r2, a, b, rfl⟩
theorem rws_rk : ∀ rs : List (Str × Nat), Rk (rs.map rowW) (fun out => out = rs.map rowW)
  | [] => rk_nil rfl
  | r :: rs => rk_app (ra := [rowW r]) (rk_plain (R := fun out => out = [rowW r]) (by show ("row" : Str) ≠ "end"; decide +kernel) (by show ("row" : Str) ∉ opens; decide +kernel) (by show ("row" : Str) ≠ "else"; decide +kernel) rfl) (rws_rk rs) fun r1 r2 a b => by
    rw [a, b]
    rfl
theorem pg_rk (p : Pg) : Rk p.rows (PgRw p) := by
  refine rk_app (hps_rk p.hs) (Rb := fun out => ∃ rb, Sm.RwsL p.bd rb ∧ out = (("main" : Str) :: p.ps) :: (p.rs.map rowW ++ (rb ++ [kRX]))) ?_ fun r1 r2 a ⟨rb, b, e⟩ => ⟨r1, rb, a, b, by rw [e]⟩
  rw [← List.append_assoc]
  refine rk_nest (by show ("main" : Str) ∈ opens; decide +kernel) (rk_app (rws_rk p.rs) (Sm.rkL p.bd) (R := fun out => ∃ rb, Sm.RwsL p.bd rb ∧ out = p.rs.map rowW ++ rb) fun r1 r2 a b => ⟨r2, b, by rw [a]⟩) (fun r1 ⟨rb, b, e⟩ => ⟨rb, b, by rw [e, List.append_assoc]⟩) (fun z => absurd z (by show ("main" : Str) ≠ "if"; decide +kernel))
theorem we_self : ∀ (a : List (List Str)) (F : List Str), We F a a
  | [], _ => rfl
  | ws :: r, F => ⟨[ws], r, .inl rfl, we_self r _, rfl⟩
theorem pg_self (p : Pg) : PgRw p p.rows := (pg_rk p).we _ _ (we_self _ [])

theorem wds_len : ∀ x ∈ wds7, x.length ≤ 40 := by decide +kernel
theorem Ex.words_sh {nms rws : List Str} (hn : Shs nms) (hr : Shs rws) : ∀ {d : Nat} {e : Ex}, e.Wf nms rws d → Shs e.words
  | 0, _, h => h.elim
  | d + 1, .num n, h => fun z hz => by
    rw [List.mem_singleton.mp hz]
    exact numS_len h
  | d + 1, .nam x, h => fun z hz => by
    rw [List.mem_singleton.mp hz]
    exact hn x h
  | d + 1, .at_ r e, h => Shs.cons (by decide +kernel) (Shs.cons (hr r h.1) (Ex.words_sh hn hr h.2))
  | d + 1, .no e, h => Shs.cons (by decide +kernel) (Ex.words_sh hn hr (e := e) h)
  | d + 1, .op w a b, h => Shs.cons (wds_len w h.1) ((Ex.words_sh hn hr h.2.1).app (Ex.words_sh hn hr h.2.2))
theorem Ex.words_len {nms rws : List Str} : ∀ {d : Nat} {e : Ex}, e.Wf nms rws d → e.words.length + 2 ≤ 2 ^ (d + 1)
  | 0, _, h => h.elim
  | d + 1, .num n, h => by
    show 1 + 2 ≤ 2 ^ (d + 1 + 1)
    have : 2 ^ 2 ≤ 2 ^ (d + 1 + 1) := Nat.pow_le_pow_right (by decide) (by omega)
    omega
  | d + 1, .nam x, h => by
    show 1 + 2 ≤ 2 ^ (d + 1 + 1)
    have : 2 ^ 2 ≤ 2 ^ (d + 1 + 1) := Nat.pow_le_pow_right (by decide) (by omega)
    omega
  | d + 1, .at_ r e, h => by
    have i := Ex.words_len h.2
    show e.words.length + 1 + 1 + 2 ≤ 2 ^ (d + 1 + 1)
    rw [Nat.pow_succ 2 (d + 1)]
    have : 2 ^ 1 ≤ 2 ^ (d + 1) := Nat.pow_le_pow_right (by decide) (by omega)
    omega
  | d + 1, .no e, h => by
    have i := Ex.words_len (e := e) h
    show e.words.length + 1 + 2 ≤ 2 ^ (d + 1 + 1)
    rw [Nat.pow_succ 2 (d + 1)]
    omega
  | d + 1, .op w a b, h => by
    have i := Ex.words_len h.2.1
    have j := Ex.words_len h.2.2
    show (a.words ++ b.words).length + 1 + 2 ≤ 2 ^ (d + 1 + 1)
    rw [List.length_append, Nat.pow_succ 2 (d + 1)]
    omega
theorem Ex.words30 {nms rws : List Str} {e : Ex} (h : e.Wf nms rws 4) : e.words.length ≤ 30 := by
  have := Ex.words_len h
  omega
theorem wordsL_len {nms rws : List Str} : ∀ {es : List Ex}, (∀ e ∈ es, e.Wf nms rws 4) → (wordsL es).length ≤ 30 * es.length
  | [], _ => by simp [wordsL]
  | e :: r, h => by
    have i := wordsL_len fun x hx => h x (List.mem_cons_of_mem _ hx)
    have j := Ex.words30 (h e (List.mem_cons_self ..))
    show (e.words ++ wordsL r).length ≤ 30 * (r.length + 1)
    rw [List.length_append]
    omega
theorem wordsL_sh {nms rws : List Str} (hn : Shs nms) (hr : Shs rws) : ∀ {es : List Ex}, (∀ e ∈ es, e.Wf nms rws 4) → Shs (wordsL es)
  | [], _ => fun z hz => by simp [wordsL] at hz
  | e :: r, h => by
    show Shs (e.words ++ wordsL r)
    exact (Ex.words_sh hn hr (h e (List.mem_cons_self ..))).app (wordsL_sh hn hr fun x hx => h x (List.mem_cons_of_mem _ hx))
theorem sum_le (ws : List Str) (h : Shs ws) : (ws.map (·.length)).sum ≤ 40 * ws.length := by
  induction ws with
  | nil => simp
  | cons x r ih =>
    have i := ih fun z hz => h z (List.mem_cons_of_mem _ hz)
    have j := h x (List.mem_cons_self ..)
    rw [List.map_cons, List.sum_cons, List.length_cons]
    omega
section
variable {P : Program} {w : World} {K : PySem.W.Frag} {mg : Str → Option Value} {base : Heap}
theorem cutV_1 (x : V) (xs : List V) : cutV (x :: xs) (some 1) none = xs := cutV_from (x :: xs) 1
theorem not_whole (x : V) (xs : List V) : ¬ (HT.sIx (x :: xs).length 0 (some 1) = 0 ∧ HT.sIx (x :: xs).length (x :: xs).length none = (x :: xs).length) := by
  rintro ⟨h, _⟩
  rw [show (1 : Int) = ((1 : Nat) : Int) from rfl, HT.sIx_nat, List.length_cons] at h
  omega
theorem wordsL_snoc (es : List Ex) (e : Ex) : wordsL (es ++ [e]) = wordsL es ++ e.words := by simp [wordsL]
theorem wordsL_take {es : List Ex} {j : Nat} {e : Ex} (h : es[j]? = some e) : wordsL (es.take (j + 1)) = wordsL (es.take j) ++ e.words := by
  rw [List.take_add_one, h]
  exact wordsL_snoc _ _
def sp_words (K : PySem.W.Frag) (d : Nat) : Sp := fun vs H Q _ => ∃ (v : V) (e : Ex) (nms rws : List Str), vs = [v] ∧ Dp K H v e.d ∧ e.Wf nms rws d ∧ d ≤ 4 ∧ ∀ H' p, Same H H' → H p = none → H' p = some (.lst (e.words.map V.str)) → Q (.ref p) H'
theorem w7_a : ∀ x ∈ wds7, inV (.str x) [.str "number", .str "name"] = false ∧ x ≠ "at" := by decide +kernel
structure Ctx (nms rws : List Str) (hds : List (Str × Nat)) : Prop where
  n : Shs nms
  r : Shs rws
  h : ∀ q ∈ hds, q.2 ≤ 4 ∧ q.1.length ≤ 40
theorem Sm.words_ok {nms rws : List Str} {hds : List (Str × Nat)} (c : Ctx nms rws hds) {s : Sm} {k : Nat} (h : s.Wf nms rws hds k) : Shs s.words ∧ s.words.length ≤ 130 := by
  cases s <;> simp only [Sm.Wf] at h
  case set x e => exact ⟨Shs.cons (by decide +kernel) (Shs.cons (c.n _ h.1) (Ex.words_sh c.n c.r h.2)), by have := Ex.words30 h.2; simp only [Sm.words, List.length_cons]; omega⟩
  case put r e f => exact ⟨Shs.cons (by decide +kernel) (Shs.cons (c.r _ h.1) ((Ex.words_sh c.n c.r h.2.1).app (Ex.words_sh c.n c.r h.2.2))), by have := Ex.words30 h.2.1; have := Ex.words30 h.2.2; simp only [Sm.words, List.length_cons, List.length_append]; omega⟩
  case tell e => exact ⟨Shs.cons (by decide +kernel) (Ex.words_sh c.n c.r h), by have := Ex.words30 h; simp only [Sm.words, List.length_cons]; omega⟩
  case ite e ys ns => exact ⟨Shs.cons (by decide +kernel) (Ex.words_sh c.n c.r h.2.1), by have := Ex.words30 h.2.1; simp only [Sm.words, List.length_cons]; omega⟩
  case loop e b => exact ⟨Shs.cons (by decide +kernel) (Ex.words_sh c.n c.r h.2.1), by have := Ex.words30 h.2.1; simp only [Sm.words, List.length_cons]; omega⟩
  case call x hp es =>
    have h4 := (c.h _ h.2.1)
    have := wordsL_len h.2.2
    exact ⟨Shs.cons (by decide +kernel) (Shs.cons (c.n _ h.1) (Shs.cons h4.2 (wordsL_sh c.n c.r h.2.2))), by simp only [Sm.words, List.length_cons]; have := h4.1; simp only at this; omega⟩
  case fail n => exact ⟨Shs.cons (by decide +kernel) (Shs.cons (numS_len ⟨by omega, by omega⟩) fun z hz => nomatch hz), by simp [Sm.words]⟩
  case give e => exact ⟨Shs.cons (by decide +kernel) (Ex.words_sh c.n c.r h), by have := Ex.words30 h; simp only [Sm.words, List.length_cons]; omega⟩
def sp_pw (K : PySem.W.Frag) : Sp := fun vs H Q _ => ∃ (v : V) (s : Sm) (k : Nat) (nms rws : List Str) (hds : List (Str × Nat)), vs = [v] ∧ Dp K H v s.d ∧ s.Wf nms rws hds k ∧ Ctx nms rws hds ∧ ∀ H' p, Same H H' → H p = none → H' p = some (.lst (s.words.map V.str)) → Q (.ref p) H'
theorem cat_new {H : Hp} {l m : Addr} {xs ys : List Str} {Q : VK} (hl : H l = some (.lst (xs.map V.str))) (hm : H m = some (.lst (ys.map V.str))) (hz : xs.length + ys.length ≤ 100000) (q : ∀ p, H p = none → Q (.ref p) (upd H p (.lst ((xs ++ ys).map V.str)))) :
    ∃ a b us ws, V.ref l = .ref a ∧ V.ref m = .ref b ∧ H a = some (.lst us) ∧ H b = some (.lst ws) ∧ us.length + ws.length ≤ sizeLine ∧ ∀ p, H p = none → Q (.ref p) (upd H p (.lst (us ++ ws))) := by
  refine ⟨l, m, _, _, rfl, rfl, hl, hm, by rw [List.length_map, List.length_map, sizeLine_eq]; omega, fun p np => ?_⟩
  rw [← List.map_append]
  exact q p np
end
/-! rows of statements: plain facts -/
theorem join_len (sep : Str) : ∀ l : List Str, (Str.join sep l).length ≤ (l.map (·.length)).sum + l.length * sep.length
  | [] => by simp [Str.join, Str.length, Str.empty]
  | [x] => by simp [Str.join]
  | x :: y :: r => by
    have i := join_len sep (y :: r)
    show (x ++ sep ++ Str.join sep (y :: r)).length ≤ _
    rw [Str.length_append, Str.length_append, List.map_cons, List.sum_cons, List.length_cons, Nat.add_mul, Nat.one_mul]
    omega
theorem rowS_len {ws : List Str} (h : Shs ws) (n : ws.length ≤ 130) : (rowS ws).length ≤ 6000 := by
  have a := join_len (" " : Str) ws
  have b := sum_le ws h
  unfold rowS
  rw [TL.join_eq]
  have e : (" " : Str).length = 1 := by decide +kernel
  rw [e] at a
  omega
theorem join_fits {ws : List Str} (h : Shs ws) (n : ws.length ≤ 130) : (ws.map (·.length)).sum + ws.length * (" " : Str).length ≤ 16777216 := by
  have b := sum_le ws h
  have e : (" " : Str).length = 1 := by decide +kernel
  rw [e]
  omega
mutual
theorem Sm.lines_len : ∀ s : Sm, s.lines.length ≤ 3 * s.size
  | .ite e ys ns => by
    have a := Sm.linesL_len ys
    have b := Sm.linesL_len ns
    simp only [Sm.lines, Sm.size, List.length_cons, List.length_append, List.length_nil]
    cases ns with
    | nil => simp; omega
    | cons x r => simp; omega
  | .loop e b => by
    have a := Sm.linesL_len b
    simp only [Sm.lines, Sm.size, List.length_cons, List.length_append, List.length_nil]
    omega
  | .set x e => by simp [Sm.lines, Sm.size]
  | .put r e f => by simp [Sm.lines, Sm.size]
  | .tell e => by simp [Sm.lines, Sm.size]
  | .call x h es => by simp [Sm.lines, Sm.size]
  | .fail n => by simp [Sm.lines, Sm.size]
  | .give e => by simp [Sm.lines, Sm.size]
theorem Sm.linesL_len : ∀ l : List Sm, (Sm.linesL l).length ≤ 3 * Sm.sizes l
  | [] => by simp [Sm.linesL, Sm.sizes]
  | s :: r => by
    have a := Sm.lines_len s
    have b := Sm.linesL_len r
    simp only [Sm.linesL, Sm.sizes, List.length_append]
    omega
end
theorem Sm.linesL_app : ∀ a b : List Sm, Sm.linesL (a ++ b) = Sm.linesL a ++ Sm.linesL b
  | [], b => by simp [Sm.linesL]
  | s :: r, b => by
    rw [List.cons_append, Sm.linesL, Sm.linesL, Sm.linesL_app r b, List.append_assoc]
theorem linesL_take {l : List Sm} {j : Nat} {s : Sm} (h : l[j]? = some s) : Sm.linesL (l.take (j + 1)) = Sm.linesL (l.take j) ++ s.lines := by
  rw [List.take_add_one, h, Sm.linesL_app]
  simp [Sm.linesL]
theorem sizes_app : ∀ a b : List Sm, Sm.sizes (a ++ b) = Sm.sizes a + Sm.sizes b
  | [], b => by simp [Sm.sizes]
  | s :: r, b => by
    rw [List.cons_append, Sm.sizes, Sm.sizes, sizes_app r b]
    omega
theorem sizes_take {l : List Sm} {j : Nat} {s : Sm} (h : l[j]? = some s) : Sm.sizes (l.take j) + s.size ≤ Sm.sizes l := by
  have e : l = l.take (j + 1) ++ l.drop (j + 1) := (List.take_append_drop _ _).symm
  have f : Sm.sizes l = Sm.sizes (l.take (j + 1)) + Sm.sizes (l.drop (j + 1)) := by rw [← sizes_app, ← e]
  rw [List.take_add_one, h, sizes_app] at f
  simp [Sm.sizes] at f
  omega
theorem wfs_memR {nms rws : List Str} {hds : List (Str × Nat)} {k : Nat} : ∀ {l : List Sm} {s : Sm}, Sm.Wfs nms rws hds l k → s ∈ l → s.Wf nms rws hds k
  | [], _, _, h => nomatch h
  | t :: r, s, h, m => by
    simp only [Sm.Wfs] at h
    rcases List.mem_cons.mp m with rfl | m
    · exact h.1
    · exact wfs_memR h.2.2 m
def elsL (ns : List Sm) : List Str := if ns.isEmpty then [] else kElse :: Sm.linesL ns
/-- a statement with parts -/
structure Nest (s : Sm) (wd : Str) (ed : PyData) (b ns : List Sm) (ds : List PyData) : Prop where
  d : s.d = .tuple (.str wd :: ed :: .tuple (Sm.ds b) :: ds)
  l : s.lines = rowS s.words :: (Sm.linesL b ++ (elsL ns ++ [kEnd]))
  k : (wd = "if" ∧ ds = [.tuple (Sm.ds ns)]) ∨ (wd = "while" ∧ ds = [] ∧ ns = [])
  w : ∀ nms rws hds k, s.Wf nms rws hds k → 0 < k ∧ Sm.Wfs nms rws hds b (k - 1) ∧ Sm.Wfs nms rws hds ns (k - 1)
  z : 1 + Sm.sizes b + Sm.sizes ns = s.size
theorem Sm.sort (s : Sm) : (∃ wd ds, s.d = .tuple (.str wd :: ds) ∧ inV (.str wd) [.str "if", .str "while"] = false ∧ s.lines = [rowS s.words]) ∨ ∃ wd ed b ns ds, Nest s wd ed b ns ds := by
  cases s with
  | ite e ys ns => exact .inr ⟨"if", e.d, ys, ns, _, by simp only [Sm.d], by simp only [Sm.lines, Sm.words, elsL], .inl ⟨rfl, rfl⟩, fun nms rws hds k h => by simp only [Sm.Wf] at h; exact ⟨h.1, h.2.2⟩, by simp only [Sm.size]⟩
  | loop e b => exact .inr ⟨"while", e.d, b, [], _, by simp only [Sm.d], by simp only [Sm.lines, Sm.words, elsL]; rfl, .inr ⟨rfl, rfl, rfl⟩, fun nms rws hds k h => by simp only [Sm.Wf] at h; exact ⟨h.1, h.2.2, by simp only [Sm.Wfs]⟩, by simp only [Sm.size, Sm.sizes]; omega⟩
  | set x e => exact .inl ⟨"set", _, by simp only [Sm.d]; rfl, by decide +kernel, by simp only [Sm.lines, Sm.words]⟩
  | put r e f => exact .inl ⟨"put", _, by simp only [Sm.d]; rfl, by decide +kernel, by simp only [Sm.lines, Sm.words]⟩
  | tell e => exact .inl ⟨"tell", _, by simp only [Sm.d]; rfl, by decide +kernel, by simp only [Sm.lines, Sm.words]⟩
  | call x hp es => exact .inl ⟨"call", _, by simp only [Sm.d]; rfl, by decide +kernel, by simp only [Sm.lines, Sm.words]⟩
  | fail n => exact .inl ⟨"fail", _, by simp only [Sm.d]; rfl, by decide +kernel, by simp only [Sm.lines, Sm.words]⟩
  | give e => exact .inl ⟨"give", _, by simp only [Sm.d]; rfl, by decide +kernel, by simp only [Sm.lines, Sm.words]⟩
theorem Sm.lines_head (s : Sm) : ∃ r, s.lines = rowS s.words :: r := by
  cases s <;> exact ⟨_, by simp only [Sm.lines, Sm.words]; rfl⟩
mutual
theorem Sm.lines_sh {nms rws : List Str} {hds : List (Str × Nat)} (c : Ctx nms rws hds) : ∀ {s : Sm} {k : Nat}, s.Wf nms rws hds k → ∀ z ∈ s.lines, z.length ≤ 6000
  | .ite e ys ns, k, h => by
    have hw := Sm.words_ok c h
    simp only [Sm.Wf] at h
    intro z hz
    simp only [Sm.lines] at hz
    rcases List.mem_cons.mp hz with rfl | hz
    · exact rowS_len hw.1 hw.2
    · rcases List.mem_append.mp hz with hz | hz
      · exact Sm.linesL_sh c h.2.2.1 z hz
      · rcases List.mem_append.mp hz with hz | hz
        · by_cases hn : ns.isEmpty = true
          · rw [if_pos hn] at hz
            exact nomatch hz
          · rw [if_neg hn] at hz
            rcases List.mem_cons.mp hz with rfl | hz
            · decide +kernel
            · exact Sm.linesL_sh c h.2.2.2 z hz
        · rw [List.mem_singleton.mp hz]
          decide +kernel
  | .loop e b, k, h => by
    have hw := Sm.words_ok c h
    simp only [Sm.Wf] at h
    intro z hz
    simp only [Sm.lines] at hz
    rcases List.mem_cons.mp hz with rfl | hz
    · exact rowS_len hw.1 hw.2
    · rcases List.mem_append.mp hz with hz | hz
      · exact Sm.linesL_sh c h.2.2 z hz
      · rw [List.mem_singleton.mp hz]
        decide +kernel
  | .set x e, k, h => fun z hz => by
    have hw := Sm.words_ok c h
    simp only [Sm.lines] at hz
    rw [List.mem_singleton.mp hz]
    exact rowS_len hw.1 hw.2
  | .put r e f, k, h => fun z hz => by
    have hw := Sm.words_ok c h
    simp only [Sm.lines] at hz
    rw [List.mem_singleton.mp hz]
    exact rowS_len hw.1 hw.2
  | .tell e, k, h => fun z hz => by
    have hw := Sm.words_ok c h
    simp only [Sm.lines] at hz
    rw [List.mem_singleton.mp hz]
    exact rowS_len hw.1 hw.2
  | .call x hp es, k, h => fun z hz => by
    have hw := Sm.words_ok c h
    simp only [Sm.lines] at hz
    rw [List.mem_singleton.mp hz]
    exact rowS_len hw.1 hw.2
  | .fail n, k, h => fun z hz => by
    have hw := Sm.words_ok c h
    simp only [Sm.lines] at hz
    rw [List.mem_singleton.mp hz]
    exact rowS_len hw.1 hw.2
  | .give e, k, h => fun z hz => by
    have hw := Sm.words_ok c h
    simp only [Sm.lines] at hz
    rw [List.mem_singleton.mp hz]
    exact rowS_len hw.1 hw.2
theorem Sm.linesL_sh {nms rws : List Str} {hds : List (Str × Nat)} (c : Ctx nms rws hds) : ∀ {l : List Sm} {k : Nat}, Sm.Wfs nms rws hds l k → ∀ z ∈ Sm.linesL l, z.length ≤ 6000
  | [], _, _ => fun z hz => by simp [Sm.linesL] at hz
  | s :: r, k, h => fun z hz => by
    simp only [Sm.Wfs] at h
    simp only [Sm.linesL] at hz
    rcases List.mem_append.mp hz with hz | hz
    · exact Sm.lines_sh c h.1 z hz
    · exact Sm.linesL_sh c h.2.2 z hz
end

section
variable {K : PySem.W.Frag}
theorem sts_noL (l : List Sm) : nLd (.tuple (Sm.ds l)) = true := by
  simp only [nLd]
  exact Sm.noLs l
theorem ds_get {H : Hp} {ys : List V} {l : List Sm} {j : Nat} {y : V} (da : DpAll K H ys (Sm.ds l)) (hy : ys[j]? = some y) : ∃ s, l[j]? = some s ∧ Dp K H y s.d := by
  obtain ⟨dd, hdd, dx⟩ := dpAll_getV da hy
  rw [Sm.ds_eq, List.getElem?_map] at hdd
  obtain ⟨s, hs, rfl⟩ := Option.map_eq_some_iff.mp hdd
  exact ⟨s, hs, dx⟩
theorem dsV_len {H : Hp} {ys : List V} {l : List Sm} (da : DpAll K H ys (Sm.ds l)) : ys.length = l.length := by
  rw [dpAll_len da, Sm.ds_eq, List.length_map]
theorem snocS (xs : List Str) (z : Str) : xs.map V.str ++ [V.str z] = (xs ++ [z]).map V.str := by simp
end
/-! the text of a program: plain facts -/
def BdT (l : List Sm) : Prop := ∃ nms rws hds, Ctx nms rws hds ∧ Sm.Wfs nms rws hds l 4 ∧ Sm.sizes l ≤ 24
structure HpT (h : Str × List Str × List Sm) : Prop where
  nm : h.1.length ≤ 40
  ps : Shs h.2.1
  pl : h.2.1.length ≤ 4
  bd : BdT h.2.2
structure PgT (p : Pg) : Prop where
  hl : p.hs.length ≤ 4
  hs : ∀ h ∈ p.hs, HpT h
  pl : p.ps.length ≤ 4
  ps : Shs p.ps
  rl : p.rs.length ≤ 3
  rs : ∀ r ∈ p.rs, r.1.length ≤ 40 ∧ r.2 ≤ 8
  bd : BdT p.bd
theorem BdT.len {l : List Sm} (h : BdT l) : (Sm.linesL l).length ≤ 72 := by
  obtain ⟨_, _, _, _, _, z⟩ := h
  have := Sm.linesL_len l
  omega
theorem BdT.sh {l : List Sm} (h : BdT l) : ∀ z ∈ Sm.linesL l, z.length ≤ 6000 := by
  obtain ⟨_, _, _, c, w, _⟩ := h
  exact Sm.linesL_sh c w
theorem HpT.len {h : Str × List Str × List Sm} (t : HpT h) : (hpL h).length ≤ 74 := by
  have := t.bd.len
  simp only [hpL, List.length_cons, List.length_append, List.length_nil]
  omega
theorem HpT.words {h : Str × List Str × List Sm} (t : HpT h) : Shs ("helper" :: h.1 :: h.2.1) ∧ ("helper" :: h.1 :: h.2.1 : List Str).length ≤ 130 :=
  ⟨Shs.cons (by decide +kernel) (Shs.cons t.nm t.ps), by have := t.pl; simp only [List.length_cons]; omega⟩
theorem HpT.sh {h : Str × List Str × List Sm} (t : HpT h) : ∀ z ∈ hpL h, z.length ≤ 6000 := by
  intro z hz
  simp only [hpL] at hz
  rcases List.mem_cons.mp hz with rfl | hz
  · exact rowS_len t.words.1 t.words.2
  · rcases List.mem_append.mp hz with hz | hz
    · exact t.bd.sh z hz
    · rw [List.mem_singleton.mp hz]
      decide +kernel
theorem hpsL_len : ∀ {hs : List (Str × List Str × List Sm)}, (∀ h ∈ hs, HpT h) → (hs.flatMap hpL).length ≤ 74 * hs.length
  | [], _ => by simp
  | h :: r, t => by
    have a := (t h (List.mem_cons_self ..)).len
    have b := hpsL_len fun x hx => t x (List.mem_cons_of_mem _ hx)
    rw [List.flatMap_cons, List.length_append, List.length_cons]
    omega
theorem hpsL_take {hs : List (Str × List Str × List Sm)} {j : Nat} {h : Str × List Str × List Sm} (e : hs[j]? = some h) : (hs.take (j + 1)).flatMap hpL = (hs.take j).flatMap hpL ++ hpL h := by
  rw [List.take_add_one, e, List.flatMap_append]
  simp
theorem PgT.main {p : Pg} (t : PgT p) : Shs ("main" :: p.ps) ∧ ("main" :: p.ps : List Str).length ≤ 130 :=
  ⟨Shs.cons (by decide +kernel) t.ps, by have := t.pl; simp only [List.length_cons]; omega⟩
theorem rw32 {n : Nat} (h : n ≤ 8) : In32 (n : Int) := ⟨by omega, by omega⟩
theorem row_ok {r : Str × Nat} (h : r.1.length ≤ 40 ∧ r.2 ≤ 8) : Shs ["row", r.1, numS r.2] := Shs.cons (by decide +kernel) (Shs.cons h.1 (Shs.cons (numS_len (rw32 h.2)) fun z hz => nomatch hz))
theorem PgT.sh {p : Pg} (t : PgT p) : ∀ z ∈ p.lines, z.length ≤ 6000 := by
  intro z hz
  simp only [Pg.lines] at hz
  rcases List.mem_append.mp hz with hz | hz
  · obtain ⟨h, hh, hz⟩ := List.mem_flatMap.mp hz
    exact (t.hs h hh).sh z hz
  · rcases List.mem_cons.mp hz with rfl | hz
    · exact rowS_len t.main.1 t.main.2
    · rcases List.mem_append.mp hz with hz | hz
      · obtain ⟨r, hr, rfl⟩ := List.mem_map.mp hz
        exact rowS_len (row_ok (t.rs r hr)) (by simp)
      · rcases List.mem_append.mp hz with hz | hz
        · exact t.bd.sh z hz
        · rw [List.mem_singleton.mp hz]
          decide +kernel
theorem PgT.len {p : Pg} (t : PgT p) : p.lines.length ≤ 400 := by
  have a := hpsL_len t.hs
  have b := t.bd.len
  have c := t.hl
  have d := t.rl
  simp only [Pg.lines, List.length_append, List.length_cons, List.length_map, List.length_nil]
  omega
theorem sum_le' {B : Nat} (ws : List Str) (h : ∀ z ∈ ws, z.length ≤ B) : (ws.map (·.length)).sum ≤ B * ws.length := by
  induction ws with
  | nil => simp
  | cons x r ih =>
    have i := ih fun z hz => h z (List.mem_cons_of_mem _ hz)
    have j := h x (List.mem_cons_self ..)
    rw [List.map_cons, List.sum_cons, List.length_cons, Nat.mul_add, Nat.mul_one]
    omega
theorem PgT.join {p : Pg} (t : PgT p) : (((p.lines.map fun l => l ++ nlS)).map (·.length)).sum + (p.lines.map fun l => l ++ nlS).length * (Str.ofString "").length ≤ 16777216 := by
  have a := sum_le' (B := 6001) (p.lines.map fun l => l ++ nlS) fun z hz => by
    obtain ⟨l, hl, rfl⟩ := List.mem_map.mp hz
    have := t.sh l hl
    rw [Str.length_append]
    have e : nlS.length = 1 := by decide +kernel
    omega
  have b := t.len
  have e : (Str.ofString "").length = 0 := by decide +kernel
  rw [List.length_map] at a ⊢
  rw [e]
  omega
theorem row_text (a b : Str) : ("row " : Str) ++ a ++ " " ++ b = rowS ["row", a, b] := by
  unfold rowS
  rw [TL.join_eq]
  show _ = (Str.ofString "row" ++ Str.ofString " " ++ (a ++ Str.ofString " " ++ b))
  have e : ("row " : Str) = Str.ofString "row" ++ Str.ofString " " := by decide +kernel
  rw [e]
  simp only [Str.append_assoc]
theorem textOf_eq (ls : List Str) : Txt.join (Str.ofString "") (ls.map fun l => l ++ Str.ofString "\n") = textOf ls := by
  have e : (Str.ofString "") = Str.empty := by decide +kernel
  rw [e]
  rfl

section
variable {K : PySem.W.Frag}
theorem hp_get {H : Hp} {ys : List V} {l : List (Str × List Str × List Sm)} {j : Nat} {y : V} (da : DpAll K H ys (l.map hpD)) (hy : ys[j]? = some y) : ∃ h py pp b, l[j]? = some h ∧ y = .ref py ∧ SqT K H py [.str h.1, .ref pp, b] ∧ SqT K H pp (h.2.1.map V.str) ∧ Dp K H b (.tuple (Sm.ds h.2.2)) := by
  obtain ⟨dd, hdd, dx⟩ := dpAll_getV da hy
  rw [List.getElem?_map] at hdd
  obtain ⟨h, hh, rfl⟩ := Option.map_eq_some_iff.mp hdd
  obtain ⟨py, ws, rfl, hw, daw⟩ := dp_tup dx
  obtain ⟨x0, r0, rfl, d0, da1⟩ := dpAll_cons daw
  obtain ⟨x1, r1, rfl, d1, da2⟩ := dpAll_cons da1
  obtain ⟨x2, r2, rfl, d2, da3⟩ := dpAll_cons da2
  obtain ⟨pp, zs, rfl, hz, dz⟩ := dp_tup d1
  rw [dpAll_nil da3, dp_str d0] at hw
  rw [dpAll_strs dz] at hz
  exact ⟨h, py, pp, x2, hh, rfl, hw, hz, d2⟩
theorem rw_get {H : Hp} {ys : List V} {l : List (Str × Nat)} {j : Nat} {y : V} (da : DpAll K H ys (l.map rwD)) (hy : ys[j]? = some y) : ∃ r py, l[j]? = some r ∧ y = .ref py ∧ SqT K H py [.str r.1, .int r.2] := by
  obtain ⟨dd, hdd, dx⟩ := dpAll_getV da hy
  rw [List.getElem?_map] at hdd
  obtain ⟨h, hh, rfl⟩ := Option.map_eq_some_iff.mp hdd
  obtain ⟨py, ws, rfl, hw, daw⟩ := dp_tup dx
  obtain ⟨x0, r0, rfl, d0, da1⟩ := dpAll_cons daw
  obtain ⟨x1, r1, rfl, d1, da2⟩ := dpAll_cons da1
  rw [dpAll_nil da2, dp_str d0, dp_int d1] at hw
  exact ⟨h, py, hh, rfl, hw⟩
/-- a program on the heap -/
theorem pg_at {H : Hp} {v : V} {p : Pg} (dp : Dp K H v p.d) : ∃ p0 ph pp pr pb hv rv bv, v = .ref p0 ∧ SqT K H p0 [.ref ph, .ref pp, .ref pr, .ref pb] ∧ SqT K H ph hv ∧ DpAll K H hv (p.hs.map hpD) ∧ SqT K H pp (p.ps.map V.str) ∧
    SqT K H pr rv ∧ DpAll K H rv (p.rs.map rwD) ∧ SqT K H pb bv ∧ DpAll K H bv (Sm.ds p.bd) := by
  obtain ⟨p0, xs, rfl, hs, da⟩ := dp_tup dp
  obtain ⟨x0, r0, rfl, d0, da1⟩ := dpAll_cons da
  obtain ⟨x1, r1, rfl, d1, da2⟩ := dpAll_cons da1
  obtain ⟨x2, r2, rfl, d2, da3⟩ := dpAll_cons da2
  obtain ⟨x3, r3, rfl, d3, da4⟩ := dpAll_cons da3
  obtain ⟨ph, hv, rfl, h1, h2⟩ := dp_tup d0
  obtain ⟨pp, zs, rfl, hz, dz⟩ := dp_tup d1
  obtain ⟨pr, rv, rfl, h3, h4⟩ := dp_tup d2
  obtain ⟨pb, bv, rfl, h5, h6⟩ := dp_tup d3
  rw [dpAll_nil da4] at hs
  rw [dpAll_strs dz] at hz
  exact ⟨p0, ph, pp, pr, pb, hv, rv, bv, rfl, hs, h1, h2, hz, h3, h4, h5, h6⟩
end
structure NCtx (nms rws : List Str) (hds : List (Str × Nat)) : Prop where
  n : ∀ x ∈ nms, IsNm x
  r : ∀ x ∈ rws, IsNm x
  h : ∀ q ∈ hds, IsNm q.1 ∧ q.2 ≤ 4
theorem NCtx.ctx {nms rws : List Str} {hds : List (Str × Nat)} (c : NCtx nms rws hds) : Ctx nms rws hds :=
  ⟨fun x hx => Nat.le_trans (c.n x hx).hi (by decide), fun x hx => Nat.le_trans (c.r x hx).hi (by decide), fun q hq => ⟨(c.h q hq).2, Nat.le_trans (c.h q hq).1.hi (by decide)⟩⟩
theorem Pg.Wf.heads {p : Pg} (w : p.Wf) : ∀ q ∈ p.hs.map hdOf, IsNm q.1 ∧ q.2 ≤ 4 := by
  intro q hq
  obtain ⟨h, hh, rfl⟩ := List.mem_map.mp hq
  obtain ⟨i, hi⟩ := List.mem_iff_getElem?.mp hh
  have := w.hok i h hi
  exact ⟨this.nm, this.pl⟩
theorem Pg.Wf.hpc {p : Pg} (w : p.Wf) {h : Str × List Str × List Sm} (hh : h ∈ p.hs) : IsNm h.1 ∧ (∀ x ∈ h.2.1, IsNm x) ∧ h.2.1.length ≤ 4 ∧ ∃ vs rws hds, NCtx vs rws hds ∧ Sm.Wfs vs rws hds h.2.2 4 ∧ Sm.sizes h.2.2 ≤ 8 := by
  obtain ⟨i, hi⟩ := List.mem_iff_getElem?.mp hh
  have k := w.hok i h hi
  obtain ⟨vs, v1, v2, v3, v4⟩ := k.bd
  have c : NCtx vs [] ((p.hs.take i).map hdOf) := ⟨v1, (fun x hx => nomatch hx), fun q hq => by
    obtain ⟨h', hh', rfl⟩ := List.mem_map.mp hq
    exact w.heads _ (List.mem_map.mpr ⟨h', List.mem_of_mem_take hh', rfl⟩)⟩
  exact ⟨k.nm, k.pk, k.pl, vs, [], _, c, v4, k.sz⟩
theorem Pg.Wf.bdc {p : Pg} (w : p.Wf) : ∃ vs rws hds, NCtx vs rws hds ∧ Sm.Wfs vs rws hds p.bd 4 ∧ Sm.sizes p.bd ≤ 24 := by
  obtain ⟨vs, v1, v2, v3, v4, v5⟩ := w.bd
  exact ⟨vs, _, _, ⟨v1, fun x hx => by
    obtain ⟨r, hr, rfl⟩ := List.mem_map.mp hx
    exact (w.rk r hr).1, w.heads⟩, v5, w.sz⟩
theorem Pg.Wf.t {p : Pg} (w : p.Wf) : PgT p :=
  ⟨w.hl, fun h hh => by
    obtain ⟨a, b, c, vs, rws, hds, cx, wf, sz⟩ := w.hpc hh
    exact ⟨Nat.le_trans a.hi (by decide), fun x hx => Nat.le_trans (b x hx).hi (by decide), c, vs, rws, hds, cx.ctx, wf, by omega⟩, w.pl, fun x hx => Nat.le_trans (w.pk x hx).hi (by decide), w.rl, fun r hr => ⟨Nat.le_trans (w.rk r hr).1.hi (by decide), (w.rk r hr).2.2.1⟩, by
    obtain ⟨vs, rws, hds, cx, wf, sz⟩ := w.bdc
    exact ⟨vs, rws, hds, cx.ctx, wf, sz⟩⟩

/-! words and rows of a program: what they are made of -/
structure WdOk (z : Str) : Prop where
  len : z.length ≤ 40
  ne : TL.tl z ≠ []
  sg : ∀ c ∈ TL.tl z, 33 ≤ c ∧ c ≠ 35 ∧ c < 128
theorem WdOk.n32 {z : Str} (h : WdOk z) : 32 ∉ TL.tl z := fun e => by have := (h.sg _ e).1; omega
theorem WdOk.n10 {z : Str} (h : WdOk z) : 10 ∉ TL.tl z := fun e => by have := (h.sg _ e).1; omega
theorem WdOk.ok {z : Str} (h : WdOk z) : PyData.strOk z = true := by
  unfold PyData.strOk
  rw [← Array.all_toList]
  refine List.all_eq_true.mpr fun c hc => decide_eq_true ?_
  have := (h.sg c hc).2.2
  omega
theorem wdOk_nm {z : Str} (h : IsNm z) : WdOk z := ⟨Nat.le_trans h.hi (by decide), fun e => by
  have := h.lo
  rw [TL.len_tl, e] at this
  exact absurd this (by decide), fun c hc => by
  have := h.let_ c hc
  unfold isLet at this
  omega⟩
theorem wdOk_num {n : Int} (h : In32 n) : WdOk (numS n) := by
  obtain ⟨cs, dg, ne, hcs, l, _⟩ := numS_split h
  refine ⟨by omega, fun e => ?_, fun c hc => ?_⟩
  · rcases hcs with ⟨e2, _⟩ | ⟨e2, _⟩
    · exact ne (e2.symm.trans e)
    · have := e2.symm.trans e
      cases this
  · rcases hcs with ⟨e2, _⟩ | ⟨e2, _⟩
    · rw [show TL.tl (numS n) = cs from e2] at hc
      have := dg c hc
      omega
    · rw [show TL.tl (numS n) = 45 :: cs from e2] at hc
      rcases List.mem_cons.mp hc with rfl | hc
      · omega
      · have := dg c hc
        omega
def WsOk (ws : List Str) : Prop := ∀ z ∈ ws, WdOk z
theorem WsOk.cons {z : Str} {ws : List Str} (h : WdOk z) (h' : WsOk ws) : WsOk (z :: ws) := fun y hy => (List.mem_cons.mp hy).elim (fun e => e ▸ h) (h' y)
theorem WsOk.app {a b : List Str} (h : WsOk a) (h' : WsOk b) : WsOk (a ++ b) := fun y hy => (List.mem_append.mp hy).elim (h y) (h' y)
theorem WsOk.nil : WsOk [] := fun _ h => nomatch h
def kwds : List Str := ["number", "name", "at", "not", "set", "put", "tell", "if", "else", "end", "while", "call", "fail", "give", "row", "helper", "main", "add", "sub", "mul", "div", "rem", "less", "same"]
theorem wdOk_kw {z : Str} (h : z ∈ kwds) : WdOk z := by
  have : ∀ x ∈ kwds, x.length ≤ 40 ∧ TL.tl x ≠ [] ∧ ∀ c ∈ TL.tl x, 33 ≤ c ∧ c ≠ 35 ∧ c < 128 := by decide +kernel
  exact ⟨(this z h).1, (this z h).2.1, (this z h).2.2⟩
theorem wds7_kw : ∀ x ∈ wds7, x ∈ kwds := by decide +kernel
theorem Ex.wsOk {nms rws : List Str} (hn : ∀ x ∈ nms, IsNm x) (hr : ∀ x ∈ rws, IsNm x) : ∀ {d : Nat} {e : Ex}, e.Wf nms rws d → WsOk e.words
  | 0, _, h => h.elim
  | d + 1, .num n, h => WsOk.cons (wdOk_num h) WsOk.nil
  | d + 1, .nam x, h => WsOk.cons (wdOk_nm (hn x h)) WsOk.nil
  | d + 1, .at_ r e, h => WsOk.cons (wdOk_kw (by decide +kernel)) (WsOk.cons (wdOk_nm (hr r h.1)) (Ex.wsOk hn hr h.2))
  | d + 1, .no e, h => WsOk.cons (wdOk_kw (by decide +kernel)) (Ex.wsOk hn hr (e := e) h)
  | d + 1, .op w a b, h => WsOk.cons (wdOk_kw (wds7_kw w h.1)) ((Ex.wsOk hn hr h.2.1).app (Ex.wsOk hn hr h.2.2))
theorem exs_wsOk {nms rws : List Str} (hn : ∀ x ∈ nms, IsNm x) (hr : ∀ x ∈ rws, IsNm x) : ∀ {es : List Ex}, (∀ e ∈ es, e.Wf nms rws 4) → WsOk (wordsL es)
  | [], _ => WsOk.nil
  | e :: r, h => by
    show WsOk (e.words ++ wordsL r)
    exact (Ex.wsOk hn hr (h e (List.mem_cons_self ..))).app (exs_wsOk hn hr fun x hx => h x (List.mem_cons_of_mem _ hx))
structure RowOk (ws : List Str) : Prop where
  ne : ws ≠ []
  len : ws.length ≤ 130
  wd : WsOk ws
def RowsOk (rws : List (List Str)) : Prop := ∀ ws ∈ rws, RowOk ws
theorem RowsOk.cons {z : List Str} {ws : List (List Str)} (h : RowOk z) (h' : RowsOk ws) : RowsOk (z :: ws) := fun y hy => (List.mem_cons.mp hy).elim (fun e => e ▸ h) (h' y)
theorem RowsOk.app {a b : List (List Str)} (h : RowsOk a) (h' : RowsOk b) : RowsOk (a ++ b) := fun y hy => (List.mem_append.mp hy).elim (h y) (h' y)
theorem RowsOk.nil : RowsOk [] := fun _ h => nomatch h
theorem rowOk_end : RowOk kRX := ⟨by decide, by decide, WsOk.cons (wdOk_kw (by decide +kernel)) WsOk.nil⟩
theorem rowOk_else : RowOk kRE := ⟨by decide, by decide, WsOk.cons (wdOk_kw (by decide +kernel)) WsOk.nil⟩
theorem Sm.row_ok {nms rws : List Str} {hds : List (Str × Nat)} (c : NCtx nms rws hds) {s : Sm} {k : Nat} (h : s.Wf nms rws hds k) : RowOk s.words := by
  have l := (Sm.words_ok c.ctx h).2
  have ne : s.words ≠ [] := by cases s <;> simp [Sm.words]
  refine ⟨ne, l, ?_⟩
  cases s <;> simp only [Sm.Wf] at h
  case set x e => exact WsOk.cons (wdOk_kw (by decide +kernel)) (WsOk.cons (wdOk_nm (c.n _ h.1)) (Ex.wsOk c.n c.r h.2))
  case put r e f => exact WsOk.cons (wdOk_kw (by decide +kernel)) (WsOk.cons (wdOk_nm (c.r _ h.1)) ((Ex.wsOk c.n c.r h.2.1).app (Ex.wsOk c.n c.r h.2.2)))
  case tell e => exact WsOk.cons (wdOk_kw (by decide +kernel)) (Ex.wsOk c.n c.r h)
  case ite e ys ns => exact WsOk.cons (wdOk_kw (by decide +kernel)) (Ex.wsOk c.n c.r h.2.1)
  case loop e b => exact WsOk.cons (wdOk_kw (by decide +kernel)) (Ex.wsOk c.n c.r h.2.1)
  case call x hp es => exact WsOk.cons (wdOk_kw (by decide +kernel)) (WsOk.cons (wdOk_nm (c.n _ h.1)) (WsOk.cons (wdOk_nm (c.h _ h.2.1).1) (exs_wsOk c.n c.r h.2.2)))
  case fail n => exact WsOk.cons (wdOk_kw (by decide +kernel)) (WsOk.cons (wdOk_num ⟨by omega, by omega⟩) WsOk.nil)
  case give e => exact WsOk.cons (wdOk_kw (by decide +kernel)) (Ex.wsOk c.n c.r h)
mutual
theorem Sm.rows_ok {nms rws : List Str} {hds : List (Str × Nat)} (c : NCtx nms rws hds) : ∀ {s : Sm} {k : Nat}, s.Wf nms rws hds k → RowsOk s.rows
  | .ite e ys ns, k, h => by
    have h0 := Sm.row_ok c h
    unfold Sm.Wf at h
    unfold Sm.rows
    refine .cons h0 ((Sm.rowsL_ok c h.2.2.1).app (.app ?_ (.cons rowOk_end .nil)))
    have i := Sm.rowsL_ok c h.2.2.2
    split
    · exact .nil
    · exact .cons rowOk_else i
  | .loop e b, k, h => by
    have h0 := Sm.row_ok c h
    unfold Sm.Wf at h
    unfold Sm.rows
    exact .cons h0 ((Sm.rowsL_ok c h.2.2).app (.cons rowOk_end .nil))
  | .set x e, k, h => by unfold Sm.rows; exact .cons (Sm.row_ok c h) .nil
  | .put r e f, k, h => by unfold Sm.rows; exact .cons (Sm.row_ok c h) .nil
  | .tell e, k, h => by unfold Sm.rows; exact .cons (Sm.row_ok c h) .nil
  | .call x hp es, k, h => by unfold Sm.rows; exact .cons (Sm.row_ok c h) .nil
  | .fail n, k, h => by unfold Sm.rows; exact .cons (Sm.row_ok c h) .nil
  | .give e, k, h => by unfold Sm.rows; exact .cons (Sm.row_ok c h) .nil
theorem Sm.rowsL_ok {nms rws : List Str} {hds : List (Str × Nat)} (c : NCtx nms rws hds) : ∀ {l : List Sm} {k : Nat}, Sm.Wfs nms rws hds l k → RowsOk (Sm.rowsL l)
  | [], _, _ => by unfold Sm.rowsL; exact .nil
  | s :: r, k, h => by
    unfold Sm.Wfs at h
    unfold Sm.rowsL
    exact (Sm.rows_ok c h.1).app (Sm.rowsL_ok c h.2.2)
end
theorem Pg.Wf.rows {p : Pg} (w : p.Wf) : RowsOk p.rows := by
  have nms : ∀ {l : List Str}, (∀ x ∈ l, IsNm x) → WsOk l := fun h x hx => wdOk_nm (h x hx)
  unfold Pg.rows
  refine .app (fun ws hws => ?_) (.cons ⟨by simp, by have := w.pl; rw [List.length_cons]; omega, .cons (wdOk_kw (by decide +kernel)) (nms w.pk)⟩ (.app (fun ws hws => ?_) (.app ?_ (.cons rowOk_end .nil))))
  · obtain ⟨h, hh, hw⟩ := List.mem_flatMap.mp hws
    obtain ⟨a, b, c, vs, rws, hds, cx, wf, sz⟩ := w.hpc hh
    unfold hpR at hw
    exact (RowsOk.cons ⟨by simp, by simp only [List.length_cons]; omega, .cons (wdOk_kw (by decide +kernel)) (.cons (wdOk_nm a) (nms b))⟩ (.app (Sm.rowsL_ok cx wf) (.cons rowOk_end .nil))) ws hw
  · obtain ⟨r, hr, rfl⟩ := List.mem_map.mp hws
    have k := w.rk r hr
    exact ⟨by simp [rowW], by simp [rowW], .cons (wdOk_kw (by decide +kernel)) (.cons (wdOk_nm k.1) (.cons (wdOk_num (rw32 k.2.2.1)) .nil))⟩
  · obtain ⟨vs, rws, hds, cx, wf, sz⟩ := w.bdc
    exact Sm.rowsL_ok cx wf
theorem We.mem : ∀ {a : List (List Str)} {F : List Str} {out : List (List Str)}, We F a out → ∀ ws ∈ out, ws ∈ a ∨ ws = kRE
  | [], _, out, h, ws, hw => by
    have : out = [] := h
    subst this
    cases hw
  | x :: a, F, out, h, ws, hw => by
    obtain ⟨o1, o2, h1, h2, rfl⟩ := h
    rcases List.mem_append.mp hw with hw | hw
    · rcases h1 with rfl | ⟨_, _, rfl⟩
      · rw [List.mem_singleton.mp hw]
        exact .inl (List.mem_cons_self ..)
      · rcases List.mem_cons.mp hw with rfl | hw
        · exact .inr rfl
        · rw [List.mem_singleton.mp hw]
          exact .inl (List.mem_cons_self ..)
    · rcases We.mem h2 ws hw with h | h
      · exact .inl (List.mem_cons_of_mem _ h)
      · exact .inr h
theorem We.ok {a : List (List Str)} {F : List Str} {out : List (List Str)} (h : We F a out) (ok : RowsOk a) : RowsOk out := fun ws hw => by
  rcases h.mem ws hw with h | rfl
  · exact ok ws h
  · exact rowOk_else
theorem RowsOk.rw {rws : List (List Str)} (h : RowsOk rws) : RwOk rws := fun ws hw => ⟨by have := (h ws hw).len; omega, fun y hy => ((h ws hw).wd y hy).ok⟩
/-- the words of a row, put together and cut again -/
theorem split_row {ws : List Str} (h : RowOk ws) : Txt.split (rowS ws) " " = ws := TL.split_join (s := 32) (S := []) (by decide +kernel) (by decide +kernel) h.ne fun p hp => (h.wd p hp).n32
theorem mem_join {y : Str} : ∀ {l : List Str} {c : Nat}, c ∈ TL.tl (Txt.join y l) → c ∈ TL.tl y ∨ ∃ z ∈ l, c ∈ TL.tl z := by
  intro l c hc
  rw [TL.join_eq, TL.tl_join] at hc
  induction l with
  | nil => exact nomatch hc
  | cons x r ih =>
    cases r with
    | nil => exact .inr ⟨x, List.mem_cons_self .., hc⟩
    | cons x' r =>
      have hc : c ∈ TL.tl x ++ (TL.tl y ++ TL.joinL (TL.tl y) ((x' :: r).map TL.tl)) := hc
      rcases List.mem_append.mp hc with hc | hc
      · exact .inr ⟨x, List.mem_cons_self .., hc⟩
      · rcases List.mem_append.mp hc with hc | hc
        · exact .inl hc
        · rcases ih hc with h | ⟨z, hz, h⟩
          · exact .inl h
          · exact .inr ⟨z, List.mem_cons_of_mem _ hz, h⟩
theorem row_sg {ws : List Str} (h : RowOk ws) : ∀ c ∈ TL.tl (rowS ws), 32 ≤ c ∧ c ≠ 35 := fun c hc => by
  rcases mem_join hc with h1 | ⟨z, hz, h1⟩
  · rw [show TL.tl (" " : Str) = [32] by decide +kernel, List.mem_singleton] at h1
    omega
  · have := (h.wd z hz).sg c h1
    omega
theorem row_len {ws : List Str} (h : RowOk ws) : (rowS ws).length ≤ 6000 := rowS_len (fun z hz => (h.wd z hz).len) h.len
theorem wsC_join : ∀ {ws : List Str}, WsOk ws → wsC (TL.joinL [32] (ws.map TL.tl)) = ws.map TL.tl
  | [], _ => rfl
  | [x], h => by
    have hx := h x (List.mem_cons_self ..)
    show wsC (TL.tl x) = [TL.tl x]
    have := wsF_word (TL.tl x) [] fun c hc => by have := (hx.sg c hc).1; omega
    rw [List.nil_append, if_neg hx.ne] at this
    exact this
  | x :: y :: r, h => by
    have hx := h x (List.mem_cons_self ..)
    show wsC (TL.tl x ++ 32 :: TL.joinL [32] ((y :: r).map TL.tl)) = _
    rw [wsC_app, wsC_join fun z hz => h z (List.mem_cons_of_mem _ hz)]
    have := wsF_word (TL.tl x) [] fun c hc => by have := (hx.sg c hc).1; omega
    rw [List.nil_append, if_neg hx.ne] at this
    rw [show wsC (TL.tl x) = [TL.tl x] from this]
    rfl
theorem wds_row {ws : List Str} (h : RowOk ws) : wdsOf (rowS ws) = ws := by
  refine TL.map_tl_inj ?_
  rw [wds_plain fun c hc => (row_sg h c hc).2]
  unfold rowS
  rw [TL.join_eq, TL.tl_join]
  exact wsC_join h.wd

section
variable {P : Program} {w : World} {K : PySem.W.Frag} {mg : Str → Option Value} {base : Heap}
theorem fin_sm {R : Addr} {p : PyData} {H H' : Hp} (s : Same H H') (f : Fin K R p H) : Fin K R p H' := by
  obtain ⟨dx, hp1, hd1, h1, sc1, rw1, fr1, pg, ob1, dpg⟩ := f
  exact ⟨dx, hp1, hd1, h1, sc1, rw1, fr1, pg, s _ _ ob1, dp_sm s dpg⟩
theorem ifNT3 {c A B : Prop} [Decidable c] (hc : ¬ c) (h : A) : if (!decide c) = true then A else B := by
  rw [if_pos (by rw [decide_eq_false hc]; rfl)]
  exact h
def sp_read (K : PySem.W.Frag) : Sp := fun vs H Q _ => ∃ (t : Str) (ls : List Str) (p : Pg), vs = [.str t] ∧ t.length ≤ 4000000 ∧ ((Txt.split t "\n" = ls ∧ (∀ x, ls.getLast? = some x → x ≠ "") ∧ ls ≠ []) ∨ Txt.split t "\n" = ls ++ [("" : Str)]) ∧ (∀ l ∈ ls, l.length ≤ 1000000 ∧ (Txt.partition l "#").1.length ≤ 1000000 ∧ (Txt.split (Txt.partition l "#").1 " ").length ≤ 1000000) ∧ ls.length ≤ 100000 ∧ p.Wf ∧ PgRw p (rwsOf ls) ∧ RwOk (rwsOf ls) ∧
  ∀ H' v, Same H H' → Dp K H' v p.d → Q v H'
theorem ok_read (T : Top K mg) : FnOk P w K mg base CX0 16 (He.ga K "read") T.fd_read ["text"] (sp_read K) := by
  have G_Reader___init__ := ok_Reader_init (P := P) (w := w) (base := base) T
  have G_Reader_takes := ok_takes (P := P) (w := w) (base := base) T
  refine T.F_read.ok sc_read (fun vs H Q E h => ?_) (fun cdv A outer s H vs Q E hr h => ?_)
  · obtain ⟨t, ls, p, rfl, _⟩ := h
    rfl
  · obtain ⟨t, ls, p, rfl, lt, hs, ll, lls, wf, hp, ok, q⟩ := h
    refine ⟨_, PSs.nox (pss_cons (ps_set (i := 1) sc_read.nd rfl (Or.inl rfl) (pe_bm PySem.F.plainAttrs_str PySem.F.slot_str_split PySem.F.type_str_split mt_split (pv 0) (pa_cons pe_str pa_nil)))
        (pss_cons (ps_if (pt_cmpR op_eq (pe_ix ix_list (pv 1) (pe_un un_neg pe_int) (fun _ _ => rfl)) pe_str (nomark _)) (pss_one (ps_expr (pe_bm0 PySem.F.plainAttrs_list PySem.F.slot_list_pop PySem.F.type_list_pop mt_pop (pv 1)))) pss_nil)
        (pss_cons (ps_set (i := 2) sc_read.nd rfl (Or.inl rfl) (pe_make0 T.mk_Reader G_Reader___init__ (hr.mono (by omega)) (by rfl) T.g_Reader T.b_Reader___init__ .nil pass0))
        (pss_cons (ps_for PassesOwn.never (by rfl) (pi_enum (by rfl) T.m_enumerate (pa_cons (pv 1) pa_nil)) (pg_tup (n := 2) (by rfl) (pgs_cons (pg_name (i := 3) sc_read.nd rfl (Or.inl rfl)) (pgs_cons (pg_name (i := 4) sc_read.nd rfl (Or.inl rfl)) pgs_nil))) (pss_cons (ps_setLc (i := 5) (own := [("word", 6)]) (by rfl) sc_read.nd rfl rfl (sw_true rfl rfl rfl (by decide +kernel)) (pi_list (pe_bm PySem.F.plainAttrs_str PySem.F.slot_str_split PySem.F.type_str_split mt_split (pe_ix ix_tup (pe_bm PySem.F.plainAttrs_str PySem.F.slot_str_partition PySem.F.type_str_partition mt_partition (pv 4) (pa_cons pe_str pa_nil)) pe_int (fun _ _ => rfl)) (pa_cons pe_str pa_nil))) (blkOk_by (own := [("word", 6)]) (N := N_read) (sc := defScope s_read) (by decide +kernel)) (fun _ _ _ _ _ => (pg_name (i := 6) sc_read.nd rfl (Or.inl rfl))) (fun _ _ _ _ _ => (pts_one (pt_cmpR op_ne (pv 6) pe_str (nomark _)))) (fun _ _ _ _ _ => (pv 6)))
        (pss_one (ps_if (PW.pt (pw_and (pt_truth (pv 5) (by intro _; rfl)) (pw_and1 (pt_not (pt_val (pe_meth (pv 2) T.cl_Reader T.me_Reader_takes G_Reader_takes (hr.mono (by omega)) T.b_Reader_takes .nil pass0 (pa_cons (pv 5) pa_nil))))))) (pss_one ps_never) pss_nil))))
        (pss_cons (ps_if (pt_cmpR op_isN (pe_fld (pv 2) rfl) pe_non (nomark _)) (pss_one ps_never) pss_nil)
        (pss_one (ps_ret (pe_fld (pv 2) rfl)))))))), ?_⟩
    have big : ∀ n : Nat, n ≤ 4000100 → n ≤ sizeLine := fun n h => by rw [sizeLine_eq]; omega
    refine ⟨_, rfl, rfl, t, "\n", rfl, rfl, by decide +kernel, big _ (by omega), fun l nl => ?_⟩
    dsimp only [gName, List.set]
    have s1 := same_new (o := .lst ((Txt.split t "\n").map V.str)) nl
    refine ifs_by (fun σ' H' => Same H H' ∧ H' l = some (.lst (ls.map V.str)) ∧ σ' = [some (.str t), some (.ref l), none, none, none, none, none]) ?_ ?_
    rotate_left
    · intro N hN
      rcases hs with ⟨e, hl, ne⟩ | e
      · obtain ⟨li, x, hx⟩ := last_get ne
        rw [e] at s1 ⊢
        refine ⟨_, rfl, 1, rfl, l, _, -1, _, rfl, rfl, .of upd_same, by rw [hx, List.map_append]; exact atI_last _ _, rfl, _, rfl, ifN (fun z => hl x (by rw [hx]; simp) (V.str.inj z)) (hN _ _ ⟨s1, upd_same, rfl⟩)⟩
      · rw [e] at s1 ⊢
        refine ⟨_, rfl, 1, rfl, l, _, -1, _, rfl, rfl, .of upd_same, by rw [List.map_append]; exact atI_last _ _, rfl, _, rfl, ifD rfl ?_⟩
        refine ⟨_, rfl, .inl ⟨rfl, _, .of upd_same⟩, l, _, .str "", rfl, rfl, upd_same, by simp, ?_⟩
        refine hN _ _ ⟨fun c o ec => ?_, ?_, rfl⟩
        · rw [upd_ne (ne_of_none ec nl)]
          exact s1 c o ec
        · rw [upd_same]
          simp
    rintro σ' H1 ⟨s01, e1, rfl⟩
    intro R dx nR ndx nex
    have s12 := same_made (C := He.ga K "Reader") nR ndx nex
    refine ⟨R, dx, rfl, upd_same, fun H2 hp' hd rw fr k2 nhp nhd nrw nfr h1 h2 h3 ob ehp ehd erw efr => ⟨rfl, ?_⟩⟩
    dsimp only [gName, List.set]
    have s12' : Same H1 H2 := same_kp s12 k2 fun c z => by rw [show c = R from z]; exact nR
    have ou : Ou K H1 H2 R hp' hd rw [] := ⟨s12', ⟨dx, .non, fr, ob⟩, ⟨[], ehp, .nil⟩, ⟨[], ehd, Nat.le_refl _, (fun q hq => by simp at hq), fun x _ => rfl⟩, erw, h1, none_sm s12 nhp, none_sm s12 nhd, none_sm s12 nrw, nR⟩
    have go := go_pg (E := E0) wf ou hp ok
    have lm : (ls.map V.str).length = ls.length := List.length_map ..
    refine ⟨_, rfl, l, _, rfl, .of (s12' _ _ e1), ?_⟩
    refine for_it (walk_enum (K := K) (a := l) (xs := ls.map V.str)) (fun i σ' H' => Go K E0 H1 R (Fin K R p.d) (rwsOf (ls.drop i)) H' ∧ ∃ x3 x4 x5, σ' = [some (.str t), some (.ref l), some (.ref R), x3, x4, x5, none]) ?_ ?_ ?_ ?_
    · exact ⟨by simpa using go, none, none, none, rfl⟩
    · rintro i σ' H' _ ⟨g, _⟩
      exact .of (g.sb _ _ e1)
    · rintro i x σ' H3 H4 hi ⟨g, x3, x4, x5, rfl⟩ ⟨Tn, y1, y2, rfl, nT, rfl, c1, c2⟩
      cases c1
      have c3 : (ls.map V.str)[i]? = some y2 := c2
      rw [List.getElem?_map] at c3
      obtain ⟨z, hz, rfl⟩ := Option.map_eq_some_iff.mp c3
      obtain ⟨z1, z2, z3⟩ := ll z (List.mem_of_getElem? hz)
      have s34 := same_new (o := .tup [.int (i : Nat), .str z]) nT
      refine ⟨Tn, _, rfl, .of upd_same, rfl, _, _, rfl, _, _, rfl, rfl, ?_⟩
      dsimp only [gName, List.set]
      refine ⟨_, rfl, rfl, z, "#", rfl, rfl, by decide +kernel, big _ (by omega), fun pt npt => ⟨pt, _, 0, _, rfl, rfl, .of upd_same, atI_nat (j := 0) rfl, rfl, _, " ", rfl, rfl, by decide +kernel, big _ (by omega), fun L nL => ?_⟩⟩
      have s45 := same_new (o := .tup [.str (Txt.partition z "#").1, .str (Txt.partition z "#").2.1, .str (Txt.partition z "#").2.2]) npt
      have s56 := same_new (o := .lst ((Txt.split (Txt.partition z "#").1 " ").map V.str)) nL
      refine ⟨L, rfl, ⟨_, .of upd_same⟩, fun D nD => ?_⟩
      have eL : (upd (upd (upd H3 Tn (.tup [.int (i : Nat), .str z])) pt (.tup [.str (Txt.partition z "#").1, .str (Txt.partition z "#").2.1, .str (Txt.partition z "#").2.2])) L (.lst ((Txt.split (Txt.partition z "#").1 " ").map V.str))) L = some (.lst ((Txt.split (Txt.partition z "#").1 " ").map V.str)) := upd_same
      have s36 := s34.trans (s45.trans s56)
      generalize upd (upd (upd H3 Tn (.tup [.int (i : Nat), .str z])) pt (.tup [.str (Txt.partition z "#").1, .str (Txt.partition z "#").2.1, .str (Txt.partition z "#").2.2])) L (.lst ((Txt.split (Txt.partition z "#").1 " ").map V.str)) = H6 at s36 eL nD ⊢
      have sD := same_new (o := .lst []) nD
      refine lc_list (K := K) (a := L) (xs := (Txt.split (Txt.partition z "#").1 " ").map V.str) (fun j H' => Same H6 H' ∧ H' D = some (.lst ((((Txt.split (Txt.partition z "#").1 " ").take j).filter fun z : Str => decide (z ≠ "")).map V.str))) ?_ ?_ ?_ ?_
      · exact ⟨sD, upd_same⟩
      · rintro j H' _ ⟨s', _⟩
        exact .of (s' _ _ eL)
      · rintro j x H' hx ⟨s', e'⟩
        rw [List.getElem?_map] at hx
        obtain ⟨y, hy, rfl⟩ := Option.map_eq_some_iff.mp hx
        have jl := (List.getElem?_eq_some_iff.mp hy).1
        refine ⟨rfl, _, rfl, rfl, _, rfl, ?_⟩
        by_cases hy0 : y = ""
        · refine ifNF (by rw [hy0]) ⟨s', ?_⟩
          rw [List.take_add_one, hy, Option.toList_some, List.filter_append, List.filter_cons_of_neg (by simpa using hy0), List.filter_nil, List.append_nil]
          exact e'
        · have cn : ¬ V.str y = V.str "" := fun q => hy0 (V.str.inj q)
          refine ifNT3 cn ⟨_, rfl, _, e', ?_, ?_, ?_⟩
          · have := List.length_filter_le (fun z : Str => decide (z ≠ "")) ((Txt.split (Txt.partition z "#").1 " ").take j)
            rw [List.length_take] at this
            rw [List.length_map, sizeLine_eq]
            omega
          · intro c o e
            rw [upd_ne (ne_of_none e nD)]
            exact s' c o e
          · rw [upd_same, List.take_add_one, hy, Option.toList_some, List.filter_append, List.filter_cons_of_pos (by simpa using hy0), List.filter_nil, List.map_append]
            rfl
      · rintro H7 ⟨s67, e7⟩
        rw [List.length_map, List.take_length] at e7
        have ew : (Txt.split (Txt.partition z "#").1 " ").filter (fun z : Str => decide (z ≠ "")) = wdsOf z := rfl
        rw [ew] at e7
        dsimp only [gName, List.set]
        have nD3 : H3 D = none := none_sm s36 nD
        have s37 := s36.trans s67
        have hdr : ls.drop i = z :: ls.drop (i + 1) := by
          obtain ⟨hl, e⟩ := List.getElem?_eq_some_iff.mp hz
          rw [List.drop_eq_getElem_cons hl, e]
        rw [hdr] at g
        cases hw : wdsOf z with
        | nil =>
          rw [hw] at e7
          refine ⟨_, rfl, false, .inl ⟨_, .of e7, rfl⟩, ?_⟩
          refine ⟨?_, _, _, _, rfl⟩
          have e0 : rwsOf (z :: ls.drop (i + 1)) = rwsOf (ls.drop (i + 1)) := by
            unfold rwsOf
            rw [List.map_cons, List.filter_cons, hw]
            rfl
          rw [e0] at g
          exact g.sm (fun _ _ s f => fin_sm s f) s37
        | cons y r =>
          rw [hw] at e7
          refine ⟨_, rfl, true, .inl ⟨_, .of e7, rfl⟩, ?_⟩
          have e0 : rwsOf (z :: ls.drop (i + 1)) = (y :: r) :: rwsOf (ls.drop (i + 1)) := by
            unfold rwsOf
            rw [List.map_cons, List.filter_cons, hw]
            rfl
          rw [e0] at g
          obtain ⟨R', dx', hp', hd', h', sc', rw', fr', W', z', r', e', ob', _⟩ := g.2 D H7 s37 nD3 e7 (fun _ _ => True) fun _ _ => trivial
          have eR : R' = R := by
            have := congrArg List.head? e'
            simpa using this.symm
          subst eR
          refine ⟨_, rfl, R', dx', _, rfl, ob', rdF_no (by decide +kernel) (by decide +kernel) (by decide +kernel) (by decide +kernel) (by decide +kernel) (by decide +kernel) (by decide +kernel), _, rfl, ?_⟩
          refine g.2 D H7 s37 nD3 e7 _ fun H8 g8 => ?_
          exact ⟨_, rfl, g8, _, _, _, rfl⟩
    · rintro σ' H3 ⟨g, x3, x4, x5, rfl⟩
      have g0 := g
      rw [List.length_map, List.drop_length] at g0
      obtain ⟨sb, dx, hp1, hd1, h1, sc1, rw1, fr1, pg, ob1, dpg⟩ := g0
      have np : pg ≠ .non := by
        rintro rfl
        cases dpg
      refine ⟨_, rfl, R, _, dx, _, _, rfl, ob1, T.cl_Reader, T.no_Reader_program, rdF_program _ _ _ _ _ _ _, rfl, _, rfl, ifN np ?_⟩
      exact ⟨_, rfl, R, _, dx, _, _, rfl, ob1, T.cl_Reader, T.no_Reader_program, rdF_program _ _ _ _ _ _ _, q _ _ (s01.trans sb) dpg⟩
end

section
variable {P : Program} {w : World} {K : PySem.W.Frag} {mg : Str → Option Value} {base : Heap}
theorem ok__law_words_of (T : Top K mg) : ∀ d : Nat, FnOk P w K mg base CX0 (d + 1) (He.ga K "_law_words_of") T.fd__law_words_of ["_law_e"] (sp_words K d)
  | 0 => by
    refine T.F__law_words_of.ok sc__law_words_of (fun vs H Q E h => ?_) (fun cdv A outer s H vs Q E hr h => ?_)
    · obtain ⟨v, e, nms, rws, rfl, _⟩ := h
      rfl
    · obtain ⟨v, e, nms, rws, rfl, _, wf, _⟩ := h
      exact wf.elim
  | d + 1 => by
    have G__law_words_of := ok__law_words_of T d
    refine T.F__law_words_of.ok sc__law_words_of (fun vs H Q E h => ?_) (fun cdv A outer s H vs Q E hr h => ?_)
    · obtain ⟨v, e, nms, rws, rfl, _⟩ := h
      rfl
    · obtain ⟨v, e, nms, rws, rfl, dp, wf, hd, q⟩ := h
      refine ⟨_, PSs.nox (pss_cons (ps_if (pt_cmpR op_in_seq (pe_ix ix_tup (pv 0) pe_int (fun _ _ => rfl)) (pe_lst (pa_cons pe_str (pa_cons pe_str pa_nil))) (by rfl)) (pss_one (ps_ret (pe_lst (pa_cons (pe_callTy call_str_any (by rfl) T.m_str (by decide +kernel) (pa_cons (pe_ix ix_tup (pv 0) pe_int (fun _ _ => rfl)) pa_nil)) pa_nil)))) pss_nil)
        (pss_cons (ps_if (pt_cmpR op_eq (pe_ix ix_tup (pv 0) pe_int (fun _ _ => rfl)) pe_str (nomark _)) (pss_one (ps_ret (pe_op op_cat (pe_lst (pa_cons pe_str (pa_cons (pe_ix ix_tup (pv 0) pe_int (fun _ _ => rfl)) pa_nil))) (pe_call G__law_words_of (hr.mono (by omega)) (by rfl) T.g__law_words_of T.F__law_words_of.kp T.b__law_words_of .nil pass0 (pa_cons (pe_ix ix_tup (pv 0) pe_int (fun _ _ => rfl)) pa_nil))))) pss_nil)
        (pss_cons (ps_set (i := 1) sc__law_words_of.nd rfl (Or.inl rfl) (pe_lst (pa_cons (pe_ix ix_tup (pv 0) pe_int (fun _ _ => rfl)) pa_nil)))
        (pss_cons (ps_for PassesOwn.never (by rfl) (pi_tup (pe_slice sl_tupA (pv 0) (po_some pe_int) po_none)) (pg_name (i := 2) sc__law_words_of.nd rfl (Or.inl rfl)) (pss_one (ps_set (i := 1) sc__law_words_of.nd rfl (Or.inl rfl) (pe_op op_cat (pv 1) (pe_call G__law_words_of (hr.mono (by omega)) (by rfl) T.g__law_words_of T.F__law_words_of.kp T.b__law_words_of .nil pass0 (pa_cons (pv 2) pa_nil))))))
        (pss_one (ps_ret (pv 1))))))), ?_⟩
      have big : ∀ n : Nat, n ≤ 10000 → n ≤ sizeLine := fun n h => by rw [sizeLine_eq]; omega
      have wl2 : e.words.length ≤ 30 := Ex.words30 (wf.mono hd)
      -- a word with parts
      refine via (fun wd es => e.d = .tuple (.str wd :: es.map Ex.d) ∧ e.words = wd :: wordsL es ∧ (∀ x ∈ es, x.Wf nms rws d) ∧ es.length ≤ 2 ∧ inV (.str wd) [.str "number", .str "name"] = false ∧ wd ≠ "at") (fun wd es h => ?_) fun leaf' => ?_
      · obtain ⟨h1, h2, h3, h4, h5, h6⟩ := h
        rw [h1] at dp
        rw [h2] at q wl2
        obtain ⟨p, xs, rfl, hs, da⟩ := dp_tup dp
        obtain ⟨x0, xs, rfl, d0, da⟩ := dpAll_cons da
        rw [dp_str d0] at hs
        refine ⟨_, rfl, p, _, 0, _, rfl, rfl, hs, atI_nat (j := 0) rfl, big 2 (by decide), fun t nt => ?_⟩
        have st := same_new (o := .lst [.str "number", .str "name"]) nt
        have hs2 := sqT_kp (Kp.of_same (S := fun _ => False) st) hs
        refine ⟨t, _, rfl, .inl (.of upd_same), rfl, by decide +kernel, false, by show V.bl (inV _ _) = _; rw [h5], ?_⟩
        refine ⟨_, rfl, p, _, 0, _, rfl, rfl, hs2, atI_nat (j := 0) rfl, rfl, _, rfl, ifN (fun z => h6 (V.str.inj z)) ?_⟩
        refine ⟨_, rfl, p, _, 0, _, rfl, rfl, hs2, atI_nat (j := 0) rfl, big 1 (by decide), fun L nL => ?_⟩
        have sL := same_new (o := .lst [.str wd]) nL
        have hs3 := sqT_kp (Kp.of_same (S := fun _ => False) sL) hs2
        have s2 := st.trans sL
        have nL0 : H L = none := st.free nL
        refine ⟨_, rfl, 1, rfl, p, _, rfl, hs3, fun z => absurd z (not_whole _ _), fun _ S nS => ?_⟩
        rw [cutV_1]
        have sS := same_new (o := .tup xs) nS
        refine ⟨S, rfl, ⟨_, .of upd_same⟩, for_tup (K := K) (xs := xs) (fun j σ' H' => Same H H' ∧ SqT K H' S xs ∧ ∃ Lj x2, H Lj = none ∧ H' Lj = some (.lst ((wd :: wordsL (es.take j)).map V.str)) ∧ σ' = [some (.ref p), some (.ref Lj), x2]) ?_ ?_ ?_ ?_⟩
        · exact ⟨s2.trans sS, .of upd_same, L, none, nL0, sS _ _ upd_same, rfl⟩
        · rintro j σ' H' _ ⟨_, h, _⟩
          exact h
        · rintro j x σ' H' hx ⟨s', hS', Lj, x2, nj, e', rfl⟩
          obtain ⟨dd, hdd, dx⟩ := dpAll_getV (dpAll_same da s' (exs_noL es)) hx
          rw [List.getElem?_map] at hdd
          obtain ⟨ex, hex, rfl⟩ := Option.map_eq_some_iff.mp hdd
          have wfx := h3 ex (List.mem_of_getElem? hex)
          refine ⟨_, rfl, _, rfl, x, ex, nms, rws, rfl, dx, wfx, by omega, fun H3 m s3 nm em => ?_⟩
          have e3 := s3 _ _ e'
          have bnd : (wordsL (es.take j)).length ≤ 60 := by
            have := wordsL_len (nms := nms) (rws := rws) (es := es.take j) fun y hy => (h3 y (List.mem_of_mem_take hy)).mono (by omega)
            rw [List.length_take] at this
            omega
          have bx : ex.words.length ≤ 30 := Ex.words30 (wfx.mono (by omega))
          refine ⟨Lj, m, _, _, rfl, rfl, e3, em, by rw [List.length_map, List.length_map, List.length_cons, sizeLine_eq]; omega, fun o no => ?_⟩
          rw [← List.map_append, List.cons_append, ← wordsL_take hex]
          have so := same_new (o := .lst ((wd :: wordsL (es.take (j + 1))).map V.str)) no
          have s4 := (s'.trans s3).trans so
          exact ⟨s4, sqT_kp (Kp.of_same (S := fun _ => False) (s3.trans so)) hS', o, _, (s'.trans s3).free no, upd_same, rfl⟩
        · rintro σ' H' ⟨s', _, Lj, x2, nj, e', rfl⟩
          have el : es.take xs.length = es := List.take_of_length_le (by rw [dpAll_len da, List.length_map]; exact Nat.le_refl _)
          rw [el] at e'
          exact ⟨_, rfl, q _ Lj s' nj e'⟩
      have leaf := fun wd es h1 h2 h3 h4 h5 h6 => leaf' wd es ⟨h1, h2, h3, h4, h5, h6⟩
      cases e with
      | num n =>
        obtain ⟨p, xs, rfl, hs, da⟩ := dp_tup dp
        obtain ⟨x0, r0, rfl, d0, da⟩ := dpAll_cons da
        obtain ⟨x1, r1, rfl, d1, da⟩ := dpAll_cons da
        rw [dpAll_nil da, dp_str d0, dp_int d1] at hs
        refine ⟨_, rfl, p, _, 0, _, rfl, rfl, hs, atI_nat (j := 0) rfl, big 2 (by decide), fun t nt => ?_⟩
        have st := same_new (o := .lst [.str "number", .str "name"]) nt
        refine ⟨t, _, rfl, .inl (.of upd_same), rfl, by decide +kernel, true, by decide +kernel, ?_⟩
        refine ⟨_, rfl, p, _, 1, _, rfl, rfl, sqT_kp (Kp.of_same (S := fun _ => False) st) hs, atI_nat (j := 1) rfl, .inl ⟨_, rfl, nat_log n wf, big 1 (by decide), fun l nl => ?_⟩⟩
        exact q _ l (st.trans (same_new nl)) (st.free nl) upd_same
      | nam x =>
        obtain ⟨p, xs, rfl, hs, da⟩ := dp_tup dp
        obtain ⟨x0, r0, rfl, d0, da⟩ := dpAll_cons da
        obtain ⟨x1, r1, rfl, d1, da⟩ := dpAll_cons da
        rw [dpAll_nil da, dp_str d0, dp_str d1] at hs
        refine ⟨_, rfl, p, _, 0, _, rfl, rfl, hs, atI_nat (j := 0) rfl, big 2 (by decide), fun t nt => ?_⟩
        have st := same_new (o := .lst [.str "number", .str "name"]) nt
        refine ⟨t, _, rfl, .inl (.of upd_same), rfl, by decide +kernel, true, by decide +kernel, ?_⟩
        refine ⟨_, rfl, p, _, 1, _, rfl, rfl, sqT_kp (Kp.of_same (S := fun _ => False) st) hs, atI_nat (j := 1) rfl, .inr ⟨_, rfl, big 1 (by decide), fun l nl => ?_⟩⟩
        exact q _ l (st.trans (same_new nl)) (st.free nl) upd_same
      | at_ r e =>
        obtain ⟨p, xs, rfl, hs, da⟩ := dp_tup dp
        obtain ⟨x0, r0, rfl, d0, da⟩ := dpAll_cons da
        obtain ⟨x1, r1, rfl, d1, da⟩ := dpAll_cons da
        obtain ⟨x2, r2, rfl, d2, da⟩ := dpAll_cons da
        rw [dpAll_nil da, dp_str d0, dp_str d1] at hs
        refine ⟨_, rfl, p, _, 0, _, rfl, rfl, hs, atI_nat (j := 0) rfl, big 2 (by decide), fun t nt => ?_⟩
        have st := same_new (o := .lst [.str "number", .str "name"]) nt
        have hs2 := sqT_kp (Kp.of_same (S := fun _ => False) st) hs
        refine ⟨t, _, rfl, .inl (.of upd_same), rfl, by decide +kernel, false, by decide +kernel, ?_⟩
        refine ⟨_, rfl, p, _, 0, _, rfl, rfl, hs2, atI_nat (j := 0) rfl, rfl, _, rfl, ifD rfl ?_⟩
        refine ⟨_, rfl, p, _, 1, _, rfl, rfl, hs2, atI_nat (j := 1) rfl, big 2 (by decide), fun l nl => ?_⟩
        have sl := same_new (o := .lst [.str "at", .str r]) nl
        have s2 := st.trans sl
        refine ⟨_, rfl, p, _, 2, _, rfl, rfl, sqT_kp (Kp.of_same (S := fun _ => False) sl) hs2, atI_nat (j := 2) rfl, x2, e, nms, rws, rfl, dp_same d2 s2 e.noL, wf.2, by omega, fun H3 m s3 nm em => ?_⟩
        have wl3 : e.words.length ≤ 30 := Ex.words30 (Ex.Wf.mono (by omega) wf.2)
        refine ⟨l, m, _, _, rfl, rfl, s3 _ _ upd_same, em, by rw [List.length_map]; simp only [List.length_cons, List.length_nil]; rw [sizeLine_eq]; omega, fun o no => ?_⟩
        exact q _ o ((s2.trans s3).trans (same_new no)) ((s2.trans s3).free no) upd_same
      | no e =>
        exact leaf "not" [e] rfl (by simp [Ex.words, wordsL]) (fun x hx => by rw [List.mem_singleton.mp hx]; exact wf) (by show 1 ≤ 2; decide) (by decide +kernel) (by decide +kernel)
      | op wd a b =>
        refine leaf wd [a, b] rfl (by simp [Ex.words, wordsL]) (fun x hx => ?_) (by show 2 ≤ 2; decide) (w7_a wd wf.1).1 (w7_a wd wf.1).2
        rcases List.mem_cons.mp hx with rfl | hx
        · exact wf.2.1
        · rw [List.mem_singleton.mp hx]
          exact wf.2.2
end

/-! a statement's parts -/
inductive Pt where
  | s (z : Str)
  | n (i : Int)
  | e (x : Ex)
  | es (l : List Ex)
  | b (l : List Sm)
def Pt.d : Pt → PyData
  | .s z => .str z
  | .n i => .int i
  | .e x => x.d
  | .es l => .tuple (l.map Ex.d)
  | .b l => .tuple (Sm.ds l)
def Pt.words : Pt → List Str
  | .s z => [z]
  | .n i => [numS i]
  | .e x => x.words
  | .es l => wordsL l
  | .b _ => []
def Sm.wd : Sm → Str
  | .set _ _ => "set"
  | .put _ _ _ => "put"
  | .tell _ => "tell"
  | .ite _ _ _ => "if"
  | .loop _ _ => "while"
  | .call _ _ _ => "call"
  | .fail _ => "fail"
  | .give _ => "give"
def Sm.parts : Sm → List Pt
  | .set x e => [.s x, .e e]
  | .put r e f => [.s r, .e e, .e f]
  | .tell e => [.e e]
  | .ite e ys ns => [.e e, .b ys, .b ns]
  | .loop e b => [.e e, .b b]
  | .call x h es => [.s x, .s h, .es es]
  | .fail n => [.n n]
  | .give e => [.e e]
theorem Sm.d_parts (s : Sm) : s.d = .tuple (.str s.wd :: s.parts.map Pt.d) := by
  cases s <;> simp only [Sm.d, Sm.wd, Sm.parts, List.map_cons, List.map_nil, Pt.d]
theorem Sm.words_parts (s : Sm) : s.words = s.wd :: s.parts.flatMap Pt.words := by
  cases s <;> simp [Sm.words, Sm.wd, Sm.parts, Pt.words]
def nests : List V := [.str "if", .str "while"]
def PartOk (nms rws : List Str) (wd : Str) (pre : List Pt) : Pt → Prop
  | .s _ => True
  | .n i => In32 i
  | .e x => x.Wf nms rws 4 ∧ wd ≠ "call" ∧ (inV (.str wd) nests = false ∨ pre = [])
  | .es l => wd = "call" ∧ l.length ≤ 4 ∧ ∀ x ∈ l, x.Wf nms rws 4
  | .b _ => wd ≠ "call" ∧ inV (.str wd) nests = true ∧ 1 ≤ (pre.flatMap Pt.words).length
theorem Ex.words_pos1 (e : Ex) : 1 ≤ e.words.length := by
  cases e <;> simp [Ex.words]
theorem Sm.parts_ok {nms rws : List Str} {hds : List (Str × Nat)} (c : Ctx nms rws hds) {s : Sm} {k : Nat} (h : s.Wf nms rws hds k) : ∀ (j : Nat) p, s.parts[j]? = some p → PartOk nms rws s.wd (s.parts.take j) p := by
  intro j p hp
  cases s <;> simp only [Sm.Wf] at h <;> simp only [Sm.parts, Sm.wd] at hp ⊢
  case set x e =>
    match j, hp with
    | 0, hp => cases hp; trivial
    | 1, hp => cases hp; exact ⟨h.2, by decide +kernel, .inl (by decide +kernel)⟩
    | j + 2, hp => cases hp
  case put r e f =>
    match j, hp with
    | 0, hp => cases hp; trivial
    | 1, hp => cases hp; exact ⟨h.2.1, by decide +kernel, .inl (by decide +kernel)⟩
    | 2, hp => cases hp; exact ⟨h.2.2, by decide +kernel, .inl (by decide +kernel)⟩
    | j + 3, hp => cases hp
  case tell e =>
    match j, hp with
    | 0, hp => cases hp; exact ⟨h, by decide +kernel, .inl (by decide +kernel)⟩
    | j + 1, hp => cases hp
  case give e =>
    match j, hp with
    | 0, hp => cases hp; exact ⟨h, by decide +kernel, .inl (by decide +kernel)⟩
    | j + 1, hp => cases hp
  case fail n =>
    match j, hp with
    | 0, hp => cases hp; exact ⟨by omega, by omega⟩
    | j + 1, hp => cases hp
  case ite e ys ns =>
    have := e.words_pos1
    match j, hp with
    | 0, hp => cases hp; exact ⟨h.2.1, by decide +kernel, .inr rfl⟩
    | 1, hp => cases hp; exact ⟨by decide +kernel, by decide +kernel, by simpa [Pt.words] using this⟩
    | 2, hp => cases hp; exact ⟨by decide +kernel, by decide +kernel, by simpa [Pt.words] using this⟩
    | j + 3, hp => cases hp
  case loop e b =>
    have := e.words_pos1
    match j, hp with
    | 0, hp => cases hp; exact ⟨h.2.1, by decide +kernel, .inr rfl⟩
    | 1, hp => cases hp; exact ⟨by decide +kernel, by decide +kernel, by simpa [Pt.words] using this⟩
    | j + 2, hp => cases hp
  case call x hp' es =>
    match j, hp with
    | 0, hp => cases hp; trivial
    | 1, hp => cases hp; trivial
    | 2, hp => cases hp; exact ⟨rfl, (c.h _ h.2.1).1, h.2.2⟩
    | j + 3, hp => cases hp
theorem partsL_take {ps : List Pt} {j : Nat} {p : Pt} (h : ps[j]? = some p) : (ps.take (j + 1)).flatMap Pt.words = (ps.take j).flatMap Pt.words ++ p.words := by
  rw [List.take_add_one, h, List.flatMap_append]
  simp
theorem flatMap_take_le (ps : List Pt) (j : Nat) : ((ps.take j).flatMap Pt.words).length ≤ (ps.flatMap Pt.words).length := by
  have e : ps.flatMap Pt.words = (ps.take j).flatMap Pt.words ++ (ps.drop j).flatMap Pt.words := by rw [← List.flatMap_append, List.take_append_drop]
  rw [e, List.length_append]
  omega
theorem isi_str {K : PySem.W.Frag} : PySem.W.kitAny K (.type "str") [.type "str", .type "int"] = some true := kitAny_cons (kit_ty (r := true) (by decide +kernel)) (fun z => nomatch z) fun _ => rfl
theorem isi_int {K : PySem.W.Frag} : PySem.W.kitAny K (.type "int") [.type "str", .type "int"] = some true := kitAny_cons (kit_ty (r := false) (by decide +kernel)) (fun _ => kitAny_cons (kit_ty (r := true) (by decide +kernel)) (fun z => nomatch z) fun _ => rfl) (fun z => nomatch z)
theorem isi_tup {K : PySem.W.Frag} : PySem.W.kitAny K (.type "tuple") [.type "str", .type "int"] = some false := kitAny_cons (kit_ty (r := false) (by decide +kernel)) (fun _ => kitAny_cons (kit_ty (r := false) (by decide +kernel)) (fun _ => rfl) (fun z => nomatch z)) (fun z => nomatch z)
theorem Pt.noL : ∀ p : Pt, nLd p.d = true
  | .s _ => rfl
  | .n _ => rfl
  | .e x => x.noL
  | .es l => by simp only [Pt.d, nLd]; exact exs_noL l
  | .b l => sts_noL l
theorem pts_noL (l : List Pt) : nLs (l.map Pt.d) = true := noLs_all fun x hx => by
  obtain ⟨z, _, rfl⟩ := List.mem_map.mp hx
  exact z.noL

section
variable {P : Program} {w : World} {K : PySem.W.Frag} {mg : Str → Option Value} {base : Heap}
theorem ex_at {H : Hp} {v : V} {e : Ex} (h : Dp K H v e.d) : ∃ a xs, v = .ref a ∧ SqT K H a xs := by
  cases e <;> (obtain ⟨a, xs, rfl, hs, _⟩ := dp_tup h; exact ⟨a, xs, rfl, hs⟩)
def sp_sl (K : PySem.W.Frag) (D : Nat) : Sp := fun vs H Q _ => ∃ (v : V) (s : Sm) (k : Nat) (nms rws : List Str) (hds : List (Str × Nat)), vs = [v] ∧ Dp K H v s.d ∧ s.Wf nms rws hds k ∧ k < D ∧ Ctx nms rws hds ∧ s.size ≤ 24 ∧
  ∀ H' p, Same H H' → H p = none → H' p = some (.lst (s.lines.map V.str)) → Q (.ref p) H'
theorem ok_sl (T : Top K mg) : ∀ D : Nat, FnOk P w K mg base CX0 (D + 6) (He.ga K "_law_statement_lines") T.fd__law_statement_lines ["_law_s"] (sp_sl K D)
  | 0 => by
    refine T.F__law_statement_lines.ok sc__law_statement_lines (fun vs H Q E h => ?_) (fun cdv A outer s H vs Q E hr h => ?_)
    · obtain ⟨v, l, k, nms, rws, hds, rfl, _⟩ := h
      rfl
    · obtain ⟨v, l, k, nms, rws, hds, rfl, _, _, hk, _⟩ := h
      exact absurd hk (by omega)
  | D + 1 => by
    have G__law_statement_lines := ok_sl T D
    have G__law_words_of := ok__law_words_of (P := P) (w := w) (base := base) T 4
    refine T.F__law_statement_lines.ok sc__law_statement_lines (fun vs H Q E h => ?_) (fun cdv A outer s H vs Q E hr h => ?_)
    · obtain ⟨v, s, k, nms, rws, hds, rfl, _⟩ := h
      rfl
    · obtain ⟨v, s, k, nms, rws, hds, rfl, dp, wf, hk, cx, sz, q⟩ := h
      refine ⟨_, PSs.nox (pss_cons (ps_set (i := 1) sc__law_statement_lines.nd rfl (Or.inl rfl) (pe_lst (pa_cons (pe_ix ix_tup (pv 0) pe_int (fun _ _ => rfl)) pa_nil)))
        (pss_cons (ps_for PassesOwn.never (by rfl) (pi_tup (pe_slice sl_tupA (pv 0) (po_some pe_int) po_none)) (pg_name (i := 2) sc__law_statement_lines.nd rfl (Or.inl rfl)) (pss_one (ps_if (pt_val (pe_callB call_isiT (by rfl) T.m_isinstance (by decide +kernel) (pa_cons (pv 2) (pa_cons (pe_tup (pa_cons (pe_bltn (v := .ty "str") (by rfl) T.m_str (by decide +kernel) rfl) (pa_cons (pe_bltn (v := .ty "int") (by rfl) T.m_int (by decide +kernel) rfl) pa_nil))) pa_nil)))) (pss_one (ps_expr (pe_bm PySem.F.plainAttrs_list PySem.F.slot_list_append PySem.F.type_list_append mt_append (pv 1) (pa_cons (pe_callTy call_str_any (by rfl) T.m_str (by decide +kernel) (pa_cons (pv 2) pa_nil)) pa_nil)))) (pss_one (ps_if (pt_cmpR op_eq (pe_ix ix_tup (pv 0) pe_int (fun _ _ => rfl)) pe_str (nomark _)) (pss_one (ps_for PassesOwn.never (by rfl) (pi_tup (pv 2)) (pg_name (i := 3) sc__law_statement_lines.nd rfl (Or.inl rfl)) (pss_one (ps_set (i := 1) sc__law_statement_lines.nd rfl (Or.inl rfl) (pe_op op_cat (pv 1) (pe_call G__law_words_of (hr.mono (by omega)) (by rfl) T.g__law_words_of T.F__law_words_of.kp T.b__law_words_of .nil pass0 (pa_cons (pv 3) pa_nil))))))) (pss_one (ps_if (PW.pt (pw_or (pt_cmpR op_notIn_seq (pe_ix ix_tup (pv 0) pe_int (fun _ _ => rfl)) (pe_lst (pa_cons pe_str (pa_cons pe_str pa_nil))) (by rfl)) (pw_or1 (pt_cmpR op_eq (pe_callB call_len_seq (by rfl) T.m_len (by decide +kernel) (pa_cons (pv 1) pa_nil)) pe_int (nomark _))))) (pss_one (ps_set (i := 1) sc__law_statement_lines.nd rfl (Or.inl rfl) (pe_op op_cat (pv 1) (pe_call G__law_words_of (hr.mono (by omega)) (by rfl) T.g__law_words_of T.F__law_words_of.kp T.b__law_words_of .nil pass0 (pa_cons (pv 2) pa_nil))))) pss_nil)))))))
        (pss_cons (ps_set (i := 4) sc__law_statement_lines.nd rfl (Or.inl rfl) (pe_lst (pa_cons (pe_join pe_str (pv 1)) pa_nil)))
        (pss_cons (ps_if (pt_cmpR op_in_seq (pe_ix ix_tup (pv 0) pe_int (fun _ _ => rfl)) (pe_lst (pa_cons pe_str (pa_cons pe_str pa_nil))) (by rfl)) (pss_cons (ps_for PassesOwn.never (by rfl) (pi_tup (pe_ix ix_tup (pv 0) pe_int (fun _ _ => rfl))) (pg_name (i := 5) sc__law_statement_lines.nd rfl (Or.inl rfl)) (pss_one (ps_set (i := 4) sc__law_statement_lines.nd rfl (Or.inl rfl) (pe_op op_cat (pv 4) (pe_call G__law_statement_lines (hr.mono (by omega)) (by rfl) T.g__law_statement_lines T.F__law_statement_lines.kp T.b__law_statement_lines .nil pass0 (pa_cons (pv 5) pa_nil))))))
        (pss_cons (ps_if (PW.pt (pw_and (pt_cmpR op_eq (pe_ix ix_tup (pv 0) pe_int (fun _ _ => rfl)) pe_str (nomark _)) (pw_and1 (pt_cmpR op_gt (pe_callB call_len_seq (by rfl) T.m_len (by decide +kernel) (pa_cons (pe_ix ix_tup (pv 0) pe_int (fun _ _ => rfl)) pa_nil)) pe_int (nomark _))))) (pss_cons (ps_expr (pe_bm PySem.F.plainAttrs_list PySem.F.slot_list_append PySem.F.type_list_append mt_append (pv 4) (pa_cons pe_str pa_nil)))
        (pss_one (ps_for PassesOwn.never (by rfl) (pi_tup (pe_ix ix_tup (pv 0) pe_int (fun _ _ => rfl))) (pg_name (i := 5) sc__law_statement_lines.nd rfl (Or.inl rfl)) (pss_one (ps_set (i := 4) sc__law_statement_lines.nd rfl (Or.inl rfl) (pe_op op_cat (pv 4) (pe_call G__law_statement_lines (hr.mono (by omega)) (by rfl) T.g__law_statement_lines T.F__law_statement_lines.kp T.b__law_statement_lines .nil pass0 (pa_cons (pv 5) pa_nil)))))))) pss_nil)
        (pss_one (ps_expr (pe_bm PySem.F.plainAttrs_list PySem.F.slot_list_append PySem.F.type_list_append mt_append (pv 4) (pa_cons pe_str pa_nil)))))) pss_nil)
        (pss_one (ps_ret (pv 4))))))), ?_⟩
      have big : ∀ n : Nat, n ≤ 10000 → n ≤ sizeLine := fun n h => by rw [sizeLine_eq]; omega
      have kS : ∀ {H1 H2 : Hp} {p : Addr} {xs : List V}, Same H1 H2 → SqT K H1 p xs → SqT K H2 p xs := fun s h => sqT_kp (Kp.of_same (S := fun _ => False) s) h
      have sU : ∀ {H' : Hp} {L : Addr} {o : HO}, Same H H' → H L = none → Same H (upd H' L o) := fun {H' L o} s nL b x hb => by
        rw [upd_ne (ne_of_none hb nL)]
        exact s _ _ hb
      have wk := Sm.words_ok cx wf
      have dp0 := dp
      rw [s.d_parts] at dp
      obtain ⟨p, xs0, rfl, hp, da0⟩ := dp_tup dp
      obtain ⟨x0, xs, rfl, d0, da⟩ := dpAll_cons da0
      rw [dp_str d0] at hp
      refine ⟨_, rfl, p, _, 0, _, rfl, rfl, hp, atI_nat (j := 0) rfl, big 1 (by decide), fun L nL => ?_⟩
      have s1 := same_new (o := .lst [.str s.wd]) nL
      refine ⟨_, rfl, 1, rfl, p, _, rfl, kS s1 hp, fun z => absurd z (not_whole _ _), fun _ S nS => ?_⟩
      rw [cutV_1]
      have sS := same_new (o := .tup xs) nS
      refine ⟨S, rfl, ⟨_, .of upd_same⟩, for_tup (K := K) (xs := xs) (fun j σ' H' => Same H H' ∧ SqT K H' S xs ∧ ∃ Lj x2 x3, H Lj = none ∧ H' Lj = some (.lst ((s.wd :: (s.parts.take j).flatMap Pt.words).map V.str)) ∧ σ' = [some (.ref p), some (.ref Lj), x2, x3, none, none]) ?_ ?_ ?_ ?_⟩
      · exact ⟨s1.trans sS, .of upd_same, L, none, none, nL, sS _ _ upd_same, rfl⟩
      · rintro j σ' H' _ ⟨_, h, _⟩
        exact h
      · rintro j y σ' H1 hy ⟨s1, hS1, Lj, x2, x3, nj, e1, rfl⟩
        obtain ⟨dd, hdd, dx⟩ := dpAll_getV da hy
        rw [List.getElem?_map] at hdd
        obtain ⟨pt, hpt, rfl⟩ := Option.map_eq_some_iff.mp hdd
        have po := Sm.parts_ok cx wf j pt hpt
        have wl : ((s.parts.take (j + 1)).flatMap Pt.words).length ≤ 130 := by
          have := flatMap_take_le s.parts (j + 1)
          have w2 := wk.2
          rw [s.words_parts, List.length_cons] at w2
          omega
        have pt1 := partsL_take hpt
        rw [pt1, List.length_append] at wl
        refine ⟨_, rfl, big 2 (by decide), fun tp np => ?_⟩
        have st := same_new (o := .tup [.ty "str", .ty "int"]) np
        have s2 := s1.trans st
        have e2 := st _ _ e1
        have hS2 := kS st hS1
        cases pt with
        | s z =>
          rw [dp_str dx]
          refine ⟨_, tp, _, _, _, true, rfl, upd_same, .cons (.ty _) (.cons (.ty _) .nil), .base (.str z), isi_str, true, rfl, ?_⟩
          refine ⟨_, rfl, .inl ⟨rfl, _, .of e2⟩, _, rfl, .inr ⟨_, rfl, ?_⟩⟩
          refine ⟨Lj, _, _, rfl, rfl, e2, by rw [List.length_map, List.length_cons, sizeLine_eq]; omega, sU s2 nj, sqT_kp (Kp.upd (S := fun b => b = Lj) e2 trivial rfl) hS2, Lj, _, _, nj, ?_, rfl⟩
          rw [upd_same, snocS, pt1]
          rfl
        | n i =>
          rw [dp_int dx]
          refine ⟨_, tp, _, _, _, true, rfl, upd_same, .cons (.ty _) (.cons (.ty _) .nil), .base (.int i), isi_int, true, rfl, ?_⟩
          refine ⟨_, rfl, .inl ⟨rfl, _, .of e2⟩, _, rfl, .inl ⟨_, rfl, nat_log i po, ?_⟩⟩
          refine ⟨Lj, _, _, rfl, rfl, e2, by rw [List.length_map, List.length_cons, sizeLine_eq]; omega, sU s2 nj, sqT_kp (Kp.upd (S := fun b => b = Lj) e2 trivial rfl) hS2, Lj, _, _, nj, ?_, rfl⟩
          rw [upd_same, snocS, pt1]
          rfl
        | e x =>
          obtain ⟨px, zs, rfl, hz⟩ := ex_at dx
          refine ⟨_, tp, _, _, _, false, rfl, upd_same, .cons (.ty _) (.cons (.ty _) .nil), ty_tup (kS s2 hz), isi_tup, false, rfl, ?_⟩
          refine ⟨_, rfl, p, _, 0, _, rfl, rfl, kS s2 hp, atI_nat (j := 0) rfl, rfl, _, rfl, ifN (fun z => po.2.1 (V.str.inj z)) ?_⟩
          refine ⟨_, rfl, p, _, 0, _, rfl, rfl, kS s2 hp, atI_nat (j := 0) rfl, big 2 (by decide), fun tl ntl => ?_⟩
          have sl := same_new (o := .lst nests) ntl
          have s3 := s2.trans sl
          refine ⟨tl, _, rfl, .inl (.of upd_same), rfl, by decide +kernel, !inV (.str s.wd) nests, rfl, ?_⟩
          have e3 := sl _ _ e2
          have hS3 := kS sl hS2
          refine ite_share ?_ fun hc leaf => ?_
          · refine ⟨_, rfl, _, rfl, _, x, nms, rws, rfl, dp_same dx s3 x.noL, po.1, Nat.le_refl _, fun H4 m s4 nm em => ?_⟩
            refine ⟨Lj, m, _, _, rfl, rfl, s4 _ _ e3, em, by rw [List.length_map, List.length_map, List.length_cons, sizeLine_eq]; have : x.words.length = (Pt.e x).words.length := rfl; omega, fun o no => ?_⟩
            rw [← List.map_append, List.cons_append]
            have so := same_new (o := .lst ((s.wd :: ((s.parts.take j).flatMap Pt.words ++ x.words)).map V.str)) no
            refine ⟨(s3.trans s4).trans so, kS (s4.trans so) hS3, o, _, _, (s3.trans s4).free no, ?_, rfl⟩
            rw [upd_same, pt1]
            rfl
          · refine ⟨_, rfl, Lj, _, rfl, .inl (.of e3), rfl, _, rfl, ifD ?_ leaf⟩
            rcases po.2.2 with iv | pre
            · rw [iv] at hc
              exact absurd rfl hc
            · rw [pre]
              rfl
        | es l =>
          obtain ⟨px, zs, rfl, hz, daz⟩ := dp_tup dx
          refine ⟨_, tp, _, _, _, false, rfl, upd_same, .cons (.ty _) (.cons (.ty _) .nil), ty_tup (kS s2 hz), isi_tup, false, rfl, ?_⟩
          refine ⟨_, rfl, p, _, 0, _, rfl, rfl, kS s2 hp, atI_nat (j := 0) rfl, rfl, _, rfl, ifD (by rw [po.1]) ?_⟩
          have bl := wordsL_len po.2.2
          have pl := po.2.1
          have wl0 : ((s.parts.take j).flatMap Pt.words).length ≤ 130 := by omega
          refine ⟨_, rfl, px, rfl, ⟨_, kS s2 hz⟩, for_tup (K := K) (xs := zs) (fun i σ' H' => Same H H' ∧ SqT K H' S xs ∧ ∃ Lj x3, H Lj = none ∧ H' Lj = some (.lst ((s.wd :: ((s.parts.take j).flatMap Pt.words ++ wordsL (l.take i))).map V.str)) ∧ σ' = [some (.ref p), some (.ref Lj), some (.ref px), x3, none, none]) ?_ ?_ ?_ ?_⟩
          · exact ⟨s2, hS2, Lj, _, nj, e2.trans (by simp [wordsL]), rfl⟩
          · rintro i σ' H' _ ⟨s', _⟩
            exact kS s' hz
          · rintro i y σ' H3 hy ⟨s3, hS3, Li, x3, ni, e3, rfl⟩
            obtain ⟨dd, hdd, dy⟩ := dpAll_getV daz hy
            rw [List.getElem?_map] at hdd
            obtain ⟨ex, hex, rfl⟩ := Option.map_eq_some_iff.mp hdd
            have wfx := po.2.2 ex (List.mem_of_getElem? hex)
            have bx := Ex.words30 wfx
            have bi := wordsL_len (es := l.take i) fun y hy => po.2.2 y (List.mem_of_mem_take hy)
            rw [List.length_take] at bi
            refine ⟨_, rfl, _, rfl, y, ex, nms, rws, rfl, dp_same dy s3 ex.noL, wfx, Nat.le_refl _, fun H4 m s4 nm em => ?_⟩
            refine ⟨Li, m, _, _, rfl, rfl, s4 _ _ e3, em, by rw [List.length_map, List.length_map, List.length_cons, List.length_append, sizeLine_eq]; omega, fun o no => ?_⟩
            rw [← List.map_append, List.cons_append, List.append_assoc, ← wordsL_take hex]
            have so := same_new (o := .lst ((s.wd :: ((s.parts.take j).flatMap Pt.words ++ wordsL (l.take (i + 1)))).map V.str)) no
            exact ⟨(s3.trans s4).trans so, kS (s4.trans so) hS3, o, _, (s3.trans s4).free no, upd_same, rfl⟩
          · rintro σ' H3 ⟨s3, hS3, Li, x3, ni, e3, rfl⟩
            have el : l.take zs.length = l := List.take_of_length_le (by rw [dpAll_len daz, List.length_map]; exact Nat.le_refl _)
            rw [el] at e3
            exact ⟨s3, hS3, Li, _, _, ni, e3.trans (by rw [pt1]; rfl), rfl⟩
        | b l =>
          obtain ⟨px, zs, rfl, hz, _⟩ := dp_tup dx
          refine ⟨_, tp, _, _, _, false, rfl, upd_same, .cons (.ty _) (.cons (.ty _) .nil), ty_tup (kS s2 hz), isi_tup, false, rfl, ?_⟩
          refine ⟨_, rfl, p, _, 0, _, rfl, rfl, kS s2 hp, atI_nat (j := 0) rfl, rfl, _, rfl, ifN (fun z => po.1 (V.str.inj z)) ?_⟩
          refine ⟨_, rfl, p, _, 0, _, rfl, rfl, kS s2 hp, atI_nat (j := 0) rfl, big 2 (by decide), fun tl ntl => ?_⟩
          have sl := same_new (o := .lst nests) ntl
          have s3 := s2.trans sl
          have e3 := sl _ _ e2
          refine ⟨tl, _, rfl, .inl (.of upd_same), rfl, by decide +kernel, false, by show V.bl (!inV (V.str s.wd) nests) = _; rw [po.2.1]; rfl, ?_⟩
          refine ⟨_, rfl, Lj, _, rfl, .inl (.of e3), rfl, _, rfl, ifN (fun z => ?_) ?_⟩
          · have := V.int.inj z
            rw [List.length_map, List.length_cons] at this
            have := po.2.2
            omega
          · exact ⟨s3, kS sl hS2, Lj, _, _, nj, e3.trans (by rw [pt1]; simp [Pt.words]), rfl⟩
      · rintro σ' H1 ⟨s1, _, Lj, x2, x3, nj, e1, rfl⟩
        have el : s.parts.take xs.length = s.parts := List.take_of_length_le (by rw [dpAll_len da, List.length_map]; exact Nat.le_refl _)
        rw [el, ← s.words_parts] at e1
        refine ⟨⟨_, rfl⟩, _, rfl, _, Lj, s.words, rfl, rfl, .inl (.of e1), join_fits wk.1 wk.2, big 1 (by decide), fun M nM => ?_⟩
        have sM := same_new (o := .lst (([rowS s.words] : List Str).map V.str)) nM
        have s2 := s1.trans sM
        have e2 : (upd H1 M (.lst (([rowS s.words] : List Str).map V.str))) M = some (.lst (([rowS s.words] : List Str).map V.str)) := upd_same
        have nM0 : H M = none := s1.free nM
        refine ⟨_, rfl, p, _, 0, _, rfl, rfl, kS s2 hp, atI_nat (j := 0) rfl, big 2 (by decide), fun t nt => ?_⟩
        have st := same_new (o := .lst nests) nt
        have s3 := s2.trans st
        have e3 := st _ _ e2
        rcases s.sort with ⟨wd, ds, d1, i1, li⟩ | ⟨wd, ed, b, ns, ds, ne⟩
        · have hwd : wd = s.wd := by
            have := s.d_parts
            rw [d1] at this
            injection this with this
            injection this with this
            injection this
          rw [hwd] at i1
          refine ⟨t, _, rfl, .inl (.of upd_same), rfl, by decide +kernel, false, by show V.bl (inV _ _) = _; rw [i1], ?_⟩
          exact ⟨_, rfl, q _ M s3 nM0 (e3.trans (by rw [li]))⟩
        · have hwd : wd = s.wd := by
            have := s.d_parts
            rw [ne.d] at this
            injection this with this
            injection this with this
            injection this
          have iw : inV (.str s.wd) nests = true := by
            rw [← hwd]
            rcases ne.k with ⟨rfl, _⟩ | ⟨rfl, _⟩ <;> decide +kernel
          rw [ne.d] at dp0
          obtain ⟨p', ws, hpe, hp', dw⟩ := dp_tup dp0
          cases hpe
          obtain ⟨y0, r0, rfl, f0, dw1⟩ := dpAll_cons dw
          obtain ⟨y1, r1, rfl, f1, dw2⟩ := dpAll_cons dw1
          obtain ⟨y2, r2, rfl, f2, dw3⟩ := dpAll_cons dw2
          rw [dp_str f0] at hp'
          obtain ⟨pb, bv, rfl, hb, db⟩ := dp_tup f2
          obtain ⟨k0, wb, wn⟩ := ne.w _ _ _ _ wf
          have zz := ne.z
          have lb := Sm.linesL_len b
          have ln := Sm.linesL_len ns
          refine ⟨t, _, rfl, .inl (.of upd_same), rfl, by decide +kernel, true, by show V.bl (inV (V.str s.wd) nests) = _; rw [iw], ?_⟩
          refine ⟨_, rfl, p, _, 2, _, rfl, rfl, kS s3 hp', atI_nat (j := 2) rfl, pb, rfl, ⟨_, kS s3 hb⟩, for_tup (K := K) (xs := bv) (fun j σ' H' => Same H H' ∧ ∃ Mj x5, H Mj = none ∧ H' Mj = some (.lst ((rowS s.words :: Sm.linesL (b.take j)).map V.str)) ∧ σ' = [some (.ref p), some (.ref Lj), x2, x3, some (.ref Mj), x5]) ?_ ?_ ?_ ?_⟩
          · exact ⟨s3, M, none, nM0, e3.trans (by simp [Sm.linesL]), rfl⟩
          · rintro j σ' H' _ ⟨s', _⟩
            exact kS s' hb
          · rintro j y σ' H4 hy ⟨s4, Mj, x5, nj4, e4, rfl⟩
            obtain ⟨sx, hsx, dx⟩ := ds_get db hy
            have szt := sizes_take hsx
            have l1 := Sm.linesL_len (b.take j)
            have l2 := Sm.lines_len sx
            refine ⟨_, rfl, _, rfl, y, sx, k - 1, nms, rws, hds, rfl, dp_same dx s4 sx.noL, wfs_memR wb (List.mem_of_getElem? hsx), by omega, cx, by omega, fun H5 m s5 n5 e5 => ?_⟩
            refine ⟨Mj, m, _, _, rfl, rfl, s5 _ _ e4, e5, by rw [List.length_map, List.length_map, List.length_cons, sizeLine_eq]; omega, fun o no => ?_⟩
            rw [← List.map_append, List.cons_append, ← linesL_take hsx]
            have so := same_new (o := .lst ((rowS s.words :: Sm.linesL (b.take (j + 1))).map V.str)) no
            exact ⟨(s4.trans s5).trans so, o, _, (s4.trans s5).free no, upd_same, rfl⟩
          rintro σ' H4 ⟨s4, Mj, x5, nj4, e4, rfl⟩
          have elb : b.take bv.length = b := List.take_of_length_le (by rw [dsV_len db]; exact Nat.le_refl _)
          rw [elb] at e4
          dsimp only
          refine ifs_by (fun σ' H' => Same H H' ∧ ∃ Mj x5, H Mj = none ∧ H' Mj = some (.lst ((rowS s.words :: (Sm.linesL b ++ elsL ns)).map V.str)) ∧ σ' = [some (.ref p), some (.ref Lj), x2, x3, some (.ref Mj), x5]) ?_ ?_
          · rintro σ' H7 ⟨s7, Mk, x5, nk, e7, rfl⟩
            have lE : (elsL ns).length ≤ 100 := by
              unfold elsL
              split
              · exact Nat.zero_le _
              · rw [List.length_cons]
                omega
            refine ⟨_, rfl, .inl ⟨rfl, _, .of e7⟩, Mk, _, _, rfl, rfl, e7, by rw [List.length_map, List.length_cons, List.length_append, sizeLine_eq]; omega, ?_⟩
            refine ⟨_, rfl, q _ Mk (sU s7 nk) nk ?_⟩
            rw [upd_same, snocS, ne.l]
            simp only [List.append_assoc, List.cons_append]
            rfl
          · intro N hN
            refine ⟨_, rfl, p, _, 0, _, rfl, rfl, kS s4 hp', atI_nat (j := 0) rfl, rfl, _, rfl, ?_⟩
            rcases ne.k with ⟨rfl, rfl⟩ | ⟨rfl, rfl, rfl⟩
            · refine ifD rfl ?_
              obtain ⟨y3, r3, rfl, f3, _⟩ := dpAll_cons dw3
              obtain ⟨pn, zs, rfl, hz, dz⟩ := dp_tup f3
              refine ⟨_, rfl, p, _, 3, _, rfl, rfl, kS s4 hp', atI_nat (j := 3) rfl, pn, zs, rfl, .inr (kS s4 hz), _, _, rfl, rfl, _, rfl, ?_⟩
              have zl := dsV_len dz
              cases ns with
              | nil =>
                refine ifN (by rw [zl]; decide) ?_
                exact hN _ _ ⟨s4, Mj, _, nj4, e4.trans (by simp [elsL]), rfl⟩
              | cons n1 nr =>
                refine ifD (by rw [zl, List.length_cons]; omega) ?_
                refine ⟨_, rfl, .inl ⟨rfl, _, .of e4⟩, Mj, _, _, rfl, rfl, e4, by rw [List.length_map, List.length_cons, sizeLine_eq]; omega, ?_⟩
                rw [snocS]
                have lA : (rowS s.words :: Sm.linesL b ++ [Str.ofString "else"]).length ≤ 100 := by
                  rw [List.length_append, List.length_cons]
                  simp only [List.length_cons, List.length_nil]
                  omega
                have hA : rowS s.words :: (Sm.linesL b ++ elsL (n1 :: nr)) = (rowS s.words :: Sm.linesL b ++ [Str.ofString "else"]) ++ Sm.linesL (n1 :: nr) := by simp [elsL, kElse]
                rw [hA] at hN
                generalize (rowS s.words :: Sm.linesL b ++ [Str.ofString "else"]) = A at hN lA ⊢
                have s5 := sU (o := .lst (A.map V.str)) s4 nj4
                have e5 : (upd H4 Mj (.lst (A.map V.str))) Mj = some (.lst (A.map V.str)) := upd_same
                generalize upd H4 Mj (.lst (A.map V.str)) = H5 at s5 e5
                refine ⟨_, rfl, p, _, 3, _, rfl, rfl, kS s5 hp', atI_nat (j := 3) rfl, pn, rfl, ⟨_, kS s5 hz⟩, for_tup (K := K) (xs := zs) (fun j σ' H' => Same H H' ∧ ∃ Mj x5, H Mj = none ∧ H' Mj = some (.lst ((A ++ Sm.linesL ((n1 :: nr).take j)).map V.str)) ∧ σ' = [some (.ref p), some (.ref Lj), x2, x3, some (.ref Mj), x5]) ?_ ?_ ?_ ?_⟩
                · exact ⟨s5, Mj, _, nj4, e5.trans (by simp [Sm.linesL]), rfl⟩
                · rintro j σ' H' _ ⟨s', _⟩
                  exact kS s' hz
                · rintro j y σ' H6 hy ⟨s6, Mi, x6, ni6, e6, rfl⟩
                  obtain ⟨sx, hsx, dx⟩ := ds_get dz hy
                  have szt := sizes_take hsx
                  have l1 := Sm.linesL_len ((n1 :: nr).take j)
                  have l2 := Sm.lines_len sx
                  refine ⟨_, rfl, _, rfl, y, sx, k - 1, nms, rws, hds, rfl, dp_same dx s6 sx.noL, wfs_memR wn (List.mem_of_getElem? hsx), by omega, cx, by omega, fun H7 m s7 n7 e7 => ?_⟩
                  refine ⟨Mi, m, _, _, rfl, rfl, s7 _ _ e6, e7, by rw [List.length_map, List.length_map, List.length_append, sizeLine_eq]; omega, fun o no => ?_⟩
                  rw [← List.map_append, List.append_assoc, ← linesL_take hsx]
                  have so := same_new (o := .lst ((A ++ Sm.linesL ((n1 :: nr).take (j + 1))).map V.str)) no
                  exact ⟨(s6.trans s7).trans so, o, _, (s6.trans s7).free no, upd_same, rfl⟩
                · rintro σ' H6 ⟨s6, Mi, x6, ni6, e6, rfl⟩
                  have eln : (n1 :: nr).take zs.length = n1 :: nr := List.take_of_length_le (by rw [zl]; exact Nat.le_refl _)
                  rw [eln] at e6
                  exact hN _ _ ⟨s6, Mi, _, ni6, e6, rfl⟩
            · refine ifN (fun z => absurd (V.str.inj z) (by decide +kernel)) ?_
              exact hN _ _ ⟨s4, Mj, _, nj4, e4.trans (by simp [elsL]), rfl⟩
end

section
variable {P : Program} {w : World} {K : PySem.W.Frag} {mg : Str → Option Value} {base : Heap}
def sp_ll (K : PySem.W.Frag) : Sp := fun vs H Q _ => ∃ (v : V) (p : Pg), vs = [v] ∧ Dp K H v p.d ∧ PgT p ∧ ∀ H' a, Same H H' → H a = none → H' a = some (.lst (p.lines.map V.str)) → Q (.ref a) H'
theorem ok__law_lines (T : Top K mg) : FnOk P w K mg base CX0 12 (He.ga K "_law_lines") T.fd__law_lines ["_law_program_here"] (sp_ll K) := by
  have G__law_statement_lines := ok_sl (P := P) (w := w) (base := base) T 5
  refine T.F__law_lines.ok sc__law_lines (fun vs H Q E h => ?_) (fun cdv A outer s H vs Q E hr h => ?_)
  · obtain ⟨v, p, rfl, _⟩ := h
    rfl
  · obtain ⟨v, p, rfl, dp, pt, q⟩ := h
    refine ⟨_, PSs.nox (pss_cons (ps_set (i := 1) sc__law_lines.nd rfl (Or.inl rfl) (pe_lst pa_nil))
        (pss_cons (ps_for PassesOwn.never (by rfl) (pi_tup (pe_ix ix_tup (pv 0) pe_int (fun _ _ => rfl))) (pg_tup (n := 3) (by rfl) (pgs_cons (pg_name (i := 2) sc__law_lines.nd rfl (Or.inl rfl)) (pgs_cons (pg_name (i := 3) sc__law_lines.nd rfl (Or.inl rfl)) (pgs_cons (pg_name (i := 4) sc__law_lines.nd rfl (Or.inl rfl)) pgs_nil)))) (pss_cons (ps_expr (pe_bm PySem.F.plainAttrs_list PySem.F.slot_list_append PySem.F.type_list_append mt_append (pv 1) (pa_cons (pe_join pe_str (pe_op op_cat (pe_lst (pa_cons pe_str (pa_cons (pv 2) pa_nil))) (pe_callTy call_list_of (by rfl) T.m_list (by decide +kernel) (pa_cons (pv 3) pa_nil)))) pa_nil)))
        (pss_cons (ps_for PassesOwn.never (by rfl) (pi_tup (pv 4)) (pg_name (i := 5) sc__law_lines.nd rfl (Or.inl rfl)) (pss_one (ps_set (i := 1) sc__law_lines.nd rfl (Or.inl rfl) (pe_op op_cat (pv 1) (pe_call G__law_statement_lines (hr.mono (by omega)) (by rfl) T.g__law_statement_lines T.F__law_statement_lines.kp T.b__law_statement_lines .nil pass0 (pa_cons (pv 5) pa_nil))))))
        (pss_one (ps_expr (pe_bm PySem.F.plainAttrs_list PySem.F.slot_list_append PySem.F.type_list_append mt_append (pv 1) (pa_cons pe_str pa_nil)))))))
        (pss_cons (ps_expr (pe_bm PySem.F.plainAttrs_list PySem.F.slot_list_append PySem.F.type_list_append mt_append (pv 1) (pa_cons (pe_join pe_str (pe_op op_cat (pe_lst (pa_cons pe_str pa_nil)) (pe_callTy call_list_of (by rfl) T.m_list (by decide +kernel) (pa_cons (pe_ix ix_tup (pv 0) pe_int (fun _ _ => rfl)) pa_nil)))) pa_nil)))
        (pss_cons (ps_for PassesOwn.never (by rfl) (pi_tup (pe_ix ix_tup (pv 0) pe_int (fun _ _ => rfl))) (pg_tup (n := 2) (by rfl) (pgs_cons (pg_name (i := 2) sc__law_lines.nd rfl (Or.inl rfl)) (pgs_cons (pg_name (i := 6) sc__law_lines.nd rfl (Or.inl rfl)) pgs_nil))) (pss_one (ps_expr (pe_bm PySem.F.plainAttrs_list PySem.F.slot_list_append PySem.F.type_list_append mt_append (pv 1) (pa_cons (pe_op op_add_str (pe_op op_add_str (pe_op op_add_str pe_str (pv 2)) pe_str) (pe_callTy call_str_any (by rfl) T.m_str (by decide +kernel) (pa_cons (pv 6) pa_nil))) pa_nil)))))
        (pss_cons (ps_for PassesOwn.never (by rfl) (pi_tup (pe_ix ix_tup (pv 0) pe_int (fun _ _ => rfl))) (pg_name (i := 5) sc__law_lines.nd rfl (Or.inl rfl)) (pss_one (ps_set (i := 1) sc__law_lines.nd rfl (Or.inl rfl) (pe_op op_cat (pv 1) (pe_call G__law_statement_lines (hr.mono (by omega)) (by rfl) T.g__law_statement_lines T.F__law_statement_lines.kp T.b__law_statement_lines .nil pass0 (pa_cons (pv 5) pa_nil))))))
        (pss_one (ps_ret (pe_op op_cat (pv 1) (pe_lst (pa_cons pe_str pa_nil)))))))))), ?_⟩
    have big : ∀ n : Nat, n ≤ 10000 → n ≤ sizeLine := fun n h => by rw [sizeLine_eq]; omega
    have kS : ∀ {H1 H2 : Hp} {p : Addr} {xs : List V}, Same H1 H2 → SqT K H1 p xs → SqT K H2 p xs := fun s h => sqT_kp (Kp.of_same (S := fun _ => False) s) h
    have sU : ∀ {H' : Hp} {L : Addr} {o : HO}, Same H H' → H L = none → Same H (upd H' L o) := fun {H' L o} s nL b x hb => by
      rw [upd_ne (ne_of_none hb nL)]
      exact s _ _ hb
    obtain ⟨p0, ph, pp, pr, pb, hv, rv, bv, rfl, h0, hh, dh, hp, hr2, dr, hb, db⟩ := pg_at dp
    refine ⟨Nat.zero_le _, fun L nL => ?_⟩
    have s0 := same_new (o := .lst []) nL
    refine ⟨_, rfl, p0, _, 0, _, rfl, rfl, kS s0 h0, atI_nat (j := 0) rfl, ph, rfl, ⟨_, kS s0 hh⟩, for_tup (K := K) (xs := hv) (fun j σ' H' => Same H H' ∧ ∃ Lj x2 x3 x4 x5, H Lj = none ∧ H' Lj = some (.lst (((p.hs.take j).flatMap hpL).map V.str)) ∧ σ' = [some (.ref p0), some (.ref Lj), x2, x3, x4, x5, none]) ?_ ?_ ?_ ?_⟩
    · exact ⟨s0, L, none, none, none, none, nL, upd_same, rfl⟩
    · rintro j σ' H' _ ⟨s', _⟩
      exact kS s' hh
    · rintro j y σ' H1 hy ⟨s1, Lj, x2, x3, x4, x5, nj, e1, rfl⟩
      obtain ⟨h, py, pq, b, hj, rfl, hw, hq, hb2⟩ := hp_get dh hy
      obtain ⟨pbd, bvs, rfl, hbs, dbs⟩ := dp_tup hb2
      have ht := pt.hs h (List.mem_of_getElem? hj)
      have ln1 : ((p.hs.take j).flatMap hpL).length ≤ 300 := by
        have := hpsL_len (hs := p.hs.take j) fun x hx => pt.hs x (List.mem_of_mem_take hx)
        rw [List.length_take] at this
        have := pt.hl
        omega
      obtain ⟨nms, rws, hds, cx, wfb, szb⟩ := ht.bd
      refine ⟨py, _, rfl, kS s1 hw, rfl, _, _, rfl, _, _, rfl, _, _, rfl, rfl, ?_⟩
      refine ⟨_, rfl, .inl ⟨rfl, _, .of e1⟩, ⟨_, rfl⟩, _, rfl, big 2 (by decide), fun l1 n1 => ?_⟩
      have t1 := same_new (o := .lst (([("helper" : Str), h.1] : List Str).map V.str)) n1
      have s2 := s1.trans t1
      refine ⟨_, rfl, pq, _, rfl, .inr (kS s2 hq), fun l2 n2 => ?_⟩
      have t2 := same_new (o := .lst (h.2.1.map V.str)) n2
      have s3 := s2.trans t2
      have pl := ht.pl
      refine ⟨l1, l2, ([("helper" : Str), h.1] : List Str).map V.str, _, rfl, rfl, t2 _ _ upd_same, upd_same, by rw [List.length_map, List.length_map, sizeLine_eq]; simp only [List.length_cons, List.length_nil]; omega, fun l3 n3 => ?_⟩
      rw [← List.map_append]
      have t3 := same_new (o := .lst ((([("helper" : Str), h.1] : List Str) ++ h.2.1).map V.str)) n3
      have s4 := s3.trans t3
      refine ⟨_, l3, _, rfl, rfl, .inl (.of upd_same), join_fits ht.words.1 ht.words.2, ?_⟩
      have e4 := t3 _ _ (t2 _ _ (t1 _ _ e1))
      refine ⟨Lj, _, _, rfl, rfl, e4, by rw [List.length_map, sizeLine_eq]; omega, ?_⟩
      rw [snocS]
      have hA : (p.hs.take j).flatMap hpL ++ hpL h = ((p.hs.take j).flatMap hpL ++ [Txt.join (Str.ofString " ") (([("helper" : Str), h.1] : List Str) ++ h.2.1)]) ++ (Sm.linesL h.2.2 ++ [kEnd]) := by
        simp only [hpL, List.append_assoc, List.cons_append, List.nil_append]
        rfl
      have lA : ((p.hs.take j).flatMap hpL ++ [Txt.join (Str.ofString " ") (([("helper" : Str), h.1] : List Str) ++ h.2.1)]).length ≤ 301 := by
        rw [List.length_append]
        simp only [List.length_cons, List.length_nil]
        omega
      generalize ((p.hs.take j).flatMap hpL ++ [Txt.join (Str.ofString " ") (([("helper" : Str), h.1] : List Str) ++ h.2.1)]) = A at hA lA ⊢
      have s5 := sU (o := .lst (A.map V.str)) s4 nj
      have lb := ht.bd.len
      refine ⟨_, rfl, pbd, rfl, ⟨_, kS s5 hbs⟩, for_tup (K := K) (xs := bvs) (fun i σ' H' => Same H H' ∧ ∃ Li x5, H Li = none ∧ H' Li = some (.lst ((A ++ Sm.linesL (h.2.2.take i)).map V.str)) ∧ σ' = [some (.ref p0), some (.ref Li), some (.str h.1), some (.ref pq), some (.ref pbd), x5, none]) ?_ ?_ ?_ ?_⟩
      · exact ⟨s5, Lj, _, nj, upd_same.trans (by simp [Sm.linesL]), rfl⟩
      · rintro i σ' H' _ ⟨s', _⟩
        exact kS s' hbs
      · rintro i y σ' H6 hy ⟨s6, Li, x5, ni, e6, rfl⟩
        obtain ⟨sx, hsx, dx⟩ := ds_get dbs hy
        have szt := sizes_take hsx
        have l1 := Sm.linesL_len (h.2.2.take i)
        have l2 := Sm.lines_len sx
        refine ⟨_, rfl, _, rfl, y, sx, 4, nms, rws, hds, rfl, dp_same dx s6 sx.noL, wfs_memR wfb (List.mem_of_getElem? hsx), by omega, cx, by omega, fun H7 m s7 n7 e7 => ?_⟩
        refine ⟨Li, m, _, _, rfl, rfl, s7 _ _ e6, e7, by rw [List.length_map, List.length_map, List.length_append, sizeLine_eq]; omega, fun o no => ?_⟩
        rw [← List.map_append, List.append_assoc, ← linesL_take hsx]
        have so := same_new (o := .lst ((A ++ Sm.linesL (h.2.2.take (i + 1))).map V.str)) no
        exact ⟨(s6.trans s7).trans so, o, _, (s6.trans s7).free no, upd_same, rfl⟩
      rintro σ' H6 ⟨s6, Li, x5', ni, e6, rfl⟩
      have elb : h.2.2.take bvs.length = h.2.2 := List.take_of_length_le (by rw [dsV_len dbs]; exact Nat.le_refl _)
      rw [elb] at e6
      refine ⟨_, rfl, .inl ⟨rfl, _, .of e6⟩, Li, _, _, rfl, rfl, e6, by rw [List.length_map, List.length_append, sizeLine_eq]; omega, sU s6 ni, Li, _, _, _, _, ni, ?_, rfl⟩
      rw [upd_same, snocS, hpsL_take hj, hA, List.append_assoc]
      rfl
    rintro σ' H1 ⟨s1, Lj, x2, x3, x4, x5, nj, e1, rfl⟩
    have el : p.hs.take hv.length = p.hs := List.take_of_length_le (by rw [dpAll_len dh, List.length_map]; exact Nat.le_refl _)
    rw [el] at e1
    have lh : (p.hs.flatMap hpL).length ≤ 300 := by
      have := hpsL_len pt.hs
      have := pt.hl
      omega
    refine ⟨_, rfl, .inl ⟨rfl, _, .of e1⟩, ⟨_, rfl⟩, big 1 (by decide), fun l1 n1 => ?_⟩
    have t1 := same_new (o := .lst (([("main" : Str)] : List Str).map V.str)) n1
    have s2 := s1.trans t1
    refine ⟨_, rfl, p0, _, 1, _, rfl, rfl, kS s2 h0, atI_nat (j := 1) rfl, pp, _, rfl, .inr (kS s2 hp), fun l2 n2 => ?_⟩
    have t2 := same_new (o := .lst (p.ps.map V.str)) n2
    have s3 := s2.trans t2
    have pl := pt.pl
    refine ⟨l1, l2, ([("main" : Str)] : List Str).map V.str, _, rfl, rfl, t2 _ _ upd_same, upd_same, by rw [List.length_map, List.length_map, sizeLine_eq]; simp only [List.length_cons, List.length_nil]; omega, fun l3 n3 => ?_⟩
    rw [← List.map_append]
    have t3 := same_new (o := .lst ((([("main" : Str)] : List Str) ++ p.ps).map V.str)) n3
    have s4 := s3.trans t3
    refine ⟨_, l3, _, rfl, rfl, .inl (.of upd_same), join_fits pt.main.1 pt.main.2, ?_⟩
    have e4 := t3 _ _ (t2 _ _ (t1 _ _ e1))
    refine ⟨Lj, _, _, rfl, rfl, e4, by rw [List.length_map, sizeLine_eq]; omega, ?_⟩
    rw [snocS]
    have hA : p.lines = p.hs.flatMap hpL ++ [Txt.join (Str.ofString " ") (([("main" : Str)] : List Str) ++ p.ps)] ++ p.rs.map rwL ++ Sm.linesL p.bd ++ [kEnd] := by
      simp only [Pg.lines, List.append_assoc, List.cons_append, List.nil_append]
      rfl
    have lA : (p.hs.flatMap hpL ++ [Txt.join (Str.ofString " ") (([("main" : Str)] : List Str) ++ p.ps)]).length ≤ 301 := by
      rw [List.length_append]
      simp only [List.length_cons, List.length_nil]
      omega
    generalize (p.hs.flatMap hpL ++ [Txt.join (Str.ofString " ") (([("main" : Str)] : List Str) ++ p.ps)]) = A at hA lA ⊢
    have s5 := sU (o := .lst (A.map V.str)) s4 nj
    have rl := pt.rl
    refine ⟨_, rfl, p0, _, 2, _, rfl, rfl, kS s5 h0, atI_nat (j := 2) rfl, pr, rfl, ⟨_, kS s5 hr2⟩, for_tup (K := K) (xs := rv) (fun j σ' H' => Same H H' ∧ H' Lj = some (.lst ((A ++ (p.rs.take j).map rwL).map V.str)) ∧ ∃ x2 x3 x4 x5 x6, σ' = [some (.ref p0), some (.ref Lj), x2, x3, x4, x5, x6]) ?_ ?_ ?_ ?_⟩
    · exact ⟨s5, upd_same.trans (by simp), _, _, _, _, _, rfl⟩
    · rintro j σ' H' _ ⟨s', _⟩
      exact kS s' hr2
    · rintro j y σ' H6 hy ⟨s6, e6, x2, x3, x4, x5, x6, rfl⟩
      obtain ⟨r, py, hj, rfl, hw⟩ := rw_get dr hy
      have rk := pt.rs r (List.mem_of_getElem? hj)
      have nl := nat_log (r.2 : Int) (rw32 rk.2)
      have nl2 := numS_len (rw32 rk.2)
      refine ⟨py, _, rfl, kS s6 hw, rfl, _, _, rfl, _, _, rfl, rfl, ?_⟩
      have z1 : (Str.ofString "row ").length = 4 := by decide +kernel
      have z2 : (Str.ofString " ").length = 1 := by decide +kernel
      have rk1 := rk.1
      refine ⟨_, rfl, .inl ⟨rfl, _, .of e6⟩, _, rfl, _, _, rfl, rfl, by rw [sizeLine_eq]; omega, _, _, rfl, rfl, by rw [Str.length_append, sizeLine_eq]; omega, _, rfl, .inl ⟨_, rfl, nl, _, _, rfl, rfl, ?_, ?_⟩⟩
      · rw [Str.length_append, Str.length_append, sizeLine_eq]
        unfold numS at nl2
        omega
      refine ⟨Lj, _, _, rfl, rfl, e6, by rw [List.length_map, List.length_append, List.length_map, List.length_take, sizeLine_eq]; omega, sU s6 nj, ?_, _, _, _, _, _, rfl⟩
      rw [upd_same, snocS, List.take_add_one, hj, List.map_append]
      have : Str.ofString "row " ++ r.1 ++ Str.ofString " " ++ Str.ofString (toString (r.2 : Int)) = rwL r := by
        rw [row_text]
        rfl
      rw [this]
      simp
    rintro σ' H6 ⟨s6, e6, y2, y3, y4, y5, y6, rfl⟩
    have elr : p.rs.take rv.length = p.rs := List.take_of_length_le (by rw [dpAll_len dr, List.length_map]; exact Nat.le_refl _)
    rw [elr] at e6
    have lB : (A ++ p.rs.map rwL).length ≤ 304 := by
      rw [List.length_append, List.length_map]
      omega
    generalize A ++ p.rs.map rwL = B at e6 lB hA
    obtain ⟨nms, rws, hds, cx, wfb, szb⟩ := pt.bd
    have lb := pt.bd.len
    refine ⟨_, rfl, p0, _, 3, _, rfl, rfl, kS s6 h0, atI_nat (j := 3) rfl, pb, rfl, ⟨_, kS s6 hb⟩, for_tup (K := K) (xs := bv) (fun i σ' H' => Same H H' ∧ ∃ Li x5, H Li = none ∧ H' Li = some (.lst ((B ++ Sm.linesL (p.bd.take i)).map V.str)) ∧ σ' = [some (.ref p0), some (.ref Li), y2, y3, y4, x5, y6]) ?_ ?_ ?_ ?_⟩
    · exact ⟨s6, Lj, _, nj, e6.trans (by simp [Sm.linesL]), rfl⟩
    · rintro i σ' H' _ ⟨s', _⟩
      exact kS s' hb
    · rintro i y σ' H7 hy ⟨s7, Li, x5, ni, e7, rfl⟩
      obtain ⟨sx, hsx, dx⟩ := ds_get db hy
      have szt := sizes_take hsx
      have l1 := Sm.linesL_len (p.bd.take i)
      have l2 := Sm.lines_len sx
      refine ⟨_, rfl, _, rfl, y, sx, 4, nms, rws, hds, rfl, dp_same dx s7 sx.noL, wfs_memR wfb (List.mem_of_getElem? hsx), by omega, cx, by omega, fun H8 m s8 n8 e8 => ?_⟩
      refine ⟨Li, m, _, _, rfl, rfl, s8 _ _ e7, e8, by rw [List.length_map, List.length_map, List.length_append, sizeLine_eq]; omega, fun o no => ?_⟩
      rw [← List.map_append, List.append_assoc, ← linesL_take hsx]
      have so := same_new (o := .lst ((B ++ Sm.linesL (p.bd.take (i + 1))).map V.str)) no
      exact ⟨(s7.trans s8).trans so, o, _, (s7.trans s8).free no, upd_same, rfl⟩
    rintro σ' H7 ⟨s7, Li, x5', ni, e7, rfl⟩
    have elb : p.bd.take bv.length = p.bd := List.take_of_length_le (by rw [dsV_len db]; exact Nat.le_refl _)
    rw [elb] at e7
    refine ⟨_, rfl, big 1 (by decide), fun l8 n8 => ?_⟩
    have t8 := same_new (o := .lst (([kEnd] : List Str).map V.str)) n8
    refine ⟨Li, l8, _, ([kEnd] : List Str).map V.str, rfl, rfl, t8 _ _ e7, upd_same, by rw [List.length_map, List.length_map, List.length_append, sizeLine_eq]; simp only [List.length_cons, List.length_nil]; omega, fun l9 n9 => ?_⟩
    rw [← List.map_append, ← hA]
    have t9 := same_new (o := .lst (p.lines.map V.str)) n9
    exact q _ l9 ((s7.trans t8).trans t9) ((s7.trans t8).free n9) upd_same
end

section
variable {P : Program} {w : World} {K : PySem.W.Frag} {mg : Str → Option Value} {base : Heap}
theorem ty_int {H : Hp} (z : Int) : TyX K H (.int z) (.type (tyS (.int z))) := dp_ty (.int z)
/-- data of tuples, texts and ints -/
def alk : Nat → PyData → Prop
  | n + 1, .tuple xs => xs.length ≤ 6000 ∧ ∀ x ∈ xs, alk n x
  | _ + 1, .int _ => True
  | _ + 1, .str x => SeqAt.shaped (.str x) = true
  | _, _ => False
def sp_whole (K : PySem.W.Frag) : Sp := fun vs H Q _ => ∃ n : Int, vs = [.int n] ∧ Q (.bl true) H
theorem ok__law_whole (T : Top K mg) : FnOk P w K mg base CX0 1 (He.ga K "_law_whole") T.fd__law_whole ["_law_found"] (sp_whole K) := by
  refine T.F__law_whole.ok sc__law_whole (fun vs H Q E h => ?_) (fun cdv A outer s H vs Q E hr h => ?_)
  · obtain ⟨n, rfl, _⟩ := h
    rfl
  · obtain ⟨n, rfl, q⟩ := h
    refine ⟨_, PSs.nox (pss_one (ps_ret (pe_and (pe_callB call_isi (by rfl) T.m_isinstance (by decide +kernel) (pa_cons (pv 0) (pa_cons (pe_bltn (v := .ty "int") (by rfl) T.m_int (by decide +kernel) rfl) pa_nil))) (pe_one (pe_not (pe_callB call_isi (by rfl) T.m_isinstance (by decide +kernel) (pa_cons (pv 0) (pa_cons (pe_bltn (v := .ty "bool") (by rfl) T.m_bool (by decide +kernel) rfl) pa_nil)))))))), ?_⟩
    refine ⟨_, rfl, _, _, _, _, true, rfl, .ty _, ty_int n, kit_int (.int n), _, rfl, ifT rfl ?_⟩
    exact ⟨_, rfl, _, _, _, _, false, rfl, .ty _, ty_int n, kit_bool (.int n), _, rfl, q⟩
theorem kit2_tup : PySem.W.kitAny K (.type "tuple") [.type "tuple", .type "list"] = some true := kitAny_cons (kit_ty (r := true) (by decide +kernel)) (fun z => nomatch z) fun _ => rfl
theorem kit2_int : PySem.W.kitAny K (.type "int") [.type "tuple", .type "list"] = some false := kitAny_cons (kit_ty (r := false) (by decide +kernel)) (fun _ => kitAny_cons (kit_ty (r := false) (by decide +kernel)) (fun _ => rfl) (fun z => nomatch z)) (fun z => nomatch z)
theorem kit2_str : PySem.W.kitAny K (.type "str") [.type "tuple", .type "list"] = some false := kitAny_cons (kit_ty (r := false) (by decide +kernel)) (fun _ => kitAny_cons (kit_ty (r := false) (by decide +kernel)) (fun _ => rfl) (fun z => nomatch z)) (fun z => nomatch z)
def sp_alike (K : PySem.W.Frag) (n : Nat) : Sp := fun vs H Q _ => ∃ (u v : V) (d : PyData), vs = [u, v] ∧ Dp K H u d ∧ Dp K H v d ∧ alk n d ∧ ∀ H', Same H H' → Q (.bl true) H'
theorem ok__law_alike (T : Top K mg) : ∀ n : Nat, FnOk P w K mg base CX0 (n + 2) (He.ga K "_law_alike") T.fd__law_alike ["_law_found", "_law_due"] (sp_alike K n)
  | 0 => by
    refine T.F__law_alike.ok sc__law_alike (fun vs H Q E h => ?_) (fun cdv A outer s H vs Q E hr h => ?_)
    · obtain ⟨u, v, d, rfl, _⟩ := h
      rfl
    · obtain ⟨u, v, d, rfl, _, _, h, _⟩ := h
      cases d <;> cases h
  | n + 1 => by
    have G__law_alike := ok__law_alike T n
    have G__law_whole := ok__law_whole (P := P) (w := w) (base := base) T
    refine T.F__law_alike.ok sc__law_alike (fun vs H Q E h => ?_) (fun cdv A outer s H vs Q E hr h => ?_)
    · obtain ⟨u, v, d, rfl, _⟩ := h
      rfl
    · obtain ⟨u, v, d, rfl, du, dv, hk, q⟩ := h
      refine ⟨_, PSs.nox (pss_cons (ps_if (pt_val (pe_callB call_isiT (by rfl) T.m_isinstance (by decide +kernel) (pa_cons (pv 1) (pa_cons (pe_tup (pa_cons (pe_bltn (v := .ty "tuple") (by rfl) T.m_tuple (by decide +kernel) rfl) (pa_cons (pe_bltn (v := .ty "list") (by rfl) T.m_list (by decide +kernel) rfl) pa_nil))) pa_nil)))) (pss_cons (ps_if (PW.pt (pw_or (pt_not (pt_val (pe_callB call_isiT (by rfl) T.m_isinstance (by decide +kernel) (pa_cons (pv 0) (pa_cons (pe_tup (pa_cons (pe_bltn (v := .ty "tuple") (by rfl) T.m_tuple (by decide +kernel) rfl) (pa_cons (pe_bltn (v := .ty "list") (by rfl) T.m_list (by decide +kernel) rfl) pa_nil))) pa_nil))))) (pw_or1 (pt_cmpR op_ne (pe_callB call_isi (by rfl) T.m_isinstance (by decide +kernel) (pa_cons (pv 0) (pa_cons (pe_bltn (v := .ty "tuple") (by rfl) T.m_tuple (by decide +kernel) rfl) pa_nil))) (pe_callB call_isi (by rfl) T.m_isinstance (by decide +kernel) (pa_cons (pv 1) (pa_cons (pe_bltn (v := .ty "tuple") (by rfl) T.m_tuple (by decide +kernel) rfl) pa_nil))) (nomark _))))) (pss_one (ps_ret pe_bl)) pss_nil)
        (pss_one (ps_ret (pe_and (pe_cmpR op_eq (pe_callB call_len_seq (by rfl) T.m_len (by decide +kernel) (pa_cons (pv 0) pa_nil)) (pe_callB call_len_seq (by rfl) T.m_len (by decide +kernel) (pa_cons (pv 1) pa_nil)) (nomark _)) (pe_one (pe_callB (cr_all (by rfl)) (by rfl) T.m_all (by decide +kernel) (pa_cons (pe_lc (own := [("_law_k", 2)]) (by rfl) sc__law_alike.nd (pi_range1 (by rfl) T.m_range (pa_cons (pe_callB call_len_seq (by rfl) T.m_len (by decide +kernel) (pa_cons (pv 1) pa_nil)) pa_nil)) (blkOk_by (own := [("_law_k", 2)]) (N := N__law_alike) (sc := defScope s__law_alike) (by decide +kernel)) (fun _ _ _ _ _ => (pg_name (i := 2) sc__law_alike.nd rfl (Or.inl rfl))) (fun _ _ _ _ _ => pts_nil) (fun _ _ _ _ _ => (pe_call G__law_alike (hr.mono (by omega)) (by rfl) T.g__law_alike T.F__law_alike.kp T.b__law_alike .nil pass0 (pa_cons (pe_ix (ix_tupK (K := K) rfl) (pv 0) (pv 2) (fun _ _ => rfl)) (pa_cons (pe_ix (ix_tupK (K := K) rfl) (pv 1) (pv 2) (fun _ _ => rfl)) pa_nil))))) pa_nil))))))) pss_nil)
        (pss_cons (ps_if (pt_val (pe_callB call_isi (by rfl) T.m_isinstance (by decide +kernel) (pa_cons (pv 1) (pa_cons (pe_bltn (v := .ty "str") (by rfl) T.m_str (by decide +kernel) rfl) pa_nil)))) (pss_one (ps_ret (pe_and (pe_callB call_isi (by rfl) T.m_isinstance (by decide +kernel) (pa_cons (pv 0) (pa_cons (pe_bltn (v := .ty "str") (by rfl) T.m_str (by decide +kernel) rfl) pa_nil))) (pe_one (pe_cmpR (op_eqD hr.units) (pv 0) (pv 1) (nomark _)))))) pss_nil)
        (pss_one (ps_ret (pe_andT (pe_call G__law_whole (hr.mono (by omega)) (by rfl) T.g__law_whole T.F__law_whole.kp T.b__law_whole .nil pass0 (pa_cons (pv 0) pa_nil)) (pe_one (pe_cmpR (op_eqD hr.units) (pv 0) (pv 1) (nomark _)))))))), ?_⟩
      refine ⟨_, rfl, (by show 2 ≤ sizeLine; decide), fun tp htp => ?_⟩
      have s1 : Same H (upd H tp (.tup [.ty "tuple", .ty "list"])) := same_new htp
      cases d with
      | int i =>
        cases dp_int du
        cases dp_int dv
        refine ⟨_, tp, _, _, _, false, rfl, upd_same, .cons (.ty _) (.cons (.ty _) .nil), ty_int i, kit2_int, _, rfl, ifF rfl ?_⟩
        refine ⟨_, rfl, _, _, _, _, false, rfl, .ty _, ty_int i, kit_str (.int i), _, rfl, ifF rfl ?_⟩
        refine ⟨_, rfl, i, rfl, _, rfl, ifT rfl ?_⟩
        refine ⟨_, rfl, _, rfl, .int i, .int i, .int _, .int _, rfl, rfl, ?_⟩
        have e : PyData.eqv (.int i) (.int i) = true := by simp [PyData.eqv]
        rw [e]
        exact q _ s1
      | str x =>
        cases dp_str du
        cases dp_str dv
        refine ⟨_, tp, _, _, _, false, rfl, upd_same, .cons (.ty _) (.cons (.ty _) .nil), dp_ty (.str x), kit2_str, _, rfl, ifF rfl ?_⟩
        refine ⟨_, rfl, _, _, _, _, true, rfl, .ty _, dp_ty (.str x), kit_str (.str x), _, rfl, ifT rfl ?_⟩
        refine ⟨_, rfl, _, _, _, _, true, rfl, .ty _, dp_ty (.str x), kit_str (.str x), _, rfl, ifT rfl ?_⟩
        refine ⟨_, rfl, _, rfl, .str x, .str x, .str _, .str _, hk, hk, ?_⟩
        have e : PyData.eqv (.str x) (.str x) = true := by simp [PyData.eqv]
        rw [e]
        exact q _ s1
      | tuple ds =>
        have du0 := du
        have dv0 := dv
        obtain ⟨ua, us, rfl, hu, dau⟩ := dp_tup du
        obtain ⟨va, vs, rfl, hv, dav⟩ := dp_tup dv
        refine ⟨_, tp, _, _, _, true, rfl, upd_same, .cons (.ty _) (.cons (.ty _) .nil), ty_tup (sqT_sm s1 hv), kit2_tup, _, rfl, ifT rfl ?_⟩
        refine ⟨_, rfl, (by show 2 ≤ sizeLine; decide), fun tq htq => ?_⟩
        have s2 : Same H (upd (upd H tp (.tup [.ty "tuple", .ty "list"])) tq (.tup [.ty "tuple", .ty "list"])) := s1.trans (same_new htq)
        have hu2 := sqT_sm s2 hu
        have hv2 := sqT_sm s2 hv
        refine ⟨_, tq, _, _, _, true, rfl, upd_same, .cons (.ty _) (.cons (.ty _) .nil), ty_tup hu2, kit2_tup, _, rfl, ifF rfl ?_⟩
        refine ⟨_, rfl, _, _, _, _, true, rfl, .ty _, ty_tup hu2, kit_tup (.tuple ds), _, rfl, _, _, _, _, true, rfl, .ty _, ty_tup hv2, kit_tup (.tuple ds), rfl, _, rfl, ifNF rfl ?_⟩
        have lu : us.length = ds.length := dpAll_len dau
        have lv : vs.length = ds.length := dpAll_len dav
        refine ⟨_, rfl, ua, _, rfl, .inr hu2, _, rfl, va, _, rfl, .inr hv2, rfl, _, rfl, ?_⟩
        rw [lu, lv]
        refine ifD rfl ?_
        refine ⟨_, rfl, va, _, rfl, .inr hv2, _, rfl, by omega, ?_, ?_⟩
        · have := hk.1
          rw [lv]
          omega
        rw [lv]
        intro D hD
        have nD : H D = none := none_sm s2 hD
        refine lc_range (lo := 0) (n := ((ds.length : Nat) : Int).toNat) (fun j H' => Same H H' ∧ H' D = some (.lst ((List.replicate j true).map V.bl))) ?_ ?_ ?_
        · exact ⟨same_upd s2 nD, upd_same⟩
        · rintro i H1 hi ⟨k1, e1⟩
          have il : i < ds.length := by omega
          have iu : i < us.length := by omega
          have iv : i < vs.length := by omega
          obtain ⟨d, hdd, ddd⟩ := dpAll_getV dau (List.getElem?_eq_getElem iu)
          obtain ⟨d2, hdd2, ddd2⟩ := dpAll_getV dav (List.getElem?_eq_getElem iv)
          rw [hdd] at hdd2
          cases hdd2
          have i0 : (0 : Int) + (i : Int) = (i : Nat) := by omega
          refine ⟨rfl, _, rfl, _, rfl, ua, _, _, _, rfl, rfl, sqT_sm k1 hu, ?_, _, rfl, _, rfl, va, _, _, _, rfl, rfl, sqT_sm k1 hv, ?_, _, _, d, rfl, dp_sm k1 ddd, dp_sm k1 ddd2, hk.2 d (List.mem_of_getElem? hdd), fun H2 s2' => ?_⟩
          · rw [i0]
            exact atI_nat (List.getElem?_eq_getElem iu)
          · rw [i0]
            exact atI_nat (List.getElem?_eq_getElem iv)
          refine ⟨_, s2' _ _ e1, ?_, same_upd (k1.trans s2') nD, ?_⟩
          · rw [List.length_map, List.length_replicate, sizeLine_eq]
            have := hk.1
            omega
          · rw [upd_same, List.replicate_succ', List.map_append]
            rfl
        · rintro H1 ⟨k1, e1⟩
          refine ⟨D, _, rfl, .inl (.inl e1), ?_⟩
          have ea : (List.replicate ((ds.length : Nat) : Int).toNat true).all id = true := by
            rw [List.all_eq_true]
            intro x hx
            rw [List.eq_of_mem_replicate hx]
            rfl
          rw [ea]
          exact q _ k1
      | none => cases hk
      | bool b => cases hk
      | list l => cases hk
      | dict l => cases hk
end

/-! an own rule: blanks, so many -/
def spN (n : Nat) : Str := ⟨(List.replicate n 32).toArray⟩
theorem fold_sp : ∀ (k : Nat) (acc : Array Nat), (List.replicate k #[32]).foldl (· ++ ·) acc = acc ++ (List.replicate k 32).toArray
  | 0, acc => by simp
  | k + 1, acc => by
    rw [List.replicate_succ, List.foldl_cons, fold_sp k, List.replicate_succ, Array.append_assoc]
    congr 1
    exact Array.toList_inj.mp (by simp)
section
variable {X : Cx}
theorem op_rep_sp : OpR X (binaryOp .Mult) (fun x y H Q => ∃ n : Int, x = .str " " ∧ y = .int n ∧ 0 ≤ n ∧ n ≤ 1000 ∧ Q (.str (spN n.toNat)) H) := by
  intro pins s σ H x y v u Q I rx ry h
  obtain ⟨n, rfl, rfl, n0, n1, q⟩ := h
  obtain ⟨t, rfl⟩ := rx
  obtain ⟨t', rfl⟩ := ry
  have e1 : (Str.ofString " ").cps = #[32] := by decide +kernel
  have l1 : (Str.ofString " ").length = 1 := by decide +kernel
  have key : (⟨(List.replicate n.toNat (Str.ofString " ").cps).foldl (· ++ ·) #[]⟩ : Str) = spN n.toNat := by
    rw [e1, fold_sp]
    unfold spN
    simp
  have tl : Builtin.Str.tooLong ((Str.ofString " ").length * n.toNat) = false := by
    unfold Builtin.Str.tooLong
    rw [sizeLine_eq, l1]
    exact decide_eq_false (by omega)
  refine PySem.P.mul_str ?_ (fun h _ => ?_) (fun _ _ => tl) ?_
  · rw [decide_eq_false (by omega), decide_eq_false (by omega)]
    rfl
  · have : (1 : Int) * n ≤ 2 ^ 63 - 1 := by omega
    have h3 : (1 : Int) ≤ (2 ^ 63 - 1) / n := (Int.le_ediv_iff_mul_le (by omega)).mpr this
    omega
  · by_cases c1 : n < 1
    · obtain rfl : n = 0 := by omega
      rw [if_pos c1]
      exact ⟨by rw [sizeLine_eq]; decide, .str _, H, I.tok _, ⟨_, rfl⟩, q⟩
    · rw [if_neg c1]
      by_cases c2 : n = 1
      · subst c2
        have : ((1 : Int) == 1 || (Str.ofString " ").length == 0) = true := rfl
        rw [if_pos this]
        have e : (Str.ofString " ") = spN (1 : Int).toNat := by decide +kernel
        exact ⟨.str _, H, I, ⟨_, rfl⟩, by rw [e]; exact q⟩
      · have : (n == 1 || (Str.ofString " ").length == 0) = false := by
          rw [Bool.or_eq_false_iff]
          exact ⟨beq_eq_false_iff_ne.mpr c2, beq_eq_false_iff_ne.mpr (by omega)⟩
        rw [this, key]
        exact ⟨by unfold spN; rw [sizeLine_eq]; show (List.replicate n.toNat 32).toArray.size ≤ _; simp; omega, .str _, H, I.tok _, ⟨_, rfl⟩, q⟩
end

section
variable {P : Program} {w : World} {K : PySem.W.Frag} {mg : Str → Option Value} {base : Heap}
/-- lines that a text may be made of -/
structure LnOk (ls : List Str) : Prop where
  nl : ∀ z ∈ ls, ∀ x ∈ TL.tl z, x ≠ 10
  len : ∀ z ∈ ls, z.length ≤ 8900
theorem LnOk.snoc {ls : List Str} {z : Str} (h : LnOk ls) (h1 : ∀ x ∈ TL.tl z, x ≠ 10) (h2 : z.length ≤ 8900) : LnOk (ls ++ [z]) :=
  ⟨fun y hy => (List.mem_append.mp hy).elim (h.nl y) fun e => by rw [List.mem_singleton.mp e]; exact h1, fun y hy => (List.mem_append.mp hy).elim (h.len y) fun e => by rw [List.mem_singleton.mp e]; exact h2⟩
theorem rwsOf_snoc (ls : List Str) (z : Str) : rwsOf (ls ++ [z]) = rwsOf ls ++ (if wdsOf z = [] then [] else [wdsOf z]) := by
  unfold rwsOf
  rw [List.map_append, List.filter_append, List.map_cons, List.map_nil]
  cases h : wdsOf z with
  | nil => rfl
  | cons y r => rfl
theorem ixN_last {α : Type} (xs : List α) (x : α) {n : Nat} (h : xs.length = n) : ixN (xs ++ [x]).length (-1) = some n := by
  rw [List.length_append, List.length_singleton, h]
  unfold ixN
  rw [if_neg (by decide), if_pos (by omega)]
  congr 1
  omega
theorem set_last {α : Type} (xs : List α) (x y : α) {n : Nat} (h : xs.length = n) : (xs ++ [x]).set n y = xs ++ [y] := by
  subst h
  rw [List.set_append_right _ _ (Nat.le_refl _), Nat.sub_self]
  rfl
def blks : List Str := ["", "  ", "#", "# main", "   #"]
theorem blks_ok : ∀ c ∈ blks, c.length ≤ 8 ∧ (∀ x ∈ TL.tl c, x ≠ 10) := by decide +kernel
theorem blks_wds : ∀ c ∈ blks, wdsOf c = [] := by
  intro c hc
  have key : ∃ n b, c = spN n ∨ c = spN n ++ "#" ++ b := by
    simp only [blks, List.mem_cons, List.not_mem_nil, or_false] at hc
    rcases hc with rfl | rfl | rfl | rfl | rfl
    · exact ⟨0, "", .inl (by decide +kernel)⟩
    · exact ⟨2, "", .inl (by decide +kernel)⟩
    · exact ⟨0, "", .inr (by decide +kernel)⟩
    · exact ⟨0, " main", .inr (by decide +kernel)⟩
    · exact ⟨3, "", .inr (by decide +kernel)⟩
  have h35 : ∀ n, ∀ x ∈ TL.tl (spN n), x ≠ 35 := fun n x hx => by
    rw [List.eq_of_mem_replicate hx]
    decide
  obtain ⟨n, b, rfl | rfl⟩ := key
  · refine List.map_eq_nil_iff.mp ((wds_plain (h35 n)).trans ?_)
    exact wsC_blank n
  · refine List.map_eq_nil_iff.mp ((wds_hash (h35 n)).trans ?_)
    exact wsC_blank n
end

/-! a program is data of tuples, texts and ints -/
theorem shp {z : Str} (h : PyData.strOk z = true) : SeqAt.shaped (.str z) = true := by
  unfold SeqAt.shaped PyData.canLay0
  rw [h]
  rfl
theorem alk_up : ∀ {n m : Nat} {d : PyData}, n ≤ m → alk n d → alk m d
  | 0, _, d, _, h => by cases d <;> exact h.elim
  | n + 1, 0, _, hm, _ => absurd hm (by omega)
  | n + 1, m + 1, .tuple xs, hm, h => ⟨h.1, fun x hx => alk_up (by omega) (h.2 x hx)⟩
  | n + 1, m + 1, .int _, _, _ => trivial
  | n + 1, m + 1, .str _, _, h => h
  | n + 1, m + 1, .none, _, h => h.elim
  | n + 1, m + 1, .bool _, _, h => h.elim
  | n + 1, m + 1, .list _, _, h => h.elim
  | n + 1, m + 1, .dict _, _, h => h.elim
theorem alk_str {n : Nat} {z : Str} (h : PyData.strOk z = true) : alk (n + 1) (.str z) := shp h
theorem alk_nm {n : Nat} {z : Str} (h : IsNm z) : alk (n + 1) (.str z) := shp (wdOk_nm h).ok
theorem alk_kw {n : Nat} {z : Str} (h : z ∈ kwds) : alk (n + 1) (.str z) := shp (wdOk_kw h).ok
theorem alk_int {n : Nat} {i : Int} : alk (n + 1) (.int i) := trivial
def alks (n : Nat) (l : List PyData) : Prop := ∀ x ∈ l, alk n x
theorem alks_nil {n : Nat} : alks n [] := fun _ h => nomatch h
theorem alks_cons {n : Nat} {x : PyData} {l : List PyData} (h : alk n x) (h' : alks n l) : alks n (x :: l) := fun y hy => (List.mem_cons.mp hy).elim (fun e => e ▸ h) (h' y)
theorem alk_tup {n : Nat} {l : List PyData} (hl : l.length ≤ 6000) (h : alks n l) : alk (n + 1) (.tuple l) := ⟨hl, h⟩
theorem Ex.alk {nms rws : List Str} (hn : ∀ x ∈ nms, IsNm x) (hr : ∀ x ∈ rws, IsNm x) : ∀ {d : Nat} {e : Ex}, e.Wf nms rws d → K08.alk (d + 1) e.d
  | 0, _, h => h.elim
  | d + 1, .num n, h => alk_tup (by simp) (alks_cons (alk_kw (by decide +kernel)) (alks_cons alk_int alks_nil))
  | d + 1, .nam x, h => alk_tup (by simp) (alks_cons (alk_kw (by decide +kernel)) (alks_cons (alk_nm (hn x h)) alks_nil))
  | d + 1, .at_ r e, h => alk_tup (by simp) (alks_cons (alk_kw (by decide +kernel)) (alks_cons (alk_nm (hr r h.1)) (alks_cons (Ex.alk hn hr h.2) alks_nil)))
  | d + 1, .no e, h => alk_tup (by simp) (alks_cons (alk_kw (by decide +kernel)) (alks_cons (Ex.alk hn hr (e := e) h) alks_nil))
  | d + 1, .op w a b, h => alk_tup (by simp) (alks_cons (alk_kw (wds7_kw w h.1)) (alks_cons (Ex.alk hn hr h.2.1) (alks_cons (Ex.alk hn hr h.2.2) alks_nil)))
theorem sizes_len : ∀ l : List Sm, l.length ≤ Sm.sizes l
  | [] => Nat.zero_le _
  | s :: r => by
    unfold Sm.sizes
    have := sizes_len r
    have : 1 ≤ s.size := by cases s <;> simp [Sm.size] <;> omega
    rw [List.length_cons]
    omega
theorem dsl_len (l : List Sm) : (Sm.ds l).length = l.length := by rw [Sm.ds_eq, List.length_map]
mutual
theorem Sm.alk {nms rws : List Str} {hds : List (Str × Nat)} (c : NCtx nms rws hds) : ∀ {s : Sm} {k : Nat}, s.Wf nms rws hds k → s.size ≤ 1000 → K08.alk (2 * k + 7) s.d
  | .ite e ys ns, k, h, sz => by
    unfold Sm.Wf at h
    unfold Sm.size at sz
    obtain ⟨k', rfl⟩ : ∃ k', k = k' + 1 := ⟨k - 1, by have := h.1; omega⟩
    have i := Sm.alkL c h.2.2.1 (by omega)
    have j := Sm.alkL c h.2.2.2 (by omega)
    have li := sizes_len ys
    have lj := sizes_len ns
    unfold Sm.d
    exact alk_tup (n := 2 * (k' + 1) + 6) (by simp) (alks_cons (alk_kw (by decide +kernel)) (alks_cons (alk_up (by omega) (Ex.alk c.n c.r h.2.1)) (alks_cons (alk_tup (n := 2 * k' + 7) (by rw [dsl_len]; omega) i) (alks_cons (alk_tup (n := 2 * k' + 7) (by rw [dsl_len]; omega) j) alks_nil))))
  | .loop e b, k, h, sz => by
    unfold Sm.Wf at h
    unfold Sm.size at sz
    obtain ⟨k', rfl⟩ : ∃ k', k = k' + 1 := ⟨k - 1, by have := h.1; omega⟩
    have i := Sm.alkL c h.2.2 (by omega)
    have li := sizes_len b
    unfold Sm.d
    exact alk_tup (n := 2 * (k' + 1) + 6) (by simp) (alks_cons (alk_kw (by decide +kernel)) (alks_cons (alk_up (by omega) (Ex.alk c.n c.r h.2.1)) (alks_cons (alk_tup (n := 2 * k' + 7) (by rw [dsl_len]; omega) i) alks_nil)))
  | .set x e, k, h, _ => by
    unfold Sm.Wf at h
    unfold Sm.d
    exact alk_tup (n := 2 * k + 6) (by simp) (alks_cons (alk_kw (by decide +kernel)) (alks_cons (alk_nm (c.n _ h.1)) (alks_cons (alk_up (by omega) (Ex.alk c.n c.r h.2)) alks_nil)))
  | .put r e f, k, h, _ => by
    unfold Sm.Wf at h
    unfold Sm.d
    exact alk_tup (n := 2 * k + 6) (by simp) (alks_cons (alk_kw (by decide +kernel)) (alks_cons (alk_nm (c.r _ h.1)) (alks_cons (alk_up (by omega) (Ex.alk c.n c.r h.2.1)) (alks_cons (alk_up (by omega) (Ex.alk c.n c.r h.2.2)) alks_nil))))
  | .tell e, k, h, _ => by
    unfold Sm.Wf at h
    unfold Sm.d
    exact alk_tup (n := 2 * k + 6) (by simp) (alks_cons (alk_kw (by decide +kernel)) (alks_cons (alk_up (by omega) (Ex.alk c.n c.r h)) alks_nil))
  | .call x hp es, k, h, _ => by
    unfold Sm.Wf at h
    unfold Sm.d
    have h4 := (c.h _ h.2.1).2
    exact alk_tup (n := 2 * k + 6) (by simp) (alks_cons (alk_kw (by decide +kernel)) (alks_cons (alk_nm (c.n _ h.1)) (alks_cons (alk_nm (c.h _ h.2.1).1) (alks_cons (alk_tup (n := 2 * k + 5) (by rw [List.length_map]; simp only at h4; omega) fun x hx => by
      obtain ⟨e, he, rfl⟩ := List.mem_map.mp hx
      exact alk_up (by omega) (Ex.alk c.n c.r (h.2.2 e he))) alks_nil))))
  | .fail n, k, h, _ => by
    unfold Sm.d
    exact alk_tup (n := 2 * k + 6) (by simp) (alks_cons (alk_kw (by decide +kernel)) (alks_cons alk_int alks_nil))
  | .give e, k, h, _ => by
    unfold Sm.Wf at h
    unfold Sm.d
    exact alk_tup (n := 2 * k + 6) (by simp) (alks_cons (alk_kw (by decide +kernel)) (alks_cons (alk_up (by omega) (Ex.alk c.n c.r h)) alks_nil))
theorem Sm.alkL {nms rws : List Str} {hds : List (Str × Nat)} (c : NCtx nms rws hds) : ∀ {l : List Sm} {k : Nat}, Sm.Wfs nms rws hds l k → Sm.sizes l ≤ 1000 → alks (2 * k + 7) (Sm.ds l)
  | [], _, _, _ => by unfold Sm.ds; exact alks_nil
  | s :: r, k, h, sz => by
    unfold Sm.Wfs at h
    unfold Sm.sizes at sz
    unfold Sm.ds
    exact alks_cons (Sm.alk c h.1 (by omega)) (Sm.alkL c h.2.2 (by omega))
end
theorem alks_nms {n : Nat} {l : List Str} (h : ∀ x ∈ l, IsNm x) : alks (n + 1) (l.map PyData.str) := fun x hx => by
  obtain ⟨z, hz, rfl⟩ := List.mem_map.mp hx
  exact alk_nm (h z hz)
theorem Pg.Wf.alk {p : Pg} (w : p.Wf) : K08.alk 19 p.d := by
  have hl := w.hl
  have pl := w.pl
  have rl := w.rl
  unfold Pg.d
  refine alk_tup (by simp) (alks_cons (alk_tup (by rw [List.length_map]; omega) fun x hx => ?_) (alks_cons (alk_tup (by rw [List.length_map]; omega) (alks_nms w.pk)) (alks_cons (alk_tup (by rw [List.length_map]; omega) fun x hx => ?_) (alks_cons (alk_tup ?_ ?_) alks_nil))))
  · obtain ⟨h, hh, rfl⟩ := List.mem_map.mp hx
    obtain ⟨a, b, c, vs, rws, hds, cx, wf, sz⟩ := w.hpc hh
    have ls := sizes_len h.2.2
    unfold hpD
    exact alk_tup (by simp) (alks_cons (alk_nm a) (alks_cons (alk_tup (by rw [List.length_map]; omega) (alks_nms b)) (alks_cons (alk_tup (by rw [dsl_len]; omega) fun x hx => alk_up (by omega) (Sm.alkL cx wf (by omega) x hx)) alks_nil)))
  · obtain ⟨r, hr, rfl⟩ := List.mem_map.mp hx
    exact alk_tup (by simp) (alks_cons (alk_nm (w.rk r hr).1) (alks_cons alk_int alks_nil))
  · obtain ⟨vs, rws, hds, cx, wf, sz⟩ := w.bdc
    have ls := sizes_len p.bd
    rw [dsl_len]
    omega
  · obtain ⟨vs, rws, hds, cx, wf, sz⟩ := w.bdc
    exact fun x hx => alk_up (by omega) (Sm.alkL cx wf (by omega) x hx)
/-! the text of lines -/
theorem joinL_snoc {S : List Nat} : ∀ {l : List (List Nat)} {z : List Nat}, l ≠ [] → TL.joinL S (l ++ [z]) = TL.joinL S l ++ (S ++ z)
  | [], _, h => absurd rfl h
  | [p], z, _ => rfl
  | p :: q :: r, z, _ => by
    show p ++ (S ++ TL.joinL S ((q :: r) ++ [z])) = (p ++ (S ++ TL.joinL S (q :: r))) ++ (S ++ z)
    rw [joinL_snoc (by simp)]
    simp only [List.append_assoc]
theorem join_snoc {y : Str} {l : List Str} {z : Str} (h : l ≠ []) : Txt.join y (l ++ [z]) = Txt.join y l ++ (y ++ z) := by
  refine TL.ext_tl ?_
  rw [TL.join_eq, TL.tl_join, List.map_append, List.map_cons, List.map_nil, joinL_snoc (by simpa using h), TL.tl_append, TL.join_eq, TL.tl_join, TL.tl_append]
theorem par_len : ∀ {l acc a b : List Nat}, TL.par [35] acc l = some (a, b) → a.length ≤ acc.length + l.length
  | [], _, _, _, h => nomatch h
  | c :: r, acc, a, b, h => by
    unfold TL.par at h
    split at h
    · injection h with h
      injection h with h1 h2
      subst h1
      omega
    · have := par_len h
      rw [List.length_append, List.length_singleton] at this
      rw [List.length_cons]
      omega
theorem part_len (z : Str) : (Txt.partition z "#").1.length ≤ z.length := by
  have e := TL.partition_par z "#" (by decide +kernel)
  rw [e]
  cases h : TL.par (TL.tl "#") [] (TL.tl z) with
  | none => exact Nat.le_refl _
  | some ab =>
    obtain ⟨a, b⟩ := ab
    have := par_len (a := a) (b := b) (acc := []) (l := TL.tl z) h
    show a.toArray.size ≤ _
    rw [TL.len_tl]
    simpa using this
theorem spl_len : ∀ (l acc : List Nat), (TL.spl [32] 0 acc l).length ≤ l.length + 1
  | [], acc => by rw [TL.spl_nil]; exact Nat.le_refl _
  | c :: r, acc => by
    unfold TL.spl
    split
    · rw [List.length_cons, List.length_cons]
      have := spl_len r []
      exact Nat.succ_le_succ this
    · have := spl_len r (acc ++ [c])
      rw [List.length_cons]
      omega
theorem split_len (a : Str) : (Txt.split a " ").length ≤ a.length + 1 := by
  have e : ((Txt.split a " ").map TL.tl) = TL.spl [32] 0 [] (TL.tl a) := TL.split_spl a " " (by decide +kernel) (TL.kind_ok (by decide +kernel))
  have := congrArg List.length e
  rw [List.length_map] at this
  rw [this, TL.len_tl]
  exact spl_len _ _
def tails : List Str := ["\n", "", "\n  #\n", "\n\n"]
/-- what read asks of a text -/
structure TxOk (t : Str) (rws : List (List Str)) : Prop where
  len : t.length ≤ 4000000
  ls : ∃ ls : List Str, ((Txt.split t "\n" = ls ∧ (∀ x, ls.getLast? = some x → x ≠ "") ∧ ls ≠ []) ∨ Txt.split t "\n" = ls ++ [("" : Str)]) ∧ (∀ l ∈ ls, l.length ≤ 1000000 ∧ (Txt.partition l "#").1.length ≤ 1000000 ∧ (Txt.split (Txt.partition l "#").1 " ").length ≤ 1000000) ∧ ls.length ≤ 100000 ∧ rwsOf ls = rws
theorem ln_fits {l : Str} (h : l.length ≤ 8900) : l.length ≤ 1000000 ∧ (Txt.partition l "#").1.length ≤ 1000000 ∧ (Txt.split (Txt.partition l "#").1 " ").length ≤ 1000000 := by
  have := part_len l
  have := split_len (Txt.partition l "#").1
  exact ⟨by omega, by omega, by omega⟩
theorem split_nl {ls : List Str} (ne : ls ≠ []) (h : ∀ z ∈ ls, ∀ x ∈ TL.tl z, x ≠ 10) : Txt.split (Txt.join "\n" ls) "\n" = ls :=
  TL.split_join (s := 10) (S := []) (by decide +kernel) (by decide +kernel) ne fun p hp e => h p hp 10 e rfl
theorem lines_fit {ls : List Str} (h : ∀ z ∈ ls, z.length ≤ 8900) : (Txt.join "\n" ls).length ≤ 8901 * ls.length ∧ (ls.map (·.length)).sum + ls.length * ("\n" : Str).length ≤ 8901 * ls.length := by
  have j := join_len "\n" ls
  have s := sum_le' ls h
  have e : ("\n" : Str).length = 1 := by decide +kernel
  rw [e] at j ⊢
  rw [TL.join_eq]
  omega
theorem tx_ok {ls : List Str} {rws : List (List Str)} (hr : rwsOf ls = rws) (lo : LnOk ls) (hl : ls.length ≤ 400) (last : ∀ z, ls.getLast? = some z → wdsOf z ≠ []) (ne : ls ≠ []) {u : Str} (hu : u ∈ tails) : TxOk (Txt.join "\n" ls ++ u) rws := by
  have jl := (lines_fit lo.len).1
  have len : (Txt.join "\n" ls ++ u).length ≤ 4000000 := by
    have : u.length ≤ 5 := (by decide +kernel : ∀ u ∈ tails, u.length ≤ 5) u hu
    rw [Str.length_append]
    omega
  have app : ∀ (x : Str), (∀ c ∈ TL.tl x, c ≠ 10) → ∀ z ∈ ls ++ [x], ∀ c ∈ TL.tl z, c ≠ 10 := fun x hx z hz => (List.mem_append.mp hz).elim (lo.nl z) fun e => by rw [List.mem_singleton.mp e]; exact hx
  refine ⟨len, ?_⟩
  simp only [tails, List.mem_cons, List.not_mem_nil, or_false] at hu
  have fits : ∀ l ∈ ls, l.length ≤ 1000000 ∧ (Txt.partition l "#").1.length ≤ 1000000 ∧ (Txt.split (Txt.partition l "#").1 " ").length ≤ 1000000 := fun l hl => ln_fits (lo.len l hl)
  have two : ∀ (x : Str), (∀ c ∈ TL.tl x, c ≠ 10) → x.length ≤ 8900 → wdsOf x = [] → ∃ ls' : List Str, ((Txt.split (Txt.join "\n" ((ls ++ [x]) ++ [("" : Str)])) "\n" = ls' ∧ (∀ x, ls'.getLast? = some x → x ≠ "") ∧ ls' ≠ []) ∨ Txt.split (Txt.join "\n" ((ls ++ [x]) ++ [("" : Str)])) "\n" = ls' ++ [("" : Str)]) ∧ (∀ l ∈ ls', l.length ≤ 1000000 ∧ (Txt.partition l "#").1.length ≤ 1000000 ∧ (Txt.split (Txt.partition l "#").1 " ").length ≤ 1000000) ∧ ls'.length ≤ 100000 ∧ rwsOf ls' = rws := fun x hx xl xw =>
    ⟨ls ++ [x], .inr (split_nl (by simp) fun z hz => (List.mem_append.mp hz).elim (app x hx z) fun e => by rw [List.mem_singleton.mp e]; exact fun _ h => nomatch h), fun l hl => (List.mem_append.mp hl).elim (fits l) fun e => by rw [List.mem_singleton.mp e]; exact ln_fits xl, by rw [List.length_append, List.length_singleton]; omega, by rw [rwsOf_snoc, if_pos xw, List.append_nil]; exact hr⟩
  have cat : ∀ a b : Str, Txt.join "\n" ((ls ++ [a]) ++ [b]) = Txt.join "\n" ls ++ (("\n" : Str) ++ a ++ "\n" ++ b) := fun a b => by
    rw [join_snoc (by simp), join_snoc ne]
    exact TL.ext_tl (by simp only [TL.tl_append, List.append_assoc])
  rcases hu with rfl | rfl | rfl | rfl
  · refine ⟨ls, .inr ?_, fits, by omega, hr⟩
    have : Txt.join "\n" ls ++ ("\n" : Str) = Txt.join "\n" (ls ++ [("" : Str)]) := by
      rw [join_snoc ne]
      congr 1
    rw [this]
    exact split_nl (by simp) (app "" fun _ h => nomatch h)
  · refine ⟨ls, .inl ⟨?_, fun x hx e => last x hx (by rw [e]; exact blks_wds "" (by decide +kernel)), ne⟩, fits, by omega, hr⟩
    have : Txt.join "\n" ls ++ ("" : Str) = Txt.join "\n" ls := TL.ext_tl (by rw [TL.tl_append]; exact List.append_nil _)
    rw [this]
    exact split_nl ne lo.nl
  · have e : Txt.join "\n" ls ++ ("\n  #\n" : Str) = Txt.join "\n" ((ls ++ [("  #" : Str)]) ++ [("" : Str)]) := by
      rw [cat]
      congr 1
    rw [e]
    exact two "  #" (by decide +kernel) (by decide +kernel) (by
      have := wds_hash (a := "  ") (b := "") (by decide +kernel)
      have e2 : ("  " : Str) ++ "#" ++ "" = "  #" := by decide +kernel
      rw [e2] at this
      exact List.map_eq_nil_iff.mp (this.trans (by decide +kernel)))
  · have e : Txt.join "\n" ls ++ ("\n\n" : Str) = Txt.join "\n" ((ls ++ [("" : Str)]) ++ [("" : Str)]) := by
      rw [cat]
      congr 1
    rw [e]
    exact two "" (by decide +kernel) (by decide +kernel) (blks_wds "" (by decide +kernel))
theorem tx_plain {rws : List (List Str)} (ok : RowsOk rws) (hl : rws.length ≤ 400) (ne : rws ≠ []) : TxOk (Txt.join "\n" (rws.map rowS)) rws := by
  have hr : rwsOf (rws.map rowS) = rws := by
    unfold rwsOf
    rw [List.map_map]
    have : rws.map (wdsOf ∘ rowS) = rws := by
      conv => rhs; rw [← List.map_id rws]
      exact List.map_congr_left fun ws hw => wds_row (ok ws hw)
    rw [this]
    refine List.filter_eq_self.mpr fun ws hw => ?_
    have := (ok ws hw).ne
    cases ws with
    | nil => exact absurd rfl this
    | cons x r => rfl
  have lo : LnOk (rws.map rowS) := ⟨fun z hz x hx => by
    obtain ⟨ws, hw, rfl⟩ := List.mem_map.mp hz
    have := (row_sg (ok ws hw) x hx).1
    omega, fun z hz => by
    obtain ⟨ws, hw, rfl⟩ := List.mem_map.mp hz
    exact Nat.le_trans (row_len (ok ws hw)) (by decide)⟩
  have := tx_ok hr lo (by rw [List.length_map]; exact hl) (fun z hz => by
    rw [List.getLast?_map] at hz
    obtain ⟨ws, hw, rfl⟩ := Option.map_eq_some_iff.mp hz
    have o := ok ws (List.mem_of_getLast? hw)
    rw [wds_row o]
    exact o.ne) (by simpa using ne) (u := "") (by decide +kernel)
  have e : Txt.join "\n" (rws.map rowS) ++ ("" : Str) = Txt.join "\n" (rws.map rowS) := TL.ext_tl (by rw [TL.tl_append]; exact List.append_nil _)
  rw [e] at this
  exact this

section
variable {P : Program} {w : World} {K : PySem.W.Frag} {mg : Str → Option Value} {base : Heap}
theorem textOf_nl : ∀ {ls : List Str}, ls ≠ [] → textOf ls = Txt.join "\n" ls ++ ("\n" : Str)
  | [], h => absurd rfl h
  | [x], _ => TL.ext_tl (by
      unfold textOf
      rw [TL.join_eq, TL.tl_join, TL.tl_append, TL.join_eq, TL.tl_join]
      show TL.joinL [] [TL.tl (x ++ nlS)] = TL.tl x ++ TL.tl "\n"
      show TL.tl (x ++ nlS) = _
      rw [TL.tl_append]
      rfl)
  | x :: y :: r, _ => TL.ext_tl (by
      have ih := congrArg TL.tl (textOf_nl (ls := y :: r) (by simp))
      unfold textOf at ih ⊢
      rw [TL.join_eq, TL.tl_join, TL.tl_append, TL.join_eq, TL.tl_join] at ih ⊢
      show TL.tl (x ++ nlS) ++ (TL.tl Str.empty ++ TL.joinL (TL.tl Str.empty) (((y :: r).map fun l => l ++ nlS).map TL.tl)) = (TL.tl x ++ (TL.tl "\n" ++ TL.joinL (TL.tl "\n") ((y :: r).map TL.tl))) ++ TL.tl "\n"
      rw [ih, TL.tl_append]
      show (TL.tl x ++ TL.tl "\n") ++ ([] ++ _) = _
      rw [List.nil_append]
      simp only [List.append_assoc])
theorem rows_ne (p : Pg) : p.rows ≠ [] := fun e => by
  have := congrArg List.length e
  simp [Pg.rows] at this
theorem text_ok {p : Pg} (wf : p.Wf) : TxOk (textOf p.lines) p.rows := by
  have pr := wf.rows
  have pl := wf.t.len
  rw [p.lines_rows, List.length_map] at pl
  rw [p.lines_rows, textOf_nl (by simpa using rows_ne p)]
  have hr : rwsOf (p.rows.map rowS) = p.rows := by
    unfold rwsOf
    rw [List.map_map]
    have : p.rows.map (wdsOf ∘ rowS) = p.rows := by
      conv => rhs; rw [← List.map_id p.rows]
      exact List.map_congr_left fun ws hw => wds_row (pr ws hw)
    rw [this]
    refine List.filter_eq_self.mpr fun ws hw => ?_
    have := (pr ws hw).ne
    cases ws with
    | nil => exact absurd rfl this
    | cons x r => rfl
  have lo : LnOk (p.rows.map rowS) := ⟨fun z hz x hx => by
    obtain ⟨ws, hw, rfl⟩ := List.mem_map.mp hz
    have := (row_sg (pr ws hw) x hx).1
    omega, fun z hz => by
    obtain ⟨ws, hw, rfl⟩ := List.mem_map.mp hz
    exact Nat.le_trans (row_len (pr ws hw)) (by decide)⟩
  exact tx_ok hr lo (by rw [List.length_map]; exact pl) (fun z hz => by
    rw [List.getLast?_map] at hz
    obtain ⟨ws, hw, rfl⟩ := Option.map_eq_some_iff.mp hz
    have o := pr ws (List.mem_of_getLast? hw)
    rw [wds_row o]
    exact o.ne) (by simpa using rows_ne p) (u := "\n") (by decide +kernel)
end

section
variable {P : Program} {w : World} {K : PySem.W.Frag} {mg : Str → Option Value} {base : Heap}
/-- a text is refused, with a row's number -/
def NoT (K : PySem.W.Frag) (H : Hp) (n : Int) (E : XK) : Prop := ∀ H' d, Same H H' → H' d = some (.xd [("row", .int n)]) → E (.ref (He.ga K "NoText")) (some d) H'
theorem NoT.sm {H H1 : Hp} {n : Int} {E : XK} (h : NoT K H n E) (s : Same H H1) : NoT K H1 n E := fun H' d s' e => h H' d (s.trans s') e
def sp_nti (K : PySem.W.Frag) : Sp := fun vs H Q _ => ∃ (a : Addr) (z : Str) (n : Int), vs = [.ref a, .str z, .int n] ∧ H a = some (exo a (He.ga K "NoText") none) ∧ ∀ dx, H dx = none → dx ≠ a → Q .non (upd (upd H dx (exd dx [("row", .int n)])) a (exo a (He.ga K "NoText") (some dx)))
theorem ok_NoText_init (T : Top K mg) : FnOk P w K mg base CX0 1 (He.ma K (He.ga K "NoText") "__init__") T.fd_NoText___init__ ["self", "words", "row"] (sp_nti K) := by
  refine T.F_NoText___init__.ok sc_NoText___init__ (fun vs H Q E h => ?_) (fun cdv A outer s H vs Q E hr h => ?_)
  · obtain ⟨a, z, n, rfl, _⟩ := h
    rfl
  · obtain ⟨a, z, n, rfl, ha, q⟩ := h
    refine ⟨_, PSs.nox (pss_cons (ps_expr (pe_weinit (by rfl) T.g_WorkError T.we_WorkError (pa_cons (pv 0) (pa_cons (pv 1) pa_nil))))
        (pss_one (ps_ost (pv 0) (pv 2)))), ?_⟩
    refine ⟨_, rfl, _, rfl, a, He.ga K "NoText", [.str z], rfl, (by simp), T.o_NoText, ha, ?_⟩
    exact ⟨_, rfl, _, rfl, a, He.ga K "NoText", rfl, T.o_NoText, T.nf_NoText_row, .inl ⟨ha, fun dx hdx ne => q dx hdx ne⟩⟩
/-- it goes out -/
theorem nt_mk {H : Hp} {z : Str} {n : Int} {E : XK} (q : NoT K H n E) :
    ([V.str z, .int n] : List V).length ≤ 1000 ∧ ∀ a, H a = none → sp_nti K (.ref a :: ([V.str z, .int n] ++ [])) (upd H a (exo a (He.ga K "NoText") none)) (fun v H2 => v = .non ∧ ∃ (d : Addr) (fs : List (Str × V)), H2 a = some (exo a (He.ga K "NoText") (some d)) ∧ H2 d = some (exd d fs) ∧ H d = none ∧ E (.ref (He.ga K "NoText")) (some d) (upd (del H2 a) d (.xd fs))) (fun _ _ _ => False) := by
  refine ⟨by simp, fun a ha => ⟨a, z, n, rfl, upd_same, fun dx hdx ne => ⟨rfl, dx, _, upd_same, by rw [upd_ne ne]; exact upd_same, ?_, q _ dx (fun b o hb => ?_) upd_same⟩⟩⟩
  · rw [upd_ne ne] at hdx
    exact hdx
  · rw [upd_ne ne] at hdx
    rw [upd_ne (ne_of_none hb hdx), del_ne (ne_of_none hb ha), upd_ne (ne_of_none hb ha), upd_ne (ne_of_none hb hdx), upd_ne (ne_of_none hb ha)]
    exact hb
/-- read: a text that ends too soon, or goes on behind the end -/
def sp_readX (K : PySem.W.Frag) : Sp := fun vs H Q E => ∃ (t : Str) (ls : List Str) (p : Pg) (rws more : List (List Str)), vs = [.str t] ∧ t.length ≤ 4000000 ∧ ((Txt.split t "\n" = ls ∧ (∀ x, ls.getLast? = some x → x ≠ "") ∧ ls ≠ []) ∨ Txt.split t "\n" = ls ++ [("" : Str)]) ∧ (∀ l ∈ ls, l.length ≤ 1000000 ∧ (Txt.partition l "#").1.length ≤ 1000000 ∧ (Txt.split (Txt.partition l "#").1 " ").length ≤ 1000000) ∧ ls.length ≤ 100000 ∧ p.Wf ∧ PgRw p rws ∧ RwOk rws ∧
  ((rwsOf ls = rws ∧ ∀ H' v, Same H H' → Dp K H' v p.d → Q v H') ∨ (rwsOf ls ++ more = rws ∧ more ≠ [] ∧ NoT K H (ls.length : Int) E) ∨ ∃ (l1 : List Str) (z : Str) (l2 : List Str), ls = l1 ++ z :: l2 ∧ rwsOf l1 = rws ∧ wdsOf z ≠ [] ∧ NoT K H (l1.length : Int) E)
end

section
variable {P : Program} {w : World} {K : PySem.W.Frag} {mg : Str → Option Value} {base : Heap}
theorem FnOk.either {CX : CXT} {k : Nat} {f : Addr} {fd : FuncData} {ps : List Str} {sp sp' : Sp} (F : FnOk P w K mg base CX k f fd ps sp) (G : FnOk P w K mg base CX k f fd ps sp') : FnOk P w K mg base CX k f fd ps (fun vs H Q E => sp vs H Q E ∨ sp' vs H Q E) :=
  ⟨fun vs H Q E q => q.elim (F.len vs H Q E) (G.len vs H Q E), fun A outer s H args us vs Q E hr he hb hv hs => hs.elim (fun h => F.run A outer s H args us vs Q E hr he hb hv h) fun h => G.run A outer s H args us vs Q E hr he hb hv h⟩
/-- behind the end nothing is taken -/
def sp_takesF (K : PySem.W.Frag) : Sp := fun vs H Q _ => ∃ (R dx hp hd : Addr) (h sc : V) (rw fr W : Addr) (pg : V), vs = [.ref R, .ref W] ∧ H R = some (.ins (He.ga K "Reader") dx (rdF hp hd h sc rw fr pg)) ∧ pg ≠ .non ∧ Q (.bl false) H
theorem ok_takesF (T : Top K mg) : FnOk P w K mg base CX0 15 (He.ma K (He.ga K "Reader") "takes") T.fd_Reader_takes ["self", "words"] (sp_takesF K) := by
  have G_Reader_takes_head := ok_takes_head (P := P) (w := w) (base := base) T
  have G_Reader_takes_row := ok_takes_row (P := P) (w := w) (base := base) T
  have G_Reader_takes_end := ok_takes_end (P := P) (w := w) (base := base) T
  have G_Reader_takes_else := ok_takes_else (P := P) (w := w) (base := base) T
  have G_Reader_takes_statement := ok_takes_statement (P := P) (w := w) (base := base) T
  refine T.F_Reader_takes.ok sc_Reader_takes (fun vs H Q E h => ?_) (fun cdv A outer s H vs Q E hr h => ?_)
  · obtain ⟨R, dx, hp, hd, h, sc, rw, fr, W, pg, rfl, _⟩ := h
    rfl
  · obtain ⟨R, dx, hp, hd, h, sc, rw, fr, W, pg, rfl, ob, np, q⟩ := h
    refine ⟨_, PSs.nox (pss_cons (ps_if (pt_cmpR op_notN (pe_fld (pv 0) rfl) pe_non (nomark _)) (pss_one (ps_ret pe_bl)) pss_nil)
        (pss_cons (ps_if (pt_cmpR op_isN (pe_fld (pv 0) rfl) pe_non (nomark _)) (pss_one (ps_ret (pe_meth (pv 0) T.cl_Reader T.me_Reader_takes_head G_Reader_takes_head (hr.mono (by omega)) T.b_Reader_takes_head .nil pass0 (pa_cons (pv 1) pa_nil)))) pss_nil)
        (pss_cons (ps_if (pt_cmpR op_eq (pe_ix ix_list (pv 1) pe_int (fun _ _ => rfl)) pe_str (nomark _)) (pss_one (ps_ret (pe_meth (pv 0) T.cl_Reader T.me_Reader_takes_row G_Reader_takes_row (hr.mono (by omega)) T.b_Reader_takes_row .nil pass0 (pa_cons (pv 1) pa_nil)))) pss_nil)
        (pss_cons (ps_if (pt_cmpR (op_eqD hr.units) (pv 1) (pe_lst (pa_cons pe_str pa_nil)) (nomark _)) (pss_one (ps_ret (pe_meth0 (pv 0) T.cl_Reader T.me_Reader_takes_end G_Reader_takes_end (hr.mono (by omega)) T.b_Reader_takes_end .nil pass0))) pss_nil)
        (pss_cons (ps_if (pt_cmpR (op_eqD hr.units) (pv 1) (pe_lst (pa_cons pe_str pa_nil)) (nomark _)) (pss_one (ps_ret (pe_meth0 (pv 0) T.cl_Reader T.me_Reader_takes_else G_Reader_takes_else (hr.mono (by omega)) T.b_Reader_takes_else .nil pass0))) pss_nil)
        (pss_one (ps_ret (pe_meth (pv 0) T.cl_Reader T.me_Reader_takes_statement G_Reader_takes_statement (hr.mono (by omega)) T.b_Reader_takes_statement .nil pass0 (pa_cons (pv 1) pa_nil))))))))), ?_⟩
    exact ⟨_, rfl, R, _, dx, _, _, rfl, ob, T.cl_Reader, T.no_Reader_program, rdF_program _ _ _ _ _ _ _, rfl, _, rfl, ifNT np q⟩
theorem ok_readX (T : Top K mg) : FnOk P w K mg base (L2.CX P w) 18 (He.ga K "read") T.fd_read ["text"] (sp_readX K) := by
  have G_Reader___init__ := ok_Reader_init (P := P) (w := w) (base := base) T
  have G_Reader_takes := FnOk.either (ok_takes (P := P) (w := w) (base := base) T) (ok_takesF T)
  have G_NoText___init__ := ok_NoText_init (P := P) (w := w) (base := base) T
  refine T.F_read.ok sc_read (fun vs H Q E h => ?_) (fun cdv A outer s H vs Q E hr h => ?_)
  · obtain ⟨t, ls, p, rws, more, rfl, _⟩ := h
    rfl
  · obtain ⟨t, ls, p, rws, more, rfl, lt, hs, ll, lls, wf, hp, ok, q⟩ := h
    refine ⟨_, (pss_cons (ps_set (i := 1) sc_read.nd rfl (Or.inl rfl) (pe_bm PySem.F.plainAttrs_str PySem.F.slot_str_split PySem.F.type_str_split mt_split (pv 0) (pa_cons pe_str pa_nil)))
        (pss_cons (ps_if (pt_cmpR op_eq (pe_ix ix_list (pv 1) (pe_un un_neg pe_int) (fun _ _ => rfl)) pe_str (nomark _)) (pss_one (ps_expr (pe_bm0 PySem.F.plainAttrs_list PySem.F.slot_list_pop PySem.F.type_list_pop mt_pop (pv 1)))) pss_nil)
        (pss_cons (ps_set (i := 2) sc_read.nd rfl (Or.inl rfl) (pe_make0 T.mk_Reader G_Reader___init__ (hr.mono (by omega)) (by rfl) T.g_Reader T.b_Reader___init__ .nil pass0))
        (pss_cons (ps_for (passes_of rfl) (by rfl) (pi_enum (by rfl) T.m_enumerate (pa_cons (pv 1) pa_nil)) (pg_tup (n := 2) (by rfl) (pgs_cons (pg_name (i := 3) sc_read.nd rfl (Or.inl rfl)) (pgs_cons (pg_name (i := 4) sc_read.nd rfl (Or.inl rfl)) pgs_nil))) (pss_cons (ps_setLc (i := 5) (own := [("word", 6)]) (by rfl) sc_read.nd rfl rfl (sw_true rfl rfl rfl (by decide +kernel)) (pi_list (pe_bm PySem.F.plainAttrs_str PySem.F.slot_str_split PySem.F.type_str_split mt_split (pe_ix ix_tup (pe_bm PySem.F.plainAttrs_str PySem.F.slot_str_partition PySem.F.type_str_partition mt_partition (pv 4) (pa_cons pe_str pa_nil)) pe_int (fun _ _ => rfl)) (pa_cons pe_str pa_nil))) (blkOk_by (own := [("word", 6)]) (N := N_read) (sc := defScope s_read) (by decide +kernel)) (fun _ _ _ _ _ => (pg_name (i := 6) sc_read.nd rfl (Or.inl rfl))) (fun _ _ _ _ _ => (pts_one (pt_cmpR op_ne (pv 6) pe_str (nomark _)))) (fun _ _ _ _ _ => (pv 6)))
        (pss_one (ps_if (PW.pt (pw_and (pt_truth (pv 5) (by intro _; rfl)) (pw_and1 (pt_not (pt_val (pe_meth (pv 2) T.cl_Reader T.me_Reader_takes G_Reader_takes (hr.mono (by omega)) T.b_Reader_takes .nil pass0 (pa_cons (pv 5) pa_nil))))))) (pss_one (ps_raise rfl (takes_of rfl rfl rfl rfl) (pmk_oex T.o_NoText T.in_NoText.iC T.in_NoText.tI G_NoText___init__ (hr.mono (by omega)) T.b_NoText___init__.choose_spec.2 T.b_NoText___init__.choose_spec.1 pass0 (by rfl) T.g_NoText (pa_cons pe_str (pa_cons (pv 3) pa_nil))))) pss_nil))))
        (pss_cons (ps_if (pt_cmpR op_isN (pe_fld (pv 2) rfl) pe_non (nomark _)) (pss_one (ps_raise rfl (takes_of rfl rfl rfl rfl) (pmk_oex T.o_NoText T.in_NoText.iC T.in_NoText.tI G_NoText___init__ (hr.mono (by omega)) T.b_NoText___init__.choose_spec.2 T.b_NoText___init__.choose_spec.1 pass0 (by rfl) T.g_NoText (pa_cons pe_str (pa_cons (pe_callB call_len_seq (by rfl) T.m_len (by decide +kernel) (pa_cons (pv 1) pa_nil)) pa_nil))))) pss_nil)
        (pss_one (ps_ret (pe_fld (pv 2) rfl)))))))), ?_⟩
    obtain ⟨m, mr, ml, hrw, qbad, qend⟩ : ∃ (m : Nat) (mr : List (List Str)), m ≤ ls.length ∧ rwsOf (ls.take m) ++ mr = rws ∧ (∀ (h : m < ls.length), mr = [] ∧ wdsOf ls[m] ≠ [] ∧ NoT K H (m : Int) E) ∧ (m = ls.length → (mr = [] → ∀ H' v, Same H H' → Dp K H' v p.d → Q v H') ∧ (mr ≠ [] → NoT K H (ls.length : Int) E)) := by
      rcases q with ⟨e, q⟩ | ⟨e, ne, q⟩ | ⟨l1, z, l2, rfl, e, ne, q⟩
      · exact ⟨ls.length, [], Nat.le_refl _, by rw [List.take_length, List.append_nil]; exact e, fun h => absurd h (Nat.lt_irrefl _), fun _ => ⟨fun _ => q, fun h => absurd rfl h⟩⟩
      · exact ⟨ls.length, more, Nat.le_refl _, by rw [List.take_length]; exact e, fun h => absurd h (Nat.lt_irrefl _), fun _ => ⟨fun h => absurd h ne, fun _ => q⟩⟩
      · refine ⟨l1.length, [], by simp, by rw [List.take_left, List.append_nil]; exact e, fun h => ⟨rfl, ?_, q⟩, fun h => ?_⟩
        · rw [List.getElem_append_right (Nat.le_refl _)]
          simpa using ne
        · simp at h
    have big : ∀ n : Nat, n ≤ 4000100 → n ≤ sizeLine := fun n h => by rw [sizeLine_eq]; omega
    refine ⟨_, rfl, rfl, t, "\n", rfl, rfl, by decide +kernel, big _ (by omega), fun l nl => ?_⟩
    dsimp only [gName, List.set]
    have s1 := same_new (o := .lst ((Txt.split t "\n").map V.str)) nl
    refine ifs_by (fun σ' H' => Same H H' ∧ H' l = some (.lst (ls.map V.str)) ∧ σ' = [some (.str t), some (.ref l), none, none, none, none, none]) ?_ ?_
    rotate_left
    · intro N hN
      rcases hs with ⟨e, hl, ne⟩ | e
      · obtain ⟨li, x, hx⟩ := last_get ne
        rw [e] at s1 ⊢
        refine ⟨_, rfl, 1, rfl, l, _, -1, _, rfl, rfl, .of upd_same, by rw [hx, List.map_append]; exact atI_last _ _, rfl, _, rfl, ifN (fun z => hl x (by rw [hx]; simp) (V.str.inj z)) (hN _ _ ⟨s1, upd_same, rfl⟩)⟩
      · rw [e] at s1 ⊢
        refine ⟨_, rfl, 1, rfl, l, _, -1, _, rfl, rfl, .of upd_same, by rw [List.map_append]; exact atI_last _ _, rfl, _, rfl, ifD rfl ?_⟩
        refine ⟨_, rfl, .inl ⟨rfl, _, .of upd_same⟩, l, _, .str "", rfl, rfl, upd_same, by simp, ?_⟩
        refine hN _ _ ⟨fun c o ec => ?_, ?_, rfl⟩
        · rw [upd_ne (ne_of_none ec nl)]
          exact s1 c o ec
        · rw [upd_same]
          simp
    rintro σ' H1 ⟨s01, e1, rfl⟩
    intro R dx nR ndx nex
    have s12 := same_made (C := He.ga K "Reader") nR ndx nex
    refine ⟨R, dx, rfl, upd_same, fun H2 hp' hd rw fr k2 nhp nhd nrw nfr h1 h2 h3 ob ehp ehd erw efr => ⟨rfl, ?_⟩⟩
    dsimp only [gName, List.set]
    have s12' : Same H1 H2 := same_kp s12 k2 fun c z => by rw [show c = R from z]; exact nR
    have ou : Ou K H1 H2 R hp' hd rw [] := ⟨s12', ⟨dx, .non, fr, ob⟩, ⟨[], ehp, .nil⟩, ⟨[], ehd, Nat.le_refl _, (fun q hq => by simp at hq), fun x _ => rfl⟩, erw, h1, none_sm s12 nhp, none_sm s12 nhd, none_sm s12 nrw, nR⟩
    have go := go_pg (E := E0) wf ou hp ok
    have lm : (ls.map V.str).length = ls.length := List.length_map ..
    refine ⟨_, rfl, l, _, rfl, .of (s12' _ _ e1), ?_⟩
    refine for_it (walk_enum (K := K) (a := l) (xs := ls.map V.str)) (fun i σ' H' => i ≤ m ∧ Go K E0 H1 R (Fin K R p.d) (rwsOf ((ls.take m).drop i) ++ mr) H' ∧ ∃ x3 x4 x5, σ' = [some (.str t), some (.ref l), some (.ref R), x3, x4, x5, none]) ?_ ?_ ?_ ?_
    · exact ⟨Nat.zero_le _, by rw [List.drop_zero, hrw]; exact go, none, none, none, rfl⟩
    · rintro i σ' H' _ ⟨_, g, _⟩
      exact .of (g.sb _ _ e1)
    · rintro i x σ' H3 H4 hi ⟨im, g, x3, x4, x5, rfl⟩ ⟨Tn, y1, y2, rfl, nT, rfl, c1, c2⟩
      cases c1
      have c3 : (ls.map V.str)[i]? = some y2 := c2
      rw [List.getElem?_map] at c3
      obtain ⟨z, hz, rfl⟩ := Option.map_eq_some_iff.mp c3
      obtain ⟨z1, z2, z3⟩ := ll z (List.mem_of_getElem? hz)
      have s34 := same_new (o := .tup [.int (i : Nat), .str z]) nT
      refine ⟨Tn, _, rfl, .of upd_same, rfl, _, _, rfl, _, _, rfl, rfl, ?_⟩
      dsimp only [gName, List.set]
      refine ⟨_, rfl, rfl, z, "#", rfl, rfl, by decide +kernel, big _ (by omega), fun pt npt => ⟨pt, _, 0, _, rfl, rfl, .of upd_same, atI_nat (j := 0) rfl, rfl, _, " ", rfl, rfl, by decide +kernel, big _ (by omega), fun L nL => ?_⟩⟩
      have s45 := same_new (o := .tup [.str (Txt.partition z "#").1, .str (Txt.partition z "#").2.1, .str (Txt.partition z "#").2.2]) npt
      have s56 := same_new (o := .lst ((Txt.split (Txt.partition z "#").1 " ").map V.str)) nL
      refine ⟨L, rfl, ⟨_, .of upd_same⟩, fun D nD => ?_⟩
      have eL : (upd (upd (upd H3 Tn (.tup [.int (i : Nat), .str z])) pt (.tup [.str (Txt.partition z "#").1, .str (Txt.partition z "#").2.1, .str (Txt.partition z "#").2.2])) L (.lst ((Txt.split (Txt.partition z "#").1 " ").map V.str))) L = some (.lst ((Txt.split (Txt.partition z "#").1 " ").map V.str)) := upd_same
      have s36 := s34.trans (s45.trans s56)
      generalize upd (upd (upd H3 Tn (.tup [.int (i : Nat), .str z])) pt (.tup [.str (Txt.partition z "#").1, .str (Txt.partition z "#").2.1, .str (Txt.partition z "#").2.2])) L (.lst ((Txt.split (Txt.partition z "#").1 " ").map V.str)) = H6 at s36 eL nD ⊢
      have sD := same_new (o := .lst []) nD
      refine lc_list (K := K) (a := L) (xs := (Txt.split (Txt.partition z "#").1 " ").map V.str) (fun j H' => Same H6 H' ∧ H' D = some (.lst ((((Txt.split (Txt.partition z "#").1 " ").take j).filter fun z : Str => decide (z ≠ "")).map V.str))) ?_ ?_ ?_ ?_
      · exact ⟨sD, upd_same⟩
      · rintro j H' _ ⟨s', _⟩
        exact .of (s' _ _ eL)
      · rintro j x H' hx ⟨s', e'⟩
        rw [List.getElem?_map] at hx
        obtain ⟨y, hy, rfl⟩ := Option.map_eq_some_iff.mp hx
        have jl := (List.getElem?_eq_some_iff.mp hy).1
        refine ⟨rfl, _, rfl, rfl, _, rfl, ?_⟩
        by_cases hy0 : y = ""
        · refine ifNF (by rw [hy0]) ⟨s', ?_⟩
          rw [List.take_add_one, hy, Option.toList_some, List.filter_append, List.filter_cons_of_neg (by simpa using hy0), List.filter_nil, List.append_nil]
          exact e'
        · have cn : ¬ V.str y = V.str "" := fun q => hy0 (V.str.inj q)
          refine ifNT3 cn ⟨_, rfl, _, e', ?_, ?_, ?_⟩
          · have := List.length_filter_le (fun z : Str => decide (z ≠ "")) ((Txt.split (Txt.partition z "#").1 " ").take j)
            rw [List.length_take] at this
            rw [List.length_map, sizeLine_eq]
            omega
          · intro c o e
            rw [upd_ne (ne_of_none e nD)]
            exact s' c o e
          · rw [upd_same, List.take_add_one, hy, Option.toList_some, List.filter_append, List.filter_cons_of_pos (by simpa using hy0), List.filter_nil, List.map_append]
            rfl
      · rintro H7 ⟨s67, e7⟩
        rw [List.length_map, List.take_length] at e7
        have ew : (Txt.split (Txt.partition z "#").1 " ").filter (fun z : Str => decide (z ≠ "")) = wdsOf z := rfl
        rw [ew] at e7
        dsimp only [gName, List.set]
        have nD3 : H3 D = none := none_sm s36 nD
        have s37 := s36.trans s67
        have hil := (List.getElem?_eq_some_iff.mp hz).1
        have hiz := (List.getElem?_eq_some_iff.mp hz).2
        by_cases him : i < m
        · have hdr : (ls.take m).drop i = z :: (ls.take m).drop (i + 1) := by
            have hl : i < (ls.take m).length := by rw [List.length_take]; omega
            rw [List.drop_eq_getElem_cons hl, List.getElem_take, hiz]
          rw [hdr] at g
          cases hw : wdsOf z with
          | nil =>
            rw [hw] at e7
            refine ⟨_, rfl, false, .inl ⟨_, .of e7, rfl⟩, ?_⟩
            refine ⟨him, ?_, _, _, _, rfl⟩
            have e0 : rwsOf (z :: (ls.take m).drop (i + 1)) = rwsOf ((ls.take m).drop (i + 1)) := by
              unfold rwsOf
              rw [List.map_cons, List.filter_cons, hw]
              rfl
            rw [e0] at g
            exact g.sm (fun _ _ s f => fin_sm s f) s37
          | cons y r =>
            rw [hw] at e7
            refine ⟨_, rfl, true, .inl ⟨_, .of e7, rfl⟩, ?_⟩
            have e0 : rwsOf (z :: (ls.take m).drop (i + 1)) ++ mr = (y :: r) :: (rwsOf ((ls.take m).drop (i + 1)) ++ mr) := by
              unfold rwsOf
              rw [List.map_cons, List.filter_cons, hw]
              rfl
            rw [e0] at g
            obtain ⟨R', dx', hp', hd', h', sc', rw', fr', W', z', r', e', ob', _⟩ := g.2 D H7 s37 nD3 e7 (fun _ _ => True) fun _ _ => trivial
            have eR : R' = R := by
              have := congrArg List.head? e'
              simpa using this.symm
            subst eR
            refine ⟨_, rfl, R', dx', _, rfl, ob', rdF_no (by decide +kernel) (by decide +kernel) (by decide +kernel) (by decide +kernel) (by decide +kernel) (by decide +kernel) (by decide +kernel), _, rfl, .inl ?_⟩
            refine g.2 D H7 s37 nD3 e7 _ fun H8 g8 => ?_
            exact ⟨_, rfl, him, g8, _, _, _, rfl⟩
        · have eim : i = m := by omega
          subst eim
          obtain ⟨rfl, wn, qq⟩ := qbad hil
          rw [hiz] at wn
          have g0 := g
          rw [List.drop_of_length_le (by rw [List.length_take]; omega)] at g0
          obtain ⟨sb, dx1, hp1, hd1, h1', sc1, rw1, fr1, pg, ob1, dpg⟩ := g0
          have np : pg ≠ .non := by
            rintro rfl
            cases dpg
          cases hw : wdsOf z with
          | nil => exact absurd hw wn
          | cons y r =>
            rw [hw] at e7
            refine ⟨_, rfl, true, .inl ⟨_, .of e7, rfl⟩, ?_⟩
            refine ⟨_, rfl, R, dx1, _, rfl, s37 _ _ ob1, rdF_no (by decide +kernel) (by decide +kernel) (by decide +kernel) (by decide +kernel) (by decide +kernel) (by decide +kernel) (by decide +kernel), _, rfl, .inr ⟨R, dx1, _, _, _, _, _, _, D, pg, rfl, s37 _ _ ob1, np, ⟨_, rfl, ifT rfl ⟨_, rfl, nt_mk (qq.sm ((s01.trans sb).trans s37))⟩⟩⟩⟩
    · rintro σ' H3 ⟨im, g, x3, x4, x5, rfl⟩
      have g0 := g
      rw [List.length_map] at g0 im
      have em : m = ls.length := by omega
      obtain ⟨q1, q2⟩ := qend em
      rw [List.drop_of_length_le (by rw [List.length_take]; omega)] at g0
      cases hmr : mr with
      | nil =>
        rw [hmr] at g0
        obtain ⟨sb, dx, hp1, hd1, h1, sc1, rw1, fr1, pg, ob1, dpg⟩ := g0
        have np : pg ≠ .non := by
          rintro rfl
          cases dpg
        refine ⟨_, rfl, R, _, dx, _, _, rfl, ob1, T.cl_Reader, T.no_Reader_program, rdF_program _ _ _ _ _ _ _, rfl, _, rfl, ifN np ?_⟩
        exact ⟨_, rfl, R, _, dx, _, _, rfl, ob1, T.cl_Reader, T.no_Reader_program, rdF_program _ _ _ _ _ _ _, q1 hmr _ _ (s01.trans sb) dpg⟩
      | cons y r =>
        rw [hmr] at g0
        obtain ⟨dx, hp1, hd1, h1, sc1, rw1, fr1, ob1⟩ := g0.1.2
        have sb := g0.1.1
        refine ⟨_, rfl, R, _, dx, _, _, rfl, ob1, T.cl_Reader, T.no_Reader_program, rdF_program _ _ _ _ _ _ _, rfl, _, rfl, ifD rfl ?_⟩
        refine ⟨_, rfl, l, _, rfl, .inl (.of (sb _ _ e1)), ?_⟩
        rw [List.length_map]
        exact nt_mk ((q2 (by rw [hmr]; simp)).sm (s01.trans sb))
end

section
variable {P : Program} {w : World} {K : PySem.W.Frag} {mg : Str → Option Value} {base : Heap}
def sp_classT (K : PySem.W.Frag) : Sp := fun vs H Q _ => ∃ (a dd : Addr) (fs : List (Str × V)), vs = [.ref a] ∧ H a = some (TryK.ExK (.ref (He.ga K "NoText")) (some dd) a) ∧ H dd = some (.xd fs) ∧ ∀ H', Same H H' → Q (.str "text") H'
theorem ok__law_class (T : Top K mg) : FnOk P w K mg base CX0 1 (He.ga K "_law_class") T.fd__law_class ["_law_e"] (sp_classT K) := by
  refine T.F__law_class.ok sc__law_class (fun vs H Q E h => ?_) (fun cdv A outer s H vs Q E hr h => ?_)
  · obtain ⟨a, dd, fs, rfl, _⟩ := h
    rfl
  · obtain ⟨a, dd, fs, rfl, ea, ed, q⟩ := h
    refine ⟨_, PSs.nox (pss_cons (ps_set (i := 1) sc__law_class.nd rfl (Or.inl rfl) (pe_lst (pa_cons (pe_callB (XfK.call_isXd T.xi_NoText) (by rfl) T.m_isinstance (by decide +kernel) (pa_cons (pv 0) (pa_cons (pe_glob (v := .ref (He.ga K "NoText")) (by rfl) T.g_NoText rfl) pa_nil))) (pa_cons (pe_callB (XfK.call_isXd T.xi_NoText) (by rfl) T.m_isinstance (by decide +kernel) (pa_cons (pv 0) (pa_cons (pe_glob (v := .ref (He.ga K "NoInputs")) (by rfl) T.g_NoInputs rfl) pa_nil))) (pa_cons (pe_callB (XfK.call_isXd T.xi_NoText) (by rfl) T.m_isinstance (by decide +kernel) (pa_cons (pv 0) (pa_cons (pe_glob (v := .ref (He.ga K "NoPass")) (by rfl) T.g_NoPass rfl) pa_nil))) (pa_cons (pe_callB (XfK.call_isXd T.xi_NoText) (by rfl) T.m_isinstance (by decide +kernel) (pa_cons (pv 0) (pa_cons (pe_glob (v := .ref (He.ga K "NoBoxes")) (by rfl) T.g_NoBoxes rfl) pa_nil))) pa_nil))))))
        (pss_cons (ps_if (PW.pt (pw_or (pt_cmpR op_ne (pe_bm PySem.F.plainAttrs_list PySem.F.slot_list_count PySem.F.type_list_count TryK.mt_countF (pv 1) (pa_cons pe_bl pa_nil)) pe_int (nomark _)) (pw_or1 (pt_not (pt_val (pe_callB (XfK.call_isXd T.xi_NoText) (by rfl) T.m_isinstance (by decide +kernel) (pa_cons (pv 0) (pa_cons (pe_bltn (v := .ty "ValueError") (by rfl) T.m_ValueError (by decide +kernel) rfl) pa_nil)))))))) (pss_one (ps_ret pe_str)) pss_nil)
        (pss_one (ps_ret (pe_ix ix_list (pe_lst (pa_cons pe_str (pa_cons pe_str (pa_cons pe_str (pa_cons pe_str pa_nil))))) (pe_bm PySem.F.plainAttrs_list PySem.F.slot_list_index PySem.F.type_list_index mt_index (pv 1) (pa_cons pe_bl pa_nil)) (fun _ _ => rfl)))))), ?_⟩
    refine ⟨_, rfl, a, dd, fs, _, _, true, rfl, ea, ed, fun u r => r, T.ki_NoText_NoText, ?_⟩
    refine ⟨_, rfl, a, dd, fs, _, _, false, rfl, ea, ed, fun u r => r, T.ki_NoText_NoInputs, ?_⟩
    refine ⟨_, rfl, a, dd, fs, _, _, false, rfl, ea, ed, fun u r => r, T.ki_NoText_NoPass, ?_⟩
    refine ⟨_, rfl, a, dd, fs, _, _, false, rfl, ea, ed, fun u r => r, T.ki_NoText_NoBoxes, (by show 4 ≤ sizeLine; rw [sizeLine_eq]; decide), fun L nL => ?_⟩
    have s1 := same_new (o := .lst [V.bl true, .bl false, .bl false, .bl false]) nL
    dsimp only [gName, List.set]
    have eL := upd_same (H := H) (a := L) (o := .lst [V.bl true, .bl false, .bl false, .bl false])
    have cnt : ([V.bl true, .bl false, .bl false, .bl false].countP fun z => eqV z (.bl true)) = 1 := by decide +kernel
    refine ⟨_, rfl, .inl ⟨rfl, _, .of eL⟩, L, _, .bl true, rfl, rfl, .of eL, rfl, rfl, ?_⟩
    rw [cnt]
    refine ⟨rfl, _, rfl, ifNF rfl ?_⟩
    refine ⟨_, rfl, a, dd, fs, _, _, true, rfl, s1 _ _ ea, s1 _ _ ed, fun u r => r, T.ki_NoText_VE, _, rfl, ifF rfl ?_⟩
    refine ⟨(by show 4 ≤ sizeLine; rw [sizeLine_eq]; decide), fun L2 nL2 => ?_⟩
    have s2 := same_new (o := .lst [V.str "text", .str "inputs", .str "pass", .str "boxes"]) nL2
    exact ⟨_, rfl, .inl ⟨rfl, _, .of (s2 _ _ eL)⟩, L, _, .bl true, 0, .bl true, rfl, rfl, .of (s2 _ _ eL), rfl, rfl, rfl, by decide +kernel, (fun m z hm hz => absurd hm (by omega)), L2, _, 0, .str "text", rfl, rfl, .of upd_same, atI_nat (j := 0) rfl, q _ (s1.trans s2)⟩
/-- what the law's own reading tells of a text -/
def Txo (t : Str) (p : Pg) (out : PyData) : Prop := ∃ (ls : List Str) (rws more : List (List Str)), t.length ≤ 4000000 ∧ ((Txt.split t "\n" = ls ∧ (∀ x, ls.getLast? = some x → x ≠ "") ∧ ls ≠ []) ∨ Txt.split t "\n" = ls ++ [("" : Str)]) ∧ (∀ l ∈ ls, l.length ≤ 1000000 ∧ (Txt.partition l "#").1.length ≤ 1000000 ∧ (Txt.split (Txt.partition l "#").1 " ").length ≤ 1000000) ∧ ls.length ≤ 100000 ∧ p.Wf ∧ PgRw p rws ∧ RwOk rws ∧
  ((rwsOf ls = rws ∧ out = .tuple [.str "", p.d]) ∨ (rwsOf ls ++ more = rws ∧ more ≠ [] ∧ out = .tuple [.str "text", .int (ls.length : Int)]) ∨ ∃ (l1 : List Str) (z : Str) (l2 : List Str), ls = l1 ++ z :: l2 ∧ rwsOf l1 = rws ∧ wdsOf z ≠ [] ∧ out = .tuple [.str "text", .int (l1.length : Int)])
def sp_lreadT (K : PySem.W.Frag) : Sp := fun vs H Q _ => ∃ (t : Str) (p : Pg) (out : PyData), vs = [.str t] ∧ Txo t p out ∧ ∀ H' v, Same H H' → Dp K H' v out → Q v H'
theorem ok__law_read (T : Top K mg) : FnOk P w K mg base CX0 24 (He.ga K "_law_read") T.fd__law_read ["_law_text"] (sp_lreadT K) := by
  have GX_read := ok_readX (P := P) (w := w) (base := base) T
  have G__law_class := ok__law_class (P := P) (w := w) (base := base) T
  refine T.F__law_read.ok sc__law_read (fun vs H Q E h => ?_) (fun cdv A outer s H vs Q E hr h => ?_)
  · obtain ⟨t, p, out, rfl, _⟩ := h
    rfl
  · obtain ⟨t, p, out, rfl, tx, q⟩ := h
    refine ⟨_, PSs.nox (pss_cons (ps_set (i := 1) sc__law_read.nd rfl (Or.inl rfl) pe_non)
        (pss_cons (ps_set (i := 2) sc__law_read.nd rfl (Or.inl rfl) pe_non)
        (pss_cons (TryK.ps_try_nam (Wout := fun _ _ _ _ => False) rfl rfl sc__law_read.nd takes_none5 (fun W pn xe tk _ => (pss_one (ps_set (i := 2) sc__law_read.nd rfl (Or.inl rfl) (pe_callSD GX_read (hr.mono (by omega)) (by rfl) T.g_read T.F_read.kp T.b_read .nil (fun σ => passAt tk σ) (pa_cons (pv 0) pa_nil))))) (TryK.HdsN.as (i := 3) ⟨rfl, by decide, .inl T.g_WorkError⟩ rfl rfl (fun a oe cls d pn hz hf => (pss_one (ps_set (i := 1) sc__law_read.nd rfl (Or.inl rfl) (pv 3)))) .nil))
        (pss_cons (ps_if (pt_cmpR op_isN (pv 1) pe_non (nomark _)) (pss_one (ps_ret (pe_tup (pa_cons pe_str (pa_cons (pv 2) pa_nil))))) pss_nil)
        (pss_one (ps_ret (pe_tup (pa_cons (pe_call G__law_class (hr.mono (by omega)) (by rfl) T.g__law_class T.F__law_class.kp T.b__law_class .nil pass0 (pa_cons (pv 1) pa_nil)) (pa_cons (XfK.pe_xfK T.xf_NoText T.nf_NoText_row (pv 1)) pa_nil))))))))), ?_⟩
    dsimp only [gName]
    have big : ∀ n : Nat, n ≤ 10000 → n ≤ sizeLine := fun n h => by rw [sizeLine_eq]; omega
    obtain ⟨ls, rws, more, h1, h2, h3, h4, wf, pr, ok, ho⟩ := tx
    refine ⟨_, rfl, t, ls, p, rws, more, rfl, h1, h2, h3, h4, wf, pr, ok, ?_⟩
    have lk : ∀ n : Int, ([("row", .int n)] : List (Str × V)).lookup ("row" : Str) = some (.int n) := fun n => by
      rw [List.lookup_cons, show (("row" : Str) == "row") = true by decide +kernel]
    rcases ho with ⟨e, ho⟩ | ⟨e, ne, ho⟩ | ⟨l1, z, l2, e, e2, wn, ho⟩
    · refine .inl ⟨e, fun H1 v s1 d1 => ?_⟩
      dsimp only [gName, List.set]
      refine ⟨_, rfl, rfl, _, rfl, ifD rfl ?_⟩
      refine ⟨_, rfl, big 2 (by decide), fun tp ntp => ?_⟩
      have s2 := same_new (o := .tup [V.str "", v]) ntp
      rw [ho] at q
      exact q _ _ (s1.trans s2) (.tup (.of upd_same) (.cons (.str _) (.cons (dp_sm s2 d1) .nil)))
    · refine .inr (.inl ⟨e, ne, fun H1 d s1 ed => ?_⟩)
      refine ⟨true, T.em_NoText_WorkError, fun _ ea nea => ?_, fun z => nomatch z⟩
      refine ⟨_, rfl, ?_⟩
      dsimp only [gName, TryK.endsKeep]
      refine ⟨_, rfl, rfl, _, rfl, ifN (fun z => by cases z) ?_⟩
      have s2 := same_new (o := TryK.ExK (.ref (He.ga K "NoText")) (some d) ea) nea
      refine ⟨_, rfl, ea, d, _, rfl, upd_same, s2 _ _ ed, fun H2 s3 => ⟨_, rfl, ea, d, _, _, rfl, s3 _ _ upd_same, s3 _ _ (s2 _ _ ed), lk _, big 2 (by decide), fun tp ntp => ?_⟩⟩
      rw [ho] at q
      exact q _ _ (((s1.trans s2).trans s3).trans (same_new ntp)) (.tup (.of upd_same) (.cons (.str _) (.cons (.int _) .nil)))
    · refine .inr (.inr ⟨l1, z, l2, e, e2, wn, fun H1 d s1 ed => ?_⟩)
      refine ⟨true, T.em_NoText_WorkError, fun _ ea nea => ?_, fun z => nomatch z⟩
      refine ⟨_, rfl, ?_⟩
      dsimp only [gName, TryK.endsKeep]
      refine ⟨_, rfl, rfl, _, rfl, ifN (fun z => by cases z) ?_⟩
      have s2 := same_new (o := TryK.ExK (.ref (He.ga K "NoText")) (some d) ea) nea
      refine ⟨_, rfl, ea, d, _, rfl, upd_same, s2 _ _ ed, fun H2 s3 => ⟨_, rfl, ea, d, _, _, rfl, s3 _ _ upd_same, s3 _ _ (s2 _ _ ed), lk _, big 2 (by decide), fun tp ntp => ?_⟩⟩
      rw [ho] at q
      exact q _ _ (((s1.trans s2).trans s3).trans (same_new ntp)) (.tup (.of upd_same) (.cons (.str _) (.cons (.int _) .nil)))
end

/-! data of tuples, texts and ints has a shape -/
mutual
theorem alk_lay : ∀ {d : PyData} {n : Nat}, alk n d → d.canLay0 = true ∧ d.depth ≤ n
  | .int i, n, _ => ⟨by simp only [PyData.canLay0], by simp only [PyData.depth]; omega⟩
  | .str x, n, h => by
    cases n with
    | zero => exact h.elim
    | succ n =>
      have h : SeqAt.shaped (.str x) = true := h
      unfold SeqAt.shaped at h
      exact ⟨(Bool.and_eq_true_iff.mp h).1, by simp only [PyData.depth]; omega⟩
  | .tuple xs, n, h => by
    cases n with
    | zero => exact h.elim
    | succ n =>
      obtain ⟨h1, h2⟩ := alkAll_lay h.2
      exact ⟨by simp only [PyData.canLay0]; exact h1, by simp only [PyData.depth]; omega⟩
  | .none, n, h => by cases n <;> exact h.elim
  | .bool _, n, h => by cases n <;> exact h.elim
  | .list _, n, h => by cases n <;> exact h.elim
  | .dict _, n, h => by cases n <;> exact h.elim
theorem alkAll_lay : ∀ {xs : List PyData} {n : Nat}, (∀ x ∈ xs, alk n x) → PyData.canLayAll0 xs = true ∧ PyData.depthAll xs ≤ n
  | [], n, _ => ⟨by simp only [PyData.canLayAll0], by simp only [PyData.depthAll]; omega⟩
  | x :: xs, n, h => by
    obtain ⟨h1, h2⟩ := alk_lay (h x (List.mem_cons_self ..))
    obtain ⟨h3, h4⟩ := alkAll_lay fun z hz => h z (List.mem_cons_of_mem _ hz)
    exact ⟨by simp only [PyData.canLayAll0, h1, h3]; rfl, by simp only [PyData.depthAll]; omega⟩
end
theorem alk_shaped {d : PyData} {n : Nat} (hn : n ≤ 64) (h : alk n d) : SeqAt.shaped d = true := by
  obtain ⟨h1, h2⟩ := alk_lay h
  unfold SeqAt.shaped
  rw [h1, decide_eq_true (Nat.le_trans h2 hn)]
  rfl

/-! texts that are cut, or go on -/
theorem rws_back {rws : List (List Str)} (ok : RowsOk rws) : rwsOf (rws.map rowS) = rws := by
  unfold rwsOf
  rw [List.map_map]
  have : rws.map (wdsOf ∘ rowS) = rws := by
    conv => rhs; rw [← List.map_id rws]
    exact List.map_congr_left fun ws hw => wds_row (ok ws hw)
  rw [this]
  refine List.filter_eq_self.mpr fun ws hw => ?_
  have := (ok ws hw).ne
  cases ws with
  | nil => exact absurd rfl this
  | cons x r => rfl
theorem ln_rows {rws : List (List Str)} (ok : RowsOk rws) : LnOk (rws.map rowS) := ⟨fun z hz x hx => by
    obtain ⟨ws, hw, rfl⟩ := List.mem_map.mp hz
    have := (row_sg (ok ws hw) x hx).1
    omega, fun z hz => by
    obtain ⟨ws, hw, rfl⟩ := List.mem_map.mp hz
    exact Nat.le_trans (row_len (ok ws hw)) (by decide)⟩
theorem pg_len {p : Pg} (wf : p.Wf) : p.rows.length ≤ 400 ∧ p.lines.length = p.rows.length ∧ 1 ≤ p.rows.length := by
  have pl := wf.t.len
  have e : p.lines.length = p.rows.length := by rw [p.lines_rows, List.length_map]
  refine ⟨by omega, e, ?_⟩
  cases h : p.rows with
  | nil => exact absurd h (rows_ne p)
  | cons _ _ => simp
theorem txo_cut {p : Pg} (wf : p.Wf) {k : Nat} (hk : k < p.rows.length) : Txo (textOf ((p.rows.take k).map rowS)) p (.tuple [.str "text", .int (k : Int)]) := by
  obtain ⟨l4, _, _⟩ := pg_len wf
  have ok := wf.rows
  have okt : RowsOk (p.rows.take k) := fun ws hw => ok ws (List.mem_of_mem_take hw)
  have lo := ln_rows okt
  have lt : ((p.rows.take k).map rowS).length = k := by rw [List.length_map, List.length_take]; omega
  have sp : (textOf ((p.rows.take k).map rowS)).length ≤ 4000000 ∧ Txt.split (textOf ((p.rows.take k).map rowS)) "\n" = (p.rows.take k).map rowS ++ [("" : Str)] := by
    by_cases k0 : k = 0
    · subst k0
      rw [List.take_zero, List.map_nil]
      exact ⟨by decide +kernel, by decide +kernel⟩
    · have ne : (p.rows.take k).map rowS ≠ [] := fun e => by rw [e] at lt; exact k0 lt.symm
      rw [textOf_nl ne]
      constructor
      · have := (lines_fit lo.len).1
        rw [Str.length_append]
        have : ("\n" : Str).length = 1 := by decide +kernel
        omega
      · have : Txt.join "\n" ((p.rows.take k).map rowS) ++ ("\n" : Str) = Txt.join "\n" ((p.rows.take k).map rowS ++ [("" : Str)]) := by
          rw [join_snoc ne]
          congr 1
        rw [this]
        exact split_nl (by simp) fun z hz => (List.mem_append.mp hz).elim (lo.nl z) fun e => by rw [List.mem_singleton.mp e]; exact fun _ h => nomatch h
  refine ⟨(p.rows.take k).map rowS, p.rows, p.rows.drop k, sp.1, .inr sp.2, fun l hl => ln_fits (lo.len l hl), by omega, wf, pg_self p, ok.rw, .inr (.inl ⟨by rw [rws_back okt, List.take_append_drop], fun e => ?_, by rw [lt]⟩)⟩
  have := congrArg List.length e
  rw [List.length_drop] at this
  simp at this
  omega
theorem txo_of {t : Str} {p : Pg} (wf : p.Wf) (tx : TxOk t p.rows) : Txo t p (.tuple [.str "", p.d]) := by
  obtain ⟨ls, h1, h2, h3, h4⟩ := tx.ls
  exact ⟨ls, p.rows, [], tx.len, h1, h2, h3, wf, pg_self p, wf.rows.rw, .inl ⟨h4, rfl⟩⟩
def mores : List Str := ["end", "main", "tell 1", "helper h", "x", "row a 1", "else"]
theorem mores_ok : ∀ z ∈ mores, (∀ x ∈ TL.tl z, x ≠ 10) ∧ z.length ≤ 8900 ∧ (∀ c ∈ TL.tl z, c ≠ 35) ∧ wsC (TL.tl z) ≠ [] := by decide +kernel
theorem mores_wds {z : Str} (h : z ∈ mores) : wdsOf z ≠ [] := fun e => by
  obtain ⟨_, _, h35, hw⟩ := mores_ok z h
  have := wds_plain h35
  rw [e] at this
  exact hw this.symm
theorem hx_wds : wdsOf "# x" = [] := by
  have := wds_hash (a := "") (b := " x") (by decide +kernel)
  have e2 : ("" : Str) ++ "#" ++ " x" = "# x" := by decide +kernel
  rw [e2] at this
  exact List.map_eq_nil_iff.mp (this.trans (by decide +kernel))
theorem bl_wds : wdsOf "" = [] ∧ wdsOf "  " = [] ∧ wdsOf "#" = [] := ⟨blks_wds "" (by decide +kernel), blks_wds "  " (by decide +kernel), blks_wds "#" (by decide +kernel)⟩
theorem txo_more {p : Pg} (wf : p.Wf) {z : Str} (hz : z ∈ mores) : Txo (Txt.join "\n" (p.rows.map rowS ++ [("" : Str), "# x", z, "end"])) p (.tuple [.str "text", .int ((p.rows.length : Int) + 2)]) := by
  obtain ⟨l4, _, _⟩ := pg_len wf
  have ok := wf.rows
  have lo := ln_rows ok
  obtain ⟨z10, zl, _, _⟩ := mores_ok z hz
  have nl : ∀ y ∈ p.rows.map rowS ++ [("" : Str), "# x", z, "end"], (∀ x ∈ TL.tl y, x ≠ 10) ∧ y.length ≤ 8900 := fun y hy => by
    rcases List.mem_append.mp hy with hy | hy
    · exact ⟨lo.nl y hy, lo.len y hy⟩
    · simp only [List.mem_cons, List.not_mem_nil, or_false] at hy
      rcases hy with rfl | rfl | rfl | rfl
      · exact ⟨by decide +kernel, by decide +kernel⟩
      · exact ⟨by decide +kernel, by decide +kernel⟩
      · exact ⟨z10, zl⟩
      · exact ⟨by decide +kernel, by decide +kernel⟩
  have len := (lines_fit fun y hy => (nl y hy).2).1
  have ll : (p.rows.map rowS ++ [("" : Str), "# x", z, "end"]).length = p.rows.length + 4 := by rw [List.length_append, List.length_map]; rfl
  refine ⟨p.rows.map rowS ++ [("" : Str), "# x", z, "end"], p.rows, [], by omega, .inl ⟨split_nl (by simp) fun y hy => (nl y hy).1, fun x hx => ?_, by simp⟩, fun l hl => ln_fits (nl l hl).2, by omega, wf, pg_self p, ok.rw, .inr (.inr ⟨p.rows.map rowS ++ [("" : Str), "# x"], z, ["end"], by simp, ?_, mores_wds hz, ?_⟩)⟩
  · have : (p.rows.map rowS ++ [("" : Str), "# x", z, "end"]).getLast? = some ("end" : Str) := by simp
    rw [this] at hx
    rw [← Option.some.inj hx]
    decide +kernel
  · have : p.rows.map rowS ++ [("" : Str), "# x"] = (p.rows.map rowS ++ [("" : Str)]) ++ [("# x" : Str)] := by simp
    rw [this, rwsOf_snoc, rwsOf_snoc, if_pos bl_wds.1, if_pos hx_wds, rws_back ok, List.append_nil, List.append_nil]
  · rw [List.length_append, List.length_map]
    rfl
theorem tx_tail {p : Pg} (wf : p.Wf) : TxOk (Txt.join "\n" (p.rows.map rowS ++ [("  " : Str), "#", ""])) p.rows := by
  obtain ⟨l4, _, _⟩ := pg_len wf
  have ok := wf.rows
  have lo := ln_rows ok
  have nl : ∀ y ∈ p.rows.map rowS ++ [("  " : Str), "#"], (∀ x ∈ TL.tl y, x ≠ 10) ∧ y.length ≤ 8900 := fun y hy => by
    rcases List.mem_append.mp hy with hy | hy
    · exact ⟨lo.nl y hy, lo.len y hy⟩
    · simp only [List.mem_cons, List.not_mem_nil, or_false] at hy
      rcases hy with rfl | rfl
      · exact ⟨by decide +kernel, by decide +kernel⟩
      · exact ⟨by decide +kernel, by decide +kernel⟩
  have nl2 : ∀ y ∈ p.rows.map rowS ++ [("  " : Str), "#", ""], (∀ x ∈ TL.tl y, x ≠ 10) ∧ y.length ≤ 8900 := fun y hy => by
    have : p.rows.map rowS ++ [("  " : Str), "#", ""] = (p.rows.map rowS ++ [("  " : Str), "#"]) ++ [("" : Str)] := by simp
    rw [this] at hy
    rcases List.mem_append.mp hy with hy | hy
    · exact nl y hy
    · rw [List.mem_singleton.mp hy]
      exact ⟨by decide +kernel, by decide +kernel⟩
  have len := (lines_fit fun y hy => (nl2 y hy).2).1
  have ll : (p.rows.map rowS ++ [("  " : Str), "#", ""]).length = p.rows.length + 3 := by rw [List.length_append, List.length_map]; rfl
  refine ⟨by omega, p.rows.map rowS ++ [("  " : Str), "#"], .inr ?_, fun l hl => ln_fits (nl l hl).2, by rw [List.length_append, List.length_map]; simp; omega, ?_⟩
  · rw [split_nl (by simp) fun y hy => (nl2 y hy).1]
    simp
  · have : p.rows.map rowS ++ [("  " : Str), "#"] = (p.rows.map rowS ++ [("  " : Str)]) ++ [("#" : Str)] := by simp
    rw [this, rwsOf_snoc, rwsOf_snoc, if_pos bl_wds.2.1, if_pos bl_wds.2.2, rws_back ok, List.append_nil, List.append_nil]

section
variable {P : Program} {w : World} {K : PySem.W.Frag} {mg : Str → Option Value} {base : Heap}
def sp_law (K : PySem.W.Frag) : Sp := fun vs H Q _ => ∃ (a : Addr) (ns : List Int), vs = [.ref a] ∧ SqL K H a (ns.map V.int) ∧ ∀ H', Q (.bl true) H'
theorem ok_law (T : Top K mg) : FnOk P w K mg base CX0 30 (He.ga K "law") T.fd_law ["_law_script"] (sp_law K) := by
  have G__law_program := ok__law_program (P := P) (w := w) (base := base) T
  have G__law_cell_at := ok__law_cell_at (P := P) (w := w) (base := base) T
  have G__law_mixed := ok__law_mixed (P := P) (w := w) (base := base) T
  have G__law_lines := ok__law_lines (P := P) (w := w) (base := base) T
  have G__law_read := ok__law_read (P := P) (w := w) (base := base) T
  have G__law_whole := ok__law_whole (P := P) (w := w) (base := base) T
  have G_read := ok_read (P := P) (w := w) (base := base) T
  have G__law_alike := ok__law_alike (P := P) (w := w) (base := base) T 20
  refine T.F_law.ok sc_law (fun vs H Q E h => ?_) (fun cdv A outer s H vs Q E hr h => ?_)
  · obtain ⟨a, ns, rfl, _⟩ := h
    rfl
  · obtain ⟨a, ns, rfl, hS, q⟩ := h
    refine ⟨_, PSs.nox (pss_cons (ps_set (i := 1) sc_law.nd rfl (Or.inl rfl) (pe_call G__law_program (hr.mono (by omega)) (by rfl) T.g__law_program T.F__law_program.kp T.b__law_program .nil pass0 (pa_cons (pv 0) (pa_cons pe_int pa_nil))))
        (pss_cons (ps_set (i := 2) sc_law.nd rfl (Or.inl rfl) (pe_call G__law_cell_at (hr.mono (by omega)) (by rfl) T.g__law_cell_at T.F__law_cell_at.kp T.b__law_cell_at .nil pass0 (pa_cons (pv 0) (pa_cons pe_int pa_nil))))
        (pss_cons (ps_set (i := 3) sc_law.nd rfl (Or.inl rfl) (pe_call G__law_lines (hr.mono (by omega)) (by rfl) T.g__law_lines T.F__law_lines.kp T.b__law_lines .nil pass0 (pa_cons (pv 1) pa_nil)))
        (pss_cons (ps_set (i := 4) sc_law.nd rfl (Or.inl rfl) (pe_call G__law_mixed (hr.mono (by omega)) (by rfl) T.g__law_mixed T.F__law_mixed.kp T.b__law_mixed .nil pass0 (pa_cons (pv 2) (pa_cons pe_int (pa_cons (pe_op op_add (pe_callB call_len_seq (by rfl) T.m_len (by decide +kernel) (pa_cons (pv 3) pa_nil)) pe_int) pa_nil)))))
        (pss_cons (ps_if (pt_cmpR op_eq (pe_op op_mod (pv 2) pe_int) pe_int (nomark _)) (pss_one (ps_set (i := 4) sc_law.nd rfl (Or.inl rfl) (pe_callB (call_max2 rfl) (by rfl) T.m_max (by decide +kernel) (pa_cons pe_int (pa_cons (pe_op op_sub (pe_op op_sub (pe_callB call_len_seq (by rfl) T.m_len (by decide +kernel) (pa_cons (pv 3) pa_nil)) pe_int) (pe_op op_mod (pe_op op_fdivW (pv 2) pe_int) pe_int)) pa_nil))))) pss_nil)
        (pss_cons (ps_set (i := 5) sc_law.nd rfl (Or.inl rfl) (pe_call G__law_read (hr.mono (by omega)) (by rfl) T.g__law_read T.F__law_read.kp T.b__law_read .nil pass0 (pa_cons (pe_join pe_str (pe_lc (own := [("_law_line", 7)]) (by rfl) sc_law.nd (pi_list (pe_slice sl_list (pv 3) po_none (po_some (pv 4)))) (blkOk_by (own := [("_law_line", 7)]) (N := N_law) (sc := defScope s_law) (by decide +kernel)) (fun _ _ _ _ _ => (pg_name (i := 7) sc_law.nd rfl (Or.inl rfl))) (fun _ _ _ _ _ => pts_nil) (fun _ _ _ _ _ => (pe_op op_add_str (pv 7) pe_str)))) pa_nil)))
        (pss_cons (ps_if (PW.pt (pw_and (pt_cmpR op_lt (pv 4) (pe_callB call_len_seq (by rfl) T.m_len (by decide +kernel) (pa_cons (pv 3) pa_nil)) (nomark _)) (pw_and1 (PW.pt (pw_or (pt_cmpR op_ne (pe_ix ix_tup (pv 5) pe_int (fun _ _ => rfl)) pe_str (nomark _)) (pw_or (pt_not (pt_truth (pe_call G__law_whole (hr.mono (by omega)) (by rfl) T.g__law_whole T.F__law_whole.kp T.b__law_whole .nil pass0 (pa_cons (pe_ix ix_tup (pv 5) pe_int (fun _ _ => rfl)) pa_nil)) (by intro _; rfl))) (pw_or1 (pt_cmpR op_ne (pe_ix ix_tup (pv 5) pe_int (fun _ _ => rfl)) (pv 4) (nomark _))))))))) (pss_one (ps_ret pe_bl)) pss_nil)
        (pss_cons (ps_set (i := 5) sc_law.nd rfl (Or.inl rfl) (pe_call G__law_read (hr.mono (by omega)) (by rfl) T.g__law_read T.F__law_read.kp T.b__law_read .nil pass0 (pa_cons (pe_join pe_str (pv 3)) pa_nil)))
        (pss_cons (ps_if (PW.pt (pw_or (pt_cmpR op_ne (pe_ix ix_tup (pv 5) pe_int (fun _ _ => rfl)) pe_str (nomark _)) (pw_or1 (pt_not (pt_val (pe_call G__law_alike (hr.mono (by omega)) (by rfl) T.g__law_alike T.F__law_alike.kp T.b__law_alike .nil pass0 (pa_cons (pe_ix ix_tup (pv 5) pe_int (fun _ _ => rfl)) (pa_cons (pv 1) pa_nil)))))))) (pss_one (ps_ret pe_bl)) pss_nil)
        (pss_cons (ps_set (i := 6) sc_law.nd rfl (Or.inl rfl) (pe_ix ix_list (pe_lst (pa_cons pe_str (pa_cons pe_str (pa_cons pe_str (pa_cons pe_str (pa_cons pe_str (pa_cons pe_str (pa_cons pe_str pa_nil)))))))) (pe_call G__law_mixed (hr.mono (by omega)) (by rfl) T.g__law_mixed T.F__law_mixed.kp T.b__law_mixed .nil pass0 (pa_cons (pv 2) (pa_cons pe_int (pa_cons pe_int pa_nil)))) (fun _ _ => rfl)))
        (pss_cons (ps_set (i := 5) sc_law.nd rfl (Or.inl rfl) (pe_call G__law_read (hr.mono (by omega)) (by rfl) T.g__law_read T.F__law_read.kp T.b__law_read .nil pass0 (pa_cons (pe_join pe_str (pe_op op_cat (pv 3) (pe_lst (pa_cons pe_str (pa_cons pe_str (pa_cons (pv 6) (pa_cons pe_str pa_nil))))))) pa_nil)))
        (pss_cons (ps_if (pt_cmpR (op_neD hr.units) (pv 5) (pe_tup (pa_cons pe_str (pa_cons (pe_op op_add (pe_callB call_len_seq (by rfl) T.m_len (by decide +kernel) (pa_cons (pv 3) pa_nil)) pe_int) pa_nil))) (nomark _)) (pss_one (ps_ret pe_bl)) pss_nil)
        (pss_one (ps_ret (pe_call G__law_alike (hr.mono (by omega)) (by rfl) T.g__law_alike T.F__law_alike.kp T.b__law_alike .nil pass0 (pa_cons (pe_call G_read (hr.mono (by omega)) (by rfl) T.g_read T.F_read.kp T.b_read .nil pass0 (pa_cons (pe_join pe_str (pe_op op_cat (pv 3) (pe_lst (pa_cons pe_str (pa_cons pe_str (pa_cons pe_str pa_nil)))))) pa_nil)) (pa_cons (pv 1) pa_nil))))))))))))))))), ?_⟩
    have big : ∀ n : Nat, n ≤ 10000 → n ≤ sizeLine := fun n h => by rw [sizeLine_eq]; omega
    refine ⟨_, rfl, a, ns, 1, rfl, hS, by decide, by decide, fun H1 r p s1 dp wf => ?_⟩
    obtain ⟨l4, le, l1⟩ := pg_len wf
    refine ⟨_, rfl, a, ns, 0, rfl, by decide, s1.seq hS, ?_⟩
    generalize cellA ns 0 = c
    refine ⟨_, rfl, r, p, rfl, dp, wf.t, fun H2 L s2 nL e2 => ?_⟩
    rw [p.lines_rows] at e2
    have lm : ((p.rows.map rowS).map V.str).length = p.rows.length := by rw [List.length_map, List.length_map]
    have dp2 := dp_sm s2 dp
    refine ⟨_, rfl, _, rfl, L, _, rfl, .inl (.of e2), _, _, rfl, rfl, .int c, 1, _, rfl, .inl ⟨_, rfl⟩, by decide, by decide, by omega, by rw [lm]; omega, fun H3 at0 k3 _ a0 a1 => ?_⟩
    have s3 := kp_int k3
    rw [lm] at a1
    dsimp only [gName, List.set]
    refine ifs_by (fun σ' H' => Same H3 H' ∧ ∃ k : Nat, k ≤ p.rows.length ∧ σ' = [some (.ref a), some r, some (.int c), some (.ref L), some (.int (k : Int)), none, none, none]) ?_ ?_
    rotate_left
    · intro N hN
      obtain ⟨k0, rfl⟩ := Int.eq_ofNat_of_zero_le a0
      refine ⟨_, rfl, _, _, rfl, rfl, (by show (0 : Int) < 3; decide), rfl, _, rfl, ite2 (fun _ => ?_) (fun _ => hN _ _ ⟨Same.refl _, k0, by omega, rfl⟩)⟩
      refine ⟨_, rfl, L, _, rfl, .inl (.of (s3 _ _ e2)), _, _, rfl, rfl, _, rfl, _, _, rfl, rfl, wide_div (b := 64) (by decide) (by decide) (by decide) (by decide), _, _, rfl, rfl, (by show (0 : Int) < 3; decide), _, _, rfl, rfl, _, _, rfl, ?_⟩
      rw [lm]
      have m0 : 0 ≤ c / 3 % 3 := Int.emod_nonneg _ (by decide)
      obtain ⟨k1, hk1⟩ := Int.eq_ofNat_of_zero_le (show 0 ≤ (if (p.rows.length : Int) - 1 - c / 3 % 3 > 0 then (p.rows.length : Int) - 1 - c / 3 % 3 else 0) by split <;> omega)
      have hk2 : (k1 : Int) ≤ (p.rows.length : Int) := by rw [← hk1]; split <;> omega
      rw [hk1]
      exact hN _ _ ⟨Same.refl _, k1, by omega, rfl⟩
    rintro σ' H4 ⟨s34, k, hk, rfl⟩
    have e4 : H4 L = some (.lst ((p.rows.map rowS).map V.str)) := s34 _ _ (s3 _ _ e2)
    have dp4 := dp_sm (s3.trans s34) dp2
    have ok := wf.rows
    have lo := ln_rows ok
    -- the rows up to a place
    refine ⟨⟨_, rfl⟩, _, rfl, _, rfl, _, rfl, L, _, rfl, .of e4, fun S nS => ?_⟩
    rw [cutV_to, ← List.map_take, ← List.map_take]
    have sS := same_new (o := .lst (((p.rows.take k).map rowS).map V.str)) nS
    refine ⟨S, rfl, ⟨_, .of upd_same⟩, fun D nD => ?_⟩
    have eS : upd H4 S (.lst (((p.rows.take k).map rowS).map V.str)) S = some (.lst (((p.rows.take k).map rowS).map V.str)) := upd_same
    have lt : ((p.rows.take k).map rowS).length = k := by rw [List.length_map, List.length_take]; omega
    have tlen : ∀ z ∈ (p.rows.take k).map rowS, z.length ≤ 6000 := fun z hz => by
      obtain ⟨ws, hw, rfl⟩ := List.mem_map.mp hz
      exact row_len (ok ws (List.mem_of_mem_take hw))
    have z1 : (Str.ofString "\n").length = 1 := by decide +kernel
    refine lc_list (K := K) (a := S) (xs := ((p.rows.take k).map rowS).map V.str) (fun j H' => Same (upd H4 S (.lst (((p.rows.take k).map rowS).map V.str))) H' ∧ H' D = some (.lst (((((p.rows.take k).map rowS).take j).map fun l => l ++ Str.ofString "\n").map V.str))) ?_ ?_ ?_ ?_
    · exact ⟨same_new nD, upd_same⟩
    · rintro j H' _ ⟨s', _⟩
      exact .of (s' _ _ eS)
    · rintro j x H' hx ⟨s', e'⟩
      rw [List.getElem?_map] at hx
      obtain ⟨z, hz, rfl⟩ := Option.map_eq_some_iff.mp hx
      have zl := tlen z (List.mem_of_getElem? hz)
      refine ⟨rfl, _, rfl, _, _, rfl, rfl, by rw [sizeLine_eq]; omega, _, e', by rw [List.length_map, List.length_map, List.length_take, sizeLine_eq]; omega, same_upd s' nD, ?_⟩
      rw [upd_same, List.take_add_one, hz, snocS]
      simp
    rintro H5 ⟨s5, e5⟩
    rw [List.length_map, List.take_length] at e5
    have fit : ((((p.rows.take k).map rowS).map fun l => l ++ Str.ofString "\n").map (·.length)).sum + (((p.rows.take k).map rowS).map fun l => l ++ Str.ofString "\n").length * (Str.ofString "").length ≤ 16777216 := by
      have := sum_le' (B := 6001) (((p.rows.take k).map rowS).map fun l => l ++ Str.ofString "\n") fun z hz => by
        obtain ⟨y, hy, rfl⟩ := List.mem_map.mp hz
        have := tlen y hy
        rw [Str.length_append]
        omega
      have e0 : (Str.ofString "").length = 0 := by decide +kernel
      rw [List.length_map] at this ⊢
      rw [e0]
      omega
    have s45 := sS.trans s5
    obtain ⟨out, txo, hout⟩ : ∃ out, Txo (textOf ((p.rows.take k).map rowS)) p out ∧ ((k < p.rows.length ∧ out = .tuple [.str "text", .int (k : Int)]) ∨ (¬ k < p.rows.length)) := by
      by_cases h : k < p.rows.length
      · exact ⟨_, txo_cut wf h, .inl ⟨h, rfl⟩⟩
      · have e : p.rows.take k = p.rows := List.take_of_length_le (by omega)
        rw [e]
        have := text_ok wf
        rw [p.lines_rows] at this
        exact ⟨_, txo_of wf this, .inr h⟩
    refine ⟨_, D, _, rfl, rfl, .inl (.of e5), fit, ?_⟩
    rw [textOf_eq]
    refine ⟨_, p, out, rfl, txo, fun H6 tv s6 dtv => ?_⟩
    have s46 := s45.trans s6
    have e6 := s46 _ _ e4
    have dp6 := dp_sm s46 dp4
    dsimp only [gName, List.set]
    refine ifs_by (fun σ' H' => Same H6 H' ∧ σ' = [some (.ref a), some r, some (.int c), some (.ref L), some (.int (k : Int)), some tv, none, none]) ?_ ?_
    rotate_left
    · intro N hN
      refine ⟨_, rfl, _, rfl, L, _, rfl, .inl (.of e6), _, _, rfl, rfl, _, rfl, ?_⟩
      rw [lm]
      rcases hout with ⟨hlt, rfl⟩ | hge
      · refine ifD (by omega) ?_
        obtain ⟨ta, us, rfl, hu, du⟩ := dp_tup dtv
        obtain ⟨y0, r0, rfl, g0, du1⟩ := dpAll_cons du
        obtain ⟨y1, r1, rfl, g1, du2⟩ := dpAll_cons du1
        cases dpAll_nil du2
        cases dp_str g0
        cases dp_int g1
        refine ⟨_, rfl, ta, _, 0, _, rfl, rfl, hu, atI_nat (j := 0) rfl, rfl, _, rfl, ifNF rfl ?_⟩
        refine ⟨_, rfl, ta, _, 1, _, rfl, rfl, hu, atI_nat (j := 1) rfl, (k : Int), rfl, true, rfl, ifF rfl ?_⟩
        refine ⟨_, rfl, ta, _, 1, _, rfl, rfl, hu, atI_nat (j := 1) rfl, _, rfl, rfl, _, rfl, ifNF rfl ?_⟩
        exact hN _ _ ⟨Same.refl _, rfl⟩
      · exact ifN (by omega) (hN _ _ ⟨Same.refl _, rfl⟩)
    rintro σ' H7 ⟨s7, rfl⟩
    have e7 := s7 _ _ e6
    have dp7 := dp_sm s7 dp6
    -- all rows
    have jf := lines_fit lo.len
    rw [List.length_map] at jf
    refine ⟨⟨_, rfl⟩, _, rfl, _, L, p.rows.map rowS, rfl, rfl, .inl (.of e7), by rw [List.length_map]; omega, _, p, _, rfl, txo_of wf (tx_plain ok l4 (rows_ne p)), fun H8 tv2 s8 dtv2 => ?_⟩
    have e8 := s8 _ _ e7
    have dp8 := dp_sm s8 dp7
    dsimp only [gName, List.set]
    refine ifs_by (fun σ' H' => Same H8 H' ∧ σ' = [some (.ref a), some r, some (.int c), some (.ref L), some (.int (k : Int)), some tv2, none, none]) ?_ ?_
    rotate_left
    · intro N hN
      obtain ⟨ta, us, rfl, hu, du⟩ := dp_tup dtv2
      obtain ⟨y0, r0, rfl, g0, du1⟩ := dpAll_cons du
      obtain ⟨y1, r1, rfl, g1, du2⟩ := dpAll_cons du1
      cases dpAll_nil du2
      cases dp_str g0
      refine ⟨_, rfl, ta, _, 0, _, rfl, rfl, hu, atI_nat (j := 0) rfl, rfl, _, rfl, ifNF rfl ?_⟩
      exact ⟨_, rfl, ta, _, 1, _, rfl, rfl, hu, atI_nat (j := 1) rfl, _, rfl, y1, r, p.d, rfl, g1, dp8, alk_up (by decide) wf.alk, fun H9 s9 => ⟨_, rfl, ifF rfl (hN _ _ ⟨s9, rfl⟩)⟩⟩
    rintro σ' H9 ⟨s9, rfl⟩
    have e9 := s9 _ _ e8
    have dp9 := dp_sm s9 dp8
    -- a row more
    refine ⟨big 7 (by decide), fun Lm nLm => ?_⟩
    have sM := same_new (o := .lst (mores.map V.str)) nLm
    refine ⟨_, rfl, .int c, 2, 7, rfl, .inl ⟨_, rfl⟩, by decide, by decide, by decide, by decide, fun H10 i k10 _ i0 i1 => ?_⟩
    have s10 := sM.trans (kp_int k10)
    obtain ⟨y, hy, ey⟩ := at_list (ns := mores.map V.str) i0 (by simpa [mores] using i1)
    obtain ⟨z, hz, rfl⟩ := List.mem_map.mp hy
    refine ⟨Lm, _, i, _, rfl, rfl, .of ((kp_int k10) _ _ upd_same), ey, ?_⟩
    have e10 := s10 _ _ e9
    have dp10 := dp_sm s10 dp9
    dsimp only [gName, List.set]
    refine ⟨⟨_, rfl⟩, _, rfl, _, rfl, big 4 (by decide), fun L5 n5 => ?_⟩
    have s11 := same_new (o := .lst (([("" : Str), "# x", z, "end"] : List Str).map V.str)) n5
    refine ⟨L, L5, (p.rows.map rowS).map V.str, ([("" : Str), "# x", z, "end"] : List Str).map V.str, rfl, rfl, s11 _ _ e10, upd_same, by rw [lm, sizeLine_eq]; simp; omega, fun L6 n6 => ?_⟩
    rw [← List.map_append]
    have s12 := s11.trans (same_new (o := .lst ((p.rows.map rowS ++ [("" : Str), "# x", z, "end"]).map V.str)) n6)
    have e12 := s12 _ _ e10
    have dp12 := dp_sm s12 dp10
    have jf2 := lines_fit (ls := p.rows.map rowS ++ [("" : Str), "# x", z, "end"]) fun y hy => by
      rcases List.mem_append.mp hy with hy | hy
      · exact lo.len y hy
      · simp only [List.mem_cons, List.not_mem_nil, or_false] at hy
        rcases hy with rfl | rfl | rfl | rfl
        · decide +kernel
        · decide +kernel
        · exact (mores_ok y hz).2.1
        · decide +kernel
    have ll2 : (p.rows.map rowS ++ [("" : Str), "# x", z, "end"]).length = p.rows.length + 4 := by rw [List.length_append, List.length_map]; rfl
    rw [ll2] at jf2
    refine ⟨_, L6, p.rows.map rowS ++ [("" : Str), "# x", z, "end"], rfl, rfl, .inl (.of upd_same), by rw [ll2]; omega, _, p, _, rfl, txo_more wf hz, fun H13 tv3 s13 dtv3 => ?_⟩
    have e13 := s13 _ _ e12
    have dp13 := dp_sm s13 dp12
    dsimp only [gName, List.set]
    refine ifs_by (fun σ' H' => Same H13 H' ∧ σ' = [some (.ref a), some r, some (.int c), some (.ref L), some (.int (k : Int)), some tv3, some (.str z), none]) ?_ ?_
    rotate_left
    · intro N hN
      refine ⟨_, rfl, _, rfl, L, _, rfl, .inl (.of e13), _, _, rfl, rfl, big 2 (by decide), fun tp ntp => ?_⟩
      have s14 := same_new (o := .tup [.str "text", .int ((((p.rows.map rowS).map V.str).length : Int) + 2)]) ntp
      have sh : SeqAt.shaped (.tuple [.str "text", .int ((p.rows.length : Int) + 2)]) = true := alk_shaped (n := 2) (by decide) (alk_tup (by simp) (alks_cons (alk_str (by decide +kernel)) (alks_cons alk_int alks_nil)))
      refine ⟨_, .tuple [.str "text", .int ((p.rows.length : Int) + 2)], dp_sm s14 dtv3, .tup (.of upd_same) (.cons (.str _) (.cons (by rw [lm]; exact .int _) .nil)), sh, sh, _, rfl, ?_⟩
      rw [SeqAt.eqv_refl _ (Bool.and_eq_true_iff.mp sh).1]
      exact ifF rfl (hN _ _ ⟨s14, rfl⟩)
    rintro σ' H14 ⟨s14, rfl⟩
    have e14 := s14 _ _ e13
    have dp14 := dp_sm s14 dp13
    -- rows without words behind
    refine ⟨⟨_, rfl⟩, _, rfl, big 3 (by decide), fun L7 n7 => ?_⟩
    have s15 := same_new (o := .lst (([("  " : Str), "#", ""] : List Str).map V.str)) n7
    refine ⟨L, L7, (p.rows.map rowS).map V.str, ([("  " : Str), "#", ""] : List Str).map V.str, rfl, rfl, s15 _ _ e14, upd_same, by rw [lm, sizeLine_eq]; simp; omega, fun L8 n8 => ?_⟩
    rw [← List.map_append]
    have s16 := s15.trans (same_new (o := .lst ((p.rows.map rowS ++ [("  " : Str), "#", ""]).map V.str)) n8)
    have jf3 := lines_fit (ls := p.rows.map rowS ++ [("  " : Str), "#", ""]) fun y hy => by
      rcases List.mem_append.mp hy with hy | hy
      · exact lo.len y hy
      · simp only [List.mem_cons, List.not_mem_nil, or_false] at hy
        rcases hy with rfl | rfl | rfl <;> decide +kernel
    have ll3 : (p.rows.map rowS ++ [("  " : Str), "#", ""]).length = p.rows.length + 3 := by rw [List.length_append, List.length_map]; rfl
    rw [ll3] at jf3
    have tx := tx_tail wf
    obtain ⟨ls, t1, t2, t3, t4⟩ := tx.ls
    refine ⟨_, L8, p.rows.map rowS ++ [("  " : Str), "#", ""], rfl, rfl, .inl (.of upd_same), by rw [ll3]; omega, _, ls, p, rfl, tx.len, t1, t2, t3, wf, by rw [t4]; exact pg_self p, by rw [t4]; exact ok.rw, fun H17 v s17 dv => ?_⟩
    exact ⟨_, rfl, v, r, p.d, rfl, dv, dp_sm (s16.trans s17) dp14, alk_up (by decide) wf.alk, fun _ _ => q _⟩
end
theorem law_start {K : PySem.W.Frag} {H : Hp} {a : Addr} {ns : List Int} (hl : ns.length ≤ 63) (hb : ∀ z ∈ ns, Builtin.Int.intBits z ≤ 1048576) (hS : SqL K H a (ns.map V.int)) : sp_law K [.ref a] H (fun v _ => v = .bl true) fun _ _ _ => False := ⟨a, ns, rfl, hS, fun _ => rfl⟩

def d_NoText___init__ : He.DefD := ⟨("NoText", some "__init__"), "__init__", "NoText.__init__", defArgs s_NoText___init__, defBody s_NoText___init__, defScope s_NoText___init__, [.int 0], []⟩
def d_is_number : He.DefD := ⟨("is_number", none), "is_number", "is_number", defArgs s_is_number, defBody s_is_number, defScope s_is_number, [], []⟩
def d_is_name : He.DefD := ⟨("is_name", none), "is_name", "is_name", defArgs s_is_name, defBody s_is_name, defScope s_is_name, [], []⟩
def d_ends_there : He.DefD := ⟨("ends_there", none), "ends_there", "ends_there", defArgs s_ends_there, defBody s_ends_there, defScope s_ends_there, [], []⟩
def d_Scope___init__ : He.DefD := ⟨("Scope", some "__init__"), "__init__", "Scope.__init__", defArgs s_Scope___init__, defBody s_Scope___init__, defScope s_Scope___init__, [], []⟩
def d_Scope_is_variable : He.DefD := ⟨("Scope", some "is_variable"), "is_variable", "Scope.is_variable", defArgs s_Scope_is_variable, defBody s_Scope_is_variable, defScope s_Scope_is_variable, [], []⟩
def d_Scope_is_row : He.DefD := ⟨("Scope", some "is_row"), "is_row", "Scope.is_row", defArgs s_Scope_is_row, defBody s_Scope_is_row, defScope s_Scope_is_row, [], []⟩
def d_Scope_is_expression : He.DefD := ⟨("Scope", some "is_expression"), "is_expression", "Scope.is_expression", defArgs s_Scope_is_expression, defBody s_Scope_is_expression, defScope s_Scope_is_expression, [.int 1], []⟩
def d_Scope_is_call : He.DefD := ⟨("Scope", some "is_call"), "is_call", "Scope.is_call", defArgs s_Scope_is_call, defBody s_Scope_is_call, defScope s_Scope_is_call, [], []⟩
def d_Scope_is_plain : He.DefD := ⟨("Scope", some "is_plain"), "is_plain", "Scope.is_plain", defArgs s_Scope_is_plain, defBody s_Scope_is_plain, defScope s_Scope_is_plain, [], []⟩
def d_Scope_takes_one : He.DefD := ⟨("Scope", some "takes_one"), "takes_one", "Scope.takes_one", defArgs s_Scope_takes_one, defBody s_Scope_takes_one, defScope s_Scope_takes_one, [], []⟩
def d_are_params : He.DefD := ⟨("are_params", none), "are_params", "are_params", defArgs s_are_params, defBody s_are_params, defScope s_are_params, [], []⟩
def d_is_size : He.DefD := ⟨("is_size", none), "is_size", "is_size", defArgs s_is_size, defBody s_is_size, defScope s_is_size, [], []⟩
def d_number_by : He.DefD := ⟨("number_by", none), "number_by", "number_by", defArgs s_number_by, defBody s_number_by, defScope s_number_by, [], []⟩
def d_expression_at : He.DefD := ⟨("expression_at", none), "expression_at", "expression_at", defArgs s_expression_at, defBody s_expression_at, defScope s_expression_at, [.int 1], []⟩
def d_expressions_at : He.DefD := ⟨("expressions_at", none), "expressions_at", "expressions_at", defArgs s_expressions_at, defBody s_expressions_at, defScope s_expressions_at, [.int 1], []⟩
def d_all_expressions : He.DefD := ⟨("all_expressions", none), "all_expressions", "all_expressions", defArgs s_all_expressions, defBody s_all_expressions, defScope s_all_expressions, [.non], []⟩
def d_plain_by : He.DefD := ⟨("plain_by", none), "plain_by", "plain_by", defArgs s_plain_by, defBody s_plain_by, defScope s_plain_by, [], []⟩
def d_Open___init__ : He.DefD := ⟨("Open", some "__init__"), "__init__", "Open.__init__", defArgs s_Open___init__, defBody s_Open___init__, defScope s_Open___init__, [], []⟩
def d_Open_there : He.DefD := ⟨("Open", some "there"), "there", "Open.there", defArgs s_Open_there, defBody s_Open_there, defScope s_Open_there, [], []⟩
def d_Open_closed : He.DefD := ⟨("Open", some "closed"), "closed", "Open.closed", defArgs s_Open_closed, defBody s_Open_closed, defScope s_Open_closed, [], []⟩
def d_Reader___init__ : He.DefD := ⟨("Reader", some "__init__"), "__init__", "Reader.__init__", defArgs s_Reader___init__, defBody s_Reader___init__, defScope s_Reader___init__, [], []⟩
def d_Reader_takes : He.DefD := ⟨("Reader", some "takes"), "takes", "Reader.takes", defArgs s_Reader_takes, defBody s_Reader_takes, defScope s_Reader_takes, [], []⟩
def d_Reader_takes_head : He.DefD := ⟨("Reader", some "takes_head"), "takes_head", "Reader.takes_head", defArgs s_Reader_takes_head, defBody s_Reader_takes_head, defScope s_Reader_takes_head, [], []⟩
def d_Reader_takes_row : He.DefD := ⟨("Reader", some "takes_row"), "takes_row", "Reader.takes_row", defArgs s_Reader_takes_row, defBody s_Reader_takes_row, defScope s_Reader_takes_row, [], []⟩
def d_Reader_takes_end : He.DefD := ⟨("Reader", some "takes_end"), "takes_end", "Reader.takes_end", defArgs s_Reader_takes_end, defBody s_Reader_takes_end, defScope s_Reader_takes_end, [], []⟩
def d_Reader_takes_else : He.DefD := ⟨("Reader", some "takes_else"), "takes_else", "Reader.takes_else", defArgs s_Reader_takes_else, defBody s_Reader_takes_else, defScope s_Reader_takes_else, [], []⟩
def d_Reader_takes_statement : He.DefD := ⟨("Reader", some "takes_statement"), "takes_statement", "Reader.takes_statement", defArgs s_Reader_takes_statement, defBody s_Reader_takes_statement, defScope s_Reader_takes_statement, [], []⟩
def d_read : He.DefD := ⟨("read", none), "read", "read", defArgs s_read, defBody s_read, defScope s_read, [], []⟩
def d__law_cell_at : He.DefD := ⟨("_law_cell_at", none), "_law_cell_at", "_law_cell_at", defArgs s__law_cell_at, defBody s__law_cell_at, defScope s__law_cell_at, [], []⟩
def d__law_whole : He.DefD := ⟨("_law_whole", none), "_law_whole", "_law_whole", defArgs s__law_whole, defBody s__law_whole, defScope s__law_whole, [], []⟩
def d__law_held : He.DefD := ⟨("_law_held", none), "_law_held", "_law_held", defArgs s__law_held, defBody s__law_held, defScope s__law_held, [], []⟩
def d__law_mixed : He.DefD := ⟨("_law_mixed", none), "_law_mixed", "_law_mixed", defArgs s__law_mixed, defBody s__law_mixed, defScope s__law_mixed, [], []⟩
def d__law_kept : He.DefD := ⟨("_law_kept", none), "_law_kept", "_law_kept", defArgs s__law_kept, defBody s__law_kept, defScope s__law_kept, [], []⟩
def d__law_letter : He.DefD := ⟨("_law_letter", none), "_law_letter", "_law_letter", defArgs s__law_letter, defBody s__law_letter, defScope s__law_letter, [], []⟩
def d__law_names : He.DefD := ⟨("_law_names", none), "_law_names", "_law_names", defArgs s__law_names, defBody s__law_names, defScope s__law_names, [], []⟩
def d__law_number_by : He.DefD := ⟨("_law_number_by", none), "_law_number_by", "_law_number_by", defArgs s__law_number_by, defBody s__law_number_by, defScope s__law_number_by, [], []⟩
def d__law_within : He.DefD := ⟨("_law_within", none), "_law_within", "_law_within", defArgs s__law_within, defBody s__law_within, defScope s__law_within, [], []⟩
def d__law_expression : He.DefD := ⟨("_law_expression", none), "_law_expression", "_law_expression", defArgs s__law_expression, defBody s__law_expression, defScope s__law_expression, [], []⟩
def d__law_expressions : He.DefD := ⟨("_law_expressions", none), "_law_expressions", "_law_expressions", defArgs s__law_expressions, defBody s__law_expressions, defScope s__law_expressions, [], []⟩
def d__law_plain : He.DefD := ⟨("_law_plain", none), "_law_plain", "_law_plain", defArgs s__law_plain, defBody s__law_plain, defScope s__law_plain, [], []⟩
def d__law_nest : He.DefD := ⟨("_law_nest", none), "_law_nest", "_law_nest", defArgs s__law_nest, defBody s__law_nest, defScope s__law_nest, [], []⟩
def d__law_body : He.DefD := ⟨("_law_body", none), "_law_body", "_law_body", defArgs s__law_body, defBody s__law_body, defScope s__law_body, [], []⟩
def d__law_inner_cell : He.DefD := ⟨("_law_inner_cell", none), "_law_inner_cell", "_law_inner_cell", defArgs s__law_inner_cell, defBody s__law_inner_cell, defScope s__law_inner_cell, [], []⟩
def d__law_program : He.DefD := ⟨("_law_program", none), "_law_program", "_law_program", defArgs s__law_program, defBody s__law_program, defScope s__law_program, [], []⟩
def d__law_words_of : He.DefD := ⟨("_law_words_of", none), "_law_words_of", "_law_words_of", defArgs s__law_words_of, defBody s__law_words_of, defScope s__law_words_of, [], []⟩
def d__law_statement_lines : He.DefD := ⟨("_law_statement_lines", none), "_law_statement_lines", "_law_statement_lines", defArgs s__law_statement_lines, defBody s__law_statement_lines, defScope s__law_statement_lines, [], []⟩
def d__law_lines : He.DefD := ⟨("_law_lines", none), "_law_lines", "_law_lines", defArgs s__law_lines, defBody s__law_lines, defScope s__law_lines, [], []⟩
def d__law_alike : He.DefD := ⟨("_law_alike", none), "_law_alike", "_law_alike", defArgs s__law_alike, defBody s__law_alike, defScope s__law_alike, [], []⟩
def d__law_class : He.DefD := ⟨("_law_class", none), "_law_class", "_law_class", defArgs s__law_class, defBody s__law_class, defScope s__law_class, [], []⟩
def d__law_read : He.DefD := ⟨("_law_read", none), "_law_read", "_law_read", defArgs s__law_read, defBody s__law_read, defScope s__law_read, [], []⟩
def d_law : He.DefD := ⟨("law", none), "law", "law", defArgs s_law, defBody s_law, defScope s_law, [], []⟩
def fn0 : List He.DefD := [d_NoText___init__, d_is_number, d_is_name, d_ends_there, d_Scope___init__, d_Scope_is_variable, d_Scope_is_row, d_Scope_is_expression, d_Scope_is_call, d_Scope_is_plain, d_Scope_takes_one, d_are_params, d_is_size, d_number_by, d_expression_at, d_expressions_at, d_all_expressions, d_plain_by, d_Open___init__, d_Open_there, d_Open_closed, d_Reader___init__, d_Reader_takes, d_Reader_takes_head, d_Reader_takes_row, d_Reader_takes_end, d_Reader_takes_else, d_Reader_takes_statement, d_read, d__law_cell_at]
def fn1 : List He.DefD := [d__law_whole, d__law_held, d__law_mixed, d__law_kept, d__law_letter, d__law_names, d__law_number_by, d__law_within, d__law_expression, d__law_expressions, d__law_plain, d__law_nest, d__law_body, d__law_inner_cell, d__law_program, d__law_words_of, d__law_statement_lines, d__law_lines, d__law_alike, d__law_class, d__law_read, d_law]
def fn : List He.DefD := fn0 ++ fn1
def fa0 : List He.Fa := [.glo "is_number", .glo "is_name", .glo "ends_there", .meth "Scope" "__init__", .meth "Scope" "is_variable", .meth "Scope" "is_row", .meth "Scope" "is_expression", .meth "Scope" "is_call", .meth "Scope" "is_plain", .meth "Scope" "takes_one", .glo "are_params", .glo "is_size", .glo "number_by", .glo "expression_at", .glo "expressions_at", .glo "all_expressions", .glo "plain_by", .meth "Open" "__init__", .meth "Open" "there", .meth "Open" "closed", .meth "Reader" "__init__", .meth "Reader" "takes", .meth "Reader" "takes_head", .meth "Reader" "takes_row", .meth "Reader" "takes_end", .meth "Reader" "takes_else", .meth "Reader" "takes_statement", .glo "read", .glo "_law_cell_at", .glo "_law_whole"]
def fa1 : List He.Fa := [.glo "_law_held", .glo "_law_mixed", .glo "_law_kept", .glo "_law_letter", .glo "_law_names", .glo "_law_number_by", .glo "_law_within", .glo "_law_expression", .glo "_law_expressions", .glo "_law_plain", .glo "_law_nest", .glo "_law_body", .glo "_law_inner_cell", .glo "_law_program", .glo "_law_words_of", .glo "_law_statement_lines", .glo "_law_lines", .glo "_law_alike", .glo "_law_class", .glo "_law_read", .glo "law", .glo "WorkError", .exc "WorkError", .glo "NoText", .glo "NoInputs", .exc "NoInputs", .glo "NoPass", .exc "NoPass", .glo "NoBoxes", .exc "NoBoxes"]
def fa2 : List He.Fa := [.glo "Scope", .cls "Scope", .noat "Scope" "rows", .noat "Scope" "heads", .noat "Scope" "known", .noat "Scope" "many", .mkr "Scope", .glo "Open", .cls "Open", .noat "Open" "kind", .noat "Open" "asked", .noat "Open" "first", .noat "Open" "second", .noat "Open" "turned", .mkr "Open", .glo "Reader", .cls "Reader", .noat "Reader" "helpers", .noat "Reader" "heads", .noat "Reader" "head", .noat "Reader" "scope", .noat "Reader" "rows", .noat "Reader" "frames", .noat "Reader" "program", .mkr "Reader", .exm "NoText" "WorkError" true, .free "ValueError", .free "all", .free "bool", .free "dict"]
def fa3 : List He.Fa := [.free "enumerate", .free "int", .free "isinstance", .free "len", .free "list", .free "max", .free "min", .free "range", .free "set", .free "str", .free "tuple", .int "HALF" (2147483648), .glo "WORDS", .str "LETTERS" ("abcdefghijklmnopqrstuvwxyz"), .int "MOST_LETTERS" (8), .int "MOST_DEEP" (4), .int "MOST_STATEMENTS" (25), .int "MOST_VARIABLES" (12), .int "MOST_FAIL" (99), .int "MOST_HELPERS" (4), .int "MOST_PARAMS" (4), .int "MOST_ROWS" (3), .int "MOST_SIZE" (8), .glo "KEPT", .str "FIGURES" ("0123456789"), .int "MOST_SIGNS" (11)]
def fa : List He.Fa := fa0 ++ fa1 ++ fa2 ++ fa3
def exB (K : PySem.W.Frag) : Bool := He.tupB K "WORDS" [.str "add", .str "sub", .str "mul", .str "div", .str "rem", .str "less", .str "same"] && (He.tupB K "KEPT" [.str "number", .str "not", .str "at", .str "add", .str "sub", .str "mul", .str "div", .str "rem", .str "less", .str "same", .str "set", .str "put", .str "tell", .str "if", .str "else", .str "end", .str "while", .str "call", .str "fail", .str "give", .str "row", .str "helper", .str "main"] && (weB K (He.ga K "WorkError") && (oexB K (He.ga K "NoText") && (oinB K (He.ga K "NoText") (He.ma K (He.ga K "NoText") "__init__") && (xfB K (He.ga K "NoText") && (nofB K (He.ga K "NoText") "row" && (TryK.eicB K (He.ga K "NoText") && (decide (PySem.W.kitOne K (.ref (He.ga K "NoText")) (.ref (He.ga K "NoText")) = some true) && (decide (PySem.W.kitOne K (.ref (He.ga K "NoText")) (.ref (He.ga K "NoInputs")) = some false) && (decide (PySem.W.kitOne K (.ref (He.ga K "NoText")) (.ref (He.ga K "NoPass")) = some false) && (decide (PySem.W.kitOne K (.ref (He.ga K "NoText")) (.ref (He.ga K "NoBoxes")) = some false) && (decide (PySem.W.kitOne K (.ref (He.ga K "NoText")) (.type "ValueError") = some true)))))))))))))
abbrev hk : PySem.W.Hook := hookE 4 fa fn exB
def ob (s : PySem.W.SharedT) : He.AlD × Bool := obsE 4 fa fn exB (HandSHeadRun.getT s)
theorem ob_eq (s : PySem.W.SharedT) : ob s = hk.obs s.abs := obsE_eq (HandSHeadRun.getT_eq s)
abbrev R : PySem.W.OpenRow := PySem.W.OpenLaw.row PySem.Challenge.rw_passworks_k08_lacking
def lo0 : List PySem.Str := ["_wall", "WorkError", "NoText", "NoInputs", "NoPass", "NoBoxes", "HALF", "WORDS", "is_number", "LETTERS", "MOST_LETTERS", "MOST_DEEP", "MOST_STATEMENTS", "MOST_VARIABLES", "MOST_FAIL", "MOST_HELPERS", "MOST_PARAMS", "MOST_ROWS", "MOST_SIZE", "KEPT", "is_name", "ends_there", "Scope", "are_params", "is_size", "FIGURES", "MOST_SIGNS", "number_by", "expression_at", "expressions_at"]
def lo1 : List PySem.Str := ["all_expressions", "plain_by", "Open", "Reader", "read", "_law_cell_at", "_law_whole", "_law_held", "_law_mixed", "_law_kept", "_law_letter", "_law_names", "_law_number_by", "_law_within", "_law_expression", "_law_expressions", "_law_plain", "_law_nest", "_law_body", "_law_inner_cell", "_law_program", "_law_words_of", "_law_statement_lines", "_law_lines", "_law_alike", "_law_class", "_law_read"]
def lo : List PySem.Str := lo0 ++ lo1
theorem run (w : World) : HandSHeadRun.RunEq R (PySem.W.view R.prog [62]) hk ob 4000 lo w := by
  intro os
  kernel_rfl
theorem top_of {K : PySem.W.Frag} {h : Heap} {mg : Str → Option Value} (X : K.In h) (G : h.Ns mainGlobals mg) (c : SaysE fa fn exB K) : Nonempty (Top K mg) := by
  obtain ⟨fd0, F0⟩ := c.1.def_ 0 (d := d_NoText___init__) rfl
  obtain ⟨fd1, F1⟩ := c.1.def_ 1 (d := d_is_number) rfl
  obtain ⟨fd2, F2⟩ := c.1.def_ 2 (d := d_is_name) rfl
  obtain ⟨fd3, F3⟩ := c.1.def_ 3 (d := d_ends_there) rfl
  obtain ⟨fd4, F4⟩ := c.1.def_ 4 (d := d_Scope___init__) rfl
  obtain ⟨fd5, F5⟩ := c.1.def_ 5 (d := d_Scope_is_variable) rfl
  obtain ⟨fd6, F6⟩ := c.1.def_ 6 (d := d_Scope_is_row) rfl
  obtain ⟨fd7, F7⟩ := c.1.def_ 7 (d := d_Scope_is_expression) rfl
  obtain ⟨fd8, F8⟩ := c.1.def_ 8 (d := d_Scope_is_call) rfl
  obtain ⟨fd9, F9⟩ := c.1.def_ 9 (d := d_Scope_is_plain) rfl
  obtain ⟨fd10, F10⟩ := c.1.def_ 10 (d := d_Scope_takes_one) rfl
  obtain ⟨fd11, F11⟩ := c.1.def_ 11 (d := d_are_params) rfl
  obtain ⟨fd12, F12⟩ := c.1.def_ 12 (d := d_is_size) rfl
  obtain ⟨fd13, F13⟩ := c.1.def_ 13 (d := d_number_by) rfl
  obtain ⟨fd14, F14⟩ := c.1.def_ 14 (d := d_expression_at) rfl
  obtain ⟨fd15, F15⟩ := c.1.def_ 15 (d := d_expressions_at) rfl
  obtain ⟨fd16, F16⟩ := c.1.def_ 16 (d := d_all_expressions) rfl
  obtain ⟨fd17, F17⟩ := c.1.def_ 17 (d := d_plain_by) rfl
  obtain ⟨fd18, F18⟩ := c.1.def_ 18 (d := d_Open___init__) rfl
  obtain ⟨fd19, F19⟩ := c.1.def_ 19 (d := d_Open_there) rfl
  obtain ⟨fd20, F20⟩ := c.1.def_ 20 (d := d_Open_closed) rfl
  obtain ⟨fd21, F21⟩ := c.1.def_ 21 (d := d_Reader___init__) rfl
  obtain ⟨fd22, F22⟩ := c.1.def_ 22 (d := d_Reader_takes) rfl
  obtain ⟨fd23, F23⟩ := c.1.def_ 23 (d := d_Reader_takes_head) rfl
  obtain ⟨fd24, F24⟩ := c.1.def_ 24 (d := d_Reader_takes_row) rfl
  obtain ⟨fd25, F25⟩ := c.1.def_ 25 (d := d_Reader_takes_end) rfl
  obtain ⟨fd26, F26⟩ := c.1.def_ 26 (d := d_Reader_takes_else) rfl
  obtain ⟨fd27, F27⟩ := c.1.def_ 27 (d := d_Reader_takes_statement) rfl
  obtain ⟨fd28, F28⟩ := c.1.def_ 28 (d := d_read) rfl
  obtain ⟨fd29, F29⟩ := c.1.def_ 29 (d := d__law_cell_at) rfl
  obtain ⟨fd30, F30⟩ := c.1.def_ 30 (d := d__law_whole) rfl
  obtain ⟨fd31, F31⟩ := c.1.def_ 31 (d := d__law_held) rfl
  obtain ⟨fd32, F32⟩ := c.1.def_ 32 (d := d__law_mixed) rfl
  obtain ⟨fd33, F33⟩ := c.1.def_ 33 (d := d__law_kept) rfl
  obtain ⟨fd34, F34⟩ := c.1.def_ 34 (d := d__law_letter) rfl
  obtain ⟨fd35, F35⟩ := c.1.def_ 35 (d := d__law_names) rfl
  obtain ⟨fd36, F36⟩ := c.1.def_ 36 (d := d__law_number_by) rfl
  obtain ⟨fd37, F37⟩ := c.1.def_ 37 (d := d__law_within) rfl
  obtain ⟨fd38, F38⟩ := c.1.def_ 38 (d := d__law_expression) rfl
  obtain ⟨fd39, F39⟩ := c.1.def_ 39 (d := d__law_expressions) rfl
  obtain ⟨fd40, F40⟩ := c.1.def_ 40 (d := d__law_plain) rfl
  obtain ⟨fd41, F41⟩ := c.1.def_ 41 (d := d__law_nest) rfl
  obtain ⟨fd42, F42⟩ := c.1.def_ 42 (d := d__law_body) rfl
  obtain ⟨fd43, F43⟩ := c.1.def_ 43 (d := d__law_inner_cell) rfl
  obtain ⟨fd44, F44⟩ := c.1.def_ 44 (d := d__law_program) rfl
  obtain ⟨fd45, F45⟩ := c.1.def_ 45 (d := d__law_words_of) rfl
  obtain ⟨fd46, F46⟩ := c.1.def_ 46 (d := d__law_statement_lines) rfl
  obtain ⟨fd47, F47⟩ := c.1.def_ 47 (d := d__law_lines) rfl
  obtain ⟨fd48, F48⟩ := c.1.def_ 48 (d := d__law_alike) rfl
  obtain ⟨fd49, F49⟩ := c.1.def_ 49 (d := d__law_class) rfl
  obtain ⟨fd50, F50⟩ := c.1.def_ 50 (d := d__law_read) rfl
  obtain ⟨fd51, F51⟩ := c.1.def_ 51 (d := d_law) rfl
  obtain ⟨tk_HALF, ck_HALF⟩ := He.int_ok X G (c.1.fact 101 (f := .int "HALF" (2147483648)) rfl)
  obtain ⟨tk_LETTERS, ck_LETTERS⟩ := He.str_ok X G (c.1.fact 103 (f := .str "LETTERS" ("abcdefghijklmnopqrstuvwxyz")) rfl)
  obtain ⟨tk_MOST_LETTERS, ck_MOST_LETTERS⟩ := He.int_ok X G (c.1.fact 104 (f := .int "MOST_LETTERS" (8)) rfl)
  obtain ⟨tk_MOST_DEEP, ck_MOST_DEEP⟩ := He.int_ok X G (c.1.fact 105 (f := .int "MOST_DEEP" (4)) rfl)
  obtain ⟨tk_MOST_STATEMENTS, ck_MOST_STATEMENTS⟩ := He.int_ok X G (c.1.fact 106 (f := .int "MOST_STATEMENTS" (25)) rfl)
  obtain ⟨tk_MOST_VARIABLES, ck_MOST_VARIABLES⟩ := He.int_ok X G (c.1.fact 107 (f := .int "MOST_VARIABLES" (12)) rfl)
  obtain ⟨tk_MOST_FAIL, ck_MOST_FAIL⟩ := He.int_ok X G (c.1.fact 108 (f := .int "MOST_FAIL" (99)) rfl)
  obtain ⟨tk_MOST_HELPERS, ck_MOST_HELPERS⟩ := He.int_ok X G (c.1.fact 109 (f := .int "MOST_HELPERS" (4)) rfl)
  obtain ⟨tk_MOST_PARAMS, ck_MOST_PARAMS⟩ := He.int_ok X G (c.1.fact 110 (f := .int "MOST_PARAMS" (4)) rfl)
  obtain ⟨tk_MOST_ROWS, ck_MOST_ROWS⟩ := He.int_ok X G (c.1.fact 111 (f := .int "MOST_ROWS" (3)) rfl)
  obtain ⟨tk_MOST_SIZE, ck_MOST_SIZE⟩ := He.int_ok X G (c.1.fact 112 (f := .int "MOST_SIZE" (8)) rfl)
  obtain ⟨tk_FIGURES, ck_FIGURES⟩ := He.str_ok X G (c.1.fact 114 (f := .str "FIGURES" ("0123456789")) rfl)
  obtain ⟨tk_MOST_SIGNS, ck_MOST_SIGNS⟩ := He.int_ok X G (c.1.fact 115 (f := .int "MOST_SIGNS" (11)) rfl)
  have hx := c.2
  obtain ⟨hx0, hy0⟩ := He.ba (show (He.tupB K "WORDS" [.str "add", .str "sub", .str "mul", .str "div", .str "rem", .str "less", .str "same"] && _) = true from hx)
  obtain ⟨hx1, hy1⟩ := He.ba (show (He.tupB K "KEPT" [.str "number", .str "not", .str "at", .str "add", .str "sub", .str "mul", .str "div", .str "rem", .str "less", .str "same", .str "set", .str "put", .str "tell", .str "if", .str "else", .str "end", .str "while", .str "call", .str "fail", .str "give", .str "row", .str "helper", .str "main"] && _) = true from hy0)
  obtain ⟨hx2, hy2⟩ := He.ba (show (weB K (He.ga K "WorkError") && _) = true from hy1)
  obtain ⟨hx3, hy3⟩ := He.ba (show (oexB K (He.ga K "NoText") && _) = true from hy2)
  obtain ⟨hx4, hy4⟩ := He.ba (show (oinB K (He.ga K "NoText") (He.ma K (He.ga K "NoText") "__init__") && _) = true from hy3)
  obtain ⟨hx5, hy5⟩ := He.ba (show (xfB K (He.ga K "NoText") && _) = true from hy4)
  obtain ⟨hx6, hy6⟩ := He.ba (show (nofB K (He.ga K "NoText") "row" && _) = true from hy5)
  obtain ⟨hx7, hy7⟩ := He.ba (show (TryK.eicB K (He.ga K "NoText") && _) = true from hy6)
  obtain ⟨hx8, hy8⟩ := He.ba (show (decide (PySem.W.kitOne K (.ref (He.ga K "NoText")) (.ref (He.ga K "NoText")) = some true) && _) = true from hy7)
  obtain ⟨hx9, hy9⟩ := He.ba (show (decide (PySem.W.kitOne K (.ref (He.ga K "NoText")) (.ref (He.ga K "NoInputs")) = some false) && _) = true from hy8)
  obtain ⟨hx10, hy10⟩ := He.ba (show (decide (PySem.W.kitOne K (.ref (He.ga K "NoText")) (.ref (He.ga K "NoPass")) = some false) && _) = true from hy9)
  obtain ⟨hx11, hy11⟩ := He.ba (show (decide (PySem.W.kitOne K (.ref (He.ga K "NoText")) (.ref (He.ga K "NoBoxes")) = some false) && _) = true from hy10)
  have hx12 : (decide (PySem.W.kitOne K (.ref (He.ga K "NoText")) (.type "ValueError") = some true)) = true := hy11
  exact ⟨{ fd_NoText___init__ := fd0, F_NoText___init__ := F0, b2_NoText___init__ := FunD.binds1 F0 2 0 (by simp [He.DefD.dvs, d_NoText___init__]) rfl fun _ _ _ _ _ _ _ us its hu hi => (match us, hu, its, hi with | [_, _], _, [_], _ => ⟨_, rfl, rfl⟩), b_NoText___init__ := FunD.binds1 F0 3 1 (by simp [He.DefD.dvs, d_NoText___init__]) rfl fun _ _ _ _ _ _ _ us its hu hi => (match us, hu, its, hi with | [_, _, _], _, [_], _ => ⟨_, rfl, rfl⟩), fd_is_number := fd1, F_is_number := F1, b_is_number := FunD.bindsN F1 fun _ _ _ _ _ _ us hl => (match us, hl with | [_], _ => rfl), g_is_number := He.glo_ok X G (c.1.fact 0 (f := .glo "is_number") rfl), fd_is_name := fd2, F_is_name := F2, b_is_name := FunD.bindsN F2 fun _ _ _ _ _ _ us hl => (match us, hl with | [_], _ => rfl), g_is_name := He.glo_ok X G (c.1.fact 1 (f := .glo "is_name") rfl), fd_ends_there := fd3, F_ends_there := F3, b_ends_there := FunD.bindsN F3 fun _ _ _ _ _ _ us hl => (match us, hl with | [_], _ => rfl), g_ends_there := He.glo_ok X G (c.1.fact 2 (f := .glo "ends_there") rfl), fd_Scope___init__ := fd4, F_Scope___init__ := F4, b_Scope___init__ := FunD.bindsN F4 fun _ _ _ _ _ _ us hl => (match us, hl with | [_, _, _, _], _ => rfl), me_Scope___init__ := He.meth_ok (c.1.fact 3 (f := .meth "Scope" "__init__") rfl), fd_Scope_is_variable := fd5, F_Scope_is_variable := F5, b_Scope_is_variable := FunD.bindsN F5 fun _ _ _ _ _ _ us hl => (match us, hl with | [_, _], _ => rfl), me_Scope_is_variable := He.meth_ok (c.1.fact 4 (f := .meth "Scope" "is_variable") rfl), fd_Scope_is_row := fd6, F_Scope_is_row := F6, b_Scope_is_row := FunD.bindsN F6 fun _ _ _ _ _ _ us hl => (match us, hl with | [_, _], _ => rfl), me_Scope_is_row := He.meth_ok (c.1.fact 5 (f := .meth "Scope" "is_row") rfl), fd_Scope_is_expression := fd7, F_Scope_is_expression := F7, b2_Scope_is_expression := FunD.binds1 F7 2 0 (by simp [He.DefD.dvs, d_Scope_is_expression]) rfl fun _ _ _ _ _ _ _ us its hu hi => (match us, hu, its, hi with | [_, _], _, [_], _ => ⟨_, rfl, rfl⟩), b_Scope_is_expression := FunD.binds1 F7 3 1 (by simp [He.DefD.dvs, d_Scope_is_expression]) rfl fun _ _ _ _ _ _ _ us its hu hi => (match us, hu, its, hi with | [_, _, _], _, [_], _ => ⟨_, rfl, rfl⟩), me_Scope_is_expression := He.meth_ok (c.1.fact 6 (f := .meth "Scope" "is_expression") rfl), fd_Scope_is_call := fd8, F_Scope_is_call := F8, b_Scope_is_call := FunD.bindsN F8 fun _ _ _ _ _ _ us hl => (match us, hl with | [_, _], _ => rfl), me_Scope_is_call := He.meth_ok (c.1.fact 7 (f := .meth "Scope" "is_call") rfl), fd_Scope_is_plain := fd9, F_Scope_is_plain := F9, b_Scope_is_plain := FunD.bindsN F9 fun _ _ _ _ _ _ us hl => (match us, hl with | [_, _], _ => rfl), me_Scope_is_plain := He.meth_ok (c.1.fact 8 (f := .meth "Scope" "is_plain") rfl), fd_Scope_takes_one := fd10, F_Scope_takes_one := F10, b_Scope_takes_one := FunD.bindsN F10 fun _ _ _ _ _ _ us hl => (match us, hl with | [_], _ => rfl), me_Scope_takes_one := He.meth_ok (c.1.fact 9 (f := .meth "Scope" "takes_one") rfl), fd_are_params := fd11, F_are_params := F11, b_are_params := FunD.bindsN F11 fun _ _ _ _ _ _ us hl => (match us, hl with | [_], _ => rfl), g_are_params := He.glo_ok X G (c.1.fact 10 (f := .glo "are_params") rfl), fd_is_size := fd12, F_is_size := F12, b_is_size := FunD.bindsN F12 fun _ _ _ _ _ _ us hl => (match us, hl with | [_], _ => rfl), g_is_size := He.glo_ok X G (c.1.fact 11 (f := .glo "is_size") rfl), fd_number_by := fd13, F_number_by := F13, b_number_by := FunD.bindsN F13 fun _ _ _ _ _ _ us hl => (match us, hl with | [_], _ => rfl), g_number_by := He.glo_ok X G (c.1.fact 12 (f := .glo "number_by") rfl), fd_expression_at := fd14, F_expression_at := F14, b2_expression_at := FunD.binds1 F14 2 0 (by simp [He.DefD.dvs, d_expression_at]) rfl fun _ _ _ _ _ _ _ us its hu hi => (match us, hu, its, hi with | [_, _], _, [_], _ => ⟨_, rfl, rfl⟩), b_expression_at := FunD.binds1 F14 3 1 (by simp [He.DefD.dvs, d_expression_at]) rfl fun _ _ _ _ _ _ _ us its hu hi => (match us, hu, its, hi with | [_, _, _], _, [_], _ => ⟨_, rfl, rfl⟩), g_expression_at := He.glo_ok X G (c.1.fact 13 (f := .glo "expression_at") rfl), fd_expressions_at := fd15, F_expressions_at := F15, b3_expressions_at := FunD.binds1 F15 3 0 (by simp [He.DefD.dvs, d_expressions_at]) rfl fun _ _ _ _ _ _ _ us its hu hi => (match us, hu, its, hi with | [_, _, _], _, [_], _ => ⟨_, rfl, rfl⟩), b_expressions_at := FunD.binds1 F15 4 1 (by simp [He.DefD.dvs, d_expressions_at]) rfl fun _ _ _ _ _ _ _ us its hu hi => (match us, hu, its, hi with | [_, _, _, _], _, [_], _ => ⟨_, rfl, rfl⟩), g_expressions_at := He.glo_ok X G (c.1.fact 14 (f := .glo "expressions_at") rfl), fd_all_expressions := fd16, F_all_expressions := F16, b1_all_expressions := FunD.binds1 F16 1 0 (by simp [He.DefD.dvs, d_all_expressions]) rfl fun _ _ _ _ _ _ _ us its hu hi => (match us, hu, its, hi with | [_], _, [_], _ => ⟨_, rfl, rfl⟩), b_all_expressions := FunD.binds1 F16 2 1 (by simp [He.DefD.dvs, d_all_expressions]) rfl fun _ _ _ _ _ _ _ us its hu hi => (match us, hu, its, hi with | [_, _], _, [_], _ => ⟨_, rfl, rfl⟩), g_all_expressions := He.glo_ok X G (c.1.fact 15 (f := .glo "all_expressions") rfl), fd_plain_by := fd17, F_plain_by := F17, b_plain_by := FunD.bindsN F17 fun _ _ _ _ _ _ us hl => (match us, hl with | [_], _ => rfl), g_plain_by := He.glo_ok X G (c.1.fact 16 (f := .glo "plain_by") rfl), fd_Open___init__ := fd18, F_Open___init__ := F18, b_Open___init__ := FunD.bindsN F18 fun _ _ _ _ _ _ us hl => (match us, hl with | [_, _, _], _ => rfl), me_Open___init__ := He.meth_ok (c.1.fact 17 (f := .meth "Open" "__init__") rfl), fd_Open_there := fd19, F_Open_there := F19, b_Open_there := FunD.bindsN F19 fun _ _ _ _ _ _ us hl => (match us, hl with | [_], _ => rfl), me_Open_there := He.meth_ok (c.1.fact 18 (f := .meth "Open" "there") rfl), fd_Open_closed := fd20, F_Open_closed := F20, b_Open_closed := FunD.bindsN F20 fun _ _ _ _ _ _ us hl => (match us, hl with | [_], _ => rfl), me_Open_closed := He.meth_ok (c.1.fact 19 (f := .meth "Open" "closed") rfl), fd_Reader___init__ := fd21, F_Reader___init__ := F21, b_Reader___init__ := FunD.bindsN F21 fun _ _ _ _ _ _ us hl => (match us, hl with | [_], _ => rfl), me_Reader___init__ := He.meth_ok (c.1.fact 20 (f := .meth "Reader" "__init__") rfl), fd_Reader_takes := fd22, F_Reader_takes := F22, b_Reader_takes := FunD.bindsN F22 fun _ _ _ _ _ _ us hl => (match us, hl with | [_, _], _ => rfl), me_Reader_takes := He.meth_ok (c.1.fact 21 (f := .meth "Reader" "takes") rfl), fd_Reader_takes_head := fd23, F_Reader_takes_head := F23, b_Reader_takes_head := FunD.bindsN F23 fun _ _ _ _ _ _ us hl => (match us, hl with | [_, _], _ => rfl), me_Reader_takes_head := He.meth_ok (c.1.fact 22 (f := .meth "Reader" "takes_head") rfl), fd_Reader_takes_row := fd24, F_Reader_takes_row := F24, b_Reader_takes_row := FunD.bindsN F24 fun _ _ _ _ _ _ us hl => (match us, hl with | [_, _], _ => rfl), me_Reader_takes_row := He.meth_ok (c.1.fact 23 (f := .meth "Reader" "takes_row") rfl), fd_Reader_takes_end := fd25, F_Reader_takes_end := F25, b_Reader_takes_end := FunD.bindsN F25 fun _ _ _ _ _ _ us hl => (match us, hl with | [_], _ => rfl), me_Reader_takes_end := He.meth_ok (c.1.fact 24 (f := .meth "Reader" "takes_end") rfl), fd_Reader_takes_else := fd26, F_Reader_takes_else := F26, b_Reader_takes_else := FunD.bindsN F26 fun _ _ _ _ _ _ us hl => (match us, hl with | [_], _ => rfl), me_Reader_takes_else := He.meth_ok (c.1.fact 25 (f := .meth "Reader" "takes_else") rfl), fd_Reader_takes_statement := fd27, F_Reader_takes_statement := F27, b_Reader_takes_statement := FunD.bindsN F27 fun _ _ _ _ _ _ us hl => (match us, hl with | [_, _], _ => rfl), me_Reader_takes_statement := He.meth_ok (c.1.fact 26 (f := .meth "Reader" "takes_statement") rfl), fd_read := fd28, F_read := F28, b_read := FunD.bindsN F28 fun _ _ _ _ _ _ us hl => (match us, hl with | [_], _ => rfl), g_read := He.glo_ok X G (c.1.fact 27 (f := .glo "read") rfl), fd__law_cell_at := fd29, F__law_cell_at := F29, b__law_cell_at := FunD.bindsN F29 fun _ _ _ _ _ _ us hl => (match us, hl with | [_, _], _ => rfl), g__law_cell_at := He.glo_ok X G (c.1.fact 28 (f := .glo "_law_cell_at") rfl), fd__law_whole := fd30, F__law_whole := F30, b__law_whole := FunD.bindsN F30 fun _ _ _ _ _ _ us hl => (match us, hl with | [_], _ => rfl), g__law_whole := He.glo_ok X G (c.1.fact 29 (f := .glo "_law_whole") rfl), fd__law_held := fd31, F__law_held := F31, b__law_held := FunD.bindsN F31 fun _ _ _ _ _ _ us hl => (match us, hl with | [_], _ => rfl), g__law_held := He.glo_ok X G (c.1.fact 30 (f := .glo "_law_held") rfl), fd__law_mixed := fd32, F__law_mixed := F32, b__law_mixed := FunD.bindsN F32 fun _ _ _ _ _ _ us hl => (match us, hl with | [_, _, _], _ => rfl), g__law_mixed := He.glo_ok X G (c.1.fact 31 (f := .glo "_law_mixed") rfl), fd__law_kept := fd33, F__law_kept := F33, b__law_kept := FunD.bindsN F33 fun _ _ _ _ _ _ us hl => (match us, hl with | [], _ => rfl), g__law_kept := He.glo_ok X G (c.1.fact 32 (f := .glo "_law_kept") rfl), fd__law_letter := fd34, F__law_letter := F34, b__law_letter := FunD.bindsN F34 fun _ _ _ _ _ _ us hl => (match us, hl with | [_], _ => rfl), g__law_letter := He.glo_ok X G (c.1.fact 33 (f := .glo "_law_letter") rfl), fd__law_names := fd35, F__law_names := F35, b__law_names := FunD.bindsN F35 fun _ _ _ _ _ _ us hl => (match us, hl with | [_], _ => rfl), g__law_names := He.glo_ok X G (c.1.fact 34 (f := .glo "_law_names") rfl), fd__law_number_by := fd36, F__law_number_by := F36, b__law_number_by := FunD.bindsN F36 fun _ _ _ _ _ _ us hl => (match us, hl with | [_, _], _ => rfl), g__law_number_by := He.glo_ok X G (c.1.fact 35 (f := .glo "_law_number_by") rfl), fd__law_within := fd37, F__law_within := F37, b__law_within := FunD.bindsN F37 fun _ _ _ _ _ _ us hl => (match us, hl with | [_, _], _ => rfl), g__law_within := He.glo_ok X G (c.1.fact 36 (f := .glo "_law_within") rfl), fd__law_expression := fd38, F__law_expression := F38, b__law_expression := FunD.bindsN F38 fun _ _ _ _ _ _ us hl => (match us, hl with | [_, _, _], _ => rfl), g__law_expression := He.glo_ok X G (c.1.fact 37 (f := .glo "_law_expression") rfl), fd__law_expressions := fd39, F__law_expressions := F39, b__law_expressions := FunD.bindsN F39 fun _ _ _ _ _ _ us hl => (match us, hl with | [_, _, _], _ => rfl), g__law_expressions := He.glo_ok X G (c.1.fact 38 (f := .glo "_law_expressions") rfl), fd__law_plain := fd40, F__law_plain := F40, b__law_plain := FunD.bindsN F40 fun _ _ _ _ _ _ us hl => (match us, hl with | [_, _], _ => rfl), g__law_plain := He.glo_ok X G (c.1.fact 39 (f := .glo "_law_plain") rfl), fd__law_nest := fd41, F__law_nest := F41, b__law_nest := FunD.bindsN F41 fun _ _ _ _ _ _ us hl => (match us, hl with | [_, _, _, _, _], _ => rfl), g__law_nest := He.glo_ok X G (c.1.fact 40 (f := .glo "_law_nest") rfl), fd__law_body := fd42, F__law_body := F42, b__law_body := FunD.bindsN F42 fun _ _ _ _ _ _ us hl => (match us, hl with | [_, _, _], _ => rfl), g__law_body := He.glo_ok X G (c.1.fact 41 (f := .glo "_law_body") rfl), fd__law_inner_cell := fd43, F__law_inner_cell := F43, b__law_inner_cell := FunD.bindsN F43 fun _ _ _ _ _ _ us hl => (match us, hl with | [_, _, _, _], _ => rfl), g__law_inner_cell := He.glo_ok X G (c.1.fact 42 (f := .glo "_law_inner_cell") rfl), fd__law_program := fd44, F__law_program := F44, b__law_program := FunD.bindsN F44 fun _ _ _ _ _ _ us hl => (match us, hl with | [_, _], _ => rfl), g__law_program := He.glo_ok X G (c.1.fact 43 (f := .glo "_law_program") rfl), fd__law_words_of := fd45, F__law_words_of := F45, b__law_words_of := FunD.bindsN F45 fun _ _ _ _ _ _ us hl => (match us, hl with | [_], _ => rfl), g__law_words_of := He.glo_ok X G (c.1.fact 44 (f := .glo "_law_words_of") rfl), fd__law_statement_lines := fd46, F__law_statement_lines := F46, b__law_statement_lines := FunD.bindsN F46 fun _ _ _ _ _ _ us hl => (match us, hl with | [_], _ => rfl), g__law_statement_lines := He.glo_ok X G (c.1.fact 45 (f := .glo "_law_statement_lines") rfl), fd__law_lines := fd47, F__law_lines := F47, b__law_lines := FunD.bindsN F47 fun _ _ _ _ _ _ us hl => (match us, hl with | [_], _ => rfl), g__law_lines := He.glo_ok X G (c.1.fact 46 (f := .glo "_law_lines") rfl), fd__law_alike := fd48, F__law_alike := F48, b__law_alike := FunD.bindsN F48 fun _ _ _ _ _ _ us hl => (match us, hl with | [_, _], _ => rfl), g__law_alike := He.glo_ok X G (c.1.fact 47 (f := .glo "_law_alike") rfl), fd__law_class := fd49, F__law_class := F49, b__law_class := FunD.bindsN F49 fun _ _ _ _ _ _ us hl => (match us, hl with | [_], _ => rfl), g__law_class := He.glo_ok X G (c.1.fact 48 (f := .glo "_law_class") rfl), fd__law_read := fd50, F__law_read := F50, b__law_read := FunD.bindsN F50 fun _ _ _ _ _ _ us hl => (match us, hl with | [_], _ => rfl), g__law_read := He.glo_ok X G (c.1.fact 49 (f := .glo "_law_read") rfl), fd_law := fd51, F_law := F51, b_law := FunD.bindsN F51 fun _ _ _ _ _ _ us hl => (match us, hl with | [_], _ => rfl), g_law := He.glo_ok X G (c.1.fact 50 (f := .glo "law") rfl), g_WorkError := He.glo_ok X G (c.1.fact 51 (f := .glo "WorkError") rfl), we_WorkError := weB_ok hx2, x_WorkError := He.exc_ok (c.1.fact 52 (f := .exc "WorkError") rfl), g_NoText := He.glo_ok X G (c.1.fact 53 (f := .glo "NoText") rfl), o_NoText := oexB_ok hx3, in_NoText := oinB_ok hx4, xf_NoText := xfB_ok hx5, nf_NoText_row := nofB_ok hx6, g_NoInputs := He.glo_ok X G (c.1.fact 54 (f := .glo "NoInputs") rfl), x_NoInputs := He.exc_ok (c.1.fact 55 (f := .exc "NoInputs") rfl), g_NoPass := He.glo_ok X G (c.1.fact 56 (f := .glo "NoPass") rfl), x_NoPass := He.exc_ok (c.1.fact 57 (f := .exc "NoPass") rfl), g_NoBoxes := He.glo_ok X G (c.1.fact 58 (f := .glo "NoBoxes") rfl), x_NoBoxes := He.exc_ok (c.1.fact 59 (f := .exc "NoBoxes") rfl), g_Scope := He.glo_ok X G (c.1.fact 60 (f := .glo "Scope") rfl), cl_Scope := He.cls_ok (c.1.fact 61 (f := .cls "Scope") rfl), no_Scope_rows := He.noat_ok (c.1.fact 62 (f := .noat "Scope" "rows") rfl), no_Scope_heads := He.noat_ok (c.1.fact 63 (f := .noat "Scope" "heads") rfl), no_Scope_known := He.noat_ok (c.1.fact 64 (f := .noat "Scope" "known") rfl), no_Scope_many := He.noat_ok (c.1.fact 65 (f := .noat "Scope" "many") rfl), mk_Scope := He.mkr_ok (c.1.fact 66 (f := .mkr "Scope") rfl), g_Open := He.glo_ok X G (c.1.fact 67 (f := .glo "Open") rfl), cl_Open := He.cls_ok (c.1.fact 68 (f := .cls "Open") rfl), no_Open_kind := He.noat_ok (c.1.fact 69 (f := .noat "Open" "kind") rfl), no_Open_asked := He.noat_ok (c.1.fact 70 (f := .noat "Open" "asked") rfl), no_Open_first := He.noat_ok (c.1.fact 71 (f := .noat "Open" "first") rfl), no_Open_second := He.noat_ok (c.1.fact 72 (f := .noat "Open" "second") rfl), no_Open_turned := He.noat_ok (c.1.fact 73 (f := .noat "Open" "turned") rfl), mk_Open := He.mkr_ok (c.1.fact 74 (f := .mkr "Open") rfl), g_Reader := He.glo_ok X G (c.1.fact 75 (f := .glo "Reader") rfl), cl_Reader := He.cls_ok (c.1.fact 76 (f := .cls "Reader") rfl), no_Reader_helpers := He.noat_ok (c.1.fact 77 (f := .noat "Reader" "helpers") rfl), no_Reader_heads := He.noat_ok (c.1.fact 78 (f := .noat "Reader" "heads") rfl), no_Reader_head := He.noat_ok (c.1.fact 79 (f := .noat "Reader" "head") rfl), no_Reader_scope := He.noat_ok (c.1.fact 80 (f := .noat "Reader" "scope") rfl), no_Reader_rows := He.noat_ok (c.1.fact 81 (f := .noat "Reader" "rows") rfl), no_Reader_frames := He.noat_ok (c.1.fact 82 (f := .noat "Reader" "frames") rfl), no_Reader_program := He.noat_ok (c.1.fact 83 (f := .noat "Reader" "program") rfl), mk_Reader := He.mkr_ok (c.1.fact 84 (f := .mkr "Reader") rfl), em_NoText_WorkError := He.exm_ok (c.1.fact 85 (f := .exm "NoText" "WorkError" true) rfl), xi_NoText := TryK.eicB_ok hx7, ki_NoText_NoText := of_decide_eq_true hx8, ki_NoText_NoInputs := of_decide_eq_true hx9, ki_NoText_NoPass := of_decide_eq_true hx10, ki_NoText_NoBoxes := of_decide_eq_true hx11, ki_NoText_VE := of_decide_eq_true hx12, m_ValueError := He.free_ok X G (c.1.fact 86 (f := .free "ValueError") rfl), m_all := He.free_ok X G (c.1.fact 87 (f := .free "all") rfl), m_bool := He.free_ok X G (c.1.fact 88 (f := .free "bool") rfl), m_dict := He.free_ok X G (c.1.fact 89 (f := .free "dict") rfl), m_enumerate := He.free_ok X G (c.1.fact 90 (f := .free "enumerate") rfl), m_int := He.free_ok X G (c.1.fact 91 (f := .free "int") rfl), m_isinstance := He.free_ok X G (c.1.fact 92 (f := .free "isinstance") rfl), m_len := He.free_ok X G (c.1.fact 93 (f := .free "len") rfl), m_list := He.free_ok X G (c.1.fact 94 (f := .free "list") rfl), m_max := He.free_ok X G (c.1.fact 95 (f := .free "max") rfl), m_min := He.free_ok X G (c.1.fact 96 (f := .free "min") rfl), m_range := He.free_ok X G (c.1.fact 97 (f := .free "range") rfl), m_set := He.free_ok X G (c.1.fact 98 (f := .free "set") rfl), m_str := He.free_ok X G (c.1.fact 99 (f := .free "str") rfl), m_tuple := He.free_ok X G (c.1.fact 100 (f := .free "tuple") rfl), t_HALF := tk_HALF, c_HALF := ck_HALF, c_WORDS := He.glo_ok X G (c.1.fact 102 (f := .glo "WORDS") rfl), q_WORDS := He.tupB_ok hx0, t_LETTERS := tk_LETTERS, c_LETTERS := ck_LETTERS, t_MOST_LETTERS := tk_MOST_LETTERS, c_MOST_LETTERS := ck_MOST_LETTERS, t_MOST_DEEP := tk_MOST_DEEP, c_MOST_DEEP := ck_MOST_DEEP, t_MOST_STATEMENTS := tk_MOST_STATEMENTS, c_MOST_STATEMENTS := ck_MOST_STATEMENTS, t_MOST_VARIABLES := tk_MOST_VARIABLES, c_MOST_VARIABLES := ck_MOST_VARIABLES, t_MOST_FAIL := tk_MOST_FAIL, c_MOST_FAIL := ck_MOST_FAIL, t_MOST_HELPERS := tk_MOST_HELPERS, c_MOST_HELPERS := ck_MOST_HELPERS, t_MOST_PARAMS := tk_MOST_PARAMS, c_MOST_PARAMS := ck_MOST_PARAMS, t_MOST_ROWS := tk_MOST_ROWS, c_MOST_ROWS := ck_MOST_ROWS, t_MOST_SIZE := tk_MOST_SIZE, c_MOST_SIZE := ck_MOST_SIZE, c_KEPT := He.glo_ok X G (c.1.fact 113 (f := .glo "KEPT") rfl), q_KEPT := He.tupB_ok hx1, t_FIGURES := tk_FIGURES, c_FIGURES := ck_FIGURES, t_MOST_SIGNS := tk_MOST_SIGNS, c_MOST_SIGNS := ck_MOST_SIGNS }⟩
theorem law_binds {K : PySem.W.Frag} {mg : Str → Option Value} (T : Top K mg) (s : Shared) (u : Value) : BindsTo s T.fd_law ⟨[u], []⟩ [("_law_script", u)] :=
  FunD.bindsA (ps := ["_law_script"]) T.F_law (fun _ _ _ _ _ _ us hl => (match us, hl with | [_], _ => rfl)) s [u] rfl
end K08
namespace K08
open PySem PySem.Spec PyProof.Rows L2
theorem law_F (w : World) (mg : Str → Option Value) (fa : Addr) (h : Heap) (Y : hk.says w h) (G : h.Ns mainGlobals mg) (hmg : mg "law" = some (.ref fa)) :
    ∃ (K : PySem.W.Frag) (fd : FuncData) (sp : Sp), K.In h ∧ (∀ (s : Shared) (u : Value), BindsTo s fd ⟨[u], []⟩ [("_law_script", u)]) ∧
        (∀ (H : Hp) (a : Addr) (ns : List Int), ns.length ≤ 63 → (∀ z ∈ ns, Builtin.Int.intBits z ≤ 1048576) → Only H → SqL K H a (ns.map V.int) → sp [.ref a] H (fun v _ => v = .bl true) fun _ _ _ => False) ∧
        ∀ base : Heap, K.In base → base.Ns mainGlobals mg → FnOk (PySem.Challenge.rw_passworks_k08_lacking).prog w K mg base L2.CX0 30 fa fd ["_law_script"] sp := by
  obtain ⟨K, KX, c⟩ := Y
  obtain ⟨T⟩ := top_of KX G c
  obtain rfl : He.ga K "law" = fa := by
    have e := T.g_law.symm.trans hmg
    injection e with e
    injection e
  exact ⟨K, T.fd_law, sp_law K, KX, law_binds T, fun H a ns hl hb _ hS => law_start hl hb hS, fun base _ _ => ok_law T⟩
end K08
open PySem PySem.W PySem.Calls PyProof.Rows
theorem K08.law_nm : (HandSHeadRun.topDef (OpenLaw.row PySem.Challenge.rw_passworks_k08_lacking).prog 62).name = ("law" : PySem.Str) := by kernel_rfl
theorem K08.law_walk : PySem.W.WalkO (view (OpenLaw.row PySem.Challenge.rw_passworks_k08_lacking).prog [62]) K08.lo (XL (view (OpenLaw.row PySem.Challenge.rw_passworks_k08_lacking).prog [62]) []) K08.hk.says (OpenLaw.row PySem.Challenge.rw_passworks_k08_lacking).toRowW (HandSHeadRun.topDef (OpenLaw.row PySem.Challenge.rw_passworks_k08_lacking).prog 62) [] (fun f vs => PySem.call f vs) :=
  K08.walk_bits (l := PySem.Challenge.rw_passworks_k08_lacking) (n := 63) (k := 30) (x := "_law_script") (CX := L2.CX0) rfl (by decide) (by kernel_rfl) ⟨rfl, by decide, by decide⟩ (fun w mg fa h Y G hmg0 => K08.law_F w mg fa h Y G (K08.law_nm ▸ hmg0)) (fun _ _ _ _ z => z)
theorem PySem.Challenge.cw_passworks_k08_lacking_holds : PySem.Challenge.rw_passworks_k08_lacking.Holds := by
  w_on; o_law
  refine HandSHeadRun.head_any (r := OpenLaw.row PySem.Challenge.rw_passworks_k08_lacking) (q := view (OpenLaw.row PySem.Challenge.rw_passworks_k08_lacking).prog [62]) (H := K08.hk) (ob := K08.ob) (M := 4000) (loose := K08.lo) (d := HandSHeadRun.topDef (OpenLaw.row PySem.Challenge.rw_passworks_k08_lacking).prog 62) (kwd := []) K08.ob_eq
    (by kernel_rfl) (fun s => by kernel_rfl) K08.run (by kernel_rfl) (by kernel_rfl) (by kernel_rfl) (by rfl) (by first | assumption | decide +kernel) (by decide +kernel) ⟨rfl, rfl, rfl, rfl, rfl, by decide +kernel⟩ ?hw K08.law_walk
  case hw => w_witness2

