import PyProof.Rows.All
import Wide.All
import OpenK.AllK
import Wide.FinOn
import KE.KStateDown
import KE.KRevSl
import Lean
import HandS.ForMost
import HandS.Wide
import KE.GoesEnum
import HandS.Iter
import HandS.Walk
import HandS.WideBits
import HandS.IsInst
import HandS.Flow
import HandS.Style
import HandS.Exc
import HandS.ExcOwn
import HandS.TryMany
import HandS.TryOnly
import HandS.WordsExc
import HandS.ForExc
import HandS.FStr
import HandS.RaiseMore
import HandS.TupAny
import HandS.Defaults
import HandS.Zip
import HandS.CallSlots
import HandS.TupMul
import HandS.More
import HandS.ExcInit
import HandS.ExcField
import KE.GoesNew
import KE.GoesMore
import KE.KDictZip
import HandS.EndBits
import HandS.Head0
import HandS.Head1
import HandS.Head2
import HandS.HeadEnd
import HandS.HeadHook1
import HandS.HeadHook2
import PySem.Challenge.RW_passworks_k13_helpers
set_option Elab.async false
set_option linter.all false
set_option maxRecDepth 100000
set_option maxHeartbeats 4000000
namespace K13
/-! what the head shows: defs, facts by names, one more Bool -/
open PySem PySem.Spec PyProof.Rows L2
def obsE (n : Nat) (fa : List He.Fa) (fn : List He.DefD) (ex : PySem.W.Frag → Bool) (g : Addr → Option Obj) : He.AlD × Bool :=
  (He.obsD fa fn (He.frG g (He.asD g n ++ [cStatics])), ex (He.frG g (He.asD g n ++ [cStatics])))
def SaysE (fa : List He.Fa) (fn : List He.DefD) (ex : PySem.W.Frag → Bool) (K : PySem.W.Frag) : Prop := He.SaysD fa fn K ∧ ex K = true
def hookE (n : Nat) (fa : List He.Fa) (fn : List He.DefD) (ex : PySem.W.Frag → Bool) : PySem.W.Hook where
  α := He.AlD × Bool
  obs := fun s => obsE n fa fn ex s.heap.get?
  val := fun _ => (He.valD fn, true)
  says := fun _ h => ∃ K : PySem.W.Frag, K.In h ∧ SaysE fa fn ex K
  of := fun _ _ z => ⟨_, He.frG_in, congrArg Prod.fst z, congrArg Prod.snd z⟩
  keeps := fun _ _ _ ⟨K, a, c⟩ k => ⟨K, a.keeps k, c⟩
theorem obsE_eq {n : Nat} {fa : List He.Fa} {fn : List He.DefD} {ex : PySem.W.Frag → Bool} {g : Addr → Option Obj} {s : Shared} (z : ∀ a, g a = s.heap.get? a) :
    obsE n fa fn ex g = (hookE n fa fn ex).obs s := by
  obtain rfl : g = s.heap.get? := funext z
  rfl
/-- a law's end, the bits of the script's numbers told -/
theorem walk_bits {l : PySem.W.OpenLaw} {n k : Nat} {q : Program} {loose : List Str} {XP : (Str → Option Value) → Heap → Prop} {YP : World → Heap → Prop} {d : DefRec} {CX : CXT} {x : Str}
    (hn : l.most = some n) (hn2 : n ≤ sizeLine) (hdf : d.params.defaults = []) (hr : Room k callerA)
    (F : ∀ (w : World) (mg : Str → Option Value) (fa : Addr) (h : Heap), YP w h → h.Ns mainGlobals mg → mg d.name = some (.ref fa) →
      ∃ (K : PySem.W.Frag) (fd : FuncData) (sp : Sp), K.In h ∧ (∀ (s : Shared) (u : Value), BindsTo s fd ⟨[u], []⟩ [(x, u)]) ∧
        (∀ (H : Hp) (a : Addr) (ns : List Int), ns.length ≤ n → (∀ z ∈ ns, Builtin.Int.intBits z ≤ 1048576) → Only H → SqL K H a (ns.map V.int) →
          sp [.ref a] H (fun v _ => v = .bl true) fun _ _ _ => False) ∧
        ∀ base : Heap, K.In base → base.Ns mainGlobals mg → FnOk l.prog w K mg base CX k fa fd [x] sp)
    (hCX : ∀ (H : Hp) (s : Shared) (e : Value) (s' : Shared), CX [] H s (fun _ _ _ => False) e s' → False) :
    PySem.W.WalkO q loose XP YP l.row.toRowW d [] (fun f vs => PySem.call f vs) := by
  apply Att.attach_callB hn hdf
  intro w s0 s1 mg mb fa o pm cd doc a vs ns G Y ho hd hcd hmg hobj hints hlen hbits hg
  obtain ⟨K, fd, sp, KX, hb, hsp, hF⟩ := F w mg fa _ Y G.T.g hmg
  exact law_call KX G.T.g G.T.b G.T.builtins G.T.nolimit hg hobj hints (Nat.le_trans hlen hn2) hr hF hb (fun H z1 z2 => hsp H a ns hlen hbits z1 z2)
    (fun H e s' => hCX H s1 e s')
/-! heaps -/
theorem same_new {H : Hp} {p : Addr} {o : HO} (z : H p = none) : Same H (upd H p o) := by
  intro b x e
  rw [upd_ne (ne_of_none e z)]
  exact e
theorem at_ints {ns : List Int} {i : Int} (h0 : 0 ≤ i) (h1 : i < ns.length) : atI (ns.map V.int) i = some (.int (ns.getD i.toNat 0)) := by
  obtain ⟨j, rfl⟩ := Int.eq_ofNat_of_zero_le h0
  have hj : j < ns.length := by omega
  refine atI_nat ?_
  rw [List.getElem?_map, List.getElem?_eq_getElem hj]
  simp [List.getD, hj]
/-- what stands behind a statement, once for all its ways -/
theorem seq_by {t u : TS} {D : Ends} {σ : L2.St} {H : Hp} (Pv : L2.St → Hp → Prop) (fin : ∀ σ' H', Pv σ' H' → u D σ' H')
    (first : ∀ N : L2.St → Hp → Prop, (∀ σ' H', Pv σ' H' → N σ' H') → t { D with nx := N } σ H) : tSeq t u D σ H := first _ fin
theorem ifs_by {c : TT} {t1 t2 u : TS} {D : Ends} {σ : L2.St} {H : Hp} (Pv : L2.St → Hp → Prop) (fin : ∀ σ' H', Pv σ' H' → u D σ' H')
    (first : ∀ N : L2.St → Hp → Prop, (∀ σ' H', Pv σ' H' → N σ' H') → tIfS c t1 t2 { D with nx := N } σ H) : tSeq (tIfS c t1 t2) u D σ H := first _ fin
theorem ifD {c A B : Prop} [Decidable c] (hc : c) (h : A) : if decide c = true then A else B := by
  rw [if_pos (decide_eq_true hc)]
  exact h
theorem ifN {c A B : Prop} [Decidable c] (hc : ¬ c) (h : B) : if decide c = true then A else B := by
  rw [if_neg (by rw [decide_eq_true_eq]; exact hc)]
  exact h
theorem blD {c : Prop} [Decidable c] {Q : VK} {H : Hp} (hc : c) (h : Q (.bl true) H) : Q (.bl (decide c)) H := by
  rw [decide_eq_true hc]
  exact h
theorem blN {c : Prop} [Decidable c] {Q : VK} {H : Hp} (hc : ¬ c) (h : Q (.bl false) H) : Q (.bl (decide c)) H := by
  rw [decide_eq_false hc]
  exact h
theorem getD_all {α : Type} {Pr : α → Prop} {ns : List α} {d : α} (h : ∀ x ∈ ns, Pr x) {j : Int} (h0 : 0 ≤ j) (h1 : j < ns.length) : Pr (ns.getD j.toNat d) := by
  have hi : j.toNat < ns.length := by omega
  have e : ns.getD j.toNat d = ns[j.toNat]'hi := by simp [List.getD, hi]
  rw [e]
  exact h _ (List.getElem_mem _)
theorem ifNF {c A B : Prop} [Decidable c] (hc : c) (h : B) : if (!decide c) = true then A else B := by
  rw [decide_eq_true hc]
  exact h
theorem ifNT {c A B : Prop} [Decidable c] (hc : ¬ c) (h : A) : if (!decide c) = true then A else B := by
  rw [decide_eq_false hc]
  exact h
theorem at_list {α : Type} {ns : List α} {i : Int} (h0 : 0 ≤ i) (h1 : i < ns.length) : ∃ x ∈ ns, atI ns i = some x := by
  obtain ⟨j, rfl⟩ := Int.eq_ofNat_of_zero_le h0
  have hj : j < ns.length := by omega
  exact ⟨ns[j], List.getElem_mem _, atI_nat (List.getElem?_eq_getElem hj)⟩
theorem ite_share {c A R : Prop} [Decidable c] (leaf : A) (rest : ¬ c → A → R) : if c then A else R := by
  split
  · exact leaf
  · exact rest (by assumption) leaf
theorem ite_else {c A R : Prop} [Decidable c] (leaf : R) (rest : c → R → A) : if c then A else R := by
  split
  · exact rest (by assumption) leaf
  · exact leaf

/-! own rules: // and divmod by any divisor of few bits, a list turned about -/
section
variable {X : Cx}
theorem op_fdivG : OpR X (binaryOp .FloorDiv) (rI (fun _ j => j ≠ 0 ∧ j.natAbs.log2 < 9000) fun i j => .int (i.fdiv j)) :=
  opI fun _ _ _ _ _ _ _ hc q => floordiv_int hc.1 q (.inl (PyProof.noPylong_of_log2 hc.2))
theorem call_divmodG : CallR X (.builtin "divmod") (fun xs H Q => ∃ i j, xs = [.int i, .int j] ∧ (j ≠ 0 ∧ j.natAbs.log2 < 9000) ∧ ∀ p, H p = none → Q (.ref p) (upd H p (.tup [.int (i.fdiv j), .int (i.fmod j)]))) := by
  intro pins s σ H xs us Q I r h
  obtain ⟨i, j, rfl, hc, q⟩ := h
  obtain ⟨u1, u2, rfl, ⟨t1, rfl⟩, ⟨t2, rfl⟩⟩ := vals2 r
  refine divmod_int hc.1 ?_ (.inl (PyProof.noPylong_of_log2 hc.2))
  refine ⟨.ref s.heap.objs.size, _, ?_, rfl, q _ (I.hok.fresh (Nat.le_refl _))⟩
  refine I.laid (fun b o e => Heap.get?_push_of_some _ e) (Nat.le_refl _) ⟨by show 2 ≤ sizeLine; rw [sizeLine_eq]; decide, [.int (i.fdiv j) s.toks, .int (i.fmod j) (s.toks + 1)], .cons ⟨_, rfl⟩ (.cons ⟨_, rfl⟩ .nil), ?_⟩
  exact ⟨_, Heap.get?_push_size s.heap rfl, rfl, 0, rfl⟩
def tRevL (K : PySem.W.Frag) (te tk : TE) : TE := fun σ H Q => te σ H fun x H1 => tk σ H1 fun y H2 => y = .int (-1) ∧ ∃ a xs, x = .ref a ∧ SqL K H2 a xs ∧ ∀ p, H2 p = none → Q (.ref p) (upd H2 p (.lst xs.reverse))
theorem vals_rev : ∀ {xs : List V} {us : List Value}, Vals xs us → Vals xs.reverse us.reverse
  | _, _, .nil => .nil
  | _, _, .cons r t => by
    rw [List.reverse_cons, List.reverse_cons]
    exact (vals_rev t).append (.cons r .nil)
theorem pe_revL {e k : Expr} {te tk : TE} {p2 pos : Pos} (he : PE X e te) (hk : PE X k tk) : PE X (.Subscript e (.Slice none none (some k) p2) pos) (tRevL X.K te tk) := by
  refine ⟨fun pins s σ H Q I h => ?_⟩
  refine Subscript_ (thn (he.run pins s σ H _ I h) fun v s1 ⟨x, H1, I1, r1, q1⟩ => ?_)
  refine wpAny_Slice ?_
  rw [evalPart_none]
  refine wpAny_pure (wpAny_pure ?_)
  rw [evalPart_some]
  refine thn (hk.run pins s1 σ H1 _ I1 q1) fun vk s2 ⟨y, H2, I2, r2, ey, a, xs, ex, hx, q⟩ => ?_
  subst ey ex
  obtain ⟨t, rfl⟩ := r2
  cases r1
  have I4 : Inv X pins σ H2 { s2 with heap := s2.heap.push { cls := .type "slice", data := .fields #[.none, .none, .int (-1) t] } } := I2.kept (t' := s2.toks) fun b ob q => Heap.get?_push_of_some _ q
  obtain ⟨its, r, ht, hz⟩ := I4.list hx
  have hlen := r.length
  refine tail_any (ops := [.ref a, .ref s2.heap.objs.size]) ht.isList.typeIs slot_list_getitem.lookup ?_ (by with_unfolding_all rfl)
  refine wpAny_getItem_list_slice ht.isList (Heap.IsSliceOf.new ..) .none .none (.int (-1) t) (by decide) ?_ (by rw [List.size_toArray]; omega)
  rw [PySem.W.krv_pick]
  refine ⟨.ref _, _, I4.laid (t' := s2.toks) (o := .lst xs.reverse) (fun b ob q => Heap.get?_push_of_some _ q) (Nat.le_refl _) ?_, rfl, q _ (I4.hok.fresh (Nat.le_refl _))⟩
  exact ⟨by rw [List.length_reverse]; exact hz, its.reverse, 0, vals_rev r, Heap.get?_push_size _ rfl⟩
end

/-! what is kept: all but the mutable things of a set -/
def Kp (S : Addr → Prop) (H H' : Hp) : Prop := ∀ b o, H b = some o → (S b → ¬ Mut (some o)) → H' b = some o
theorem Kp.refl {S : Addr → Prop} {H : Hp} : Kp S H H := fun _ _ h _ => h
theorem Kp.trans {S : Addr → Prop} {H H1 H2 : Hp} (a : Kp S H H1) (b : Kp S H1 H2) : Kp S H H2 := fun c o h k => b c o (a c o h k) k
theorem Kp.mono {S S' : Addr → Prop} {H H' : Hp} (a : Kp S H H') (h : ∀ b, S b → S' b) : Kp S' H H' := fun c o e k => a c o e fun z => k (h c z)
theorem Kp.of_same {S : Addr → Prop} {H H' : Hp} (a : Same H H') : Kp S H H' := fun c o e _ => a c o e
theorem Kp.same {S : Addr → Prop} {H H1 H2 : Hp} (a : Same H H1) (b : Kp S H1 H2) (h : ∀ b, S b → H b = none) : Same H H2 := fun c o e => b c o (a c o e) fun z => by
  rw [h c z] at e
  cases e
theorem Kp.upd {S : Addr → Prop} {H : Hp} {p : Addr} {o u : HO} (h : H p = some o) (m : Mut (some o)) (hp : S p) : Kp S H (upd H p u) := fun c x e k => by
  by_cases z : c = p
  · subst z
    rw [h] at e
    cases e
    exact absurd m (k hp)
  · rw [upd_ne z]
    exact e
/-- the script: read, never written -/
def Scr (K : PySem.W.Frag) (H : Hp) (a : Addr) (xs : List V) : Prop := SqL K H a xs ∧ ¬ Mut (H a)
theorem Scr.kp {K : PySem.W.Frag} {S : Addr → Prop} {H H' : Hp} {a : Addr} {xs : List V} (h : Scr K H a xs) (k : Kp S H H') : SqL K H' a xs := by
  obtain ⟨h1, h2⟩ := h
  rcases h1 with (e | ⟨o, e⟩) | e
  · rw [e] at h2
    exact absurd trivial h2
  · exact .inl (.inr ⟨o, k _ _ e fun _ => by rw [← e]; exact h2⟩)
  · exact .inr e
/-! an own rule: a text some times over -/
section
variable {X : Cx}
theorem op_rep_str : OpR X (binaryOp .Mult) (fun x y H Q => ∃ (z : Str) (n : Int), x = .str z ∧ y = .int n ∧ 0 < z.length ∧ z.length ≤ 1000 ∧ 2 ≤ n ∧ n ≤ 1000 ∧ ∀ u : Str, u.length = n.toNat * z.length → Q (.str u) H) := by
  intro pins s σ H x y v u Q I rx ry h
  obtain ⟨z, n, rfl, rfl, z0, z1, n0, n1, q⟩ := h
  obtain ⟨t, rfl⟩ := rx
  obtain ⟨t', rfl⟩ := ry
  have hn : ¬ n < 1 := by omega
  have hq : (n == 1 || z.length == 0) = false := by
    rw [Bool.or_eq_false_iff]
    exact ⟨beq_eq_false_iff_ne.mpr (by omega), beq_eq_false_iff_ne.mpr (by omega)⟩
  have le : ∀ (k : Nat) (acc : Array Nat), ((List.replicate k z.cps).foldl (· ++ ·) acc).size = acc.size + k * z.length := by
    intro k
    induction k with
    | zero => intro acc; simp
    | succ k ih =>
      intro acc
      rw [List.replicate_succ, List.foldl_cons, ih, Array.size_append]
      show acc.size + z.length + k * z.length = acc.size + (k + 1) * z.length
      rw [Nat.add_mul]
      omega
  have l2 : (⟨(List.replicate n.toNat z.cps).foldl (· ++ ·) #[]⟩ : Str).length = n.toNat * z.length := by
    show ((List.replicate n.toNat z.cps).foldl (· ++ ·) #[]).size = _
    rw [le]
    simp
  have mm : z.length * n.toNat ≤ 1000 * 1000 := Nat.mul_le_mul z1 (by omega)
  have tl : Builtin.Str.tooLong (z.length * n.toNat) = false := by
    unfold Builtin.Str.tooLong
    rw [sizeLine_eq]
    exact decide_eq_false (by omega)
  refine PySem.P.mul_str ?_ (fun _ _ => ?_) (fun _ _ => tl) ?_
  · rw [decide_eq_false (by omega), decide_eq_false (by omega)]
    rfl
  · have : (1000 : Int) * n ≤ 2 ^ 63 - 1 := by omega
    have h3 : (1000 : Int) ≤ (2 ^ 63 - 1) / n := (Int.le_ediv_iff_mul_le (by omega)).mpr this
    omega
  · rw [if_neg hn, hq]
    exact ⟨by rw [l2, Nat.mul_comm, sizeLine_eq]; omega, .str _, H, I.tok _, ⟨_, rfl⟩, q _ l2⟩
end
/-- a comprehension over a text's signs -/
theorem lc_str {x : Str} {g : TG} {tt : TT} {te : TE} {vs : List Nat} {σ : L2.St} {H1 : Hp} {D : Addr} {Qd : Hp → Prop} (Pv : Nat → Hp → Prop) (h0 : Pv 0 (upd H1 D (.lst [])))
    (hs : ∀ i c H, x.cps.toList[i]? = some c → Pv i H → g (.str ⟨#[c]⟩) (wipe σ vs) H fun σ2 H2 => wipe σ2 vs = wipe σ vs ∧ tt σ2 H2 fun b H3 =>
      if b = true then te σ2 H3 fun y H4 => ∃ acc, H4 D = some (.lst acc) ∧ acc.length < sizeLine ∧ Pv (i + 1) (upd H4 D (.lst (acc ++ [y]))) else Pv (i + 1) H3) (hd : ∀ H, Pv x.cps.toList.length H → Qd H) :
    ∃ W : Nat → Nat → Hp → Prop, (∃ m, W 0 m (upd H1 D (.lst []))) ∧ ∀ i m H, W i m H →
      ((Its x).stop i H ∧ Qd H) ∨ ((Its x).go i H ∧ ∃ Nx : Hp → Prop, (∀ H', Nx H' → ∃ m', m' < m ∧ W (i + 1) m' H') ∧ ∀ y H', (Its x).yld i H y H' → g y (wipe σ vs) H' fun σ2 H2 => wipe σ2 vs = wipe σ vs ∧ tt σ2 H2 fun b H3 =>
        if b = true then te σ2 H3 fun y H4 => ∃ acc, H4 D = some (.lst acc) ∧ acc.length < sizeLine ∧ Nx (upd H4 D (.lst (acc ++ [y]))) else Nx H3) := by
  have hl : x.cps.toList.length = x.cps.size := by simp
  refine ⟨fun i m H => m = x.cps.size - i ∧ i ≤ x.cps.size ∧ Pv i H, ⟨x.cps.size, by simp, Nat.zero_le _, h0⟩, ?_⟩
  rintro i m H ⟨rfl, hi, p⟩
  by_cases hlt : i < x.cps.size
  · refine .inr ⟨hlt, Pv (i + 1), fun H' p' => ⟨x.cps.size - (i + 1), by omega, rfl, hlt, p'⟩, fun y H' hy => ?_⟩
    obtain ⟨rfl, c, hc, rfl⟩ := hy
    exact hs i c H' (by rw [Array.getElem?_toList]; exact hc) p
  · refine .inl ⟨Nat.le_of_not_lt hlt, hd H ?_⟩
    rw [hl, show x.cps.size = i by omega]
    exact p
section
variable {X : Cx}
theorem call_str_any : CallR X (.type "str") (fun xs H Q => (∃ i : Int, xs = [.int i] ∧ i.natAbs.log2 < 1920 ∧ Q (.str (toString i)) H) ∨ ∃ a : Str, xs = [.str a] ∧ Q (.str a) H) := by
  intro pins s σ H xs us Q I r h
  rcases h with h | h
  · exact call_str_int pins s σ H xs us Q I r h
  · exact SkE.call_str_str pins s σ H xs us Q I r h
end

/-! rules for use within a comprehension: the written part named -/
section
variable {X : Cx} {K : PySem.W.Frag}
theorem ix_listK (h : X.K = K) : IxR X (rIxL K) := by subst h; exact ix_list
theorem ix_tupK (h : X.K = K) : IxR X (rIxT K) := by subst h; exact ix_tup
theorem op_in_seqK (h : X.K = K) : OpR X (compareOp .In) (rIn K false) := by subst h; exact op_in_seq
theorem op_notIn_seqK (h : X.K = K) : OpR X (compareOp .NotIn) (rIn K true) := by subst h; exact op_notIn_seq
theorem call_isiK (h : X.K = K) : CallR X (.builtin "isinstance") (rIsi K) := by subst h; exact call_isi
theorem call_len_seqK (h : X.K = K) : CallR X (.builtin "len") (fun xs H Q => ∃ p ys, xs = [.ref p] ∧ (SqL K H p ys ∨ SqT K H p ys) ∧ Q (.int ys.length) H) := by subst h; exact call_len_seq
end

/-! an own exception class over an own one: what the head shows of it; Base.__init__(self, ..) -/
section
open PySem.W
def oexB (K : PySem.W.Frag) (C : Addr) : Bool := (match K.lookup C with
  | some ⟨.type "type", _, .cls cd, sl⟩ => (match cd.mro, sl.toList with
    | .ref C' :: bm, [_, _, _, _, some (.builtin n), _] => C' == C && n == "ValueError.__new__" && !cd.hasDel && cd.hasDict && PySem.HandSPX.refsVE bm
    | _, _ => false)
  | _ => false) && (decide (PySem.W.findIn K (.ref C) "__setattr__" = some (some (.builtin "object.__setattr__"))) && (decide (PySem.W.subIn K (.ref C) (.type "BaseException") = some true) && (decide (PySem.W.typeIn K (.ref C) = some (.type "type")) && PySem.W.keepIn K (.ref C))))
theorem oexB_ok {K : PySem.W.Frag} {C : Addr} (h : oexB K C = true) : OexC K C := by
  obtain ⟨h1, h⟩ := Bool.and_eq_true_iff.mp h
  obtain ⟨h2, h⟩ := Bool.and_eq_true_iff.mp h
  obtain ⟨h3, h⟩ := Bool.and_eq_true_iff.mp h
  obtain ⟨h4, h5⟩ := Bool.and_eq_true_iff.mp h
  refine ⟨?_, of_decide_eq_true h2, of_decide_eq_true h3, of_decide_eq_true h4, h5⟩
  split at h1
  · rename_i dd cd sl ho
    split at h1
    · rename_i C' bm k0 k1 k2 k3 n k5 hm hs
      simp only [Bool.and_eq_true, beq_iff_eq, Bool.not_eq_true'] at h1
      obtain ⟨⟨⟨⟨rfl, rfl⟩, hdl⟩, hdc⟩, hb⟩ := h1
      obtain ⟨nm, bs, mro, ns, qn, hd, sn, sb, ab, col, del⟩ := cd
      dsimp only at hm hdl hdc
      subst hm hdl hdc
      obtain ⟨sl⟩ := sl
      dsimp only at hs
      subst hs
      exact ⟨nm, qn, ns, bs, bm, sn, sb, ab, col, dd, k0, k1, k2, k3, k5, ho, hb⟩
    · cases h1
  · cases h1
/-- W.__init__ is ValueError's -/
structure WeI (K : PySem.W.Frag) (W : Addr) : Prop where
  rd : PySem.W.readsIn K W (.type "type") = true
  ga : PySem.W.specialIn K (.ref W) "__getattribute__" = some (some (.builtin "type.__getattribute__"))
  at_ : PySem.W.findCls K (.ref W) (.type "type") "__init__" = some (.val (.builtin "ValueError.__init__"))
def weB (K : PySem.W.Frag) (W : Addr) : Bool := PySem.W.readsIn K W (.type "type") && (decide (PySem.W.specialIn K (.ref W) "__getattribute__" = some (some (.builtin "type.__getattribute__"))) && (match PySem.W.findCls K (.ref W) (.type "type") "__init__" with
  | some (.val v) => decide (v = .builtin "ValueError.__init__")
  | _ => false))
theorem weB_ok {K : PySem.W.Frag} {W : Addr} (h : weB K W = true) : WeI K W := by
  obtain ⟨h1, h⟩ := Bool.and_eq_true_iff.mp h
  obtain ⟨h2, h3⟩ := Bool.and_eq_true_iff.mp h
  refine ⟨h1, of_decide_eq_true h2, ?_⟩
  split at h3
  · rename_i v e
    rw [e, of_decide_eq_true h3]
  · cases h3
/-- __init__ of C is the def at f -/
structure OIn (K : PySem.W.Frag) (C f : Addr) : Prop where
  iC : PySem.W.findIn K (.ref C) "__init__" = some (some (.ref f))
  tI : PySem.W.typeIn K (.ref f) = some (.type "function")
def oinB (K : PySem.W.Frag) (C f : Addr) : Bool := decide (PySem.W.findIn K (.ref C) "__init__" = some (some (.ref f))) && decide (PySem.W.typeIn K (.ref f) = some (.type "function"))
theorem oinB_ok {K : PySem.W.Frag} {C f : Addr} (h : oinB K C f = true) : OIn K C f := by
  obtain ⟨h1, h2⟩ := Bool.and_eq_true_iff.mp h
  exact ⟨of_decide_eq_true h1, of_decide_eq_true h2⟩
def nofB (K : PySem.W.Frag) (C : Addr) (f : Str) : Bool := decide (PySem.W.findIn K (.ref C) f = some none)
theorem nofB_ok {K : PySem.W.Frag} {C : Addr} {f : Str} (h : nofB K C f = true) : PySem.W.findIn K (.ref C) f = some none := of_decide_eq_true h
end
section
variable {X : Cx} {e : Expr} {es : List Expr} {ta : TA} {x : Str} {W : Addr} {p1 p2 pos : Pos}
theorem pe_weinit {pl : Sem Bool} (hg : Gl X x) (hm : X.mg x = some (.ref W)) (T : WeI X.K W) (ha : PA X (e :: es) ta) (hdb : (x == ("__debug__" : Str)) = false := by decide)
    (hc : eval (.Call (.Attribute (.Name x p1) "__init__" p2) (e :: es) [] pos) X.env = (do
      let ov ← eval (.Name x p1) X.env
      standAt p2.atName
      let (f, first) ← holding [ov] (getMethod ov "__init__" pl)
      callWith pos f first (backTo pos (starEach (e :: es) X.env)) (backToKw pos (keywordEach [] X.env))) := by rfl)
    (he : starEach (e :: es) X.env = (false, eval e X.env) :: starEach es X.env := by rfl) (hpl : (backTo pos (starEach es X.env)).any (·.1) = false := by rfl) :
    PE X (.Call (.Attribute (.Name x p1) "__init__" p2) (e :: es) [] pos) (tVeI X.K ta) := by
  refine ⟨fun pins s σ H Q I h => ?_⟩
  refine PySem.W.methodCall_KW (ld_glob I hg hm ?_ hdb) hc
  refine PySem.W.method_cls I.kIn T.ga (PySem.W.cls_value I.kIn T.rd T.at_ (by decide +kernel) ?_)
  show wpAny _ _ (callWith pos (Value.builtin "ValueError.__init__") [] (backTo pos (starEach (e :: es) X.env)) []) _ _ _
  refine PyProof.Rows.callWith_method1 (thn (ha.run pos pins _ σ H _ (I.tok _) h) fun us s1 ⟨vs, H1, I1, r1, a, C, ws, ev, hl, T, ea, q⟩ => ?_) he hpl
  subst ev
  cases r1 with
  | @cons _ u0 _ ur ra rw' =>
    obtain rfl : u0 = Value.ref a := ra
    have hlen : ur.length ≤ sizeLine := by
      rw [← Paired.length rw', sizeLine_eq]
      omega
    exact oinit_ok T I1 ea hlen fun s' J => ⟨.non, H1, J, rfl, q⟩
end

def topS (i : Nat) : Stmt := PySem.Challenge.pw_passworks_k13_helpers.main.body.getD i (.Pass ⟨0, 0, 0, 0⟩)
abbrev s_wrapped : Stmt := topS 6
abbrev N_wrapped : List Str := ["n"]
theorem sc_wrapped : FnScope N_wrapped ["n"] (defScope s_wrapped) := ⟨rfl, rfl, rfl, by decide +kernel, rfl, by decide +kernel, by decide +kernel⟩
abbrev s_divided : Stmt := topS 7
abbrev N_divided : List Str := ["word", "one", "other", "quotient", "rest"]
theorem sc_divided : FnScope N_divided ["word", "one", "other"] (defScope s_divided) := ⟨rfl, rfl, rfl, by decide +kernel, rfl, by decide +kernel, by decide +kernel⟩
abbrev s_reckoned : Stmt := topS 8
abbrev N_reckoned : List Str := ["word", "one", "other"]
theorem sc_reckoned : FnScope N_reckoned ["word", "one", "other"] (defScope s_reckoned) := ⟨rfl, rfl, rfl, by decide +kernel, rfl, by decide +kernel, by decide +kernel⟩
abbrev s_denied : Stmt := topS 9
abbrev N_denied : List Str := ["n"]
theorem sc_denied : FnScope N_denied ["n"] (defScope s_denied) := ⟨rfl, rfl, rfl, by decide +kernel, rfl, by decide +kernel, by decide +kernel⟩
abbrev s_Faulted___init__ : Stmt := inClass (topS 11) 0
abbrev N_Faulted___init__ : List Str := ["self", "word"]
theorem sc_Faulted___init__ : FnScope N_Faulted___init__ ["self", "word"] (defScope s_Faulted___init__) := ⟨rfl, rfl, rfl, by decide +kernel, rfl, by decide +kernel, by decide +kernel⟩
abbrev s_Room___init__ : Stmt := inClass (topS 13) 0
abbrev N_Room___init__ : List Str := ["self", "params", "inputs", "rows", "name", "number", "size"]
theorem sc_Room___init__ : FnScope N_Room___init__ ["self", "params", "inputs", "rows"] (defScope s_Room___init__) := ⟨rfl, rfl, rfl, by decide +kernel, rfl, by decide +kernel, by decide +kernel⟩
abbrev s_Room_row_with : Stmt := inClass (topS 13) 1
abbrev N_Room_row_with : List Str := ["self", "name", "place"]
theorem sc_Room_row_with : FnScope N_Room_row_with ["self", "name", "place"] (defScope s_Room_row_with) := ⟨rfl, rfl, rfl, by decide +kernel, rfl, by decide +kernel, by decide +kernel⟩
abbrev s_Room_worth : Stmt := inClass (topS 13) 2
abbrev N_Room_worth : List Str := ["self", "e", "place", "one", "found"]
theorem sc_Room_worth : FnScope N_Room_worth ["self", "e"] (defScope s_Room_worth) := ⟨rfl, rfl, rfl, by decide +kernel, rfl, by decide +kernel, by decide +kernel⟩
abbrev s_Play___init__ : Stmt := inClass (topS 14) 0
abbrev N_Play___init__ : List Str := ["self", "helpers", "most", "name", "params", "body"]
theorem sc_Play___init__ : FnScope N_Play___init__ ["self", "helpers", "most"] (defScope s_Play___init__) := ⟨rfl, rfl, rfl, by decide +kernel, rfl, by decide +kernel, by decide +kernel⟩
abbrev s_Play_take_turn : Stmt := inClass (topS 14) 1
abbrev N_Play_take_turn : List Str := ["self"]
theorem sc_Play_take_turn : FnScope N_Play_take_turn ["self"] (defScope s_Play_take_turn) := ⟨rfl, rfl, rfl, by decide +kernel, rfl, by decide +kernel, by decide +kernel⟩
abbrev s_Play_play_body : Stmt := inClass (topS 14) 2
abbrev N_Play_play_body : List Str := ["self", "body", "room", "found"]
theorem sc_Play_play_body : FnScope N_Play_play_body ["self", "body", "room"] (defScope s_Play_play_body) := ⟨rfl, rfl, rfl, by decide +kernel, rfl, by decide +kernel, by decide +kernel⟩
abbrev s_Play_do_all : Stmt := inClass (topS 14) 3
abbrev N_Play_do_all : List Str := ["self", "body", "room", "statement", "found"]
theorem sc_Play_do_all : FnScope N_Play_do_all ["self", "body", "room"] (defScope s_Play_do_all) := ⟨rfl, rfl, rfl, by decide +kernel, rfl, by decide +kernel, by decide +kernel⟩
abbrev s_Play_do_one : Stmt := inClass (topS 14) 4
abbrev N_Play_do_one : List Str := ["self", "statement", "room", "word", "number", "place", "params", "body", "inputs", "e"]
theorem sc_Play_do_one : FnScope N_Play_do_one ["self", "statement", "room"] (defScope s_Play_do_one) := ⟨rfl, rfl, rfl, by decide +kernel, rfl, by decide +kernel, by decide +kernel⟩
abbrev s_Play_again : Stmt := inClass (topS 14) 5
abbrev N_Play_again : List Str := ["self", "statement", "room", "found"]
theorem sc_Play_again : FnScope N_Play_again ["self", "statement", "room"] (defScope s_Play_again) := ⟨rfl, rfl, rfl, by decide +kernel, rfl, by decide +kernel, by decide +kernel⟩
abbrev s_is_input : Stmt := topS 15
abbrev N_is_input : List Str := ["thing"]
theorem sc_is_input : FnScope N_is_input ["thing"] (defScope s_is_input) := ⟨rfl, rfl, rfl, by decide +kernel, rfl, by decide +kernel, by decide +kernel⟩
abbrev s_need_inputs : Stmt := topS 16
abbrev N_need_inputs : List Str := ["inputs", "many", "one"]
theorem sc_need_inputs : FnScope N_need_inputs ["inputs", "many"] (defScope s_need_inputs) := ⟨rfl, rfl, rfl, by decide +kernel, rfl, by decide +kernel, by decide +kernel⟩
abbrev s_played : Stmt := topS 17
abbrev N_played : List Str := ["program", "inputs", "most", "play", "end", "e"]
theorem sc_played : FnScope N_played ["program", "inputs", "most"] (defScope s_played) := ⟨rfl, rfl, rfl, by decide +kernel, rfl, by decide +kernel, by decide +kernel⟩
abbrev s__law_cell_at : Stmt := topS 19
abbrev N__law_cell_at : List Str := ["_law_script", "_law_k"]
theorem sc__law_cell_at : FnScope N__law_cell_at ["_law_script", "_law_k"] (defScope s__law_cell_at) := ⟨rfl, rfl, rfl, by decide +kernel, rfl, by decide +kernel, by decide +kernel⟩
abbrev s__law_whole : Stmt := topS 20
abbrev N__law_whole : List Str := ["_law_found"]
theorem sc__law_whole : FnScope N__law_whole ["_law_found"] (defScope s__law_whole) := ⟨rfl, rfl, rfl, by decide +kernel, rfl, by decide +kernel, by decide +kernel⟩
abbrev s__law_held : Stmt := topS 21
abbrev N__law_held : List Str := ["_law_cell"]
theorem sc__law_held : FnScope N__law_held ["_law_cell"] (defScope s__law_held) := ⟨rfl, rfl, rfl, by decide +kernel, rfl, by decide +kernel, by decide +kernel⟩
abbrev s__law_mixed : Stmt := topS 22
abbrev N__law_mixed : List Str := ["_law_cell", "_law_k", "_law_many", "_law_left", "_law_some", "_law_made"]
theorem sc__law_mixed : FnScope N__law_mixed ["_law_cell", "_law_k", "_law_many"] (defScope s__law_mixed) := ⟨rfl, rfl, rfl, by decide +kernel, rfl, by decide +kernel, by decide +kernel⟩
abbrev s__law_kept : Stmt := topS 23
abbrev N__law_kept : List Str := ["_law_words"]
theorem sc__law_kept : FnScope N__law_kept [] (defScope s__law_kept) := ⟨rfl, rfl, rfl, by decide +kernel, rfl, by decide +kernel, by decide +kernel⟩
abbrev s__law_letter : Stmt := topS 24
abbrev N__law_letter : List Str := ["_law_k"]
theorem sc__law_letter : FnScope N__law_letter ["_law_k"] (defScope s__law_letter) := ⟨rfl, rfl, rfl, by decide +kernel, rfl, by decide +kernel, by decide +kernel⟩
abbrev s__law_names : Stmt := topS 25
abbrev N__law_names : List Str := ["_law_cell", "_law_near", "_law_at", "_law_root", "_law_names_here", "_law_start", "_law_k", "_law_letter_here", "_law_name", "_law_j"]
theorem sc__law_names : FnScope N__law_names ["_law_cell"] (defScope s__law_names) := ⟨rfl, rfl, rfl, by decide +kernel, rfl, by decide +kernel, by decide +kernel⟩
abbrev s__law_number_by : Stmt := topS 26
abbrev N__law_number_by : List Str := ["_law_cell", "_law_k", "_law_some"]
theorem sc__law_number_by : FnScope N__law_number_by ["_law_cell", "_law_k"] (defScope s__law_number_by) := ⟨rfl, rfl, rfl, by decide +kernel, rfl, by decide +kernel, by decide +kernel⟩
abbrev s__law_within : Stmt := topS 27
abbrev N__law_within : List Str := ["_law_cell", "_law_k"]
theorem sc__law_within : FnScope N__law_within ["_law_cell", "_law_k"] (defScope s__law_within) := ⟨rfl, rfl, rfl, by decide +kernel, rfl, by decide +kernel, by decide +kernel⟩
abbrev s__law_expression : Stmt := topS 28
abbrev N__law_expression : List Str := ["_law_cell", "_law_deep", "_law_info", "_law_names_here", "_law_rows", "_law_kind", "_law_one_here", "_law_word", "_law_other"]
theorem sc__law_expression : FnScope N__law_expression ["_law_cell", "_law_deep", "_law_info"] (defScope s__law_expression) := ⟨rfl, rfl, rfl, by decide +kernel, rfl, by decide +kernel, by decide +kernel⟩
abbrev s__law_alike : Stmt := topS 29
abbrev N__law_alike : List Str := ["_law_found", "_law_due", "_law_k"]
theorem sc__law_alike : FnScope N__law_alike ["_law_found", "_law_due"] (defScope s__law_alike) := ⟨rfl, rfl, rfl, by decide +kernel, rfl, by decide +kernel, by decide +kernel⟩
abbrev s__law_worth : Stmt := topS 30
abbrev N__law_worth : List Str := ["_law_e", "_law_room", "_law_one_here", "_law_other", "_law_left"]
theorem sc__law_worth : FnScope N__law_worth ["_law_e", "_law_room"] (defScope s__law_worth) := ⟨rfl, rfl, rfl, by decide +kernel, rfl, by decide +kernel, by decide +kernel⟩
abbrev s__law_done : Stmt := topS 31
abbrev N__law_done : List Str := ["_law_body", "_law_room", "_law_play", "_law_s", "_law_end"]
theorem sc__law_done : FnScope N__law_done ["_law_body", "_law_room", "_law_play"] (defScope s__law_done) := ⟨rfl, rfl, rfl, by decide +kernel, rfl, by decide +kernel, by decide +kernel⟩
abbrev s__law_again : Stmt := topS 32
abbrev N__law_again : List Str := ["_law_s", "_law_room", "_law_play", "_law_asked", "_law_end"]
theorem sc__law_again : FnScope N__law_again ["_law_s", "_law_room", "_law_play"] (defScope s__law_again) := ⟨rfl, rfl, rfl, by decide +kernel, rfl, by decide +kernel, by decide +kernel⟩
abbrev s__law_one : Stmt := topS 33
abbrev N__law_one : List Str := ["_law_s", "_law_room", "_law_play", "_law_pieces", "_law_worths", "_law_e"]
theorem sc__law_one : FnScope N__law_one ["_law_s", "_law_room", "_law_play"] (defScope s__law_one) := ⟨rfl, rfl, rfl, by decide +kernel, rfl, by decide +kernel, by decide +kernel⟩
abbrev s__law_called : Stmt := topS 34
abbrev N__law_called : List Str := ["_law_s", "_law_worths", "_law_room", "_law_play", "_law_params", "_law_body", "_law_end"]
theorem sc__law_called : FnScope N__law_called ["_law_s", "_law_worths", "_law_room", "_law_play"] (defScope s__law_called) := ⟨rfl, rfl, rfl, by decide +kernel, rfl, by decide +kernel, by decide +kernel⟩
abbrev s__law_played : Stmt := topS 35
abbrev N__law_played : List Str := ["_law_program", "_law_inputs", "_law_most", "_law_play", "_law_name", "_law_params", "_law_body", "_law_room", "_law_size", "_law_end"]
theorem sc__law_played : FnScope N__law_played ["_law_program", "_law_inputs", "_law_most"] (defScope s__law_played) := ⟨rfl, rfl, rfl, by decide +kernel, rfl, by decide +kernel, by decide +kernel⟩
abbrev s__law_is_end : Stmt := topS 36
abbrev N__law_is_end : List Str := ["_law_found", "_law_due"]
theorem sc__law_is_end : FnScope N__law_is_end ["_law_found", "_law_due"] (defScope s__law_is_end) := ⟨rfl, rfl, rfl, by decide +kernel, rfl, by decide +kernel, by decide +kernel⟩
abbrev s__law_helper : Stmt := topS 37
abbrev N__law_helper : List Str := ["_law_cell", "_law_k", "_law_names_here", "_law_heads", "_law_params", "_law_info", "_law_body", "_law_head", "_law_es", "_law_way", "_law_some", "_law_j"]
theorem sc__law_helper : FnScope N__law_helper ["_law_cell", "_law_k", "_law_names_here", "_law_heads"] (defScope s__law_helper) := ⟨rfl, rfl, rfl, by decide +kernel, rfl, by decide +kernel, by decide +kernel⟩
abbrev s_law : Stmt := topS 38
abbrev N_law : List Str := ["_law_script", "_law_cell", "_law_names_here", "_law_helpers", "_law_heads", "_law_k", "_law_info", "_law_body", "_law_more", "_law_es", "_law_program", "_law_inputs", "_law_due", "_law_at", "_law_most", "_law_j"]
theorem sc_law : FnScope N_law ["_law_script"] (defScope s_law) := ⟨rfl, rfl, rfl, by decide +kernel, rfl, by decide +kernel, by decide +kernel⟩
abbrev FnP (K : PySem.W.Frag) (x : Str) (st : Stmt) (f : Addr) (fd : FuncData) : Prop := FunD K x x (defArgs st) (defBody st) (defScope st) [] [] f fd
abbrev FnM (K : PySem.W.Frag) (x q : Str) (st : Stmt) (f : Addr) (fd : FuncData) : Prop := FunD K x q (defArgs st) (defBody st) (defScope st) [] [] f fd
structure Top (K : PySem.W.Frag) (mg : Str → Option Value) where
  fd_wrapped : FuncData
  F_wrapped : FnP K "wrapped" s_wrapped (He.ga K "wrapped") fd_wrapped
  b_wrapped : Binds K fd_wrapped ["n"] []
  g_wrapped : mg "wrapped" = some (.ref (He.ga K "wrapped"))
  fd_divided : FuncData
  F_divided : FnP K "divided" s_divided (He.ga K "divided") fd_divided
  b_divided : Binds K fd_divided ["word", "one", "other"] []
  g_divided : mg "divided" = some (.ref (He.ga K "divided"))
  fd_reckoned : FuncData
  F_reckoned : FnP K "reckoned" s_reckoned (He.ga K "reckoned") fd_reckoned
  b_reckoned : Binds K fd_reckoned ["word", "one", "other"] []
  g_reckoned : mg "reckoned" = some (.ref (He.ga K "reckoned"))
  fd_denied : FuncData
  F_denied : FnP K "denied" s_denied (He.ga K "denied") fd_denied
  b_denied : Binds K fd_denied ["n"] []
  g_denied : mg "denied" = some (.ref (He.ga K "denied"))
  fd_Faulted___init__ : FuncData
  F_Faulted___init__ : FnM K "__init__" "Faulted.__init__" s_Faulted___init__ (He.ma K (He.ga K "Faulted") "__init__") fd_Faulted___init__
  b_Faulted___init__ : Binds K fd_Faulted___init__ ["self", "word"] []
  fd_Room___init__ : FuncData
  F_Room___init__ : FnM K "__init__" "Room.__init__" s_Room___init__ (He.ma K (He.ga K "Room") "__init__") fd_Room___init__
  me_Room___init__ : Meth K (He.ga K "Room") "__init__" (He.ma K (He.ga K "Room") "__init__")
  b_Room___init__ : Binds K fd_Room___init__ ["self", "params", "inputs", "rows"] []
  fd_Room_row_with : FuncData
  F_Room_row_with : FnM K "row_with" "Room.row_with" s_Room_row_with (He.ma K (He.ga K "Room") "row_with") fd_Room_row_with
  me_Room_row_with : Meth K (He.ga K "Room") "row_with" (He.ma K (He.ga K "Room") "row_with")
  b_Room_row_with : Binds K fd_Room_row_with ["self", "name", "place"] []
  fd_Room_worth : FuncData
  F_Room_worth : FnM K "worth" "Room.worth" s_Room_worth (He.ma K (He.ga K "Room") "worth") fd_Room_worth
  me_Room_worth : Meth K (He.ga K "Room") "worth" (He.ma K (He.ga K "Room") "worth")
  b_Room_worth : Binds K fd_Room_worth ["self", "e"] []
  fd_Play___init__ : FuncData
  F_Play___init__ : FnM K "__init__" "Play.__init__" s_Play___init__ (He.ma K (He.ga K "Play") "__init__") fd_Play___init__
  me_Play___init__ : Meth K (He.ga K "Play") "__init__" (He.ma K (He.ga K "Play") "__init__")
  b_Play___init__ : Binds K fd_Play___init__ ["self", "helpers", "most"] []
  fd_Play_take_turn : FuncData
  F_Play_take_turn : FnM K "take_turn" "Play.take_turn" s_Play_take_turn (He.ma K (He.ga K "Play") "take_turn") fd_Play_take_turn
  me_Play_take_turn : Meth K (He.ga K "Play") "take_turn" (He.ma K (He.ga K "Play") "take_turn")
  b_Play_take_turn : Binds K fd_Play_take_turn ["self"] []
  fd_Play_play_body : FuncData
  F_Play_play_body : FnM K "play_body" "Play.play_body" s_Play_play_body (He.ma K (He.ga K "Play") "play_body") fd_Play_play_body
  me_Play_play_body : Meth K (He.ga K "Play") "play_body" (He.ma K (He.ga K "Play") "play_body")
  b_Play_play_body : Binds K fd_Play_play_body ["self", "body", "room"] []
  fd_Play_do_all : FuncData
  F_Play_do_all : FnM K "do_all" "Play.do_all" s_Play_do_all (He.ma K (He.ga K "Play") "do_all") fd_Play_do_all
  me_Play_do_all : Meth K (He.ga K "Play") "do_all" (He.ma K (He.ga K "Play") "do_all")
  b_Play_do_all : Binds K fd_Play_do_all ["self", "body", "room"] []
  fd_Play_do_one : FuncData
  F_Play_do_one : FnM K "do_one" "Play.do_one" s_Play_do_one (He.ma K (He.ga K "Play") "do_one") fd_Play_do_one
  me_Play_do_one : Meth K (He.ga K "Play") "do_one" (He.ma K (He.ga K "Play") "do_one")
  b_Play_do_one : Binds K fd_Play_do_one ["self", "statement", "room"] []
  fd_Play_again : FuncData
  F_Play_again : FnM K "again" "Play.again" s_Play_again (He.ma K (He.ga K "Play") "again") fd_Play_again
  me_Play_again : Meth K (He.ga K "Play") "again" (He.ma K (He.ga K "Play") "again")
  b_Play_again : Binds K fd_Play_again ["self", "statement", "room"] []
  fd_is_input : FuncData
  F_is_input : FnP K "is_input" s_is_input (He.ga K "is_input") fd_is_input
  b_is_input : Binds K fd_is_input ["thing"] []
  g_is_input : mg "is_input" = some (.ref (He.ga K "is_input"))
  fd_need_inputs : FuncData
  F_need_inputs : FnP K "need_inputs" s_need_inputs (He.ga K "need_inputs") fd_need_inputs
  b_need_inputs : Binds K fd_need_inputs ["inputs", "many"] []
  g_need_inputs : mg "need_inputs" = some (.ref (He.ga K "need_inputs"))
  fd_played : FuncData
  F_played : FunD K "played" "played" (defArgs s_played) (defBody s_played) (defScope s_played) [.int 1000] [] (He.ga K "played") fd_played
  b2_played : ∃ ds, Vals [.int 1000] ds ∧ Binds K fd_played ["program", "inputs", "most"] ds
  b_played : ∃ ds, Vals [] ds ∧ Binds K fd_played ["program", "inputs", "most"] ds
  g_played : mg "played" = some (.ref (He.ga K "played"))
  fd__law_cell_at : FuncData
  F__law_cell_at : FnP K "_law_cell_at" s__law_cell_at (He.ga K "_law_cell_at") fd__law_cell_at
  b__law_cell_at : Binds K fd__law_cell_at ["_law_script", "_law_k"] []
  g__law_cell_at : mg "_law_cell_at" = some (.ref (He.ga K "_law_cell_at"))
  fd__law_whole : FuncData
  F__law_whole : FnP K "_law_whole" s__law_whole (He.ga K "_law_whole") fd__law_whole
  b__law_whole : Binds K fd__law_whole ["_law_found"] []
  g__law_whole : mg "_law_whole" = some (.ref (He.ga K "_law_whole"))
  fd__law_held : FuncData
  F__law_held : FnP K "_law_held" s__law_held (He.ga K "_law_held") fd__law_held
  b__law_held : Binds K fd__law_held ["_law_cell"] []
  g__law_held : mg "_law_held" = some (.ref (He.ga K "_law_held"))
  fd__law_mixed : FuncData
  F__law_mixed : FnP K "_law_mixed" s__law_mixed (He.ga K "_law_mixed") fd__law_mixed
  b__law_mixed : Binds K fd__law_mixed ["_law_cell", "_law_k", "_law_many"] []
  g__law_mixed : mg "_law_mixed" = some (.ref (He.ga K "_law_mixed"))
  fd__law_kept : FuncData
  F__law_kept : FnP K "_law_kept" s__law_kept (He.ga K "_law_kept") fd__law_kept
  b__law_kept : Binds K fd__law_kept [] []
  g__law_kept : mg "_law_kept" = some (.ref (He.ga K "_law_kept"))
  fd__law_letter : FuncData
  F__law_letter : FnP K "_law_letter" s__law_letter (He.ga K "_law_letter") fd__law_letter
  b__law_letter : Binds K fd__law_letter ["_law_k"] []
  g__law_letter : mg "_law_letter" = some (.ref (He.ga K "_law_letter"))
  fd__law_names : FuncData
  F__law_names : FnP K "_law_names" s__law_names (He.ga K "_law_names") fd__law_names
  b__law_names : Binds K fd__law_names ["_law_cell"] []
  g__law_names : mg "_law_names" = some (.ref (He.ga K "_law_names"))
  fd__law_number_by : FuncData
  F__law_number_by : FnP K "_law_number_by" s__law_number_by (He.ga K "_law_number_by") fd__law_number_by
  b__law_number_by : Binds K fd__law_number_by ["_law_cell", "_law_k"] []
  g__law_number_by : mg "_law_number_by" = some (.ref (He.ga K "_law_number_by"))
  fd__law_within : FuncData
  F__law_within : FnP K "_law_within" s__law_within (He.ga K "_law_within") fd__law_within
  b__law_within : Binds K fd__law_within ["_law_cell", "_law_k"] []
  g__law_within : mg "_law_within" = some (.ref (He.ga K "_law_within"))
  fd__law_expression : FuncData
  F__law_expression : FnP K "_law_expression" s__law_expression (He.ga K "_law_expression") fd__law_expression
  b__law_expression : Binds K fd__law_expression ["_law_cell", "_law_deep", "_law_info"] []
  g__law_expression : mg "_law_expression" = some (.ref (He.ga K "_law_expression"))
  fd__law_alike : FuncData
  F__law_alike : FnP K "_law_alike" s__law_alike (He.ga K "_law_alike") fd__law_alike
  b__law_alike : Binds K fd__law_alike ["_law_found", "_law_due"] []
  g__law_alike : mg "_law_alike" = some (.ref (He.ga K "_law_alike"))
  fd__law_worth : FuncData
  F__law_worth : FnP K "_law_worth" s__law_worth (He.ga K "_law_worth") fd__law_worth
  b__law_worth : Binds K fd__law_worth ["_law_e", "_law_room"] []
  g__law_worth : mg "_law_worth" = some (.ref (He.ga K "_law_worth"))
  fd__law_done : FuncData
  F__law_done : FnP K "_law_done" s__law_done (He.ga K "_law_done") fd__law_done
  b__law_done : Binds K fd__law_done ["_law_body", "_law_room", "_law_play"] []
  g__law_done : mg "_law_done" = some (.ref (He.ga K "_law_done"))
  fd__law_again : FuncData
  F__law_again : FnP K "_law_again" s__law_again (He.ga K "_law_again") fd__law_again
  b__law_again : Binds K fd__law_again ["_law_s", "_law_room", "_law_play"] []
  g__law_again : mg "_law_again" = some (.ref (He.ga K "_law_again"))
  fd__law_one : FuncData
  F__law_one : FnP K "_law_one" s__law_one (He.ga K "_law_one") fd__law_one
  b__law_one : Binds K fd__law_one ["_law_s", "_law_room", "_law_play"] []
  g__law_one : mg "_law_one" = some (.ref (He.ga K "_law_one"))
  fd__law_called : FuncData
  F__law_called : FnP K "_law_called" s__law_called (He.ga K "_law_called") fd__law_called
  b__law_called : Binds K fd__law_called ["_law_s", "_law_worths", "_law_room", "_law_play"] []
  g__law_called : mg "_law_called" = some (.ref (He.ga K "_law_called"))
  fd__law_played : FuncData
  F__law_played : FnP K "_law_played" s__law_played (He.ga K "_law_played") fd__law_played
  b__law_played : Binds K fd__law_played ["_law_program", "_law_inputs", "_law_most"] []
  g__law_played : mg "_law_played" = some (.ref (He.ga K "_law_played"))
  fd__law_is_end : FuncData
  F__law_is_end : FnP K "_law_is_end" s__law_is_end (He.ga K "_law_is_end") fd__law_is_end
  b__law_is_end : Binds K fd__law_is_end ["_law_found", "_law_due"] []
  g__law_is_end : mg "_law_is_end" = some (.ref (He.ga K "_law_is_end"))
  fd__law_helper : FuncData
  F__law_helper : FnP K "_law_helper" s__law_helper (He.ga K "_law_helper") fd__law_helper
  b__law_helper : Binds K fd__law_helper ["_law_cell", "_law_k", "_law_names_here", "_law_heads"] []
  g__law_helper : mg "_law_helper" = some (.ref (He.ga K "_law_helper"))
  fd_law : FuncData
  F_law : FnP K "law" s_law (He.ga K "law") fd_law
  b_law : Binds K fd_law ["_law_script"] []
  g_law : mg "law" = some (.ref (He.ga K "law"))
  g_WorkError : mg "WorkError" = some (.ref (He.ga K "WorkError"))
  we_WorkError : WeI K (He.ga K "WorkError")
  x_WorkError : PySem.W.excIn K (He.ga K "WorkError") He.veBase "ValueError.__new__" = true ∧ PySem.W.keepIn K (.ref (He.ga K "WorkError")) = true ∧ PySem.W.subIn K (.ref (He.ga K "WorkError")) (.type "BaseException") = some true ∧ PySem.W.typeIn K (.ref (He.ga K "WorkError")) = some (.type "type")
  g_NoInputs : mg "NoInputs" = some (.ref (He.ga K "NoInputs"))
  x_NoInputs : PySem.W.excIn K (He.ga K "NoInputs") He.veBase "ValueError.__new__" = true ∧ PySem.W.keepIn K (.ref (He.ga K "NoInputs")) = true ∧ PySem.W.subIn K (.ref (He.ga K "NoInputs")) (.type "BaseException") = some true ∧ PySem.W.typeIn K (.ref (He.ga K "NoInputs")) = some (.type "type")
  g_Faulted : mg "Faulted" = some (.ref (He.ga K "Faulted"))
  o_Faulted : OexC K (He.ga K "Faulted")
  in_Faulted : OIn K (He.ga K "Faulted") (He.ma K (He.ga K "Faulted") "__init__")
  xf_Faulted : XfC K (He.ga K "Faulted")
  nf_Faulted_word : PySem.W.findIn K (.ref (He.ga K "Faulted")) "word" = some none
  g_Unended : mg "Unended" = some (.ref (He.ga K "Unended"))
  x_Unended : PySem.W.excIn K (He.ga K "Unended") He.veBase "ValueError.__new__" = true ∧ PySem.W.keepIn K (.ref (He.ga K "Unended")) = true ∧ PySem.W.subIn K (.ref (He.ga K "Unended")) (.type "BaseException") = some true ∧ PySem.W.typeIn K (.ref (He.ga K "Unended")) = some (.type "type")
  g_Room : mg "Room" = some (.ref (He.ga K "Room"))
  cl_Room : Cls K (He.ga K "Room")
  no_Room_known : NoAttr K (He.ga K "Room") "known"
  no_Room_rows : NoAttr K (He.ga K "Room") "rows"
  mk_Room : Mk K (He.ga K "Room") (He.ma K (He.ga K "Room") "__init__")
  g_Play : mg "Play" = some (.ref (He.ga K "Play"))
  cl_Play : Cls K (He.ga K "Play")
  no_Play_helpers : NoAttr K (He.ga K "Play") "helpers"
  no_Play_left : NoAttr K (He.ga K "Play") "left"
  no_Play_told : NoAttr K (He.ga K "Play") "told"
  mk_Play : Mk K (He.ga K "Play") (He.ma K (He.ga K "Play") "__init__")
  em_Unended_Unended : PySem.W.exmOne K (.ref (He.ga K "Unended")) (.ref (He.ga K "Unended")) = some true
  em_Unended_Faulted : PySem.W.exmOne K (.ref (He.ga K "Unended")) (.ref (He.ga K "Faulted")) = some false
  em_Faulted_Faulted : PySem.W.exmOne K (.ref (He.ga K "Faulted")) (.ref (He.ga K "Faulted")) = some true
  m_all : mg "all" = none
  m_bool : mg "bool" = none
  m_dict : mg "dict" = none
  m_divmod : mg "divmod" = none
  m_int : mg "int" = none
  m_isinstance : mg "isinstance" = none
  m_len : mg "len" = none
  m_list : mg "list" = none
  m_max : mg "max" = none
  m_range : mg "range" = none
  m_str : mg "str" = none
  m_tuple : mg "tuple" = none
  m_zip : mg "zip" = none
  t_HALF : Tok
  c_HALF : mg "HALF" = some (.int 2147483648 t_HALF)
  t_ROUND : Tok
  c_ROUND : mg "ROUND" = some (.int 4294967296 t_ROUND)
/-! data without lists stays -/
mutual
def nLd : PyData → Bool
  | .list _ => false
  | .dict _ => false
  | .tuple xs => nLs xs
  | .none => true
  | .bool _ => true
  | .int _ => true
  | .str _ => true
def nLs : List PyData → Bool
  | [] => true
  | x :: r => nLd x && nLs r
end
theorem sqT_kp {K : PySem.W.Frag} {S : Addr → Prop} {H H' : Hp} {a : Addr} {xs : List V} (k : Kp S H H') (h : SqT K H a xs) : SqT K H' a xs := by
  rcases h with (e | ⟨o, e⟩) | e
  · exact .inl (.inl (k _ _ e fun _ z => z))
  · exact .inl (.inr ⟨o, k _ _ e fun _ z => z⟩)
  · exact .inr e
mutual
theorem dp_kp {K : PySem.W.Frag} {S : Addr → Prop} {H H' : Hp} (k : Kp S H H') : ∀ (d : PyData) (v : V), nLd d = true → Dp K H v d → Dp K H' v d
  | .none, _, _, h => by cases h; exact .non
  | .bool b, _, _, h => by cases h; exact .bl b
  | .int i, _, _, h => by cases h; exact .int i
  | .str x, _, _, h => by cases h; exact .str x
  | .list _, _, n, _ => by cases n
  | .dict _, _, n, _ => by cases n
  | .tuple ds, _, n, h => by
    cases h with
    | tup hs ha => exact .tup (sqT_kp k hs) (dpAll_kp k ds _ n ha)
theorem dpAll_kp {K : PySem.W.Frag} {S : Addr → Prop} {H H' : Hp} (k : Kp S H H') : ∀ (ds : List PyData) (vs : List V), nLs ds = true → DpAll K H vs ds → DpAll K H' vs ds
  | [], _, _, h => by cases h; exact .nil
  | d :: ds, _, n, h => by
    have n2 : nLd d = true ∧ nLs ds = true := by
      unfold nLs at n
      exact Bool.and_eq_true_iff.mp n
    cases h with
    | cons h1 h2 => exact .cons (dp_kp k d _ n2.1 h1) (dpAll_kp k ds _ n2.2 h2)
end
section
variable {K : PySem.W.Frag} {H : Hp}
theorem dp_tup {v : V} {ds : List PyData} (h : Dp K H v (.tuple ds)) : ∃ a xs, v = .ref a ∧ SqT K H a xs ∧ DpAll K H xs ds := by
  cases h with
  | tup h1 h2 => exact ⟨_, _, rfl, h1, h2⟩
theorem dp_str {v : V} {z : Str} (h : Dp K H v (.str z)) : v = .str z := by cases h; rfl
theorem dp_int {v : V} {z : Int} (h : Dp K H v (.int z)) : v = .int z := by cases h; rfl
theorem dpAll_cons {vs : List V} {d : PyData} {ds : List PyData} (h : DpAll K H vs (d :: ds)) : ∃ v r, vs = v :: r ∧ Dp K H v d ∧ DpAll K H r ds := by
  cases h with
  | cons h1 h2 => exact ⟨_, _, rfl, h1, h2⟩
theorem dpAll_nil {vs : List V} (h : DpAll K H vs []) : vs = [] := by cases h; rfl
theorem dpAll_len : ∀ {vs : List V} {ds : List PyData}, DpAll K H vs ds → vs.length = ds.length
  | _, _, .nil => rfl
  | _, _, .cons _ t => by rw [List.length_cons, List.length_cons, dpAll_len t]
theorem dpAll_get : ∀ {vs : List V} {ds : List PyData} {i : Nat} {d : PyData}, DpAll K H vs ds → ds[i]? = some d → ∃ v, vs[i]? = some v ∧ Dp K H v d
  | _, _, _, _, .nil, e => by simp at e
  | _, _, 0, _, .cons h _, e => ⟨_, rfl, (Option.some.inj e) ▸ h⟩
  | _, _, i + 1, _, .cons _ t, e => dpAll_get (i := i) t e
theorem dpAll_getV : ∀ {vs : List V} {ds : List PyData} {i : Nat} {v : V}, DpAll K H vs ds → vs[i]? = some v → ∃ d, ds[i]? = some d ∧ Dp K H v d
  | _, _, _, _, .nil, e => by simp at e
  | _, _, 0, _, .cons h _, e => ⟨_, rfl, (Option.some.inj e) ▸ h⟩
  | _, _, i + 1, _, .cons _ t, e => dpAll_getV (i := i) t e
theorem dpAll_app : ∀ {vs ws : List V} {ds es : List PyData}, DpAll K H vs ds → DpAll K H ws es → DpAll K H (vs ++ ws) (ds ++ es)
  | _, _, _, _, .nil, s => s
  | _, _, _, _, .cons h t, s => .cons h (dpAll_app t s)
theorem dpAll_take : ∀ {vs : List V} {ds : List PyData} (n : Nat), DpAll K H vs ds → DpAll K H (vs.take n) (ds.take n)
  | _, _, 0, _ => .nil
  | _, _, _ + 1, .nil => .nil
  | _, _, n + 1, .cons h t => .cons h (dpAll_take n t)
theorem dpAll_drop : ∀ {vs : List V} {ds : List PyData} (n : Nat), DpAll K H vs ds → DpAll K H (vs.drop n) (ds.drop n)
  | _, _, 0, h => h
  | _, _, _ + 1, .nil => .nil
  | _, _, n + 1, .cons _ t => dpAll_drop n t
theorem dpAll_strs : ∀ {vs : List V} {zs : List Str}, DpAll K H vs (zs.map PyData.str) → vs = zs.map V.str
  | _, [], h => dpAll_nil h
  | _, z :: zs, h => by
    obtain ⟨v, r, rfl, h1, h2⟩ := dpAll_cons h
    rw [dp_str h1, dpAll_strs h2]
    rfl
theorem strs_dpAll : ∀ (zs : List Str), DpAll K H (zs.map V.str) (zs.map PyData.str)
  | [] => .nil
  | z :: zs => .cons (.str z) (strs_dpAll zs)
end

section
variable {P : Program} {w : World} {K : PySem.W.Frag} {mg : Str → Option Value} {base : Heap}
def isB : PyData → Bool
  | .bool _ => true
  | _ => false
def tyS : PyData → String
  | .none => "NoneType"
  | .bool _ => "bool"
  | .int _ => "int"
  | .str _ => "str"
  | .list _ => "list"
  | .tuple _ => "tuple"
  | .dict _ => "dict"
theorem ty_lst {H : Hp} {a : Addr} {xs : List V} (h : SqL K H a xs) : TyX K H (.ref a) (.type "list") := by
  rcases h with (h | ⟨ob, h⟩) | ⟨o, its, n, hk, hc, _⟩
  · exact .base (.lst h)
  · exact .base (.frz h)
  · exact .kList hk hc
theorem ty_tup {H : Hp} {a : Addr} {xs : List V} (h : SqT K H a xs) : TyX K H (.ref a) (.type "tuple") := by
  rcases h with (h | ⟨ob, h⟩) | ⟨o, its, n, hk, hc, _⟩
  · exact .base (.tup h)
  · exact .fTuple h
  · exact .kTuple hk hc
theorem dp_ty {H : Hp} {v : V} {d : PyData} (h : Dp K H v d) : TyX K H v (.type (tyS d)) := by
  cases h with
  | non => exact .base .non
  | bl b => exact .base (.bl b)
  | int i => exact .base (.int i)
  | str x => exact .base (.str x)
  | lst h _ => exact ty_lst h
  | tup h _ => exact ty_tup h
def isI : PyData → Bool
  | .int _ => true
  | .bool _ => true
  | _ => false
def isT : PyData → Bool
  | .tuple _ => true
  | _ => false
def isS : PyData → Bool
  | .str _ => true
  | _ => false
theorem kit_int : ∀ d : PyData, PySem.W.kitOne K (.type (tyS d)) (.type "int") = some (isI d)
  | .none => kit_ty (a := "NoneType") (b := "int") (r := false) (by decide +kernel)
  | .bool _ => kit_ty (a := "bool") (b := "int") (r := true) (by decide +kernel)
  | .int _ => kit_ty (a := "int") (b := "int") (r := true) (by decide +kernel)
  | .str _ => kit_ty (a := "str") (b := "int") (r := false) (by decide +kernel)
  | .list _ => kit_ty (a := "list") (b := "int") (r := false) (by decide +kernel)
  | .tuple _ => kit_ty (a := "tuple") (b := "int") (r := false) (by decide +kernel)
  | .dict _ => kit_ty (a := "dict") (b := "int") (r := false) (by decide +kernel)
theorem kit_bool : ∀ d : PyData, PySem.W.kitOne K (.type (tyS d)) (.type "bool") = some (isB d)
  | .none => kit_ty (a := "NoneType") (b := "bool") (r := false) (by decide +kernel)
  | .bool _ => kit_ty (a := "bool") (b := "bool") (r := true) (by decide +kernel)
  | .int _ => kit_ty (a := "int") (b := "bool") (r := false) (by decide +kernel)
  | .str _ => kit_ty (a := "str") (b := "bool") (r := false) (by decide +kernel)
  | .list _ => kit_ty (a := "list") (b := "bool") (r := false) (by decide +kernel)
  | .tuple _ => kit_ty (a := "tuple") (b := "bool") (r := false) (by decide +kernel)
  | .dict _ => kit_ty (a := "dict") (b := "bool") (r := false) (by decide +kernel)
theorem kit_tup : ∀ d : PyData, PySem.W.kitOne K (.type (tyS d)) (.type "tuple") = some (isT d)
  | .none => kit_ty (a := "NoneType") (b := "tuple") (r := false) (by decide +kernel)
  | .bool _ => kit_ty (a := "bool") (b := "tuple") (r := false) (by decide +kernel)
  | .int _ => kit_ty (a := "int") (b := "tuple") (r := false) (by decide +kernel)
  | .str _ => kit_ty (a := "str") (b := "tuple") (r := false) (by decide +kernel)
  | .list _ => kit_ty (a := "list") (b := "tuple") (r := false) (by decide +kernel)
  | .tuple _ => kit_ty (a := "tuple") (b := "tuple") (r := true) (by decide +kernel)
  | .dict _ => kit_ty (a := "dict") (b := "tuple") (r := false) (by decide +kernel)
theorem kit_str : ∀ d : PyData, PySem.W.kitOne K (.type (tyS d)) (.type "str") = some (isS d)
  | .none => kit_ty (a := "NoneType") (b := "str") (r := false) (by decide +kernel)
  | .bool _ => kit_ty (a := "bool") (b := "str") (r := false) (by decide +kernel)
  | .int _ => kit_ty (a := "int") (b := "str") (r := false) (by decide +kernel)
  | .str _ => kit_ty (a := "str") (b := "str") (r := true) (by decide +kernel)
  | .list _ => kit_ty (a := "list") (b := "str") (r := false) (by decide +kernel)
  | .tuple _ => kit_ty (a := "tuple") (b := "str") (r := false) (by decide +kernel)
  | .dict _ => kit_ty (a := "dict") (b := "str") (r := false) (by decide +kernel)
mutual
theorem dp_sm {H H' : Hp} (k : Same H H') : ∀ {v : V} {d : PyData}, Dp K H v d → Dp K H' v d
  | _, _, .non => .non
  | _, _, .bl b => .bl b
  | _, _, .int i => .int i
  | _, _, .str x => .str x
  | _, _, .lst h da => .lst (k.seq h) (dpAll_sm k da)
  | _, _, .tup h da => .tup (sqT_kp (Kp.of_same (S := fun _ => False) k) h) (dpAll_sm k da)
theorem dpAll_sm {H H' : Hp} (k : Same H H') : ∀ {vs : List V} {ds : List PyData}, DpAll K H vs ds → DpAll K H' vs ds
  | _, _, .nil => .nil
  | _, _, .cons h r => .cons (dp_sm k h) (dpAll_sm k r)
end
/-- a value != a shallow one -/
def rNeE (K : PySem.W.Frag) : R2 := fun x y H Q => ∃ d e, Dp K H x d ∧ Dp K H y e ∧ d.canLay0 = true ∧ e.canLay0 = true ∧ e.depth ≤ 64 ∧ Q (.bl (!PyData.eqv d e)) H
theorem op_neE {X : Cx} (hu : X.A.units + 64 < cLine) : OpR X (compareOp .NotEq) (rNeE X.K) := by
  intro pins s σ H x y v u Q I rx ry h
  obtain ⟨d, e, hd, he, sd, se, de, q⟩ := h
  obtain ⟨as, r1⟩ := Dp.reads I d x v hd rx
  obtain ⟨bs, r2⟩ := Dp.reads I e y u he ry
  refine SeqAt.compareNe_reads r1 r2 sd se ?_ ⟨.bl _, H, I, rfl, q⟩
  have : min d.depth e.depth ≤ e.depth := Nat.min_le_right _ _
  omega
theorem in_strs {z : Str} {ws : List Str} : inV (.str z) (ws.map V.str) = decide (z ∈ ws) := by
  unfold inV
  rw [List.any_map]
  by_cases h : z ∈ ws
  · rw [decide_eq_true h]
    refine List.any_eq_true.mpr ⟨z, h, ?_⟩
    show (z == z) = true
    exact beq_self_eq_true z
  · rw [decide_eq_false h]
    refine List.any_eq_false.mpr fun x hx e => h ?_
    have e2 : (x == z) = true := e
    rw [← eq_of_beq e2]
    exact hx
theorem ifT {c : Bool} {A B : Prop} (hc : c = true) (h : A) : if c = true then A else B := by rw [if_pos hc]; exact h
theorem ifF {c : Bool} {A B : Prop} (hc : c = false) (h : B) : if c = true then A else B := by rw [if_neg (by rw [hc]; exact Bool.false_ne_true)]; exact h
theorem cd {i j : Int} (h0 : 0 < j) (h1 : j < 2 ^ 64) : CDivW i j := wide_div (b := 64) h0 (by omega) (by decide) (by decide)
theorem at_ints2 {ns : List Int} {i : Int} (h0 : 0 ≤ i) (h1 : i < ns.length) : ∃ z, atI (ns.map V.int) i = some (.int z) := ⟨_, at_ints h0 h1⟩
theorem strs_at {zs : List Str} {i : Int} (h0 : 0 ≤ i) (h1 : i < zs.length) : ∃ z ∈ zs, atI (zs.map V.str) i = some (.str z) := by
  obtain ⟨x, hx, e⟩ := at_list (ns := zs.map V.str) h0 (by rw [List.length_map]; exact h1)
  obtain ⟨z, hz, rfl⟩ := List.mem_map.mp hx
  exact ⟨z, hz, e⟩
def Scp (K : PySem.W.Frag) (H : Hp) (a : Addr) (ns : List Int) : Prop := ns.length ≤ 63 ∧ (∀ z ∈ ns, Builtin.Int.intBits z ≤ 1048576) ∧ SqL K H a (ns.map V.int)
theorem Scp.sm {H H' : Hp} {a : Addr} {ns : List Int} (h : Scp K H a ns) (k : Same H H') : Scp K H' a ns := ⟨h.1, h.2.1, k.seq h.2.2⟩
theorem same_upd {H H' : Hp} {D : Addr} {o : HO} (s : Same H H') (n : H D = none) : Same H (upd H' D o) := fun b x hb => by
  rw [upd_ne (ne_of_none hb n)]
  exact s _ _ hb
theorem tail_no {x : V} {zs : List V} : ¬ (HT.sIx (x :: zs).length 0 (some 1) = 0 ∧ HT.sIx (x :: zs).length (x :: zs).length none = (x :: zs).length) := by
  have e1 : HT.sIx (x :: zs).length 0 (some 1) = 1 := by
    show min 1 (zs.length + 1) = 1
    omega
  rw [e1]
  exact fun z => absurd z.1 (by decide)
theorem cut_tail {x : V} {zs : List V} : cutV (x :: zs) (some 1) none = zs := by
  have e1 : HT.sIx (x :: zs).length 0 (some 1) = 1 := by
    show min 1 (zs.length + 1) = 1
    omega
  have e2 : HT.sIx (x :: zs).length (x :: zs).length none = zs.length + 1 := rfl
  unfold cutV
  rw [e1, e2]
  simp
theorem sqT_sm {H H' : Hp} {a : Addr} {xs : List V} (s : Same H H') (h : SqT K H a xs) : SqT K H' a xs := sqT_kp (Kp.of_same (S := fun _ => False) s) h
end

/-! programs, in plain words -/
inductive Ex where
  | num (n : Int)
  | nam (x : Str)
  | at_ (r : Str) (e : Ex)
  | no (e : Ex)
  | op (w : Str) (a b : Ex)
inductive Sm where
  | set (x : Str) (e : Ex)
  | put (r : Str) (e f : Ex)
  | tell (e : Ex)
  | ite (e : Ex) (ys ns : List Sm)
  | loop (e : Ex) (b : List Sm)
  | call (x h : Str) (es : List Ex)
  | fail (n : Int)
  | give (e : Ex)
def Ex.d : Ex → PyData
  | .num n => .tuple [.str "number", .int n]
  | .nam x => .tuple [.str "name", .str x]
  | .at_ r e => .tuple [.str "at", .str r, e.d]
  | .no e => .tuple [.str "not", e.d]
  | .op w a b => .tuple [.str w, a.d, b.d]
mutual
def Sm.d : Sm → PyData
  | .set x e => .tuple [.str "set", .str x, e.d]
  | .put r e f => .tuple [.str "put", .str r, e.d, f.d]
  | .tell e => .tuple [.str "tell", e.d]
  | .ite e ys ns => .tuple [.str "if", e.d, .tuple (Sm.ds ys), .tuple (Sm.ds ns)]
  | .loop e b => .tuple [.str "while", e.d, .tuple (Sm.ds b)]
  | .call x h es => .tuple [.str "call", .str x, .str h, .tuple (es.map Ex.d)]
  | .fail n => .tuple [.str "fail", .int n]
  | .give e => .tuple [.str "give", e.d]
def Sm.ds : List Sm → List PyData
  | [] => []
  | s :: r => s.d :: Sm.ds r
end
theorem Sm.ds_eq : ∀ l : List Sm, Sm.ds l = l.map Sm.d
  | [] => by simp [Sm.ds]
  | s :: r => by rw [Sm.ds, Sm.ds_eq r]; rfl
theorem noLs_all {l : List PyData} (h : ∀ x ∈ l, nLd x = true) : nLs l = true := by
  induction l with
  | nil => rfl
  | cons x r ih =>
    unfold nLs
    rw [h x (List.mem_cons_self ..), ih fun y hy => h y (List.mem_cons_of_mem _ hy)]
    rfl
theorem Ex.noL : ∀ e : Ex, nLd e.d = true
  | .num _ => rfl
  | .nam _ => rfl
  | .at_ r e => by simp [Ex.d, nLd, nLs, Ex.noL e]
  | .no e => by simp [Ex.d, nLd, nLs, Ex.noL e]
  | .op w a b => by simp [Ex.d, nLd, nLs, Ex.noL a, Ex.noL b]
mutual
theorem Sm.noL : ∀ s : Sm, nLd s.d = true
  | .set x e => by simp [Sm.d, nLd, nLs, Ex.noL e]
  | .put r e f => by simp [Sm.d, nLd, nLs, Ex.noL e, Ex.noL f]
  | .tell e => by simp [Sm.d, nLd, nLs, Ex.noL e]
  | .ite e ys ns => by simp [Sm.d, nLd, nLs, Ex.noL e, Sm.noLs ys, Sm.noLs ns]
  | .loop e b => by simp [Sm.d, nLd, nLs, Ex.noL e, Sm.noLs b]
  | .call x h es => by
    have : nLs (es.map Ex.d) = true := noLs_all fun x hx => by
      obtain ⟨e, _, rfl⟩ := List.mem_map.mp hx
      exact Ex.noL e
    simp [Sm.d, nLd, nLs, this]
  | .fail n => rfl
  | .give e => by simp [Sm.d, nLd, nLs, Ex.noL e]
theorem Sm.noLs : ∀ l : List Sm, nLs (Sm.ds l) = true
  | [] => by simp [Sm.ds, nLs]
  | s :: r => by simp [Sm.ds, nLs, Sm.noL s, Sm.noLs r]
end

section
variable {P : Program} {w : World} {K : PySem.W.Frag} {mg : Str → Option Value} {base : Heap}
def wr (n : Int) : Int := (n + 2147483648) % 4294967296 - 2147483648
def sp_wrapped : Sp := fun vs H Q _ => ∃ n : Int, vs = [.int n] ∧ Q (.int (wr n)) H
theorem ok_wrapped (T : Top K mg) : FnOk P w K mg base CX0 1 (He.ga K "wrapped") T.fd_wrapped ["n"] sp_wrapped := by
  refine T.F_wrapped.ok sc_wrapped (fun vs H Q E h => ?_) (fun cdv A outer s H vs Q E hr h => ?_)
  · obtain ⟨n, rfl, _⟩ := h
    rfl
  · obtain ⟨n, rfl, q⟩ := h
    refine ⟨_, PSs.nox (pss_one (ps_ret (pe_op op_sub (pe_op op_mod (pe_op op_add (pv 0) (pe_glob (v := .int 2147483648) (by rfl) T.c_HALF ⟨_, rfl⟩)) (pe_glob (v := .int 4294967296) (by rfl) T.c_ROUND ⟨_, rfl⟩)) (pe_glob (v := .int 2147483648) (by rfl) T.c_HALF ⟨_, rfl⟩)))), ?_⟩
    exact ⟨_, rfl, _, _, rfl, rfl, _, _, rfl, rfl, (by show (0 : Int) < 4294967296; decide), _, _, rfl, rfl, q⟩
/-- a number of 32 bits -/
def In32 (a : Int) : Prop := -2147483648 ≤ a ∧ a ≤ 2147483647
theorem log_small {j : Int} (h : -2147483648 ≤ j ∧ j ≤ 2147483648) : j.natAbs.log2 < 9000 := by
  have h1 : j.natAbs < 2 ^ 40 := by omega
  have := PySem.Flt.log2_lt_of (show 0 < 40 by decide) h1
  omega
def sp_divided : Sp := fun vs H Q _ => ∃ (wd : Str) (a b : Int), vs = [.str wd, .int a, .int b] ∧ In32 a ∧ In32 b ∧ (b = 0 → Q .non H) ∧
  (b ≠ 0 → ∀ H', Same H H' → (wd = "div" → Q (.int (wr (a.fdiv b))) H') ∧ (wd ≠ "div" → Q (.int (wr (a.fmod b))) H'))
theorem ok_divided (T : Top K mg) : FnOk P w K mg base CX0 2 (He.ga K "divided") T.fd_divided ["word", "one", "other"] sp_divided := by
  have G_wrapped := ok_wrapped (P := P) (w := w) (base := base) T
  refine T.F_divided.ok sc_divided (fun vs H Q E h => ?_) (fun cdv A outer s H vs Q E hr h => ?_)
  · obtain ⟨wd, a, b, rfl, _⟩ := h
    rfl
  · obtain ⟨wd, a, b, rfl, ha, hb, q0, q1⟩ := h
    refine ⟨_, PSs.nox (pss_cons (ps_if (pt_cmpR op_eq (pv 2) pe_int (nomark _)) (pss_one (ps_ret pe_non)) pss_nil)
        (pss_cons (ps_asg (pe_callB call_divmodG (by rfl) T.m_divmod (by decide +kernel) (pa_cons (pv 1) (pa_cons (pv 2) pa_nil))) (pg_tup (n := 2) (by rfl) (pgs_cons (pg_name (i := 3) sc_divided.nd rfl (Or.inl rfl)) (pgs_cons (pg_name (i := 4) sc_divided.nd rfl (Or.inl rfl)) pgs_nil))))
        (pss_one (ps_ret (pe_call G_wrapped (hr.mono (by omega)) (by rfl) T.g_wrapped T.F_wrapped.kp T.b_wrapped .nil pass0 (pa_cons (pe_ifExp (pt_cmpR op_eq (pv 0) pe_str (nomark _)) (pv 3) (pv 4)) pa_nil)))))), ?_⟩
    refine ⟨_, rfl, rfl, _, rfl, ite2 (fun e => ?_) (fun e => ?_)⟩
    · have e1 : b = 0 := V.int.inj (of_decide_eq_true e)
      exact q0 e1
    · have e1 : b ≠ 0 := fun z => e (decide_eq_true (congrArg V.int z))
      refine ⟨_, rfl, _, rfl, a, b, rfl, ⟨e1, log_small ⟨hb.1, by have := hb.2; omega⟩⟩, fun p np => ?_⟩
      refine ⟨p, _, rfl, .of upd_same, rfl, _, _, rfl, _, _, rfl, rfl, ?_⟩
      obtain ⟨qa, qb⟩ := q1 e1 _ (same_new np)
      refine ⟨_, rfl, rfl, _, rfl, ite2 (fun e => ?_) (fun e => ?_)⟩
      · have e2 : wd = "div" := V.str.inj (of_decide_eq_true e)
        exact ⟨_, rfl, _, rfl, qa e2⟩
      · have e2 : wd ≠ "div" := fun z => e (decide_eq_true (congrArg V.str z))
        exact ⟨_, rfl, _, rfl, qb e2⟩
def b2n (b : Bool) : Int := if b then 1 else 0
/-- what a word comes to -/
inductive Due (a b : Int) : Str → V → Prop where
  | div0 (h : b = 0) : Due a b "div" .non
  | rem0 (h : b = 0) : Due a b "rem" .non
  | div (h : b ≠ 0) : Due a b "div" (.int (wr (a.fdiv b)))
  | rem (h : b ≠ 0) : Due a b "rem" (.int (wr (a.fmod b)))
  | add : Due a b "add" (.int (wr (a + b)))
  | sub : Due a b "sub" (.int (wr (a - b)))
  | mul : Due a b "mul" (.int (wr (a * b)))
  | less : Due a b "less" (.int (b2n (decide (a < b))))
  | same : Due a b "same" (.int (b2n (decide (a = b))))
def wds : List Str := ["add", "sub", "mul", "div", "rem", "less", "same"]
def sp_reckoned : Sp := fun vs H Q _ => ∃ (wd : Str) (a b : Int) (v : V), vs = [.str wd, .int a, .int b] ∧ In32 a ∧ In32 b ∧ Due a b wd v ∧ ∀ H', Same H H' → Q v H'
theorem ok_reckoned (T : Top K mg) : FnOk P w K mg base CX0 3 (He.ga K "reckoned") T.fd_reckoned ["word", "one", "other"] sp_reckoned := by
  have G_wrapped := ok_wrapped (P := P) (w := w) (base := base) T
  have G_divided := ok_divided (P := P) (w := w) (base := base) T
  refine T.F_reckoned.ok sc_reckoned (fun vs H Q E h => ?_) (fun cdv A outer s H vs Q E hr h => ?_)
  · obtain ⟨wd, a, b, v, rfl, _⟩ := h
    rfl
  · obtain ⟨wd, a, b, v, rfl, ha, hb, hd, q⟩ := h
    refine ⟨_, PSs.nox (pss_cons (ps_if (pt_cmpR op_in_seq (pv 0) (pe_tup (pa_cons pe_str (pa_cons pe_str pa_nil))) (by rfl)) (pss_one (ps_ret (pe_call G_divided (hr.mono (by omega)) (by rfl) T.g_divided T.F_divided.kp T.b_divided .nil pass0 (pa_cons (pv 0) (pa_cons (pv 1) (pa_cons (pv 2) pa_nil)))))) pss_nil)
        (pss_cons (ps_if (pt_cmpR op_eq (pv 0) pe_str (nomark _)) (pss_one (ps_ret (pe_call G_wrapped (hr.mono (by omega)) (by rfl) T.g_wrapped T.F_wrapped.kp T.b_wrapped .nil pass0 (pa_cons (pe_op op_add (pv 1) (pv 2)) pa_nil)))) pss_nil)
        (pss_cons (ps_if (pt_cmpR op_eq (pv 0) pe_str (nomark _)) (pss_one (ps_ret (pe_call G_wrapped (hr.mono (by omega)) (by rfl) T.g_wrapped T.F_wrapped.kp T.b_wrapped .nil pass0 (pa_cons (pe_op op_sub (pv 1) (pv 2)) pa_nil)))) pss_nil)
        (pss_cons (ps_if (pt_cmpR op_eq (pv 0) pe_str (nomark _)) (pss_one (ps_ret (pe_call G_wrapped (hr.mono (by omega)) (by rfl) T.g_wrapped T.F_wrapped.kp T.b_wrapped .nil pass0 (pa_cons (pe_op op_mul (pv 1) (pv 2)) pa_nil)))) pss_nil)
        (pss_cons (ps_if (pt_cmpR op_eq (pv 0) pe_str (nomark _)) (pss_one (ps_ret (pe_callTy call_int1 (by rfl) T.m_int (by decide +kernel) (pa_cons (pe_cmpR op_lt (pv 1) (pv 2) (nomark _)) pa_nil)))) pss_nil)
        (pss_one (ps_ret (pe_callTy call_int1 (by rfl) T.m_int (by decide +kernel) (pa_cons (pe_cmpR op_eq (pv 1) (pv 2) (nomark _)) pa_nil))))))))), ?_⟩
    refine ⟨_, rfl, by decide, fun p np => ?_⟩
    have sm := same_new (o := .tup [.str "div", .str "rem"]) np
    refine ⟨p, _, rfl, .inr (.of upd_same), rfl, by decide +kernel, _, rfl, ?_⟩
    have ok : ∀ {x : Str} {y : Str} {A B : Prop}, x ≠ y → B → if decide (V.str x = V.str y) = true then A else B := fun h hB => ifN (fun z => h (V.str.inj z)) hB
    have gd : wds ≠ [] := by decide
    cases hd with
    | div0 h => exact ⟨_, rfl, _, rfl, _, rfl, _, a, b, rfl, ha, hb, fun _ => q _ sm, fun z => absurd h z⟩
    | rem0 h => exact ⟨_, rfl, _, rfl, _, rfl, _, a, b, rfl, ha, hb, fun _ => q _ sm, fun z => absurd h z⟩
    | div h => exact ⟨_, rfl, _, rfl, _, rfl, _, a, b, rfl, ha, hb, fun z => absurd z h, fun _ H' s2 => ⟨fun _ => q _ (sm.trans s2), fun z => absurd rfl z⟩⟩
    | rem h => exact ⟨_, rfl, _, rfl, _, rfl, _, a, b, rfl, ha, hb, fun z => absurd z h, fun _ H' s2 => ⟨fun z => absurd z (by decide +kernel), fun _ => q _ (sm.trans s2)⟩⟩
    | add => exact ⟨_, rfl, rfl, _, rfl, ifD rfl ⟨_, rfl, _, rfl, _, _, rfl, rfl, _, rfl, q _ sm⟩⟩
    | sub => exact ⟨_, rfl, rfl, _, rfl, ok (by decide +kernel) ⟨_, rfl, rfl, _, rfl, ifD rfl ⟨_, rfl, _, rfl, _, _, rfl, rfl, _, rfl, q _ sm⟩⟩⟩
    | mul => exact ⟨_, rfl, rfl, _, rfl, ok (by decide +kernel) ⟨_, rfl, rfl, _, rfl, ok (by decide +kernel) ⟨_, rfl, rfl, _, rfl, ifD rfl ⟨_, rfl, _, rfl, _, _, rfl, rfl, .inl ⟨by have := ha.1; omega, by have := ha.2; omega⟩, _, rfl, q _ sm⟩⟩⟩⟩
    | less => exact ⟨_, rfl, rfl, _, rfl, ok (by decide +kernel) ⟨_, rfl, rfl, _, rfl, ok (by decide +kernel) ⟨_, rfl, rfl, _, rfl, ok (by decide +kernel) ⟨_, rfl, rfl, _, rfl, ifD rfl ⟨_, rfl, _, rfl, _, _, rfl, rfl, .inr ⟨_, rfl, q _ sm⟩⟩⟩⟩⟩⟩
    | same => exact ⟨_, rfl, rfl, _, rfl, ok (by decide +kernel) ⟨_, rfl, rfl, _, rfl, ok (by decide +kernel) ⟨_, rfl, rfl, _, rfl, ok (by decide +kernel) ⟨_, rfl, rfl, _, rfl, ok (by decide +kernel) ⟨_, rfl, _, rfl, rfl, .inr ⟨_, rfl, by
        rw [show decide (V.int a = V.int b) = decide (a = b) by by_cases z : a = b <;> simp [z]]
        exact q _ sm⟩⟩⟩⟩⟩⟩
theorem wr_in {n : Int} (h : In32 n) : wr n = n := by
  obtain ⟨h1, h2⟩ := h
  unfold wr
  omega
def sp_denied : Sp := fun vs H Q _ => ∃ n : Int, vs = [.int n] ∧ Q (.int (b2n (decide (V.int n = V.int 0)))) H
theorem ok_denied (T : Top K mg) : FnOk P w K mg base CX0 1 (He.ga K "denied") T.fd_denied ["n"] sp_denied := by
  refine T.F_denied.ok sc_denied (fun vs H Q E h => ?_) (fun cdv A outer s H vs Q E hr h => ?_)
  · obtain ⟨n, rfl, _⟩ := h
    rfl
  · obtain ⟨n, rfl, q⟩ := h
    refine ⟨_, PSs.nox (pss_one (ps_ret (pe_callTy call_int1 (by rfl) T.m_int (by decide +kernel) (pa_cons (pe_cmpR op_eq (pv 0) pe_int (nomark _)) pa_nil)))), ?_⟩
    exact ⟨_, rfl, rfl, .inr ⟨_, rfl, q⟩⟩
end

/-! playing, in plain words: rows, helpers, faults -/
abbrev Kn := Str → Option Int
abbrev Rw := Str → List Int
def rck (w : Str) (a b : Int) : Option Int :=
  if w = "add" then some (wr (a + b)) else if w = "sub" then some (wr (a - b)) else if w = "mul" then some (wr (a * b))
  else if w = "less" then some (b2n (decide (a < b))) else if w = "same" then some (b2n (decide (a = b)))
  else if w = "div" then (if b = 0 then none else some (wr (a.fdiv b))) else (if b = 0 then none else some (wr (a.fmod b)))
def vOf : Option Int → V
  | some v => .int v
  | none => .non
theorem due_rck {w : Str} {a b : Int} (hw : w ∈ wds) : Due a b w (vOf (rck w a b)) := by
  unfold rck
  by_cases h1 : w = "add"
  · subst h1; rw [if_pos rfl]; exact .add
  rw [if_neg h1]
  by_cases h2 : w = "sub"
  · subst h2; rw [if_pos rfl]; exact .sub
  rw [if_neg h2]
  by_cases h3 : w = "mul"
  · subst h3; rw [if_pos rfl]; exact .mul
  rw [if_neg h3]
  by_cases h4 : w = "less"
  · subst h4; rw [if_pos rfl]; exact .less
  rw [if_neg h4]
  by_cases h5 : w = "same"
  · subst h5; rw [if_pos rfl]; exact .same
  rw [if_neg h5]
  by_cases h6 : w = "div"
  · subst h6
    rw [if_pos rfl]
    by_cases hb : b = 0
    · rw [if_pos hb]; exact .div0 hb
    · rw [if_neg hb]; exact .div hb
  rw [if_neg h6]
  have h7 : w = "rem" := by
    unfold wds at hw
    simp only [List.mem_cons, List.not_mem_nil, or_false] at hw
    rcases hw with h | h | h | h | h | h | h
    all_goals first | exact absurd h h1 | exact absurd h h2 | exact absurd h h3 | exact absurd h h4 | exact absurd h h5 | exact absurd h h6 | exact h
  subst h7
  by_cases hb : b = 0
  · rw [if_pos hb]; exact .rem0 hb
  · rw [if_neg hb]; exact .rem hb
theorem wr_32 (n : Int) : In32 (wr n) := by
  unfold wr In32
  omega
theorem b2n_32 (b : Bool) : In32 (b2n b) := by cases b <;> exact ⟨by decide, by decide⟩
theorem rck_32 {w : Str} {a b v : Int} (h : rck w a b = some v) : In32 v := by
  unfold rck at h
  repeat' (split at h)
  all_goals first | (cases h; exact wr_32 _) | (cases h; exact b2n_32 _) | cases h
def wx : Ex → Kn → Rw → Except Str Int
  | .num n, _, _ => .ok n
  | .nam x, kn, _ => .ok ((kn x).getD 0)
  | .no e, kn, rw => match wx e kn rw with
    | .error w => .error w
    | .ok v => .ok (b2n (decide (V.int v = V.int 0)))
  | .op w a b, kn, rw => match wx a kn rw with
    | .error f => .error f
    | .ok u => match wx b kn rw with
      | .error f => .error f
      | .ok v => match rck w u v with
        | none => .error "division"
        | some z => .ok z
  | .at_ r e, kn, rw => match wx e kn rw with
    | .error f => .error f
    | .ok p => if 0 ≤ p ∧ p < (rw r).length then .ok ((rw r).getD p.toNat 0) else .error "place"
def Ex.dep : Ex → Nat
  | .num _ => 0
  | .nam _ => 0
  | .no e => e.dep + 1
  | .op _ a b => max a.dep b.dep + 1
  | .at_ _ e => e.dep + 1
def Ex.wf (rs : List Str) : Ex → Prop
  | .num n => In32 n
  | .nam _ => True
  | .no e => e.wf rs
  | .op w a b => w ∈ wds ∧ a.wf rs ∧ b.wf rs
  | .at_ r e => r ∈ rs ∧ e.wf rs
def Kn32 (kn : Kn) : Prop := ∀ x v, kn x = some v → In32 v
def Rw32 (rw : Rw) : Prop := ∀ x, ∀ v ∈ rw x, In32 v
theorem in32_0 : In32 0 := ⟨by decide, by decide⟩
theorem wx_32 {kn : Kn} {rw : Rw} {rs : List Str} (hk : Kn32 kn) (hr : Rw32 rw) : ∀ {e : Ex} {v : Int}, e.wf rs → wx e kn rw = .ok v → In32 v
  | .num n, v, h, hv => by cases hv; exact h
  | .nam x, v, _, hv => by
    have e : (kn x).getD 0 = v := by
      have := hv
      unfold wx at this
      cases this
      rfl
    cases hx : kn x with
    | none => rw [hx] at e; cases e; exact in32_0
    | some u => rw [hx] at e; cases e; exact hk x u hx
  | .no e, v, h, hv => by
    unfold wx at hv
    cases he : wx e kn rw with
    | error w => rw [he] at hv; cases hv
    | ok u => rw [he] at hv; cases hv; exact b2n_32 _
  | .op w a b, v, h, hv => by
    unfold wx at hv
    cases ha : wx a kn rw with
    | error f => rw [ha] at hv; cases hv
    | ok u =>
      rw [ha] at hv
      cases hb : wx b kn rw with
      | error f => rw [hb] at hv; cases hv
      | ok x =>
        rw [hb] at hv
        dsimp only at hv
        cases hc : rck w u x with
        | none => rw [hc] at hv; cases hv
        | some z => rw [hc] at hv; cases hv; exact rck_32 hc
  | .at_ r e, v, h, hv => by
    unfold wx at hv
    cases ha : wx e kn rw with
    | error f => rw [ha] at hv; cases hv
    | ok p =>
      rw [ha] at hv
      dsimp only at hv
      by_cases hp : 0 ≤ p ∧ p < (rw r).length
      · rw [if_pos hp] at hv
        cases hv
        exact getD_all (hr r) hp.1 hp.2
      · rw [if_neg hp] at hv; cases hv
def wxs : List Ex → Kn → Rw → Except Str (List Int)
  | [], _, _ => .ok []
  | e :: r, kn, rw => match wx e kn rw with
    | .error f => .error f
    | .ok v => match wxs r kn rw with
      | .error f => .error f
      | .ok vs => .ok (v :: vs)
inductive Rs where
  | fin
  | gave (v : Int)
  | on
  | flt (w : Str)
structure PSt where
  kn : Kn
  rw : Rw
  lf : Nat
  td : List Int
abbrev Hs := Str → Option (List Str × List Sm)
def kput (kn : Kn) (x : Str) (v : Int) : Kn := fun y => if y = x then some v else kn y
def rput (rw : Rw) (x : Str) (i : Nat) (v : Int) : Rw := fun y => if y = x then (rw x).set i v else rw y
def knZ (xs : List (Str × Int)) : Kn := xs.foldl (fun k p => kput k p.1 p.2) (fun _ => none)
def failW (n : Int) : Str := ("fail " : Str) ++ (toString n : Str)
theorem empty_app (x : Str) : Str.empty ++ x = x := by
  cases x with
  | mk c => show Str.mk (#[] ++ c) = _; rw [Array.empty_append]
mutual
def doAll (hs : Hs) : Nat → List Sm → PSt → Option (Rs × PSt)
  | 0, _, _ => none
  | _ + 1, [], s => some (.fin, s)
  | F + 1, m :: r, s => if s.lf = 0 then some (.on, s) else match doOne hs F m { s with lf := s.lf - 1 } with
    | none => none
    | some (.fin, s') => doAll hs F r s'
    | some (.gave v, s') => some (.gave v, s')
    | some (.on, s') => some (.on, s')
    | some (.flt w, s') => some (.flt w, s')
def doOne (hs : Hs) : Nat → Sm → PSt → Option (Rs × PSt)
  | 0, _, _ => none
  | F + 1, m, s => match m with
    | .set x e => match wx e s.kn s.rw with
      | .error f => some (.flt f, s)
      | .ok v => some (.fin, { s with kn := kput s.kn x v })
    | .tell e => match wx e s.kn s.rw with
      | .error f => some (.flt f, s)
      | .ok v => some (.fin, { s with td := s.td ++ [v] })
    | .give e => match wx e s.kn s.rw with
      | .error f => some (.flt f, s)
      | .ok v => some (.gave v, s)
    | .put r e f => match wx e s.kn s.rw with
      | .error f => some (.flt f, s)
      | .ok p => match wx f s.kn s.rw with
        | .error f => some (.flt f, s)
        | .ok v => if 0 ≤ p ∧ p < (s.rw r).length then some (.fin, { s with rw := rput s.rw r p.toNat v }) else some (.flt "place", s)
    | .ite e ys ns => match wx e s.kn s.rw with
      | .error f => some (.flt f, s)
      | .ok v => doAll hs F (if v ≠ 0 then ys else ns) s
    | .loop e b => again hs F e b s
    | .fail n => some (.flt (failW n), s)
    | .call x h es => match hs h with
      | none => none
      | some (ps, body) => match wxs es s.kn s.rw with
        | .error f => some (.flt f, s)
        | .ok vs => match doAll hs F body { kn := knZ (ps.zip vs), rw := fun _ => [], lf := s.lf, td := s.td } with
          | none => none
          | some (.fin, s1) => some (.fin, { s with kn := kput s.kn x 0, lf := s1.lf, td := s1.td })
          | some (.gave v, s1) => some (.fin, { s with kn := kput s.kn x v, lf := s1.lf, td := s1.td })
          | some (.on, s1) => some (.on, { s with lf := s1.lf, td := s1.td })
          | some (.flt w, s1) => some (.flt w, { s with lf := s1.lf, td := s1.td })
def again (hs : Hs) : Nat → Ex → List Sm → PSt → Option (Rs × PSt)
  | 0, _, _, _ => none
  | F + 1, e, b, s => match wx e s.kn s.rw with
    | .error f => some (.flt f, s)
    | .ok v => if v = 0 then some (.fin, s) else match doAll hs F b s with
      | none => none
      | some (.fin, s') => if s'.lf = 0 then some (.on, s') else again hs F e b { s' with lf := s'.lf - 1 }
      | some (.gave v, s') => some (.gave v, s')
      | some (.on, s') => some (.on, s')
      | some (.flt w, s') => some (.flt w, s')
end
def CallsOk : Prop := True
def Ex.ok (rs : List Str) (e : Ex) : Prop := e.dep < 10 ∧ e.wf rs
def Sm.ok (hs : Hs) : Nat → List Str → Sm → Prop
  | 0, _, _ => False
  | _ + 1, rs, .set _ e => e.ok rs
  | _ + 1, rs, .tell e => e.ok rs
  | _ + 1, rs, .give e => e.ok rs
  | _ + 1, rs, .put r e f => r ∈ rs ∧ e.ok rs ∧ f.ok rs
  | _ + 1, _, .fail n => In32 n ∧ SeqAt.shaped (.str (failW n)) = true
  | n + 1, rs, .ite e ys ns => e.ok rs ∧ (∀ m ∈ ys, Sm.ok hs n rs m) ∧ ∀ m ∈ ns, Sm.ok hs n rs m
  | n + 1, rs, .loop e b => e.ok rs ∧ ∀ m ∈ b, Sm.ok hs n rs m
  | n + 1, rs, .call _ h es => CallsOk ∧ (∀ e ∈ es, e.ok rs) ∧ es.length ≤ 100 ∧ ∃ ps body, hs h = some (ps, body) ∧ ps.length = es.length ∧ ∀ m ∈ body, Sm.ok hs n [] m
/-! all of it ends -/
theorem fuel1 (hs : Hs) (F : Nat) : (∀ bd s r, doAll hs F bd s = some r → doAll hs (F + 1) bd s = some r) ∧ (∀ m s r, doOne hs F m s = some r → doOne hs (F + 1) m s = some r) ∧ (∀ e b s r, again hs F e b s = some r → again hs (F + 1) e b s = some r) := by
  induction F with
  | zero =>
    refine ⟨fun bd s r h => ?_, fun m s r h => ?_, fun e b s r h => ?_⟩
    · simp [doAll] at h
    · simp [doOne] at h
    · simp [again] at h
  | succ F ih =>
    obtain ⟨iA, iO, iW⟩ := ih
    refine ⟨fun bd s r h => ?_, fun m s r h => ?_, fun e b s r h => ?_⟩
    · cases bd with
      | nil => rw [doAll] at h ⊢; exact h
      | cons m rs =>
        rw [doAll] at h
        rw [doAll]
        by_cases l0 : s.lf = 0
        · rw [if_pos l0] at h ⊢; exact h
        · rw [if_neg l0] at h ⊢
          cases ho : doOne hs F m { s with lf := s.lf - 1 } with
          | none => rw [ho] at h; cases h
          | some q =>
            obtain ⟨r1, s1⟩ := q
            rw [ho] at h
            rw [iO _ _ _ ho]
            cases r1 with
            | fin => exact iA _ _ _ h
            | gave v => exact h
            | on => exact h
            | flt w => exact h
    · cases m with
      | set x e => rw [doOne] at h ⊢; exact h
      | tell e => rw [doOne] at h ⊢; exact h
      | give e => rw [doOne] at h ⊢; exact h
      | put r e f => rw [doOne] at h ⊢; exact h
      | fail n => rw [doOne] at h ⊢; exact h
      | ite e ys ns =>
        rw [doOne] at h ⊢
        cases hw : wx e s.kn s.rw with
        | error f => rw [hw] at h; exact h
        | ok v => rw [hw] at h; exact iA _ _ _ h
      | loop e b =>
        rw [doOne] at h ⊢
        exact iW _ _ _ _ h
      | call x g es =>
        rw [doOne] at h ⊢
        cases hg : hs g with
        | none => rw [hg] at h; cases h
        | some pb =>
          obtain ⟨ps, body⟩ := pb
          rw [hg] at h
          dsimp only at h ⊢
          cases hw : wxs es s.kn s.rw with
          | error f => rw [hw] at h; exact h
          | ok vs =>
            rw [hw] at h
            dsimp only at h ⊢
            cases ho : doAll hs F body { kn := knZ (ps.zip vs), rw := fun _ => [], lf := s.lf, td := s.td } with
            | none => rw [ho] at h; cases h
            | some q => rw [ho] at h; rw [iA _ _ _ ho]; exact h
    · rw [again] at h
      rw [again]
      cases hw : wx e s.kn s.rw with
      | error f => rw [hw] at h; exact h
      | ok v =>
        rw [hw] at h
        dsimp only at h ⊢
        by_cases hv : v = 0
        · rw [if_pos hv] at h ⊢; exact h
        · rw [if_neg hv] at h ⊢
          cases ho : doAll hs F b s with
          | none => rw [ho] at h; cases h
          | some q =>
            obtain ⟨r1, s1⟩ := q
            rw [ho] at h
            rw [iA _ _ _ ho]
            cases r1 with
            | fin =>
              dsimp only at h ⊢
              by_cases l0 : s1.lf = 0
              · rw [if_pos l0] at h ⊢; exact h
              · rw [if_neg l0] at h ⊢; exact iW _ _ _ _ h
            | gave v => exact h
            | on => exact h
            | flt w => exact h
theorem fuelA {hs : Hs} {F G : Nat} {bd : List Sm} {s : PSt} {r : Rs × PSt} (l : F ≤ G) (h : doAll hs F bd s = some r) : doAll hs G bd s = some r := by
  induction l with
  | refl => exact h
  | step _ ih => exact (fuel1 hs _).1 _ _ _ ih
theorem fuelO {hs : Hs} {F G : Nat} {m : Sm} {s : PSt} {r : Rs × PSt} (l : F ≤ G) (h : doOne hs F m s = some r) : doOne hs G m s = some r := by
  induction l with
  | refl => exact h
  | step _ ih => exact (fuel1 hs _).2.1 _ _ _ ih
theorem fuelW {hs : Hs} {F G : Nat} {e : Ex} {b : List Sm} {s : PSt} {r : Rs × PSt} (l : F ≤ G) (h : again hs F e b s = some r) : again hs G e b s = some r := by
  induction l with
  | refl => exact h
  | step _ ih => exact (fuel1 hs _).2.2 _ _ _ _ ih
/-- turns go down only; what is told is bounded by them -/
theorem size1 (hs : Hs) (F : Nat) : (∀ bd s r s', doAll hs F bd s = some (r, s') → s'.lf ≤ s.lf ∧ s'.td.length + s'.lf ≤ s.td.length + s.lf) ∧ (∀ m s r s', doOne hs F m s = some (r, s') → s'.lf ≤ s.lf ∧ s'.td.length + s'.lf ≤ s.td.length + s.lf + 1) ∧ (∀ e b s r s', again hs F e b s = some (r, s') → s'.lf ≤ s.lf ∧ s'.td.length + s'.lf ≤ s.td.length + s.lf) := by
  induction F with
  | zero =>
    refine ⟨fun bd s r s' h => ?_, fun m s r s' h => ?_, fun e b s r s' h => ?_⟩
    · simp [doAll] at h
    · simp [doOne] at h
    · simp [again] at h
  | succ F ih =>
    obtain ⟨iA, iO, iW⟩ := ih
    refine ⟨fun bd s r s' h => ?_, fun m s r s' h => ?_, fun e b s r s' h => ?_⟩
    · cases bd with
      | nil => rw [doAll] at h; cases h; exact ⟨Nat.le_refl _, Nat.le_refl _⟩
      | cons m rs =>
        rw [doAll] at h
        by_cases l0 : s.lf = 0
        · rw [if_pos l0] at h; cases h; exact ⟨Nat.le_refl _, Nat.le_refl _⟩
        · rw [if_neg l0] at h
          cases ho : doOne hs F m { s with lf := s.lf - 1 } with
          | none => rw [ho] at h; cases h
          | some q =>
            obtain ⟨r1, s1⟩ := q
            rw [ho] at h
            have a := iO _ _ _ _ ho
            dsimp only at a
            cases r1 with
            | fin => have := iA _ _ _ _ h; omega
            | gave v => cases h; omega
            | on => cases h; omega
            | flt w => cases h; omega
    · cases m with
      | set x e =>
        rw [doOne] at h
        cases hw : wx e s.kn s.rw with
        | error f => rw [hw] at h; cases h; exact ⟨Nat.le_refl _, Nat.le_succ _⟩
        | ok v => rw [hw] at h; cases h; exact ⟨Nat.le_refl _, Nat.le_succ _⟩
      | tell e =>
        rw [doOne] at h
        cases hw : wx e s.kn s.rw with
        | error f => rw [hw] at h; cases h; exact ⟨Nat.le_refl _, Nat.le_succ _⟩
        | ok v => rw [hw] at h; cases h; refine ⟨Nat.le_refl _, ?_⟩; show (s.td ++ [v]).length + s.lf ≤ _; rw [List.length_append, List.length_singleton]; omega
      | give e =>
        rw [doOne] at h
        cases hw : wx e s.kn s.rw with
        | error f => rw [hw] at h; cases h; exact ⟨Nat.le_refl _, Nat.le_succ _⟩
        | ok v => rw [hw] at h; cases h; exact ⟨Nat.le_refl _, Nat.le_succ _⟩
      | put r e f =>
        rw [doOne] at h
        cases hw : wx e s.kn s.rw with
        | error g => rw [hw] at h; cases h; exact ⟨Nat.le_refl _, Nat.le_succ _⟩
        | ok p =>
          rw [hw] at h
          dsimp only at h
          cases hv : wx f s.kn s.rw with
          | error g => rw [hv] at h; cases h; exact ⟨Nat.le_refl _, Nat.le_succ _⟩
          | ok v =>
            rw [hv] at h
            dsimp only at h
            split at h
            · cases h; exact ⟨Nat.le_refl _, Nat.le_succ _⟩
            · cases h; exact ⟨Nat.le_refl _, Nat.le_succ _⟩
      | fail n => rw [doOne] at h; cases h; exact ⟨Nat.le_refl _, Nat.le_succ _⟩
      | ite e ys ns =>
        rw [doOne] at h
        cases hw : wx e s.kn s.rw with
        | error f => rw [hw] at h; cases h; exact ⟨Nat.le_refl _, Nat.le_succ _⟩
        | ok v => rw [hw] at h; have := iA _ _ _ _ h; omega
      | loop e b =>
        rw [doOne] at h
        have := iW _ _ _ _ _ h
        omega
      | call x g es =>
        rw [doOne] at h
        cases hg : hs g with
        | none => rw [hg] at h; cases h
        | some pb =>
          obtain ⟨ps, body⟩ := pb
          rw [hg] at h
          dsimp only at h
          cases hw : wxs es s.kn s.rw with
          | error f => rw [hw] at h; cases h; exact ⟨Nat.le_refl _, Nat.le_succ _⟩
          | ok vs =>
            rw [hw] at h
            dsimp only at h
            cases ho : doAll hs F body { kn := knZ (ps.zip vs), rw := fun _ => [], lf := s.lf, td := s.td } with
            | none => rw [ho] at h; cases h
            | some q =>
              obtain ⟨r1, s1⟩ := q
              rw [ho] at h
              have a := iA _ _ _ _ ho
              dsimp only at a
              cases r1 <;> (cases h; dsimp only; omega)
    · rw [again] at h
      cases hw : wx e s.kn s.rw with
      | error f => rw [hw] at h; cases h; exact ⟨Nat.le_refl _, Nat.le_refl _⟩
      | ok v =>
        rw [hw] at h
        dsimp only at h
        by_cases hv : v = 0
        · rw [if_pos hv] at h; cases h; exact ⟨Nat.le_refl _, Nat.le_refl _⟩
        · rw [if_neg hv] at h
          cases ho : doAll hs F b s with
          | none => rw [ho] at h; cases h
          | some q =>
            obtain ⟨r1, s1⟩ := q
            rw [ho] at h
            have a := iA _ _ _ _ ho
            cases r1 with
            | fin =>
              dsimp only at h
              by_cases l0 : s1.lf = 0
              · rw [if_pos l0] at h; cases h; exact a
              · rw [if_neg l0] at h
                have := iW _ _ _ _ _ h
                dsimp only at this
                omega
            | gave v => cases h; exact a
            | on => cases h; exact a
            | flt w => cases h; exact a
/-- with turns to count by, all ends -/
theorem total (hs : Hs) (L : Nat) : (∀ n rs bd s, (∀ m ∈ bd, Sm.ok hs n rs m) → s.lf ≤ L → ∃ F r, doAll hs F bd s = some r) ∧ (∀ n rs m s, Sm.ok hs n rs m → s.lf ≤ L → ∃ F r, doOne hs F m s = some r) := by
  have step : ∀ L, (∀ n rs m s, Sm.ok hs n rs m → s.lf < L → ∃ F r, doOne hs F m s = some r) → ∀ n rs bd s, (∀ m ∈ bd, Sm.ok hs n rs m) → s.lf ≤ L → ∃ F r, doAll hs F bd s = some r := by
    intro L hO n rs bd
    induction bd with
    | nil => exact fun s _ _ => ⟨1, _, by rw [doAll]⟩
    | cons m r ih =>
      intro s hok hl
      by_cases l0 : s.lf = 0
      · exact ⟨1, _, by rw [doAll, if_pos l0]⟩
      · obtain ⟨F1, ⟨r1, s1⟩, e1⟩ := hO n rs m { s with lf := s.lf - 1 } (hok m (List.mem_cons_self ..)) (by dsimp only; omega)
        have a := (size1 hs F1).2.1 _ _ _ _ e1
        dsimp only at a
        cases r1 with
        | fin =>
          obtain ⟨F2, r2, e2⟩ := ih s1 (fun m hm => hok m (List.mem_cons_of_mem _ hm)) (by omega)
          refine ⟨max F1 F2 + 1, r2, ?_⟩
          rw [doAll, if_neg l0, fuelO (Nat.le_max_left F1 F2) e1]
          exact fuelA (Nat.le_max_right F1 F2) e2
        | gave v => exact ⟨F1 + 1, _, by rw [doAll, if_neg l0, e1]⟩
        | on => exact ⟨F1 + 1, _, by rw [doAll, if_neg l0, e1]⟩
        | flt w => exact ⟨F1 + 1, _, by rw [doAll, if_neg l0, e1]⟩
  have one : ∀ L, (∀ n rs bd s, (∀ m ∈ bd, Sm.ok hs n rs m) → s.lf ≤ L → ∃ F r, doAll hs F bd s = some r) → ∀ n rs m s, Sm.ok hs n rs m → s.lf ≤ L → ∃ F r, doOne hs F m s = some r := by
    intro L hA n rs m s hok hl
    cases n with
    | zero => cases hok
    | succ n =>
    cases m with
    | set x e => refine ⟨1, ?_⟩; rw [doOne]; cases wx e s.kn s.rw <;> exact ⟨_, rfl⟩
    | tell e => refine ⟨1, ?_⟩; rw [doOne]; cases wx e s.kn s.rw <;> exact ⟨_, rfl⟩
    | give e => refine ⟨1, ?_⟩; rw [doOne]; cases wx e s.kn s.rw <;> exact ⟨_, rfl⟩
    | put r e f =>
      refine ⟨1, ?_⟩
      rw [doOne]
      cases wx e s.kn s.rw with
      | error g => exact ⟨_, rfl⟩
      | ok p =>
        cases wx f s.kn s.rw with
        | error g => exact ⟨_, rfl⟩
        | ok v =>
          dsimp only
          split
          · exact ⟨_, rfl⟩
          · exact ⟨_, rfl⟩
    | fail k => exact ⟨1, _, by rw [doOne]⟩
    | ite e ys ns =>
      cases hw : wx e s.kn s.rw with
      | error g => exact ⟨1, _, by rw [doOne, hw]⟩
      | ok v =>
        obtain ⟨F, r, e1⟩ := hA n rs (if v ≠ 0 then ys else ns) s (fun m hm => by
          split at hm
          · exact hok.2.1 m hm
          · exact hok.2.2 m hm) hl
        exact ⟨F + 1, r, by rw [doOne, hw]; exact e1⟩
    | loop e b =>
      have key : ∀ k (s : PSt), s.lf ≤ k → s.lf ≤ L → ∃ F r, again hs F e b s = some r := by
        intro k
        induction k with
        | zero =>
          intro s hk hl
          cases hw : wx e s.kn s.rw with
          | error g => exact ⟨1, _, by rw [again, hw]⟩
          | ok v =>
            by_cases hv : v = 0
            · exact ⟨1, _, by rw [again, hw]; dsimp only; rw [if_pos hv]⟩
            · obtain ⟨F, ⟨r1, s1⟩, e1⟩ := hA n rs b s hok.2 hl
              have a := (size1 hs F).1 _ _ _ _ e1
              cases r1 with
              | fin => exact ⟨F + 1, _, by rw [again, hw]; dsimp only; rw [if_neg hv, e1]; dsimp only; rw [if_pos (by omega)]⟩
              | gave v => exact ⟨F + 1, _, by rw [again, hw]; dsimp only; rw [if_neg hv, e1]⟩
              | on => exact ⟨F + 1, _, by rw [again, hw]; dsimp only; rw [if_neg hv, e1]⟩
              | flt w => exact ⟨F + 1, _, by rw [again, hw]; dsimp only; rw [if_neg hv, e1]⟩
        | succ k ih =>
          intro s hk hl
          cases hw : wx e s.kn s.rw with
          | error g => exact ⟨1, _, by rw [again, hw]⟩
          | ok v =>
            by_cases hv : v = 0
            · exact ⟨1, _, by rw [again, hw]; dsimp only; rw [if_pos hv]⟩
            · obtain ⟨F, ⟨r1, s1⟩, e1⟩ := hA n rs b s hok.2 hl
              have a := (size1 hs F).1 _ _ _ _ e1
              cases r1 with
              | fin =>
                by_cases l0 : s1.lf = 0
                · exact ⟨F + 1, _, by rw [again, hw]; dsimp only; rw [if_neg hv, e1]; dsimp only; rw [if_pos l0]⟩
                · obtain ⟨F2, r2, e2⟩ := ih { s1 with lf := s1.lf - 1 } (by dsimp only; omega) (by dsimp only; omega)
                  refine ⟨max F F2 + 1, r2, ?_⟩
                  rw [again, hw]
                  dsimp only
                  rw [if_neg hv, fuelA (Nat.le_max_left F F2) e1]
                  dsimp only
                  rw [if_neg l0]
                  exact fuelW (Nat.le_max_right F F2) e2
              | gave v => exact ⟨F + 1, _, by rw [again, hw]; dsimp only; rw [if_neg hv, e1]⟩
              | on => exact ⟨F + 1, _, by rw [again, hw]; dsimp only; rw [if_neg hv, e1]⟩
              | flt w => exact ⟨F + 1, _, by rw [again, hw]; dsimp only; rw [if_neg hv, e1]⟩
      obtain ⟨F, r, e1⟩ := key s.lf s (Nat.le_refl _) hl
      exact ⟨F + 1, r, by rw [doOne]; exact e1⟩
    | call x g es =>
      obtain ⟨_, _, _, ps, body, hg, _, hb⟩ := hok
      cases hw : wxs es s.kn s.rw with
      | error f => exact ⟨1, _, by rw [doOne, hg]; dsimp only; rw [hw]⟩
      | ok vs =>
        obtain ⟨F, ⟨r1, s1⟩, e1⟩ := hA n [] body { kn := knZ (ps.zip vs), rw := fun _ => [], lf := s.lf, td := s.td } hb hl
        refine ⟨F + 1, ?_⟩
        rw [doOne, hg]
        dsimp only
        rw [hw]
        dsimp only
        rw [e1]
        cases r1 <;> exact ⟨_, rfl⟩
  have all : ∀ L n rs bd s, (∀ m ∈ bd, Sm.ok hs n rs m) → s.lf ≤ L → ∃ F r, doAll hs F bd s = some r := by
    intro L
    induction L with
    | zero => exact step 0 (fun n rs m s _ h => absurd h (Nat.not_lt_zero _))
    | succ L ih => exact step (L + 1) (fun n rs m s hok hl => one L ih n rs m s hok (by omega))
  exact ⟨all L, one L (all L)⟩

section
variable {P : Program} {w : World} {K : PySem.W.Frag} {mg : Str → Option Value} {base : Heap}
def roomF (d r : Addr) : List (Str × V) := [("known", .ref d), ("rows", .ref r)]
theorem roomF_known (d r : Addr) : (roomF d r).lookup ("known" : Str) = some (.ref d) := by
  unfold roomF
  rw [List.lookup_cons, show (("known" : Str) == "known") = true by decide +kernel]
theorem roomF_rows (d r : Addr) : (roomF d r).lookup ("rows" : Str) = some (.ref r) := by
  unfold roomF
  rw [List.lookup_cons, show (("rows" : Str) == "known") = false by decide +kernel, List.lookup_cons, show (("rows" : Str) == "rows") = true by decide +kernel]
theorem roomF_no {d r : Addr} {m : Str} (h1 : (m == ("known" : Str)) = false) (h2 : (m == ("rows" : Str)) = false) : (roomF d r).lookup m = none := by
  unfold roomF
  rw [List.lookup_cons, h1, List.lookup_cons, h2]
  rfl
theorem none_sm {H H1 : Hp} {a : Addr} (s : Same H H1) (h : H1 a = none) : H a = none := by
  cases e : H a with
  | none => rfl
  | some o => rw [s a o e] at h; cases h
structure Adr where
  p : Addr
  d : Addr
  q : Addr
  t : Addr
  r : Addr
  ra : Str → Addr
/-- a Room: its names and rows -/
structure RoomAt (K : PySem.W.Frag) (H : Hp) (A : Adr) (rs : List Str) (kn : Kn) (rw : Rw) (n : Nat) : Prop where
  ob : ∃ dx, H A.p = some (.ins (He.ga K "Room") dx (roomF A.d A.r))
  dk : ∃ kvs : List (Key × V), H A.d = some (.dK kvs) ∧ kvs.length ≤ n ∧ ∀ x, valV kvs (.inr x) = (kn x).map V.int
  rk : ∃ rvs : List (Key × V), H A.r = some (.dK rvs) ∧ ∀ x ∈ rs, valV rvs (.inr x) = some (.ref (A.ra x))
  rl : ∀ x ∈ rs, H (A.ra x) = some (.lst ((rw x).map V.int))
theorem RoomAt.sm {H H' : Hp} {A : Adr} {rs : List Str} {kn : Kn} {rw : Rw} {n : Nat} (h : RoomAt K H A rs kn rw n) (s : Same H H') : RoomAt K H' A rs kn rw n := by
  obtain ⟨⟨dx, e⟩, ⟨kvs, e2, l, v⟩, ⟨rvs, e3, v3⟩, rl⟩ := h
  exact ⟨⟨dx, s _ _ e⟩, ⟨kvs, s _ _ e2, l, v⟩, ⟨rvs, s _ _ e3, v3⟩, fun x hx => s _ _ (rl x hx)⟩
def wordF (w : Str) : HO := .xd [("word", .str w)]
def sp_fi (K : PySem.W.Frag) : Sp := fun vs H Q _ => ∃ (a : Addr) (w : Str), vs = [.ref a, .str w] ∧ H a = some (exo a (He.ga K "Faulted") none) ∧ ∀ dx, H dx = none → dx ≠ a → Q .non (upd (upd H dx (exd dx [("word", .str w)])) a (exo a (He.ga K "Faulted") (some dx)))
theorem ok_Faulted_init (T : Top K mg) : FnOk P w K mg base CX0 1 (He.ma K (He.ga K "Faulted") "__init__") T.fd_Faulted___init__ ["self", "word"] (sp_fi K) := by
  refine T.F_Faulted___init__.ok sc_Faulted___init__ (fun vs H Q E h => ?_) (fun cdv A outer s H vs Q E hr h => ?_)
  · obtain ⟨a, w, rfl, _⟩ := h
    rfl
  · obtain ⟨a, w, rfl, ha, q⟩ := h
    refine ⟨_, PSs.nox (pss_cons (ps_expr (pe_weinit (by rfl) T.g_WorkError T.we_WorkError (pa_cons (pv 0) (pa_cons (pv 1) pa_nil))))
        (pss_one (ps_ost (pv 0) (pv 1)))), ?_⟩
    refine ⟨_, rfl, _, rfl, a, He.ga K "Faulted", [.str w], rfl, (by simp), T.o_Faulted, ha, ?_⟩
    exact ⟨_, rfl, _, rfl, a, He.ga K "Faulted", rfl, T.o_Faulted, T.nf_Faulted_word, .inl ⟨ha, fun dx hdx ne => q dx hdx ne⟩⟩
/-- a fault goes out -/
theorem flt_mk {H : Hp} {w : Str} {E : XK} (q : ∀ H' d, Same H H' → H' d = some (wordF w) → E (.ref (He.ga K "Faulted")) (some d) H') :
    ([V.str w] : List V).length ≤ 1000 ∧ ∀ a, H a = none → sp_fi K (.ref a :: ([V.str w] ++ [])) (upd H a (exo a (He.ga K "Faulted") none)) (fun v H2 => v = .non ∧ ∃ (d : Addr) (fs : List (Str × V)), H2 a = some (exo a (He.ga K "Faulted") (some d)) ∧ H2 d = some (exd d fs) ∧ H d = none ∧ E (.ref (He.ga K "Faulted")) (some d) (upd (del H2 a) d (.xd fs))) (fun _ _ _ => False) := by
  refine ⟨by simp, fun a ha => ⟨a, w, rfl, upd_same, fun dx hdx ne => ⟨rfl, dx, _, upd_same, by rw [upd_ne ne]; exact upd_same, ?_, q _ dx (fun b o hb => ?_) upd_same⟩⟩⟩
  · rw [upd_ne ne] at hdx
    exact hdx
  · rw [upd_ne ne] at hdx
    rw [upd_ne (ne_of_none hb hdx), del_ne (ne_of_none hb ha), upd_ne (ne_of_none hb ha), upd_ne (ne_of_none hb hdx), upd_ne (ne_of_none hb ha)]
    exact hb
def FltE (K : PySem.W.Frag) (H : Hp) (w : Str) (E : XK) : Prop := ∀ H' d, Same H H' → H' d = some (wordF w) → E (.ref (He.ga K "Faulted")) (some d) H'
theorem FltE.sm {H H1 : Hp} {w : Str} {E : XK} (h : FltE K H w E) (s : Same H H1) : FltE K H1 w E := fun H' d s' e => h H' d (s.trans s') e
def sp_rowwith (K : PySem.W.Frag) : Sp := fun vs H Q E => ∃ (A : Adr) (rs : List Str) (kn : Kn) (rw : Rw) (n : Nat) (x : Str) (z : Int), vs = [.ref A.p, .str x, .int z] ∧ RoomAt K H A rs kn rw n ∧ x ∈ rs ∧ (0 ≤ z ∧ z < (rw x).length → Q (.ref (A.ra x)) H) ∧ (¬ (0 ≤ z ∧ z < (rw x).length) → FltE K H "place" E)
theorem ok_Room_row_with (T : Top K mg) : FnOk P w K mg base (L2.CX P w) 3 (He.ma K (He.ga K "Room") "row_with") T.fd_Room_row_with ["self", "name", "place"] (sp_rowwith K) := by
  have G_Faulted___init__ := ok_Faulted_init (P := P) (w := w) (base := base) T
  refine T.F_Room_row_with.ok sc_Room_row_with (fun vs H Q E h => ?_) (fun cdv A outer s H vs Q E hr h => ?_)
  · obtain ⟨A, rs, kn, rw, n, x, z, rfl, _⟩ := h
    rfl
  · obtain ⟨B, rs, kn, rw', n, x, z, rfl, ro, hx, q0, q1⟩ := h
    refine ⟨_, (pss_cons (ps_if (pt_not (pt_chain op_le op_lt pe_int (pv 2) (pe_callB call_len_seq (by rfl) T.m_len (by decide +kernel) (pa_cons (pe_dget (hu_of hr) (pe_fld (pv 0) rfl) (pv 1) (fun _ _ => rfl)) pa_nil)))) (pss_one (ps_raise rfl (takes_of rfl rfl rfl rfl) (pmk_oex T.o_Faulted T.in_Faulted.iC T.in_Faulted.tI G_Faulted___init__ (hr.mono (by omega)) T.b_Faulted___init__ .nil pass0 (by rfl) T.g_Faulted (pa_cons pe_str pa_nil)))) pss_nil)
        (pss_one (ps_ret (pe_dget (hu_of hr) (pe_fld (pv 0) rfl) (pv 1) (fun _ _ => rfl))))), ?_⟩
    obtain ⟨dx, ep⟩ := ro.ob
    obtain ⟨rvs, er, hv⟩ := ro.rk
    have el := ro.rl x hx
    have hl : ((rw' x).map V.int).length = (rw' x).length := List.length_map ..
    have hd : DGet H B.r (.str x) (some (.ref (B.ra x))) := by
      have := DGet.k (k := .inr x) er
      rw [hv x hx] at this
      exact this
    refine ⟨_, rfl, _, _, rfl, rfl, _, rfl, ite2 (fun e0 => ?_) (fun e0 => ?_)⟩
    · have h0 : 0 ≤ z := of_decide_eq_true e0
      refine ⟨_, rfl, B.p, _, dx, _, _, rfl, ep, T.cl_Room, T.no_Room_rows, roomF_rows _ _, _, rfl, B.r, _, rfl, hd, B.ra x, _, rfl, .inl (.of el), _, _, rfl, rfl, _, rfl, ?_⟩
      rw [hl]
      by_cases hz : z < ((rw' x).length : Int)
      · refine ifNF hz ?_
        exact ⟨_, rfl, B.p, _, dx, _, _, rfl, ep, T.cl_Room, T.no_Room_rows, roomF_rows _ _, _, rfl, B.r, _, rfl, hd, q0 ⟨h0, hz⟩⟩
      · refine ifNT hz ?_
        exact flt_mk (q1 fun y => hz y.2)
    · have h0 : ¬ 0 ≤ z := fun y => e0 (decide_eq_true y)
      refine ⟨_, rfl, ifT rfl ?_⟩
      exact flt_mk (q1 fun y => h0 y.1)
def sp_worth (K : PySem.W.Frag) (n : Nat) : Sp := fun vs H Q E => ∃ (A : Adr) (rs : List Str) (v : V) (e : Ex) (kn : Kn) (rw : Rw) (lm : Nat), vs = [.ref A.p, v] ∧ e.dep < n ∧ e.wf rs ∧ RoomAt K H A rs kn rw lm ∧ Kn32 kn ∧ Rw32 rw ∧ Dp K H v e.d ∧ (∀ z, wx e kn rw = .ok z → ∀ H', Same H H' → Q (.int z) H') ∧ ∀ f, wx e kn rw = .error f → FltE K H f E
theorem wds_not {w : Str} (h : w ∈ wds) : w ≠ "number" ∧ w ≠ "name" ∧ w ≠ "at" ∧ w ≠ "not" := by
  unfold wds at h
  simp only [List.mem_cons, List.not_mem_nil, or_false] at h
  rcases h with rfl | rfl | rfl | rfl | rfl | rfl | rfl <;> decide +kernel
theorem ok_Room_worth (T : Top K mg) : ∀ n : Nat, FnOk P w K mg base (L2.CX P w) (n + 5) (He.ma K (He.ga K "Room") "worth") T.fd_Room_worth ["self", "e"] (sp_worth K n)
  | 0 => by
    refine T.F_Room_worth.ok sc_Room_worth (fun vs H Q E h => ?_) (fun cdv A outer s H vs Q E hr h => ?_)
    · obtain ⟨A, rs, v, e, kn, rw, lm, rfl, _⟩ := h
      rfl
    · obtain ⟨A, rs, v, e, kn, rw, lm, rfl, h1, _⟩ := h
      omega
  | n + 1 => by
    have G_Room_worth := ok_Room_worth T n
    have G_Room_row_with := ok_Room_row_with (P := P) (w := w) (base := base) T
    have G_reckoned := ok_reckoned (P := P) (w := w) (base := base) T
    have G_denied := ok_denied (P := P) (w := w) (base := base) T
    have G_Faulted___init__ := ok_Faulted_init (P := P) (w := w) (base := base) T
    refine T.F_Room_worth.ok sc_Room_worth (fun vs H Q E h => ?_) (fun cdv A outer s H vs Q E hr h => ?_)
    · obtain ⟨A, rs, v, e, kn, rw, lm, rfl, _⟩ := h
      rfl
    · obtain ⟨B, rs, v, e, kn, rw', lm, rfl, hn, wf, ro, kn32, rw32, dp, q, qf⟩ := h
      refine ⟨_, (pss_cons (ps_if (pt_cmpR op_eq (pe_ix ix_tup (pv 1) pe_int (fun _ _ => rfl)) pe_str (nomark _)) (pss_one (ps_ret (pe_ix ix_tup (pv 1) pe_int (fun _ _ => rfl)))) pss_nil)
        (pss_cons (ps_if (pt_cmpR op_eq (pe_ix ix_tup (pv 1) pe_int (fun _ _ => rfl)) pe_str (nomark _)) (pss_one (ps_ret (pe_dget2 (hu_of hr) (pe_fld (pv 0) rfl) (pe_ix ix_tup (pv 1) pe_int (fun _ _ => rfl)) pe_int ⟨rfl, rfl, rfl, rfl⟩))) pss_nil)
        (pss_cons (ps_if (pt_cmpR op_eq (pe_ix ix_tup (pv 1) pe_int (fun _ _ => rfl)) pe_str (nomark _)) (pss_cons (ps_set (i := 2) sc_Room_worth.nd rfl (Or.inl rfl) (pe_meth (pv 0) T.cl_Room T.me_Room_worth G_Room_worth (hr.mono (by omega)) T.b_Room_worth .nil (passes_call (takes_of rfl rfl rfl rfl) (fun _ _ _ _ h => h)) (pa_cons (pe_ix ix_tup (pv 1) pe_int (fun _ _ => rfl)) pa_nil)))
        (pss_one (ps_ret (pe_ix ix_list (pe_meth (pv 0) T.cl_Room T.me_Room_row_with G_Room_row_with (hr.mono (by omega)) T.b_Room_row_with .nil (passes_call (takes_of rfl rfl rfl rfl) (fun _ _ _ _ h => h)) (pa_cons (pe_ix ix_tup (pv 1) pe_int (fun _ _ => rfl)) (pa_cons (pv 2) pa_nil))) (pv 2) (fun _ _ => rfl))))) pss_nil)
        (pss_cons (ps_if (pt_cmpR op_eq (pe_ix ix_tup (pv 1) pe_int (fun _ _ => rfl)) pe_str (nomark _)) (pss_one (ps_ret (pe_call G_denied (hr.mono (by omega)) (by rfl) T.g_denied T.F_denied.kp T.b_denied .nil pass0 (pa_cons (pe_meth (pv 0) T.cl_Room T.me_Room_worth G_Room_worth (hr.mono (by omega)) T.b_Room_worth .nil (passes_call (takes_of rfl rfl rfl rfl) (fun _ _ _ _ h => h)) (pa_cons (pe_ix ix_tup (pv 1) pe_int (fun _ _ => rfl)) pa_nil)) pa_nil)))) pss_nil)
        (pss_cons (ps_set (i := 3) sc_Room_worth.nd rfl (Or.inl rfl) (pe_meth (pv 0) T.cl_Room T.me_Room_worth G_Room_worth (hr.mono (by omega)) T.b_Room_worth .nil (passes_call (takes_of rfl rfl rfl rfl) (fun _ _ _ _ h => h)) (pa_cons (pe_ix ix_tup (pv 1) pe_int (fun _ _ => rfl)) pa_nil)))
        (pss_cons (ps_set (i := 4) sc_Room_worth.nd rfl (Or.inl rfl) (pe_call G_reckoned (hr.mono (by omega)) (by rfl) T.g_reckoned T.F_reckoned.kp T.b_reckoned .nil pass0 (pa_cons (pe_ix ix_tup (pv 1) pe_int (fun _ _ => rfl)) (pa_cons (pv 3) (pa_cons (pe_meth (pv 0) T.cl_Room T.me_Room_worth G_Room_worth (hr.mono (by omega)) T.b_Room_worth .nil (passes_call (takes_of rfl rfl rfl rfl) (fun _ _ _ _ h => h)) (pa_cons (pe_ix ix_tup (pv 1) pe_int (fun _ _ => rfl)) pa_nil)) pa_nil)))))
        (pss_cons (ps_if (pt_cmpR op_isN (pv 4) pe_non (nomark _)) (pss_one (ps_raise rfl (takes_of rfl rfl rfl rfl) (pmk_oex T.o_Faulted T.in_Faulted.iC T.in_Faulted.tI G_Faulted___init__ (hr.mono (by omega)) T.b_Faulted___init__ .nil pass0 (by rfl) T.g_Faulted (pa_cons pe_str pa_nil)))) pss_nil)
        (pss_one (ps_ret (pv 4)))))))))), ?_⟩
      have nv : ∀ {x y : Str} {A B : Prop}, x ≠ y → B → if decide (V.str x = V.str y) = true then A else B := fun h hB => ifN (fun z => h (V.str.inj z)) hB
      obtain ⟨dx, ep⟩ := ro.ob
      cases e with
      | num m =>
        obtain ⟨t, xs, rfl, ht, da⟩ := dp_tup dp
        obtain ⟨x0, r0, rfl, d0, e0⟩ := dpAll_cons da
        obtain ⟨x1, r1, rfl, d1, e1⟩ := dpAll_cons e0
        cases dp_str d0
        cases dp_int d1
        refine ⟨_, rfl, t, _, 0, _, rfl, rfl, ht, atI_nat (j := 0) rfl, rfl, _, rfl, ifD rfl ?_⟩
        exact ⟨_, rfl, t, _, 1, _, rfl, rfl, ht, atI_nat (j := 1) rfl, q _ rfl _ (Same.refl _)⟩
      | nam x =>
        obtain ⟨t, xs, rfl, ht, da⟩ := dp_tup dp
        obtain ⟨x0, r0, rfl, d0, e0⟩ := dpAll_cons da
        obtain ⟨x1, r1, rfl, d1, e1⟩ := dpAll_cons e0
        cases dp_str d0
        cases dp_str d1
        obtain ⟨kvs, ed, _, hv⟩ := ro.dk
        refine ⟨_, rfl, t, _, 0, _, rfl, rfl, ht, atI_nat (j := 0) rfl, rfl, _, rfl, ifN (by decide +kernel) ?_⟩
        refine ⟨_, rfl, t, _, 0, _, rfl, rfl, ht, atI_nat (j := 0) rfl, rfl, _, rfl, ifD rfl ?_⟩
        refine ⟨_, rfl, B.p, _, dx, _, _, rfl, ep, T.cl_Room, T.no_Room_known, roomF_known _ _, B.d, rfl, .inl ⟨_, .inl ed⟩, _, rfl, t, _, 1, _, rfl, rfl, ht, atI_nat (j := 1) rfl, _, DGet.k (k := .inr x) ed, ?_⟩
        rw [hv x]
        have e9 : ((kn x).map V.int).getD (.int 0) = .int ((kn x).getD 0) := by cases kn x <;> rfl
        rw [e9]
        exact q _ rfl _ (Same.refl _)
      | at_ r a =>
        obtain ⟨t, xs, rfl, ht, da⟩ := dp_tup dp
        obtain ⟨x0, r0, rfl, d0, e0⟩ := dpAll_cons da
        obtain ⟨x1, r1, rfl, d1, e1⟩ := dpAll_cons e0
        obtain ⟨x2, r2, rfl, d2, e2⟩ := dpAll_cons e1
        cases dp_str d0
        cases dp_str d1
        have hd : a.dep < n := by
          have : a.dep + 1 < n + 1 := hn
          omega
        refine ⟨_, rfl, t, _, 0, _, rfl, rfl, ht, atI_nat (j := 0) rfl, rfl, _, rfl, ifN (by decide +kernel) ?_⟩
        refine ⟨_, rfl, t, _, 0, _, rfl, rfl, ht, atI_nat (j := 0) rfl, rfl, _, rfl, ifN (by decide +kernel) ?_⟩
        refine ⟨_, rfl, t, _, 0, _, rfl, rfl, ht, atI_nat (j := 0) rfl, rfl, _, rfl, ifD rfl ?_⟩
        refine ⟨_, rfl, B.p, dx, _, rfl, ep, roomF_no (by decide +kernel) (by decide +kernel), _, rfl, t, _, 2, _, rfl, rfl, ht, atI_nat (j := 2) rfl, B, rs, x2, a, kn, rw', lm, rfl, hd, wf.2, ro, kn32, rw32, d2, fun z hz H1 s1 => ?_, fun f hf => qf f (by unfold wx; rw [hf])⟩
        have ro1 := ro.sm s1
        refine ⟨_, rfl, B.p, dx, _, rfl, s1 _ _ ep, roomF_no (by decide +kernel) (by decide +kernel), _, rfl, t, _, 1, _, rfl, rfl, sqT_sm s1 ht, atI_nat (j := 1) rfl, _, rfl, B, rs, kn, rw', lm, r, z, rfl, ro1, wf.1, fun hp => ?_, fun hp => ?_⟩
        · refine ⟨_, rfl, B.ra r, _, z, _, rfl, rfl, .of (ro1.rl r wf.1), at_ints hp.1 hp.2, ?_⟩
          exact q _ (by unfold wx; rw [hz]; dsimp only; rw [if_pos hp]) _ s1
        · exact (qf "place" (by unfold wx; rw [hz]; dsimp only; rw [if_neg hp])).sm s1
      | no a =>
        obtain ⟨t, xs, rfl, ht, da⟩ := dp_tup dp
        obtain ⟨x0, r0, rfl, d0, e0⟩ := dpAll_cons da
        obtain ⟨x1, r1, rfl, d1, e1⟩ := dpAll_cons e0
        cases dp_str d0
        have hd : a.dep < n := by
          have : a.dep + 1 < n + 1 := hn
          omega
        refine ⟨_, rfl, t, _, 0, _, rfl, rfl, ht, atI_nat (j := 0) rfl, rfl, _, rfl, ifN (by decide +kernel) ?_⟩
        refine ⟨_, rfl, t, _, 0, _, rfl, rfl, ht, atI_nat (j := 0) rfl, rfl, _, rfl, ifN (by decide +kernel) ?_⟩
        refine ⟨_, rfl, t, _, 0, _, rfl, rfl, ht, atI_nat (j := 0) rfl, rfl, _, rfl, ifN (by decide +kernel) ?_⟩
        refine ⟨_, rfl, t, _, 0, _, rfl, rfl, ht, atI_nat (j := 0) rfl, rfl, _, rfl, ifD rfl ?_⟩
        refine ⟨_, rfl, B.p, dx, _, rfl, ep, roomF_no (by decide +kernel) (by decide +kernel), _, rfl, t, _, 1, _, rfl, rfl, ht, atI_nat (j := 1) rfl, B, rs, x1, a, kn, rw', lm, rfl, hd, wf, ro, kn32, rw32, d1, fun z hz H1 s1 => ?_, fun f hf => qf f (by unfold wx; rw [hf])⟩
        exact ⟨z, rfl, q _ (by unfold wx; rw [hz]) _ s1⟩
      | op wd a b =>
        obtain ⟨w1, w2, w3, w4⟩ := wds_not wf.1
        obtain ⟨t, xs, rfl, ht, da⟩ := dp_tup dp
        obtain ⟨x0, r0, rfl, d0, e0⟩ := dpAll_cons da
        obtain ⟨x1, r1, rfl, d1, e1⟩ := dpAll_cons e0
        obtain ⟨x2, r2, rfl, d2, e2⟩ := dpAll_cons e1
        cases dp_str d0
        have hd : max a.dep b.dep + 1 < n + 1 := hn
        have hda : a.dep < n := by
          have := Nat.le_max_left a.dep b.dep
          omega
        have hdb : b.dep < n := by
          have := Nat.le_max_right a.dep b.dep
          omega
        refine ⟨_, rfl, t, _, 0, _, rfl, rfl, ht, atI_nat (j := 0) rfl, rfl, _, rfl, nv w1 ?_⟩
        refine ⟨_, rfl, t, _, 0, _, rfl, rfl, ht, atI_nat (j := 0) rfl, rfl, _, rfl, nv w2 ?_⟩
        refine ⟨_, rfl, t, _, 0, _, rfl, rfl, ht, atI_nat (j := 0) rfl, rfl, _, rfl, nv w3 ?_⟩
        refine ⟨_, rfl, t, _, 0, _, rfl, rfl, ht, atI_nat (j := 0) rfl, rfl, _, rfl, nv w4 ?_⟩
        refine ⟨_, rfl, B.p, dx, _, rfl, ep, roomF_no (by decide +kernel) (by decide +kernel), _, rfl, t, _, 1, _, rfl, rfl, ht, atI_nat (j := 1) rfl, B, rs, x1, a, kn, rw', lm, rfl, hda, wf.2.1, ro, kn32, rw32, d1, fun u hu H1 s1 => ?_, fun f hf => qf f (by unfold wx; rw [hf])⟩
        have ro1 := ro.sm s1
        have ht1 := sqT_sm s1 ht
        refine ⟨_, rfl, t, _, 0, _, rfl, rfl, ht1, atI_nat (j := 0) rfl, _, rfl, _, rfl, B.p, dx, _, rfl, s1 _ _ ep, roomF_no (by decide +kernel) (by decide +kernel), _, rfl, t, _, 2, _, rfl, rfl, ht1, atI_nat (j := 2) rfl, B, rs, x2, b, kn, rw', lm, rfl, hdb, wf.2.2, ro1, kn32, rw32, dp_sm s1 d2, fun v hv H2 s2 => ?_, fun f hf => (qf f (by unfold wx; rw [hu]; dsimp only; rw [hf])).sm s1⟩
        have s12 := s1.trans s2
        refine ⟨wd, u, v, vOf (rck wd u v), rfl, wx_32 kn32 rw32 wf.2.1 hu, wx_32 kn32 rw32 wf.2.2 hv, due_rck wf.1, fun H3 s3 => ?_⟩
        have s13 := s12.trans s3
        cases hc : rck wd u v with
        | none =>
          refine ⟨_, rfl, rfl, _, rfl, ifT rfl ?_⟩
          exact flt_mk ((qf "division" (by unfold wx; rw [hu]; dsimp only; rw [hv]; dsimp only; rw [hc])).sm s13)
        | some z =>
          refine ⟨_, rfl, rfl, _, rfl, ifF rfl ?_⟩
          exact ⟨_, rfl, q _ (by unfold wx; rw [hu]; dsimp only; rw [hv]; dsimp only; rw [hc]) _ s13⟩
end

section
variable {P : Program} {w : World} {K : PySem.W.Frag} {mg : Str → Option Value} {base : Heap}
def playF (h : Addr) (lf : Int) (t : Addr) : List (Str × V) := [("helpers", .ref h), ("left", .int lf), ("told", .ref t)]
theorem playF_left (h t : Addr) (lf : Int) : (playF h lf t).lookup ("left" : Str) = some (.int lf) := by
  unfold playF
  rw [List.lookup_cons, show (("left" : Str) == "helpers") = false by decide +kernel, List.lookup_cons, show (("left" : Str) == "left") = true by decide +kernel]
theorem playF_told (h t : Addr) (lf : Int) : (playF h lf t).lookup ("told" : Str) = some (.ref t) := by
  unfold playF
  rw [List.lookup_cons, show (("told" : Str) == "helpers") = false by decide +kernel, List.lookup_cons, show (("told" : Str) == "left") = false by decide +kernel, List.lookup_cons, show (("told" : Str) == "told") = true by decide +kernel]
theorem playF_helpers (h t : Addr) (lf : Int) : (playF h lf t).lookup ("helpers" : Str) = some (.ref h) := by
  unfold playF
  rw [List.lookup_cons, show (("helpers" : Str) == "helpers") = true by decide +kernel]
theorem playF_no {h t : Addr} {lf : Int} {m : Str} (h1 : (m == ("helpers" : Str)) = false) (h2 : (m == ("left" : Str)) = false) (h3 : (m == ("told" : Str)) = false) : (playF h lf t).lookup m = none := by
  unfold playF
  rw [List.lookup_cons, h1, List.lookup_cons, h2, List.lookup_cons, h3]
  rfl
theorem playF_put (h t : Addr) (lf l2 : Int) : putF "left" (.int l2) (playF h lf t) = playF h l2 t := by
  unfold playF
  show (if ("helpers" : Str) = "left" then _ else (("helpers" : Str), V.ref h) :: (if ("left" : Str) = "left" then (("left" : Str), V.int l2) :: [(("told" : Str), V.ref t)] else _)) = _
  rw [if_neg (by decide +kernel), if_pos rfl]
/-- what may be changed -/
def SA (rs : List Str) (A : Adr) (a : Addr) : Prop := a = A.d ∨ a = A.q ∨ a = A.t ∨ ∃ x ∈ rs, a = A.ra x
def helpD (pb : List Str × List Sm) : PyData := .tuple [.tuple (pb.1.map PyData.str), .tuple (Sm.ds pb.2)]
theorem strs_nl : ∀ l : List Str, nLs (l.map PyData.str) = true
  | [] => by simp [nLs]
  | a :: r => by rw [List.map_cons, nLs, strs_nl r]; simp [nLd]
theorem helpD_nl (pb : List Str × List Sm) : nLd (helpD pb) = true := by simp [helpD, nLd, nLs, strs_nl, Sm.noLs]
/-- the helpers, by their names -/
def HelpAt (K : PySem.W.Frag) (H : Hp) (h : Addr) (hs : Hs) : Prop := ∃ hvs : List (Key × V), H h = some (.dK hvs) ∧ ∀ x pb, hs x = some pb → ∃ u, valV hvs (.inr x) = some u ∧ Dp K H u (helpD pb)
theorem HelpAt.sm {H H' : Hp} {h : Addr} {hs : Hs} (k : HelpAt K H h hs) (s : Same H H') : HelpAt K H' h hs := by
  obtain ⟨hvs, e, f⟩ := k
  exact ⟨hvs, s _ _ e, fun x pb hx => by obtain ⟨u, a, b⟩ := f x pb hx; exact ⟨u, a, dp_sm s b⟩⟩
theorem HelpAt.kp {S : Addr → Prop} {H H' : Hp} {h : Addr} {hs : Hs} (k : HelpAt K H h hs) (s : Kp S H H') (ns : ¬ S h) : HelpAt K H' h hs := by
  obtain ⟨hvs, e, f⟩ := k
  exact ⟨hvs, s _ _ e (fun z => absurd z ns), fun x pb hx => by obtain ⟨u, a, b⟩ := f x pb hx; exact ⟨u, a, dp_kp s _ _ (helpD_nl pb) b⟩⟩
structure Std (K : PySem.W.Frag) (hs : Hs) (rs : List Str) (A : Adr) (h : Addr) (M N : Nat) (H : Hp) (s : PSt) : Prop where
  ro : RoomAt K H A rs s.kn s.rw (N - s.lf)
  ob : ∃ qx, H A.q = some (.ins (He.ga K "Play") qx (playF h (s.lf : Int) A.t))
  tl : H A.t = some (.lst (s.td.map V.int))
  hk : HelpAt K H h hs
  k32 : Kn32 s.kn
  r32 : Rw32 s.rw
  sz : s.td.length + s.lf ≤ M
  nz : s.lf ≤ N
  m6 : M ≤ 6000
  n6 : N ≤ 7000
  pq : A.p ≠ A.q
  rd : A.r ≠ A.d
  hd : h ≠ A.d
  rt : ∀ x ∈ rs, A.ra x ≠ A.t
  ri : ∀ x ∈ rs, ∀ y ∈ rs, A.ra x = A.ra y → x = y
theorem Std.sm {hs : Hs} {rs : List Str} {A : Adr} {h : Addr} {M N : Nat} {H H' : Hp} {s : PSt} (k : Std K hs rs A h M N H s) (e : Same H H') : Std K hs rs A h M N H' s := by
  obtain ⟨qx, e0⟩ := k.ob
  exact ⟨k.ro.sm e, ⟨qx, e _ _ e0⟩, e _ _ k.tl, k.hk.sm e, k.k32, k.r32, k.sz, k.nz, k.m6, k.n6, k.pq, k.rd, k.hd, k.rt, k.ri⟩
theorem Std.mono {hs : Hs} {rs : List Str} {A : Adr} {h : Addr} {M N M' N' : Nat} {H : Hp} {s : PSt} (k : Std K hs rs A h M N H s) (l : M ≤ M') (l6 : M' ≤ 6000) (ln : N ≤ N') (n6 : N' ≤ 7000) : Std K hs rs A h M' N' H s := by
  obtain ⟨h1, ⟨kvs, h2, h3, h4⟩, h5, h6⟩ := k.ro
  exact ⟨⟨h1, ⟨kvs, h2, by omega, h4⟩, h5, h6⟩, k.ob, k.tl, k.hk, k.k32, k.r32, by have := k.sz; omega, by have := k.nz; omega, l6, n6, k.pq, k.rd, k.hd, k.rt, k.ri⟩
/-- what stands apart -/
structure Apart (rs : List Str) (A : Adr) (h : Addr) : Prop where
  pd : A.p ≠ A.d
  pt : A.p ≠ A.t
  dq : A.d ≠ A.q
  dt : A.d ≠ A.t
  qt : A.q ≠ A.t
  rq : A.r ≠ A.q
  rt : A.r ≠ A.t
  hq : h ≠ A.q
  ht : h ≠ A.t
  ap : ∀ x ∈ rs, A.ra x ≠ A.p
  ad : ∀ x ∈ rs, A.ra x ≠ A.d
  aq : ∀ x ∈ rs, A.ra x ≠ A.q
  ar : ∀ x ∈ rs, A.ra x ≠ A.r
  ah : ∀ x ∈ rs, A.ra x ≠ h
theorem Std.ap {hs : Hs} {rs : List Str} {A : Adr} {h : Addr} {M N : Nat} {H : Hp} {s : PSt} (k : Std K hs rs A h M N H s) : Apart rs A h := by
  obtain ⟨⟨dx, e1⟩, ⟨kvs, e2, _⟩, ⟨rvs, e5, _⟩, e6⟩ := k.ro
  obtain ⟨qx, e3⟩ := k.ob
  have e4 := k.tl
  obtain ⟨hvs, e7, _⟩ := k.hk
  refine ⟨fun z => ?_, fun z => ?_, fun z => ?_, fun z => ?_, fun z => ?_, fun z => ?_, fun z => ?_, fun z => ?_, fun z => ?_, fun x hx z => ?_, fun x hx z => ?_, fun x hx z => ?_, fun x hx z => ?_, fun x hx z => ?_⟩
  · rw [z, e2] at e1; cases e1
  · rw [z, e4] at e1; cases e1
  · rw [z, e3] at e2; cases e2
  · rw [z, e4] at e2; cases e2
  · rw [z, e4] at e3; cases e3
  · rw [z, e3] at e5; cases e5
  · rw [z, e4] at e5; cases e5
  · rw [z, e3] at e7; cases e7
  · rw [z, e4] at e7; cases e7
  · have := e6 x hx; rw [z, e1] at this; cases this
  · have := e6 x hx; rw [z, e2] at this; cases this
  · have := e6 x hx; rw [z, e3] at this; cases this
  · have := e6 x hx; rw [z, e5] at this; cases this
  · have := e6 x hx; rw [z, e7] at this; cases this
theorem Std.hno {hs : Hs} {rs : List Str} {A : Adr} {h : Addr} {M N : Nat} {H : Hp} {s : PSt} (k : Std K hs rs A h M N H s) : ¬ SA rs A h := fun z => by
  have a := k.ap
  rcases z with z | z | z | ⟨x, hx, z⟩
  · exact k.hd z
  · exact a.hq z
  · exact a.ht z
  · exact a.ah x hx z.symm
theorem Std.turn {hs : Hs} {rs : List Str} {A : Adr} {h : Addr} {M N : Nat} {H : Hp} {s : PSt} {qx : Addr} (k : Std K hs rs A h M N H s) (eq : H A.q = some (.ins (He.ga K "Play") qx (playF h (s.lf : Int) A.t))) (l0 : s.lf ≠ 0) :
    Std K hs rs A h (M - 1) (N - 1) (upd H A.q (.ins (He.ga K "Play") qx (playF h ((s.lf - 1 : Nat) : Int) A.t))) { s with lf := s.lf - 1 } := by
  have a := k.ap
  obtain ⟨⟨dx, e1⟩, ⟨kvs, e2, l2, hv⟩, ⟨rvs, e5, v5⟩, e6⟩ := k.ro
  have sz := k.sz
  have nz := k.nz
  have m6 := k.m6
  have n6 := k.n6
  refine ⟨⟨⟨dx, by rw [upd_ne k.pq]; exact e1⟩, ⟨kvs, by rw [upd_ne a.dq]; exact e2, ?_, hv⟩, ⟨rvs, by rw [upd_ne a.rq]; exact e5, v5⟩, fun x hx => by rw [upd_ne (a.aq x hx)]; exact e6 x hx⟩, ⟨qx, upd_same⟩, by rw [upd_ne a.qt.symm]; exact k.tl, k.hk.kp (Kp.upd (S := fun z => z = A.q) eq trivial rfl) a.hq, k.k32, k.r32, ?_, ?_, by omega, by omega, k.pq, k.rd, k.hd, k.rt, k.ri⟩
  · show kvs.length ≤ N - 1 - (s.lf - 1)
    omega
  · show s.td.length + (s.lf - 1) ≤ M - 1
    omega
  · show s.lf - 1 ≤ N - 1
    omega
def Post (K : PySem.W.Frag) (hs : Hs) (rs : List Str) (A : Adr) (h : Addr) (M N : Nat) (H : Hp) (s : PSt) (Q : VK) (E : XK) : Rs → Prop
  | .fin => ∀ H', Kp (SA rs A) H H' → Std K hs rs A h M N H' s → Q .non H'
  | .gave v => ∀ H', Kp (SA rs A) H H' → Std K hs rs A h M N H' s → In32 v → Q (.int v) H'
  | .on => ∀ H', Kp (SA rs A) H H' → Std K hs rs A h M N H' s → E (.ref (He.ga K "Unended")) none H'
  | .flt w => ∀ H' d, Kp (SA rs A) H H' → Std K hs rs A h M N H' s → H' d = some (wordF w) → E (.ref (He.ga K "Faulted")) (some d) H'
theorem Post.kp {hs : Hs} {rs : List Str} {A : Adr} {h : Addr} {M N : Nat} {H H1 : Hp} {s : PSt} {Q : VK} {E : XK} {r : Rs} (k : Kp (SA rs A) H H1) (p : Post K hs rs A h M N H s Q E r) : Post K hs rs A h M N H1 s Q E r := by
  cases r with
  | fin => exact fun H' k' st => p H' (k.trans k') st
  | gave v => exact fun H' k' st i => p H' (k.trans k') st i
  | on => exact fun H' k' st => p H' (k.trans k') st
  | flt w => exact fun H' d k' st e => p H' d (k.trans k') st e
theorem Post.mono {hs : Hs} {rs : List Str} {A : Adr} {h : Addr} {M M' N N' : Nat} {H : Hp} {s : PSt} {Q : VK} {E : XK} {r : Rs} (l : M ≤ M') (l6 : M' ≤ 6000) (ln : N ≤ N') (n6 : N' ≤ 7000) (p : Post K hs rs A h M' N' H s Q E r) : Post K hs rs A h M N H s Q E r := by
  cases r with
  | fin => exact fun H' k' st => p H' k' (st.mono l l6 ln n6)
  | gave v => exact fun H' k' st i => p H' k' (st.mono l l6 ln n6) i
  | on => exact fun H' k' st => p H' k' (st.mono l l6 ln n6)
  | flt w => exact fun H' d k' st e => p H' d k' (st.mono l l6 ln n6) e
/-- a fault of an expression -/
theorem Post.flt {hs : Hs} {rs : List Str} {A : Adr} {h : Addr} {M N : Nat} {H : Hp} {s : PSt} {Q : VK} {E : XK} {f : Str} (p : Post K hs rs A h M N H s Q E (.flt f)) (st : Std K hs rs A h M N H s) : FltE K H f E := fun H' d e x => p H' d (Kp.of_same e) (st.sm e) x
def sp_turn (K : PySem.W.Frag) : Sp := fun vs H Q E => ∃ (hs : Hs) (rs : List Str) (A : Adr) (h : Addr) (M N : Nat) (s : PSt), vs = [.ref A.q] ∧ Std K hs rs A h M N H s ∧ (s.lf = 0 → E (.ref (He.ga K "Unended")) none H) ∧ (s.lf ≠ 0 → ∀ H', Kp (SA rs A) H H' → Std K hs rs A h (M - 1) (N - 1) H' { s with lf := s.lf - 1 } → Q .non H')
theorem ok_Play_take_turn (T : Top K mg) : FnOk P w K mg base (L2.CX P w) 1 (He.ma K (He.ga K "Play") "take_turn") T.fd_Play_take_turn ["self"] (sp_turn K) := by
  refine T.F_Play_take_turn.ok sc_Play_take_turn (fun vs H Q E h => ?_) (fun cdv A outer s H vs Q E hr h => ?_)
  · obtain ⟨hs, rs, A, h, M, N, s, rfl, _⟩ := h
    rfl
  · obtain ⟨hs, rs, B, hh, M, N, s, rfl, st, q0, q1⟩ := h
    refine ⟨_, (pss_cons (ps_if (pt_cmpR op_eq (pe_fld (pv 0) rfl) pe_int (nomark _)) (pss_one (ps_raise rfl (takes_of rfl rfl rfl rfl) (pmk_own PySem.F.excBase_ValueError T.x_Unended.1 T.g_Unended T.x_Unended.2.1 (raises_own T.x_Unended.2.2.1 T.x_Unended.2.2.2) rfl))) pss_nil)
        (pss_one (ps_fldaug (pv 0) pe_int in_sub))), ?_⟩
    obtain ⟨qx, eq⟩ := st.ob
    refine ⟨_, rfl, B.q, _, qx, _, _, rfl, eq, T.cl_Play, T.no_Play_left, playF_left _ _ _, rfl, _, rfl, ?_⟩
    by_cases h : s.lf = 0
    · refine ifD (by rw [h]; rfl) ?_
      exact q0 h
    · refine ifN (fun z => h (by have := V.int.inj z; omega)) ?_
      refine ⟨_, rfl, B.q, _, qx, _, _, rfl, eq, T.cl_Play, T.no_Play_left, playF_left _ _ _, _, _, rfl, rfl, _, _, eq, (by show 3 < 1000; decide), ?_⟩
      rw [playF_put]
      have hl : ((s.lf : Nat) : Int) - 1 = ((s.lf - 1 : Nat) : Int) := by omega
      rw [hl]
      exact q1 h _ (Kp.upd eq trivial (.inr (.inl rfl))) (st.turn eq h)
def sp_all (K : PySem.W.Frag) (n : Nat) : Sp := fun vs H Q E => ∃ (hs : Hs) (rs : List Str) (A : Adr) (h : Addr) (M N : Nat) (s s' : PSt) (v : V) (bd : List Sm) (r : Rs) (F : Nat), vs = [.ref A.q, v, .ref A.p] ∧ Std K hs rs A h M N H s ∧ Dp K H v (.tuple (Sm.ds bd)) ∧ (∀ m ∈ bd, m.ok hs n rs) ∧ doAll hs F bd s = some (r, s') ∧ Post K hs rs A h M N H s' Q E r
def sp_one (K : PySem.W.Frag) (n : Nat) : Sp := fun vs H Q E => ∃ (hs : Hs) (rs : List Str) (A : Adr) (h : Addr) (M N : Nat) (s s' : PSt) (v : V) (m : Sm) (r : Rs) (F : Nat), vs = [.ref A.q, v, .ref A.p] ∧ Std K hs rs A h M N H s ∧ Dp K H v m.d ∧ m.ok hs n rs ∧ doOne hs F m s = some (r, s') ∧ M < 6000 ∧ N < 7000 ∧ Post K hs rs A h (M + 1) (N + 1) H s' Q E r
def sp_again (K : PySem.W.Frag) (n : Nat) : Sp := fun vs H Q E => ∃ (hs : Hs) (rs : List Str) (A : Adr) (h : Addr) (M N : Nat) (s s' : PSt) (v : V) (e : Ex) (b : List Sm) (r : Rs) (F : Nat), vs = [.ref A.q, v, .ref A.p] ∧ Std K hs rs A h M N H s ∧ Dp K H v (Sm.loop e b).d ∧ e.ok rs ∧ (∀ m ∈ b, m.ok hs n rs) ∧ again hs F e b s = some (r, s') ∧ Post K hs rs A h M N H s' Q E r
theorem ok_all_of (T : Top K mg) (n k : Nat) (hk : 2 ≤ k) (G_Play_do_one : FnOk P w K mg base (L2.CX P w) k (He.ma K (He.ga K "Play") "do_one") T.fd_Play_do_one ["self", "statement", "room"] (sp_one K n)) :
    FnOk P w K mg base (L2.CX P w) (k + 1) (He.ma K (He.ga K "Play") "do_all") T.fd_Play_do_all ["self", "body", "room"] (sp_all K n) := by
  have G_Play_take_turn := ok_Play_take_turn (P := P) (w := w) (base := base) T
  refine T.F_Play_do_all.ok sc_Play_do_all (fun vs H Q E h => ?_) (fun cdv A outer s H vs Q E hr h => ?_)
  · obtain ⟨hs, rs, A, h, M, N, s, s', v, bd, r, F, rfl, _⟩ := h
    rfl
  · obtain ⟨hs, rs, B, hh, M, N, s, s', v, bd, r, F, rfl, st, dp, ok, hd, po⟩ := h
    refine ⟨_, (pss_cons (ps_for (passes_of rfl) (by rfl) (pi_tup (pv 1)) (pg_name (i := 3) sc_Play_do_all.nd rfl (Or.inl rfl)) (pss_cons (ps_expr (pe_meth0 (pv 0) T.cl_Play T.me_Play_take_turn G_Play_take_turn (hr.mono (by omega)) T.b_Play_take_turn .nil (passes_call (takes_of rfl rfl rfl rfl) (fun _ _ _ _ h => h))))
        (pss_cons (ps_set (i := 4) sc_Play_do_all.nd rfl (Or.inl rfl) (pe_meth (pv 0) T.cl_Play T.me_Play_do_one G_Play_do_one (hr.mono (by omega)) T.b_Play_do_one .nil (passes_call (takes_of rfl rfl rfl rfl) (fun _ _ _ _ h => h)) (pa_cons (pv 3) (pa_cons (pv 2) pa_nil))))
        (pss_one (ps_if (pt_cmpR op_notN (pv 4) pe_non (nomark _)) (pss_one (ps_ret (pv 4))) pss_nil)))))
        (pss_one (ps_ret pe_non))), ?_⟩
    obtain ⟨p0, xs, rfl, hp, da⟩ := dp_tup dp
    have lx := dpAll_len da
    rw [Sm.ds_eq, List.length_map] at lx
    refine ⟨_, rfl, p0, rfl, ⟨_, hp⟩, ?_⟩
    refine for_tup (K := K) (xs := xs) (fun j σ' H' => Kp (SA rs B) H H' ∧ ∃ (F' : Nat) (s1 : PSt) (x3 x4 : Option V), Std K hs rs B hh M N H' s1 ∧ doAll hs F' (bd.drop j) s1 = some (r, s') ∧ σ' = [some (.ref B.q), some (.ref p0), some (.ref B.p), x3, x4]) ?_ ?_ ?_ ?_
    · exact ⟨Kp.refl, F, s, none, none, st, hd, rfl⟩
    · rintro j σ' H' _ ⟨k', _⟩
      exact sqT_kp k' hp
    · rintro j y σ' H1 hy ⟨k1, F', s1, x3, x4, st1, hd1, rfl⟩
      have jl : j < bd.length := by
        have := (List.getElem?_eq_some_iff.mp hy).1
        omega
      obtain ⟨m, hm⟩ : ∃ m, bd[j]? = some m := ⟨bd[j], List.getElem?_eq_getElem jl⟩
      have hdrop : bd.drop j = m :: bd.drop (j + 1) := by
        rw [List.drop_eq_getElem_cons jl]
        rw [List.getElem?_eq_getElem jl] at hm
        cases hm
        rfl
      rw [hdrop] at hd1
      cases F' with
      | zero => simp [doAll] at hd1
      | succ F' =>
        rw [doAll] at hd1
        obtain ⟨qx, eq⟩ := st1.ob
        refine ⟨_, rfl, B.q, qx, _, rfl, eq, playF_no (by decide +kernel) (by decide +kernel) (by decide +kernel), hs, rs, B, hh, M, N, s1, rfl, st1, fun l0 => ?_, fun l0 H2 k2 st2 => ?_⟩
        · rw [if_pos l0] at hd1
          cases hd1
          exact po _ k1 st1
        · rw [if_neg l0] at hd1
          have k12 := k1.trans k2
          obtain ⟨d, hdd, ddd⟩ := dpAll_getV da hy
          rw [Sm.ds_eq, List.getElem?_map, hm] at hdd
          cases hdd
          have dm := dp_kp k12 _ _ (Sm.noL m) ddd
          obtain ⟨qx2, eq2⟩ := st2.ob
          cases ho : doOne hs F' m { s1 with lf := s1.lf - 1 } with
          | none => rw [ho] at hd1; cases hd1
          | some rs' =>
            obtain ⟨r1, s2⟩ := rs'
            rw [ho] at hd1
            have sz := st1.sz
            have nz := st1.nz
            have m1 : M - 1 + 1 = M := by omega
            have n1 : N - 1 + 1 = N := by omega
            have m6 := st1.m6
            have n6 := st1.n6
            refine ⟨_, rfl, B.q, qx2, _, rfl, eq2, playF_no (by decide +kernel) (by decide +kernel) (by decide +kernel), _, rfl, _, rfl, hs, rs, B, hh, M - 1, N - 1, _, s2, y, m, r1, F', rfl, st2, dm, ok m (List.mem_of_getElem? hm), ho, by omega, by omega, ?_⟩
            rw [m1, n1]
            cases r1 with
            | fin =>
              intro H3 k3 st3
              refine ⟨_, rfl, rfl, _, rfl, ?_⟩
              exact ⟨k12.trans k3, F', s2, _, _, st3, hd1, rfl⟩
            | gave v =>
              intro H3 k3 st3 i3
              cases hd1
              refine ⟨_, rfl, rfl, _, rfl, ?_⟩
              exact ⟨_, rfl, po _ (k12.trans k3) st3 i3⟩
            | on =>
              intro H3 k3 st3
              cases hd1
              exact po _ (k12.trans k3) st3
            | flt w =>
              intro H3 d3 k3 st3 e3
              cases hd1
              exact po _ d3 (k12.trans k3) st3 e3
    · rintro σ' H1 ⟨k1, F', s1, x3, x4, st1, hd1, rfl⟩
      rw [lx, List.drop_length] at hd1
      cases F' with
      | zero => simp [doAll] at hd1
      | succ F' =>
        rw [doAll] at hd1
        cases hd1
        exact po _ k1 st1
end

theorem while_m {c : TT} {tb : TS} {D : Ends} {σ : L2.St} {H : Hp} (Pv : Nat → L2.St → Hp → Prop) (h0 : ∃ m, Pv m σ H)
    (hs : ∀ m σ H, Pv m σ H → c σ H fun b H1 => if b = true then tb { D with nx := fun σ' H' => ∃ m', m' < m ∧ Pv m' σ' H', ct := fun σ' H' => ∃ m', m' < m ∧ Pv m' σ' H', bk := D.nx } σ H1 else D.nx σ H1)
    (mono : ∀ σ H Q Q', (∀ b H1, Q b H1 → Q' b H1) → c σ H Q → c σ H Q') : tWhile c tb D σ H := by
  refine ⟨Pv, h0, ?_⟩
  intro m σ H p
  refine mono σ H _ _ (fun b H1 q => ?_) (hs m σ H p)
  cases b with
  | true => exact ⟨_, fun σ' H' h => h, q⟩
  | false => exact q

section
variable {P : Program} {w : World} {K : PySem.W.Frag} {mg : Str → Option Value} {base : Heap}
theorem ok_again_of (T : Top K mg) (n k : Nat) (hk : 15 ≤ k) (G_Play_do_all : FnOk P w K mg base (L2.CX P w) k (He.ma K (He.ga K "Play") "do_all") T.fd_Play_do_all ["self", "body", "room"] (sp_all K n)) :
    FnOk P w K mg base (L2.CX P w) (k + 1) (He.ma K (He.ga K "Play") "again") T.fd_Play_again ["self", "statement", "room"] (sp_again K n) := by
  have G_Play_take_turn := ok_Play_take_turn (P := P) (w := w) (base := base) T
  have G_Room_worth := ok_Room_worth (P := P) (w := w) (base := base) T 10
  refine T.F_Play_again.ok sc_Play_again (fun vs H Q E h => ?_) (fun cdv A outer s H vs Q E hr h => ?_)
  · obtain ⟨hs, rs, A, h, M, N, s, s', v, e, b, r, F, rfl, _⟩ := h
    rfl
  · obtain ⟨hs, rs, B, hh, M, N, s, s', v, e, b, r, F, rfl, st, dp, eo, ok, hd, po⟩ := h
    refine ⟨_, (pss_cons (ps_while (passes_of rfl) (pt_cmpR op_ne (pe_meth (pv 2) T.cl_Room T.me_Room_worth G_Room_worth (hr.mono (by omega)) T.b_Room_worth .nil (passes_call (takes_of rfl rfl rfl rfl) (fun _ _ _ _ h => h)) (pa_cons (pe_ix ix_tup (pv 1) pe_int (fun _ _ => rfl)) pa_nil)) pe_int (nomark _)) (pss_cons (ps_set (i := 3) sc_Play_again.nd rfl (Or.inl rfl) (pe_meth (pv 0) T.cl_Play T.me_Play_do_all G_Play_do_all (hr.mono (by omega)) T.b_Play_do_all .nil (passes_call (takes_of rfl rfl rfl rfl) (fun _ _ _ _ h => h)) (pa_cons (pe_ix ix_tup (pv 1) pe_int (fun _ _ => rfl)) (pa_cons (pv 2) pa_nil))))
        (pss_cons (ps_if (pt_cmpR op_notN (pv 3) pe_non (nomark _)) (pss_one (ps_ret (pv 3))) pss_nil)
        (pss_one (ps_expr (pe_meth0 (pv 0) T.cl_Play T.me_Play_take_turn G_Play_take_turn (hr.mono (by omega)) T.b_Play_take_turn .nil (passes_call (takes_of rfl rfl rfl rfl) (fun _ _ _ _ h => h))))))))
        (pss_one (ps_ret pe_non))), ?_⟩
    obtain ⟨p0, xs, rfl, hp, da⟩ := dp_tup dp
    obtain ⟨x0, r0, rfl, d0, e0⟩ := dpAll_cons da
    obtain ⟨x1, r1, rfl, d1, e1⟩ := dpAll_cons e0
    obtain ⟨x2, r2, rfl, d2, e2⟩ := dpAll_cons e1
    refine while_m (fun m σ' H' => Kp (SA rs B) H H' ∧ ∃ (s1 : PSt) (x3 : Option V), Std K hs rs B hh M N H' s1 ∧ again hs m e b s1 = some (r, s') ∧ σ' = [some (.ref B.q), some (.ref p0), some (.ref B.p), x3]) ?_ ?_ ?_
    · exact ⟨F, Kp.refl, s, none, st, hd, rfl⟩
    · rintro m σ' H1 ⟨k1, s1, x3, st1, hd1, rfl⟩
      cases m with
      | zero => simp [again] at hd1
      | succ m =>
        rw [again] at hd1
        obtain ⟨dx, ep⟩ := st1.ro.ob
        have hp1 := sqT_kp k1 hp
        refine ⟨_, rfl, B.p, dx, _, rfl, ep, roomF_no (by decide +kernel) (by decide +kernel), _, rfl, p0, _, 1, _, rfl, rfl, hp1, atI_nat (j := 1) rfl, B, rs, x1, e, s1.kn, s1.rw, _, rfl, eo.1, eo.2, st1.ro, st1.k32, st1.r32, dp_kp k1 _ _ (Ex.noL e) d1, fun z hw H2 s2 => ?_, fun f hf => ?_⟩
        · rw [hw] at hd1
          dsimp only at hd1
          have k2 := k1.trans (Kp.of_same s2)
          have st2 := st1.sm s2
          refine ⟨rfl, _, rfl, ?_⟩
          by_cases hz : z = 0
          · rw [if_pos hz] at hd1
            cases hd1
            refine ifNF (by rw [hz]) ?_
            exact po _ k2 st2
          · rw [if_neg hz] at hd1
            refine ifNT (fun y => hz (V.int.inj y)) ?_
            cases ha : doAll hs m b s1 with
            | none => rw [ha] at hd1; cases hd1
            | some rs' =>
              obtain ⟨r1, s2'⟩ := rs'
              rw [ha] at hd1
              obtain ⟨qx, eq⟩ := st2.ob
              refine ⟨_, rfl, B.q, qx, _, rfl, eq, playF_no (by decide +kernel) (by decide +kernel) (by decide +kernel), _, rfl, p0, _, 2, _, rfl, rfl, sqT_kp k2 hp, atI_nat (j := 2) rfl, _, rfl, hs, rs, B, hh, M, N, s1, s2', x2, b, r1, m, rfl, st2, dp_kp k2 _ _ (by rw [nLd]; exact Sm.noLs b) d2, ok, ha, ?_⟩
              cases r1 with
              | fin =>
                intro H3 k3 st3
                have k13 := k2.trans k3
                refine ⟨_, rfl, rfl, _, rfl, ?_⟩
                obtain ⟨qx3, eq3⟩ := st3.ob
                dsimp only at hd1
                refine ⟨_, rfl, B.q, qx3, _, rfl, eq3, playF_no (by decide +kernel) (by decide +kernel) (by decide +kernel), hs, rs, B, hh, M, N, s2', rfl, st3, fun l0 => ?_, fun l0 H4 k4 st4 => ?_⟩
                · rw [if_pos l0] at hd1
                  cases hd1
                  exact po _ k13 st3
                · rw [if_neg l0] at hd1
                  exact ⟨m, Nat.lt_succ_self _, k13.trans k4, _, _, st4.mono (by omega) st3.m6 (by omega) st3.n6, hd1, rfl⟩
              | gave v =>
                intro H3 k3 st3 i3
                cases hd1
                refine ⟨_, rfl, rfl, _, rfl, ?_⟩
                exact ⟨_, rfl, po _ (k2.trans k3) st3 i3⟩
              | on =>
                intro H3 k3 st3
                cases hd1
                exact po _ (k2.trans k3) st3
              | flt w =>
                intro H3 d3 k3 st3 e3
                cases hd1
                exact po _ d3 (k2.trans k3) st3 e3
        · rw [hf] at hd1
          cases hd1
          exact (po.kp k1).flt st1
    · intro σ' H' Q1 Q2 h hc
      obtain ⟨v1, a1, a, dx, fs, a2, a3, a4, v2, a5, pp, ys, i, y, a6, a7, a8, a9, A, rs, v, e', kn, rw, lm, b1, b2, b3, b4, b5, b6, b7, f, g⟩ := hc
      exact ⟨v1, a1, a, dx, fs, a2, a3, a4, v2, a5, pp, ys, i, y, a6, a7, a8, a9, A, rs, v, e', kn, rw, lm, b1, b2, b3, b4, b5, b6, b7, fun z hz H2 s2 => by obtain ⟨c1, k, c2, c3⟩ := f z hz H2 s2; exact ⟨c1, k, c2, h _ _ c3⟩, g⟩
end

/-! several except clauses, some of them with a name: own rule -/
namespace TryN
open PySem PySem.Spec PyProof.Rows L2
def endsOff (i : Nat) (D : Ends) : Ends := { nx := fun σ' H' => D.nx (σ'.set i none) H', rt := D.rt, bk := fun σ' H' => D.bk (σ'.set i none) H', ct := fun σ' H' => D.ct (σ'.set i none) H' }
def wNam (K : PySem.W.Frag) (Wout : WX) (D : Ends) : List (Value × Option Nat × (Addr → Value → Option Addr → TS)) → WX
  | [] => Wout
  | (c, none, ts) :: r => fun cls d σ H => ∃ b, PySem.W.exmOne K cls c = some b ∧ (b = true → ∀ a, H a = none → ts a cls d D σ H) ∧ (b = false → wNam K Wout D r cls d σ H)
  | (c, some i, ts) :: r => fun cls d σ H => ∃ b, PySem.W.exmOne K cls c = some b ∧ (b = true → ∀ a, H a = none → ts a cls d (endsOff i D) (σ.set i (some (.ref a))) H) ∧ (b = false → wNam K Wout D r cls d σ H)
inductive HdsN (X : Cx) : List ExceptHandler → List (Value × Option Nat × (Addr → Value → Option Addr → TS)) → Prop
  | nil : HdsN X [] []
  | cons {x : Str} {c : Value} {ts : Addr → Value → Option Addr → TS} {b₀ : Stmt} {suite : List Stmt} {np pos' : Pos} {hds : List ExceptHandler} {l : List (Value × Option Nat × (Addr → Value → Option Addr → TS))} (hc : Names X x c)
      (hsu : ∀ (a : Addr) (oe : Obj) (cls : Value) (d : Option Addr) (pn : List (Addr × Obj)), Zc cls d oe → (∃ vs, oe.data = .fields vs) → PSs (X.suite a ((a, oe) :: pn)) (b₀ :: suite) (ts a cls d)) (r : HdsN X hds l) :
      HdsN X (.ExceptHandler (some (.Name x np)) none (b₀ :: suite) pos' :: hds) ((c, none, ts) :: l)
  | as {x n : Str} {i : Nat} {c : Value} {ts : Addr → Value → Option Addr → TS} {b₀ : Stmt} {suite : List Stmt} {np pos' : Pos} {hds : List ExceptHandler} {l : List (Value × Option Nat × (Addr → Value → Option Addr → TS))} (hc : Names X x c)
      (hi : X.N[i]? = some n) (hln : X.env.kindOf n = some .local)
      (hsu : ∀ (a : Addr) (oe : Obj) (cls : Value) (d : Option Addr) (pn : List (Addr × Obj)), Zc cls d oe → (∃ vs, oe.data = .fields vs) → PSs (X.suite a ((a, oe) :: pn)) (b₀ :: suite) (ts a cls d)) (r : HdsN X hds l) :
      HdsN X (.ExceptHandler (some (.Name x np)) (some n) (b₀ :: suite) pos' :: hds) ((c, some i, ts) :: l)
section
variable {X : Cx} {body : List Stmt} {h₀ : ExceptHandler} {hds : List ExceptHandler} {l : List (Value × Option Nat × (Addr → Value → Option Addr → TS))} {pos : Pos} {tb : WX → TS} {Wout : WX}
theorem ps_try_nam (hs : X.stack = X.env :: X.outer) (hf : X.env.frame = some X.env.locals) (hN : X.N.Nodup) (tk : Takes X Wout)
    (hb : ∀ (W : WX) (pn : List (Addr × Obj)) (xe : Value → Shared → Prop), Takes (X.tr pn xe) W → PassesOwn (model X.prog X.w) X.A X.env xe → PSs (X.tr pn xe) body (tb W))
    (hh : HdsN X (h₀ :: hds) l) : PS X (.Try body (h₀ :: hds) [] [] pos) (fun D σ H => tb (wNam X.K Wout D l) D σ H) := by
  refine ⟨fun pins s σ H D I h => ?_⟩
  have ok := I.ok
  have hfr : X.A.frames = some (X.env :: X.outer) := by rw [ok.frames, hs]
  refine wpAny_Try_except ?_
  refine wpAny_mono ((hb (wNam X.K Wout D l) (X.pn ++ pins) (fun e s₁ => wpAny (model X.prog X.w) X.A (noteFrame e X.env) (fun _ s₂ => wpAny (model X.prog X.w) X.A (setFlight e none) (fun _ s₃ =>
    wpAny (model X.prog X.w) X.A (handleBy e X.env (h₀ :: hds)) (SP X pins D) X.xe s₃) X.xe s₂) X.xe s₁) (fun u s' xx => ?_) PassesOwn.looking).run [] s σ H D (I.toTry _) h) (fun f s1 hsp => ?_) (fun e s1 he => he)
  · obtain ⟨a, B, sI, pins', σ', H', cls, d, rfl, J', nb, up, sky, na, os, ag, w⟩ := xx
    have J : Inv X pins σ' H' sI := J'.ofTry ok
    have sky' : Sky B (X.env :: X.outer) a (Zc cls d) X.env.locals s'.heap := by rw [← hs]; exact sky
    show wpAny (model X.prog X.w) X.A (noteFrame (.ref a) X.env) _ _ _
    refine Sky.land Zc.steady hfr hf sky' fun h3 fl3 up3 => ?_
    have J3 : Inv X pins σ' H' { s' with heap := h3 } := J.landed nb fl3.1 (up.trans up3) os ag
    obtain ⟨oe3, vs3, he3, hz3, hd3⟩ := fl3.there
    have nfr : a ∉ frs (X.env :: X.outer) := fun hm => by
      obtain ⟨_, o', e', hnf⟩ := fl3.2.2.1.mem hm
      rw [he3] at e'
      cases e'
      exact hnf _ hd3
    have nL : a ≠ X.env.locals := fun z => nfr (List.mem_filterMap.mpr ⟨X.env, List.mem_cons_self, by rw [hf, z]⟩)
    have nF : a ∉ X.fs := fun hm => by
      obtain ⟨e, he, q⟩ := List.mem_filterMap.mp hm
      exact nfr (List.mem_filterMap.mpr ⟨e, List.mem_cons_of_mem _ he, q⟩)
    have S3 := J3.suite he3 hd3 na nL nF
    have LT : PySem.W.Looks (model X.prog X.w) h3 (typeOf (.ref a)) cls := fun A Q E s k q => wpAny_typeOf_ref (k _ _ he3) (by rw [hz3.1]; exact q)
    have test : ∀ {x : Str} {np : Pos} {c : Value} {Q : Value → Shared → Prop} {E : Value → Shared → Prop}, Names X x c → Q c { s' with heap := h3 } → wpAny (model X.prog X.w) (X.A.mark (some (.ref a))) (eval (.Name x np) X.env) Q E { s' with heap := h3 } := fun {x np c Q E} hc q => by
      obtain ⟨hg, hdbg, hm | ⟨hm, hv, hnn⟩⟩ := hc
      · exact ld_glob (X := X.suite a ((a, oe3) :: (X.pn ++ pins))) S3 hg hm q hdbg
      · exact ld_blt (X := X.suite a ((a, oe3) :: (X.pn ++ pins))) S3 hg hm hv q hnn hdbg
    have go : ∀ {hds' : List ExceptHandler} {l' : List (Value × Option Nat × (Addr → Value → Option Addr → TS))}, HdsN X hds' l' → wNam X.K Wout D l' cls d σ' H' →
        wpAny (model X.prog X.w) X.A (handleBy (.ref a) X.env hds') (SP X pins D) X.xe { s' with heap := h3 } := by
      intro hds' l' hk
      induction hk with
      | nil =>
        intro w
        refine wpAny_handleBy_nil ?_
        obtain ⟨k1, k2, k3, oe, vs, T, oT, ts', he, hz, hd, h1, hr⟩ := id fl3
        unfold PySem.passOn
        refine wpAny_bind (wpAny_field he hd h1 ?_)
        rw [if_neg (show ¬ ((Value.ref T == Value.none) = true) from by simp)]
        have fin : wpAny (model X.prog X.w) X.A (setFlight (.ref a) X.env.frame) (fun _ s4 => wpAny (model X.prog X.w) X.A (throw (.ref a) : Sem Flow) (SP X pins D) X.xe s4) X.xe { s' with heap := h3 } := by
          rw [hf]
          refine HandSPX.setFlight_upZ fl3 fun h4 hh4 up4 => wpAny_throw (tk _ _ ?_)
          exact ⟨a, B, sI, pins, σ', H', cls, d, rfl, J, nb, (up.trans up3).trans up4, .inr (.inr (by rw [hs]; exact hh4)), na, os, ag, w⟩
        first
          | exact wpAny_bind (wpAny_pure (wpAny_bind fin))
          | exact wpAny_bind fin
      | @cons x c ts b₀ suite np pos' hds2 l2 hc hsu r ih =>
        intro w
        obtain ⟨b, hb1, hyes, hno⟩ := w
        refine wpAny_handleBy_cons (codeAny_handlers_test ?_) (by intro q; cases q)
        refine test hc ((PySem.W.exm_one (M := model X.prog X.w) (J3.kIn) LT hb1).here ?_)
        cases b with
        | true =>
          refine codeAny_handlers_suite ?_
          refine HandSPX.lands_againZ fl3 fun h4 fl4 up4 => ?_
          have J4 : Inv X pins σ' H' { s' with heap := h4 } := J.landed nb fl4.1 ((up.trans up3).trans up4) os ag
          obtain ⟨oe4, vs4, he4, hz4, hd4⟩ := fl4.there
          have S4 := J4.suite he4 hd4 na nL nF
          refine wpAny_mono ((hsu a oe4 cls d (X.pn ++ pins) hz4 ⟨_, hd4⟩).run [] _ _ H' _ S4 (hyes rfl a na)) (fun f s6 hsp => ?_) (fun _ _ z => False.elim z)
          cases f with
          | next => obtain ⟨σ6, H6, S6, q6⟩ := hsp; exact ⟨_, _, S6.unsuite ok, q6⟩
          | brk => obtain ⟨σ6, H6, S6, q6⟩ := hsp; exact ⟨_, _, S6.unsuite ok, q6⟩
          | cont => obtain ⟨σ6, H6, S6, q6⟩ := hsp; exact ⟨_, _, S6.unsuite ok, q6⟩
          | ret u => obtain ⟨v6, σ6, H6, S6, r6, q6⟩ := hsp; exact ⟨_, _, _, S6.unsuite ok, r6, q6⟩
        | false =>
          show wpAny _ X.A (handleBy (.ref a) X.env hds2) _ _ _
          exact ih (hno rfl)
      | @as x n i c ts b₀ suite np pos' hds2 l2 hc hi hln hsu r ih =>
        intro w
        obtain ⟨b, hb1, hyes, hno⟩ := w
        refine wpAny_handleBy_cons (codeAny_handlers_test ?_) (by intro q; cases q)
        refine test hc ((PySem.W.exm_one (M := model X.prog X.w) (J3.kIn) LT hb1).here ?_)
        cases b with
        | true =>
          refine codeAny_handlers_suite_as ?_
          refine HandSPX.lands_againZ fl3 fun h4 fl4 up4 => ?_
          have J4 : Inv X pins σ' H' { s' with heap := h4 } := J.landed nb fl4.1 ((up.trans up3).trans up4) os ag
          obtain ⟨oe4, vs4, he4, hz4, hd4⟩ := fl4.there
          have S4 := J4.suite he4 hd4 na nL nF
          refine store_ok (X := X.suite a ((a, oe4) :: (X.pn ++ pins))) (v := .ref a) S4 hN hi (.inl hln) rfl (fun s5 S5 => ?_) (.inr hln)
          refine wpAny_mono ((hsu a oe4 cls d (X.pn ++ pins) hz4 ⟨_, hd4⟩).run [] s5 _ H' _ S5 (hyes rfl a na)) (fun f s6 hsp => ?_) (fun _ _ z => False.elim z)
          have end_ : ∀ {σ6 : L2.St} {H6 : Hp} {Q : Shared → Prop}, Inv (X.suite a ((a, oe4) :: (X.pn ++ pins))) [] σ6 H6 s6 → (∀ s7, Inv X pins (σ6.set i none) H6 s7 → Q s7) →
              wpAny (model X.prog X.w) X.A (do bindName X.env n .none; unbindBehindTheSuite X.env n pos') (fun _ s7 => Q s7) X.xe s6 := fun {σ6 H6 Q} S6 hq => gone_ok (S6.unsuite ok) hN hi hln hq
          cases f with
          | next => obtain ⟨σ6, H6, S6, q6⟩ := hsp; exact end_ S6 fun s7 J7 => ⟨_, _, J7, q6⟩
          | brk => obtain ⟨σ6, H6, S6, q6⟩ := hsp; exact end_ S6 fun s7 J7 => ⟨_, _, J7, q6⟩
          | cont => obtain ⟨σ6, H6, S6, q6⟩ := hsp; exact end_ S6 fun s7 J7 => ⟨_, _, J7, q6⟩
          | ret u => obtain ⟨v6, σ6, H6, S6, r6, q6⟩ := hsp; exact end_ S6 fun s7 J7 => ⟨_, _, _, J7, r6, q6⟩
        | false =>
          show wpAny _ X.A (handleBy (.ref a) X.env hds2) _ _ _
          exact ih (hno rfl)
    exact go hh w
  · cases f with
    | next => obtain ⟨σ', H', J', q⟩ := hsp; exact wpAny_execs_nil ⟨σ', H', J'.ofTry ok, q⟩
    | brk => obtain ⟨σ', H', J', q⟩ := hsp; exact ⟨σ', H', J'.ofTry ok, q⟩
    | cont => obtain ⟨σ', H', J', q⟩ := hsp; exact ⟨σ', H', J'.ofTry ok, q⟩
    | ret u => obtain ⟨v, σ', H', J', r, q⟩ := hsp; exact ⟨v, σ', H', J'.ofTry ok, r, q⟩
end
section
variable {X : Cx} {CX : CXT} {k : Nat} {f C : Addr} {fd : FuncData} {ps : List Str} {sp : Sp} {dvs : List V} {ds : List Value} {E : L2.St → XK} {m : Str} {p apos pos : Pos} {o e : Expr} {es : List Expr} {ta : TE} {t : TA}
/-- o.m(e, ..), what is raised is wished for at the caller's slots -/
def tMethAt (C : Addr) (m : Str) (sp : Sp) (dvs : List V) (E : L2.St → XK) (ta : TE) (t : TA) : TE := fun σ H Q => tMeth C m sp dvs (E σ) ta t σ H Q
theorem pe_methAt {pl : Sem Bool} (he : PE X o ta) (c : Cls X.K C) (hm : Meth X.K C m f) (F : FnOk X.prog X.w X.K X.mg X.base CX k f fd ps sp) (hr : Room k X.A) (hb : Binds X.K fd ps ds) (hd : Vals dvs ds) (hx : ∀ σ, PassesAt CX X σ (E σ)) (ha : PA X (e :: es) t)
    (hst : starEach (e :: es) X.env = (false, eval e X.env) :: starEach es X.env := by rfl) (hpl : (backTo pos (starEach es X.env)).any (·.1) = false := by rfl)
    (ht : eval (.Call (.Attribute o m apos) (e :: es) [] pos) X.env = (do
      let ov ← eval o X.env
      standAt apos.atName
      let (f, first) ← holding [ov] (getMethod ov m pl)
      callWith pos f first (backTo pos (starEach (e :: es) X.env)) (backToKw pos (keywordEach [] X.env))) := by rfl) :
    PE X (.Call (.Attribute o m apos) (e :: es) [] pos) (tMethAt C m sp dvs E ta t) := by
  refine ⟨fun pins s σ H Q I h => ?_⟩
  refine PySem.W.methodCall_KW (pl := pl) (thn (he.run pins s σ H _ I h) fun u s1 ⟨x, H1, I1, rx, a, dx, fs, ex, ea, l, q⟩ => ?_) ht
  subst ex
  obtain rfl : u = Value.ref a := rx
  refine getmeth_ok I1 ea c hm l ?_
  refine PySem.W.callWith_K (first := [.ref a]) (h₀ := X.base) I.ok.mod.kin hm.kp (thn (ha.run pos pins s1 σ H1 _ I1 q) fun us s2 ⟨vs, H2, I2, r, q2⟩ => ⟨I2.kIn, ?_⟩) hst hpl
  exact run_fnSD (us := .ref a :: us) (vs := .ref a :: vs) F hr hb hd (hx σ) I2 (.cons rfl r) q2
end
end TryN

/-! zip(t, l), t a tuple, l a list: own rule -/
namespace ZipM
open PySem PySem.Spec PyProof.Rows L2
def ItzM (K : PySem.W.Frag) (a b : Addr) : It :=
  ⟨fun i H => ∃ (xs ys : List V) (x y : V), SqT K H a xs ∧ SqL K H b ys ∧ xs[i]? = some x ∧ ys[i]? = some y,
    fun i H v H' => ∃ T x y, v = .ref T ∧ H T = none ∧ H' = upd H T (.tup [x, y]) ∧ (∀ xs, SqT K H a xs → xs[i]? = some x) ∧ ∀ ys, SqL K H b ys → ys[i]? = some y,
    fun i H => ∃ xs ys : List V, SqT K H a xs ∧ SqL K H b ys ∧ xs.length = i ∧ ys.length = i⟩
theorem sep_of {z TI TO i1 i2 a b : Addr} (D : ZipApart z TI TO i1 i2 a b) : ZipSep2 z TI TO i1 i2 [i1, a] [i2, b] where
  TIz := D.TIz
  TOz := D.TOz
  TITO := D.TITO
  TIi1 := D.TIi1
  mem1 := by simp
  zf1 := by
    intro h
    have h' : z = i1 ∨ z = a := by simpa using h
    rcases h' with e | e
    · exact D.i1z e.symm
    · exact D.l1z e.symm
  Tf1 := by
    intro h
    have h' : TO = i1 ∨ TO = a := by simpa using h
    rcases h' with e | e
    · exact D.TOi1 e
    · exact D.l1TO e.symm
  TIi2 := D.TIi2
  mem2 := by simp
  zf2 := by
    intro h
    have h' : z = i2 ∨ z = b := by simpa using h
    rcases h' with e | e
    · exact D.i2z e.symm
    · exact D.l2z e.symm
  Tf2 := by
    intro h
    have h' : TO = i2 ∨ TO = b := by simpa using h
    rcases h' with e | e
    · exact D.TOi2 e
    · exact D.l2TO e.symm
  sep1_2 := by
    intro h
    have h' : i1 = i2 ∨ i1 = b := by simpa using h
    rcases h' with e | e
    · exact D.i12 e
    · exact D.l2i1 e.symm
  sep2_1 := by
    intro h
    have h' : i2 = i1 ∨ i2 = a := by simpa using h
    rcases h' with e | e
    · exact D.i12 e.symm
    · exact D.l1i2 e.symm
theorem turn {P : Program} {w : World} {K : PySem.W.Frag} {elts : List Expr} {kk : Nat} {tpos : Pos} {a b z TI TO i1 i2 : Addr} (D : ZipApart z TI TO i1 i2 a b) (n1 : a ≠ i1) (n2 : b ≠ i2) :
    Turn P w K (.Tuple elts kk tpos) (ItzM K a b) [z, TI, TO, i1, i2] z (fun i h => IsZip h z TI TO .none ∧ IsPair h TI (.ref i1) (.ref i2) ∧ (∃ x y, IsPair h TO x y) ∧ h.IsTupleIter i1 a i ∧ h.IsListIter i2 b i) where
  mem := by simp
  obj := fun i h st c hc => by
    obtain ⟨hz, hTI, ⟨x, y, hTO⟩, ⟨o1, e1, _, d1⟩, ⟨o2, e2, _, d2⟩⟩ := st
    have e' : c = z ∨ c = TI ∨ c = TO ∨ c = i1 ∨ c = i2 := by simpa using hc
    rcases e' with q | q | q | q | q
    · rw [q]; exact ⟨_, hz, fun v q => nomatch q⟩
    · rw [q]; exact ⟨_, hTI, fun v q => nomatch q⟩
    · rw [q]; exact ⟨_, hTO, fun v q => nomatch q⟩
    · rw [q]; exact ⟨o1, e1, fun v q => by rw [d1] at q; cases q⟩
    · rw [q]; exact ⟨o2, e2, fun v q => by rw [d2] at q; cases q⟩
  keep := fun i h h' st k => by
    obtain ⟨hz, hTI, ⟨x, y, hTO⟩, h1, h2⟩ := st
    exact ⟨k z (by simp) _ hz, k TI (by simp) _ hTI, ⟨x, y, k TO (by simp) _ hTO⟩, h1.at fun o q => k i1 (by simp) o q, h2.at fun o q => k i2 (by simp) o q⟩
  item := by
    intro X hP hw hK hc i pins s σ H E I hf st hg
    subst hP hw hK
    obtain ⟨hz, hTI, ⟨x0, y0, hTO⟩, h1, h2⟩ := st
    obtain ⟨xs, ys, x, y, hqx, hqy, hx, hy⟩ := hg
    obtain ⟨its, rv, p, _⟩ := I.tuple hqx
    obtain ⟨its2, rv2, p2, _⟩ := I.list hqy
    obtain ⟨u, hu, ru⟩ := rv.get hx
    obtain ⟨u2, hu2, ru2⟩ := rv2.get hy
    have hh := I.ok.hd hc
    have hzl : z < s.heap.objs.size := Heap.lt_size hz
    have lt1 : i < its.toArray.size := by
      have := (List.getElem?_eq_some_iff.mp hu).1
      simpa using this
    have lt2 : i < its2.toArray.size := by
      have := (List.getElem?_eq_some_iff.mp hu2).1
      simpa using this
    refine wpAny_pyNext_zipD2_item (sep_of D) (Draws.tuple (A := X.A.in1) hh i1 a n1 its.toArray) (Draws.list (A := X.A.in1) hh i2 b n2 its2.toArray) hz hTI hTO ⟨h1, p⟩ ⟨h2, p2.isList⟩ lt1 lt2 fun x1 x2 h' tk y1 y2 z' TO' d1 d2 hT hsz hk => ?_
    have eu : x1 = u := by
      have q : its.toArray[i]? = some u := by simpa using hu
      rw [q] at y1
      exact (Option.some.inj y1).symm
    have eu2 : x2 = u2 := by
      have q : its2.toArray[i]? = some u2 := by simpa using hu2
      rw [q] at y2
      exact (Option.some.inj y2).symm
    subst eu eu2
    refine ⟨_, rfl, wpAny_letOwnedTupleGo_zip (s := { s with heap := h', toks := tk }) z' fun h'' z'' sb => ?_⟩
    have hT2 : h''.get? s.heap.objs.size = some { cls := .type "tuple", data := .seq #[x1, x2] } := (sb.2 _ (Nat.ne_of_gt hzl)).trans hT
    have new : ObjOk X.prog X.w (upd H s.heap.objs.size (.tup [x, y])) h'' s.heap.objs.size (.tup [x, y]) :=
      ⟨by show 2 ≤ sizeLine; decide, [x1, x2], .cons ru (.cons ru2 .nil), ⟨_, hT2, rfl, _, rfl⟩⟩
    have I1 : Inv X pins σ (upd H s.heap.objs.size (.tup [x, y])) { s with heap := h'', toks := tk } :=
      I.turnedNew (t' := tk) (ch := [z, TI, TO, i1, i2]) (fun c o hb q => (sb.2 c (fun q' => hb (by simp [q']))).trans (hk c o (fun q' => hb (by simp [q'])) (fun q' => hb (by simp [q'])) (fun q' => hb (by simp [q'])) (fun q' => hb (by simp [q'])) q)) hf (Nat.le_refl _) new
    refine ⟨.ref s.heap.objs.size, _, I1, rfl, ⟨_, x, y, rfl, I.hok.fresh (Nat.le_refl _), rfl, fun l hl => by rw [I.tuple_inj hl hqx]; exact hx, fun l hl => by rw [I.list_inj hl hqy]; exact hy⟩, ⟨z'', ?_, ⟨x1, x2, ?_⟩, ?_, ?_⟩, fun c hcm => ?_⟩
    · exact (sb.2 _ D.TIz).trans (hk _ _ D.TIz D.TITO D.TIi1 D.TIi2 hTI)
    · exact (sb.2 _ D.TOz).trans TO'
    · exact d1.1.at fun o q => (sb.2 _ D.i1z).trans q
    · exact d2.1.at fun o q => (sb.2 _ D.i2z).trans q
    · have hlt : c < s.heap.objs.size := by
        have e' : c = z ∨ c = TI ∨ c = TO ∨ c = i1 ∨ c = i2 := by simpa using hcm
        rcases e' with q | q | q | q | q
        · rw [q]; exact hzl
        · rw [q]; exact Heap.lt_size hTI
        · rw [q]; exact Heap.lt_size hTO
        · rw [q]; obtain ⟨_, e1, _⟩ := h1; exact Heap.lt_size e1
        · rw [q]; obtain ⟨_, e2, _⟩ := h2; exact Heap.lt_size e2
      rw [upd_ne (Nat.ne_of_lt hlt)]
      exact (hf c hcm).1
  done := by
    intro X hP hw hK hc i pins s σ H E I hf st hg
    subst hP hw hK
    obtain ⟨hz, hTI, ⟨x0, y0, hTO⟩, h1, h2⟩ := st
    obtain ⟨xs, ys, hqx, hqy, l1, l2⟩ := hg
    obtain ⟨its, rv, p, _⟩ := I.tuple hqx
    obtain ⟨its2, rv2, p2, _⟩ := I.list hqy
    have hh := I.ok.hd hc
    have e1 : i = its.toArray.size := by
      have := rv.length
      rw [List.size_toArray]
      omega
    have e2 : i = its2.toArray.size := by
      have := rv2.length
      rw [List.size_toArray]
      omega
    exact wpAny_pyNext_zipD2_end (sep_of D) (Draws.tuple (A := X.A.in1) hh i1 a n1 its.toArray) (Draws.list (A := X.A.in1) hh i2 b n2 its2.toArray) hz hTI hTO ⟨h1, p⟩ ⟨h2, p2.isList⟩ (Nat.le_of_eq e1) (Nat.le_of_eq e2) (.inl e1) fun h' tk hk => ⟨rfl, I.turnedL (t' := tk) (ch := [z, TI, TO, i1, i2]) (fun c o hb q =>
      hk c o (fun q' => hb (by simp [q'])) (fun q' => hb (by simp [q'])) (fun q' => hb (by simp [q'])) (fun q' => hb (by simp [q'])) q) hf⟩
  self := fun A i s Q E st h => wpAny_pyIter_zip st.1 h
def iZipM (K : PySem.W.Frag) (ta : TA) : TI := fun σ H R => ta σ H fun vs H1 => ∃ a b xs ys, vs = [.ref a, .ref b] ∧ ((SqT K H1 a xs ∧ SqL K H1 b ys ∧ R (ItzM K a b) H1) ∨ (SqT K H1 a xs ∧ SqT K H1 b ys ∧ R (RZ.ItzT K a b) H1))
theorem pi_zipM {X : Cx} {e e2 : Expr} {ta : TA} {p pos tpos : Pos} {elts : List Expr} {kk : Nat} (hg : Gl X "zip") (hm : X.mg "zip" = none) (ha : PA X [e, e2] ta)
    (hs : starEach [e, e2] X.env = (false, eval e X.env) :: starEach [e2] X.env := by rfl) (hpl : (backTo pos (starEach [e2] X.env)).any (·.1) = false := by rfl) :
    PI X (.Tuple elts kk tpos) (.Call (.Name "zip" p) [e, e2] [] pos) (iZipM X.K ta) := by
  refine ⟨fun pins s σ H R I h => ?_⟩
  refine Call_ (ld_blt I hg hm PyProof.Rows.boot_zip (PyProof.Rows.callWith_type1 (thn (ha.run pos pins s σ H _ I h) fun us s1 ⟨vs, H1, I1, r1, q1⟩ => ?_) hs hpl))
  obtain ⟨a, b, xs, ys, ex, q1⟩ := q1
  subst ex
  cases r1 with
  | cons r rr =>
    cases rr with
    | cons r' rr =>
      cases rr
      cases r
      cases r'
      have fresh5 : ∀ c, c ∈ [s1.heap.objs.size + 4, s1.heap.objs.size + 2, s1.heap.objs.size + 3, s1.heap.objs.size, s1.heap.objs.size + 1] → FpOk X pins H1 c := fun c hcm => by
        have e' : c = s1.heap.objs.size + 4 ∨ c = s1.heap.objs.size + 2 ∨ c = s1.heap.objs.size + 3 ∨ c = s1.heap.objs.size ∨ c = s1.heap.objs.size + 1 := by simpa using hcm
        have hle : s1.heap.objs.size ≤ c := by
          rcases e' with z | z | z | z | z
          · rw [z]; exact Nat.le_add_right _ _
          · rw [z]; exact Nat.le_add_right _ _
          · rw [z]; exact Nat.le_add_right _ _
          · rw [z]; exact Nat.le_refl _
          · rw [z]; exact Nat.le_add_right _ _
        exact I1.fpOk hle (I1.hok.fresh hle)
      rcases q1 with ⟨hqx, hqy, q⟩ | ⟨hqx, hqy, q⟩
      · obtain ⟨its, rv, p1, _⟩ := I1.tuple hqx
        obtain ⟨its2, rv2, p2, _⟩ := I1.list hqy
        obtain ⟨o1, ho1, _⟩ := id p1
        have lt1 := Heap.lt_size ho1
        have lt2 := p2.lt
        refine zip_begins2 (begins_tuple a its.toArray) (begins_list b its2.toArray) p1 p2.isList fun h' hz hTI hTO h1 h2 hsz hk => wpAny_pyIter_zip hz ?_
        have I2 : Inv X pins σ H1 { s1 with heap := h' } := I1.kept (t' := s1.toks) hk
        exact ⟨s1.heap.objs.size + 4, [s1.heap.objs.size + 4, s1.heap.objs.size + 2, s1.heap.objs.size + 3, s1.heap.objs.size, s1.heap.objs.size + 1], _, _, H1, rfl, I2, turn (PySem.W.ktu_apart s1.heap.objs.size a b lt1 lt2) (Nat.ne_of_lt lt1) (Nat.ne_of_lt (Nat.lt_succ_of_lt lt2)), ⟨hz, hTI, ⟨_, _, hTO⟩, ⟨_, h1, rfl, rfl⟩, ⟨_, h2, rfl, rfl⟩⟩, fresh5, q⟩
      · obtain ⟨its, rv, p1, _⟩ := I1.tuple hqx
        obtain ⟨its2, rv2, p2, _⟩ := I1.tuple hqy
        obtain ⟨o1, ho1, _⟩ := id p1
        obtain ⟨o2, ho2, _⟩ := id p2
        refine RZ.call_zipT (show s1.heap.IsTuple a its.toArray from p1) (show s1.heap.IsTuple b its2.toArray from p2) fun h' hz hTI hTO h1 h2 hsz hk => wpAny_pyIter_zip hz ?_
        have I2 : Inv X pins σ H1 { s1 with heap := h' } := I1.kept (t' := s1.toks) hk
        exact ⟨s1.heap.objs.size + 4, [s1.heap.objs.size + 4, s1.heap.objs.size + 2, s1.heap.objs.size + 3, s1.heap.objs.size, s1.heap.objs.size + 1], _, _, H1, rfl, I2, RZ.turn_zipT (PySem.W.ktu_apart s1.heap.objs.size a b (Heap.lt_size ho1) (Heap.lt_size ho2)), ⟨hz, hTI, ⟨_, _, hTO⟩, h1, h2⟩, fresh5, q⟩
theorem for_zipM {K : PySem.W.Frag} {a b : Addr} {xs ys : List V} {g : TG} {tb : TS} {D : Ends} {σ : L2.St} {H : Hp} (hl : xs.length = ys.length) (Pv : Nat → L2.St → Hp → Prop) (h0 : Pv 0 σ H) (hq : ∀ i σ H, Pv i σ H → SqT K H a xs ∧ SqL K H b ys)
    (hs : ∀ (i : Nat) (x y : V) (T : Addr) (σ : L2.St) (H : Hp), xs[i]? = some x → ys[i]? = some y → Pv i σ H → H T = none → g (.ref T) σ (upd H T (.tup [x, y])) fun σ2 H2 => tb { D with nx := Pv (i + 1), ct := Pv (i + 1), bk := D.nx } σ2 H2) (hd : ∀ σ H, Pv xs.length σ H → D.nx σ H) :
    ∃ W : Nat → Nat → L2.St → Hp → Prop, (∃ m, W 0 m σ H) ∧ ∀ i m σ H, W i m σ H →
      ((ItzM K a b).stop i H ∧ D.nx σ H) ∨ ((ItzM K a b).go i H ∧ ∃ N : L2.St → Hp → Prop, (∀ σ' H', N σ' H' → ∃ m', m' < m ∧ W (i + 1) m' σ' H') ∧ ∀ v H', (ItzM K a b).yld i H v H' → g v σ H' fun σ2 H2 => tb { D with nx := N, ct := N, bk := D.nx } σ2 H2) := by
  refine ⟨fun i m σ H => m = xs.length - i ∧ i ≤ xs.length ∧ Pv i σ H, ⟨xs.length, rfl, Nat.zero_le _, h0⟩, ?_⟩
  rintro i m σ H ⟨rfl, hi, p⟩
  obtain ⟨qx, qy⟩ := hq i σ H p
  by_cases hlt : i < xs.length
  · have hx : xs[i]? = some xs[i] := List.getElem?_eq_getElem hlt
    have hlt2 : i < ys.length := by omega
    have hy : ys[i]? = some ys[i] := List.getElem?_eq_getElem hlt2
    refine .inr ⟨⟨xs, ys, _, _, qx, qy, hx, hy⟩, Pv (i + 1), fun σ' H' p' => ⟨xs.length - (i + 1), by omega, rfl, hlt, p'⟩, fun v H' y => ?_⟩
    obtain ⟨T, x', y', rfl, hT, rfl, f1, f2⟩ := y
    exact hs i x' y' T σ H (f1 xs qx) (f2 ys qy) p hT
  · have e : i = xs.length := by omega
    subst e
    exact .inl ⟨⟨xs, ys, qx, qy, rfl, hl.symm⟩, hd σ H p⟩
end ZipM

/-! a list comprehension whose element may raise: own rule (after lc_core, with the error's way kept) -/
namespace LcX
open PySem PySem.Spec PyProof.Rows L2
def postX (M : Model) (A : Around) (E : Value → Shared → Prop) (use : Option (Value → Sem Unit)) (Q : Value → Shared → Prop) (acc : Value) (ce : Env) (r : Result) (s' : Shared) : Prop :=
  match r, use with
  | .ok _, none => ∃ m, s'.heap.Ns ce.locals m ∧ ∀ h', Heap.SameBut ce.locals s'.heap h' → Q acc { s' with heap := h' }
  | .ok _, some u => wpAny M A (u acc) (fun _ s'' => ∃ m, s''.heap.Ns ce.locals m ∧ ∀ h', Heap.SameBut ce.locals s''.heap h' → Q .none { s'' with heap := h' }) E s'
  | .error x, _ => ∃ m, s'.heap.Ns ce.locals m ∧ ∀ h', Heap.SameBut ce.locals s'.heap h' → wpAny M A (passOn "comprehension.variables-let-go" x ce : Sem Value) (fun _ _ => False) E { s' with heap := h' }
section
variable {M : Model} {A : Around} {E : Value → Shared → Prop} {s : Shared} {env : Env}
theorem comp_free {e : Expr} {scope : Scope} {pos : Pos} {newAcc first : Sem Value} {g : Comprehension} {gs : List Comprehension} {cl : List (Str × Addr)} {use : Option (Value → Sem Unit)} {Q : Value → Shared → Prop}
    (hcl : clausesOf e = g :: gs) (hs : ∀ x, foldedSetIterable g.iter env x = pure x) (hclos : closureFor scope env = pure cl)
    (hkind : scope.kind = .function) (hnames : ∀ x ∈ scope.names, x.2 = .local → scope.names.lookup x.1 = some .local)
    (h : wpAny M A first (fun x s₁ => wpAny M A (pyIter x) (fun it s₂ => wpAny M A newAcc (fun acc s₃ =>
      wpAny M A (newFunctionEnv scope env.globals cl [] env.qual none .none (some env)) (fun cenv s₄ =>
        codeAny M A (.compStart e 0 it acc { cenv with scope := relabel scope env }) (postX M A E use Q acc { cenv with scope := relabel scope env }) s₄) E s₃) E s₂) E s₁) E s) :
    wpAny M A (comprehension e scope env pos newAcc false first use) Q E s := by
  unfold comprehension
  rw [hclos, hcl]
  refine wpAny_bind (wpAny_mono h (fun x s₁ h₁ => wpAny_bind (wpAny_standAt (wpAny_bind (wpAny_of_eq (hs x) (wpAny_bind (wpAny_holding (wpAny_mono h₁ (fun it s₂ h₂ =>
    wpAny_standIf (wpAny_bind (wpAny_mono h₂ (fun acc s₃ h₃ => wpAny_bind (wpAny_pure (wpAny_bind (wpAny_mono h₃ (fun cenv s₄ h₄ => ?_) fun _ _ h' => h')))) fun _ _ h' => h')))
      fun _ _ h' => h'))))))) fun _ _ h' => h')
  dsimp only
  have hv : ∀ x ∈ (scope.names.filter fun x => (x.2 == .local || x.2 == .cell) && x.1 != (".0" : Str)).reverse, x.2 = .local →
      Env.kindOf { cenv with scope := relabel scope env } x.1 = some .local := fun x hx hl => lookup_relabel_local (hnames x (List.mem_filter.mp (List.mem_reverse.mp hx)).1 hl)
  have hv' : ∀ x ∈ (scope.names.filter fun x => (x.2 == .local || x.2 == .cell) && x.1 != (".0" : Str)).reverse.drop 1 ++ (scope.names.filter fun x => (x.2 == .local || x.2 == .cell) && x.1 != (".0" : Str)).reverse.take 1,
      x.2 = .local → Env.kindOf { cenv with scope := relabel scope env } x.1 = some .local := fun x hx hl => by
    rcases List.mem_append.mp hx with h1 | h1
    · exact hv x (List.mem_of_mem_drop h1) hl
    · exact hv x (List.mem_of_mem_take h1) hl
  refine wpAny_holding (wpAny_bind (wpAny_attempt (wpAny_holding (wpAny_run (codeAny_mono h₄ fun r s' hr => ?_)))))
  cases r with
  | ok f =>
    cases use with
    | none =>
      obtain ⟨m, hn, hr⟩ := hr
      exact wpAny_bind (wpAny_holding (wpAny_comp_letGo (cenv := { cenv with scope := relabel scope env }) hkind _ s' m hv hn fun h' m' _ hs' => wpAny_pure (hr h' hs')))
    | some u =>
      refine wpAny_bind (wpAny_rule (wpAny_bind (wpAny_holding (wpAny_mono hr (fun _ s'' hr' => ?_) fun _ _ h' => h'))))
      obtain ⟨m, hn, hr'⟩ := hr'
      exact wpAny_bind (wpAny_comp_letGo (cenv := { cenv with scope := relabel scope env }) hkind _ s'' m hv' hn fun h' m' _ hs' => wpAny_pure (hr' h' hs'))
  | error x =>
    have hr' : ∃ m, s'.heap.Ns cenv.locals m ∧ ∀ h', Heap.SameBut cenv.locals s'.heap h' → wpAny M A (passOn "comprehension.variables-let-go" x { cenv with scope := relabel scope env } : Sem Value) (fun _ _ => False) E { s' with heap := h' } := by cases use <;> exact hr
    obtain ⟨m, hn, hr⟩ := hr'
    exact wpAny_bind (wpAny_holding (wpAny_comp_letGo (cenv := { cenv with scope := relabel scope env }) hkind _ s' m hv hn fun h' m' _ hs' => wpAny_mono (hr h' hs') (fun _ _ f => f.elim) fun _ _ y => y))
end
theorem note_env (e : Value) {cenv env : Env} (h : cenv.frame = env.frame) : noteFrame e cenv = noteFrame e env := by
  unfold noteFrame PySem.frameOf
  rw [h]
theorem ff_but {h h' B B' : Heap} {C : Addr} (k : ∀ b, b ≠ C → h'.get? b = h.get? b) (hB : ∀ b, B.get? b = none → B'.get? b = none) : ∀ {l : List Env}, h.FunFrames B l → (∀ L ∈ frs l, L ≠ C) → h'.FunFrames B' l
  | [], _, _ => trivial
  | env :: l, hh, hc => by
    obtain ⟨hk, ⟨L, o, hf, hn, ho, hd⟩, hr⟩ := hh
    exact ⟨hk, ⟨L, o, hf, hB L hn, (k L (hc L (List.mem_filterMap.mpr ⟨env, List.mem_cons_self, hf⟩))).trans ho, hd⟩, ff_but k hB hr fun b hb => by
      obtain ⟨e, he, q⟩ := List.mem_filterMap.mp hb
      exact hc b (List.mem_filterMap.mpr ⟨e, List.mem_cons_of_mem _ he, q⟩)⟩
/-- an exception that a call let out, in the air of X -/
def XF (X : Cx) (E : XK) (u : Value) (s' : Shared) : Prop :=
  ∃ (a : Addr) (B : Heap) (sI : Shared) (pins : List (Addr × Obj)) (σ : L2.St) (H : Hp) (cls : Value) (d : Option Addr),
    u = .ref a ∧ Inv X pins σ H sI ∧ (∀ b o, sI.heap.get? b = some o → b ∉ frs X.stack → B.get? b = some o) ∧ sI.heap.UpToSlots s'.heap ∧
      HandSPX.FlyingZ B X.stack a (Zc cls d) s'.heap ∧ H a = none ∧ s'.os = sI.os ∧ AllBare s'.gens ∧ E cls d H
section
variable {X : Cx} {pins : List (Addr × Obj)} {σ : L2.St} {H : Hp} {s s' : Shared} {E : XK}
theorem XF.of_call (I : Inv X pins σ H s) {u : Value} (c : L2.CX X.prog X.w X.stack H s E u s') : XF X E u s' := by
  obtain ⟨a, B, H', cls, d, rfl, fl, hok, ub, na, os, ag, hE⟩ := c
  obtain ⟨G, g1, g2⟩ := restrict s'.heap fun b => (B.get? b).isSome || decide (b ∈ frs X.stack)
  have st : B.StaysIn s'.heap := fl.1
  have gB : ∀ b o, B.get? b = some o → G.get? b = some o := fun b o e => by
    rw [g1 b (by simp [e])]
    exact st b o e
  have gF : ∀ b, b ∈ frs X.stack → G.get? b = s'.heap.get? b := fun b hb => g1 b (by simp [hb])
  have og : ∀ b o, G.get? b = some o → s'.heap.get? b = some o ∧ ((B.get? b).isSome = true ∨ b ∈ frs X.stack) := fun b o e => by
    cases q : ((B.get? b).isSome || decide (b ∈ frs X.stack)) with
    | false => rw [g2 b q] at e; cases e
    | true =>
      rw [g1 b q] at e
      exact ⟨e, by simpa [Bool.or_eq_true] using q⟩
  refine ⟨a, B, { s with heap := G, gens := s'.gens, drawn := s'.drawn, toks := s'.toks }, pins, σ, H', cls, d, rfl, ?_, fun b o e hb => ?_, Heap.UpToSlots.of_keeps fun b o e => (og b o e).1, fl, na, os, ag, hE⟩
  · refine I.call (ch := []) ⟨fun b o e n hb _ => gB b o (ub.keep b o e n hb), fun b o e n hb _ => ?_, fun b o e n _ => ub.free b o e n, fun b o e _ => ?_, ub.tups, ub.frzs, ub.tbls⟩ (hok.kept gB) ag (fun _ z => nomatch z)
    · obtain ⟨sl, q⟩ := ub.slot b o e hb
      exact ⟨sl, by rw [gF b hb]; exact q⟩
    · by_cases hb : b ∈ frs X.stack
      · obtain ⟨sl, q⟩ := ub.slot b o e hb
        exact ⟨_, by rw [gF b hb]; exact q⟩
      · obtain ⟨o', q⟩ := ub.there b o e hb
        exact ⟨o', gB b o' q⟩
  · obtain ⟨e', h⟩ := og b o e
    rcases h with h | h
    · obtain ⟨o', q⟩ := Option.isSome_iff_exists.mp h
      have z := st b o' q
      rw [e'] at z; cases z
      exact q
    · exact absurd h hb
end
section
variable {X : Cx}
/-- the block's error becomes the def's -/
theorem out_of {pins : List (Addr × Obj)} {σ : L2.St} {H3 : Hp} {s3 : Shared} {scope : Scope} {ce : Env} {fp : List Addr} {E : XK} {use : Option (Value → Sem Unit)} {Qf : Value → Shared → Prop} {acc : Value}
    (hs : X.stack = X.env :: X.outer) (hf : X.env.frame = some X.env.locals) (tk : Takes X (fun cls d _ H => E cls d H)) (I3 : Inv X pins σ H3 s3) (f3 : ∀ b ∈ fp, FpOk X pins H3 b ∧ b < s3.heap.objs.size)
    (cL : ce.locals = s3.heap.objs.size) (cF : ce.frame = X.env.frame) {u : Value} {s' : Shared} (x : XF (X.blk s3 H3 scope ce fp) E u s') :
    notedBy (model X.prog X.w) X.A ce (fun e s' => postX (model X.prog X.w) X.A X.xe use Qf acc ce (.error e) s') u s' := by
  obtain ⟨a, B, sI, pins', σ', H', cls, d, rfl, IB, nb, up, fl, na, os, ag, w⟩ := x
  have hfr : X.A.frames = some (X.env :: X.outer) := by rw [I3.ok.frames, hs]
  have nC : H' ce.locals = none := IB.free
  have fC := I3.fpOk (b := ce.locals) (H' := H') (by rw [cL]; exact Nat.le_refl _) nC
  have cS : ce.locals ∉ frs X.stack := fun hm => by
    rcases List.mem_cons.mp (I3.stkSub _ hm) with z | z
    · exact fC.2.1 z
    · exact fC.2.2.1 z
  obtain ⟨m, hn, _⟩ := IB.loc
  have hn : sI.heap.Ns ce.locals m := hn
  show wpAny _ _ (noteFrame (.ref a) ce) _ _ s'
  rw [note_env (.ref a) cF]
  refine HandSPX.looks_onZ (L := X.env.locals) (outer := X.outer) Zc.steady hfr hf (by rw [← hs]; exact fl) (fun h1 hh up1 => ?_)
  rw [← hs] at hh
  obtain ⟨oC, es, ep, hoC, r5⟩ := hn
  have bC : B.get? ce.locals = some oC := nb _ _ hoC cS
  have aC : a ≠ ce.locals := fun e => by rw [← e, hh.2.1] at bC; cases bC
  refine ⟨m, ⟨oC, es, ep, hh.1 _ _ bC, r5⟩, fun h2 sb => ?_⟩
  have k2 : ∀ b, b ≠ ce.locals → h2.get? b = h1.get? b := fun b hb => sb.2 b hb
  have hB : ∀ b, B.get? b = none → (PySem.W.hideAll B [ce.locals]).get? b = none := fun b e => by
    cases q : (PySem.W.hideAll B [ce.locals]).get? b with
    | none => rfl
    | some o =>
      have z := PySem.W.of_hideAll _ q
      rw [e] at z; cases z
  have ofB : ∀ b o, (PySem.W.hideAll B [ce.locals]).get? b = some o → B.get? b = some o ∧ b ≠ ce.locals := fun b o e => ⟨PySem.W.of_hideAll _ e, fun z => by
    rw [z, PySem.W.hideAll_none [ce.locals] (by simp)] at e; cases e⟩
  have ofI : ∀ b o, (PySem.W.hideAll sI.heap [ce.locals]).get? b = some o → sI.heap.get? b = some o ∧ b ≠ ce.locals := fun b o e => ⟨PySem.W.of_hideAll _ e, fun z => by
    rw [z, PySem.W.hideAll_none [ce.locals] (by simp)] at e; cases e⟩
  have hh2 : HandSPX.HeldZ (PySem.W.hideAll B [ce.locals]) X.stack a (Zc cls d) X.env.locals h2 := by
    obtain ⟨k1, kk, k3, oe, vs, T, oT, ts, he, hz, hd, h1', hnT, hTe, hT, hdT, h3⟩ := hh
    have TC : T ≠ ce.locals := fun e => by rw [e, bC] at hnT; cases hnT
    refine ⟨fun b o e => ?_, hB _ kk, ff_but k2 hB k3 fun L hL e => cS (by rw [← e]; exact hL), oe, vs, T, oT, ts, (k2 a aC).trans he, hz, hd, h1', hB _ hnT, hTe, (k2 T TC).trans hT, hdT, h3⟩
    obtain ⟨e1, e2⟩ := ofB b o e
    exact (k2 b e2).trans (k1 b o e1)
  obtain ⟨q1, q2, q3, oe, vs, T, oT, ts, he, hz, hd, h1', hr⟩ := id hh2
  unfold PySem.passOn
  refine wpAny_bind (wpAny_field he hd h1' ?_)
  rw [if_neg (show ¬ ((Value.ref T == Value.none) = true) from by simp)]
  have u0 : Un (frs X.stack) fp H3 H' s3.heap sI.heap := IB.base
  have nlt : ∀ b o, s3.heap.get? b = some o → b ∉ [ce.locals] := fun b o e z => by
    rw [List.mem_singleton.mp z, cL] at e
    exact absurd (Heap.lt_size e) (Nat.lt_irrefl _)
  have J : Inv X pins σ H' { sI with heap := PySem.W.hideAll sI.heap [ce.locals] } := by
    refine I3.call' (ch := fp) IB.os ⟨fun b o e n hb hx => PySem.W.hideAll_get _ (u0.keep b o e n hb hx) (nlt b o e), fun b o e n hb hx => ?_, u0.free, fun b o e hx => ?_, u0.tups, u0.frzs, u0.tbls⟩ ?_ IB.bare fun b hb => ⟨(f3 b hb).1.2.2.2.1, (f3 b hb).1.2.1, (f3 b hb).1.2.2.2.2.1, (f3 b hb).1.2.2.2.2.2⟩
    · obtain ⟨sl, q⟩ := u0.slot b o e n hb hx
      exact ⟨sl, PySem.W.hideAll_get _ q (nlt b o e)⟩
    · obtain ⟨o', q⟩ := u0.there b o e hx
      exact ⟨o', PySem.W.hideAll_get _ q (nlt b o e)⟩
    · exact fun b o q => (IB.hok b o q).stay (fun c u hc r => PySem.W.hideAll_get _ r fun hm => by
        have hm := List.mem_singleton.mp hm
        have z : H' c = none := by rw [hm]; exact nC
        rcases hc with hc | hc
        · rw [hc, q] at z; cases z
        · rw [hc] at z; cases z) (fun _ r => r) fun _ _ r => r
  have fin : ∀ {α : Type} (Q : α → Shared → Prop), wpAny (model X.prog X.w) X.A (setFlight (.ref a) ce.frame) (fun _ s4 => wpAny (model X.prog X.w) X.A (throw (.ref a) : Sem α) Q X.xe s4) X.xe { s' with heap := h2 } := fun Q => by
    rw [cF, hf]
    refine HandSPX.setFlight_onZ hh2 fun h4 hh4 up4 => wpAny_throw (tk _ _ ?_)
    refine ⟨a, PySem.W.hideAll B [ce.locals], { sI with heap := PySem.W.hideAll sI.heap [ce.locals] }, pins, σ, H', cls, d, rfl, J, fun b o e hb => ?_, fun b o e hd => ?_, .inr (.inr hh4), na, os, ag, w⟩
    · obtain ⟨e1, e2⟩ := ofI b o e
      exact PySem.W.hideAll_get _ (nb b o e1 hb) (by simpa using e2)
    · obtain ⟨e1, e2⟩ := ofI b o e
      obtain ⟨s1, g1⟩ := up b o e1 hd
      obtain ⟨s2, g2⟩ := up1 b _ g1 hd
      have g3 : h2.get? b = _ := (k2 b e2).trans g2
      obtain ⟨s4, g4⟩ := up4 b _ g3 hd
      exact ⟨s4, g4⟩
  first
    | exact wpAny_bind (wpAny_pure (wpAny_bind (fin _)))
    | exact wpAny_bind (fin _)
theorem lcX_core {pins : List (Addr × Obj)} {s : Shared} {σ : L2.St} {H : Hp} {Q : VK} {elt tg iter : Expr} {ifs : List Expr} {scope : Scope} {own : List (Str × Nat)} {pos pos' : Pos} {wi : TI} {g : TG} {tt : TT} {te : TE} {use : Option (Value → Sem Unit)} {Qf : Value → Shared → Prop} {E : XK}
    (hst : X.stack = X.env :: X.outer) (hfr : X.env.frame = some X.env.locals) (tk : Takes X (fun cls d _ H => E cls d H))
    (hc : X.calm = true) (hN : X.N.Nodup) (I : Inv X pins σ H s) (hi : PI X tg iter wi) (ok : BlkOk X.N X.env.scope scope own)
    (hg : ∀ (s : Shared) (H : Hp) (C : Addr) (cl : List (Str × Addr)) (fp : List Addr), PG (X.blk s H scope (compEnvC scope cl C X.env) fp) tg g) (ht : ∀ (s : Shared) (H : Hp) (C : Addr) (cl : List (Str × Addr)) (fp : List Addr), PTs (X.blk s H scope (compEnvC scope cl C X.env) fp) ifs tt)
    (he : ∀ (s : Shared) (H : Hp) (C : Addr) (cl : List (Str × Addr)) (fp : List Addr) (xe : Value → Shared → Prop), (∀ (pins : List (Addr × Obj)) (σ : L2.St) (H1 : Hp) (s1 : Shared) (e : Value) (s' : Shared), Inv ((X.blk s H scope (compEnvC scope cl C X.env) fp).wish xe) pins σ H1 s1 → L2.CX X.prog X.w X.stack H1 s1 E e s' → xe e s') → PE ((X.blk s H scope (compEnvC scope cl C X.env) fp).wish xe) elt te) (hs : ∀ x, foldedSetIterable iter X.env x = pure x)
    (h : tLc wi g tt te (own.map (·.2)) σ H Q)
    (hRR : ∀ D ce s' m H', Inv X pins σ H' s' → Q (.ref D) H' → s'.heap.Ns ce.locals m → FpOk X pins H' ce.locals → postX (model X.prog X.w) X.A X.xe use Qf (.ref D) ce (.ok .next) s') :
    wpAny (model X.prog X.w) X.A (comprehension (.ListComp elt [⟨tg, iter, ifs, 0⟩] scope pos) scope X.env pos' (newList []) false (eval iter X.env) use) Qf X.xe s := by
  have hfree : ∀ y ∈ scope.names, y.2 = .free → ∃ c, X.env.cells.lookup y.1 = some c := fun y hy e => by
    rcases ok.free y hy e with k | k
    · exact I.ok.has _ (.inl k)
    · exact I.ok.has _ (.inr k)
  refine comp_free (use := use) rfl hs (closure_ok hfree) ok.kind (fun y hy e => by rw [ok.uniq y hy, e])
    (thn (hi.run pins s σ H _ I h) fun xv s1 hx => thn hx fun itv s2 h2 => ?_)
  obtain ⟨it, fp, tn, J, H2, e, I2, T, st2, f2, q⟩ := h2
  subst e
  refine wpAny_newObj_type (newEnv_comp ?_) (by show 0 ≤ sizeLine; decide)
  generalize hD : s2.heap.objs.size = D
  have hDn : H2 D = none := I2.hok.fresh (Nat.le_of_eq hD)
  obtain ⟨W, ⟨m0, w0⟩, turn⟩ := q D hDn
  generalize hs3 : ({ s2 with heap := s2.heap.push { cls := .type "list", data := .seq ([] : List Value).toArray } } : Shared) = s3
  have I3 : Inv X pins σ (upd H2 D (.lst [])) s3 := by
    rw [← hs3]
    refine I2.laid (t' := s2.toks) (fun b o e => Heap.get?_push_of_some _ e) (Nat.le_of_eq hD) ⟨Nat.zero_le _, [], 0, .nil, ?_⟩
    rw [← hD]
    exact Heap.get?_push_size _ rfl
  have h3 : s3.heap = s2.heap.push { cls := .type "list", data := .seq ([] : List Value).toArray } := by rw [← hs3]
  have sz : ∀ b ∈ fp, b < s2.heap.objs.size := fun b hb => by
    obtain ⟨o, e, _⟩ := T.obj _ _ st2 b hb
    exact Heap.lt_size e
  have f3 : ∀ b ∈ fp, FpOk X pins (upd H2 D (.lst [])) b ∧ b < s3.heap.objs.size := fun b hb => by
    have hlt := sz b hb
    refine ⟨⟨?_, (f2 b hb).2⟩, by rw [h3, Heap.size_push]; exact Nat.lt_succ_of_lt hlt⟩
    rw [upd_ne (by rw [← hD]; exact Nat.ne_of_lt hlt)]
    exact (f2 b hb).1
  have st3 : tn 0 s3.heap := T.keep _ _ _ st2 fun b _ o e => by rw [h3]; exact Heap.get?_push_of_some _ e
  have I4 := block_start I3 ok hN f3
  have pg := hg s3 (upd H2 D (.lst [])) s3.heap.objs.size (cellsFrom (s3.heap.objs.size + 1) scope.names (cloFrom X.env.cells scope.names [])) fp
  have pt := ht s3 (upd H2 D (.lst [])) s3.heap.objs.size (cellsFrom (s3.heap.objs.size + 1) scope.names (cloFrom X.env.cells scope.names [])) fp
  have pe := he s3 (upd H2 D (.lst [])) s3.heap.objs.size (cellsFrom (s3.heap.objs.size + 1) scope.names (cloFrom X.env.cells scope.names [])) fp
  show codeAny _ _ (.compStart (.ListComp elt [⟨tg, iter, ifs, 0⟩] scope pos) 0 (.ref it) (.ref D) (compEnvC scope (cellsFrom (s3.heap.objs.size + 1) scope.names (cloFrom X.env.cells scope.names [])) s3.heap.objs.size X.env)) (postX (model X.prog X.w) X.A X.xe use Qf (.ref D) (compEnvC scope (cellsFrom (s3.heap.objs.size + 1) scope.names (cloFrom X.env.cells scope.names [])) s3.heap.objs.size X.env)) { s3 with heap := pushCells (s3.heap.push { cls := .type "dict", data := .dict #[] }) scope.names }
  have nfp : ∀ b ∈ fp, (upd H2 D (.lst [])) b = none := fun b hb => (f3 b hb).1.1
  have cF : (compEnvC scope (cellsFrom (s3.heap.objs.size + 1) scope.names (cloFrom X.env.cells scope.names [])) s3.heap.objs.size X.env).frame = X.env.frame := rfl
  generalize hce : compEnvC scope (cellsFrom (s3.heap.objs.size + 1) scope.names (cloFrom X.env.cells scope.names [])) s3.heap.objs.size X.env = ce at I4 pg pt pe cF ⊢
  have cL : ce.locals = s3.heap.objs.size := by subst hce; rfl
  generalize hH3 : upd H2 D (.lst []) = H3 at I3 I4 pg pt pe w0 nfp f3
  generalize hs4 : ({ s3 with heap := pushCells (s3.heap.push { cls := .type "dict", data := .dict #[] }) scope.names } : Shared) = s4 at I4 ⊢
  have st4 : tn 0 s4.heap := T.keep _ _ _ st3 fun b _ o e => by rw [← hs4]; exact pushCells_keeps _ _ _ _ (Heap.get?_push_of_some _ e)
  have stat : ∀ {σ' : L2.St} {H' : Hp} {s' : Shared}, Inv (X.blk s3 H3 scope ce fp) [] σ' H' s' → (∀ b ∈ fp, H' b = none) → ∀ b ∈ fp, FpOk (X.blk s3 H3 scope ce fp) [] H' b := fun {σ' H' s'} I' hn b hb =>
    ⟨hn b hb, (I'.ok.exf b hb).1, I'.ok.exfs b hb, .inl hb, fun x c e => (I'.ok.exf b hb).2 x c e, fun p hp => absurd (show p ∈ ([] : List (Addr × Obj)) ++ [] from hp) (by simp)⟩
  have pe := pe (XF (X.blk s3 H3 scope ce fp) E) (fun pins σ H1 s1 e s' I1 c1 => XF.of_call (X := X.blk s3 H3 scope ce fp) I1.unwish c1)
  have loop : codeAny (model X.prog X.w) X.A (.compLoop (.ListComp elt [⟨tg, iter, ifs, 0⟩] scope pos) 0 (.ref it) (.ref D) ce) (postX (model X.prog X.w) X.A X.xe use Qf (.ref D) ce) s4 := by
    refine compLoop_any (fun n s' => ∃ i H', Inv (X.blk s3 H3 scope ce fp) [] (wipe σ (own.map (·.2))) H' s' ∧ tn i s'.heap ∧ (∀ b ∈ fp, H' b = none) ∧ W i n H') ?_ m0 ⟨0, H3, I4, st4, nfp, w0⟩
    rintro n s5 ⟨i, H5, I5, st5, n5, w5⟩
    rcases turn i n H5 w5 with ⟨stop, qq⟩ | ⟨go, Nx, hNx, step⟩
    · have td := T.done (X.blk s3 H3 scope ce fp) rfl rfl rfl hc i [] s5 _ H5 (fun _ _ => False) I5 (stat I5 n5) st5 stop
      refine thnF td fun r s6 ⟨hr, I6⟩ => ?_
      subst hr
      have I7 : Inv X pins σ H5 s6 := I3.call' (ch := fp) I6.os I6.base I6.hok I6.bare fun b hb => ⟨(f3 b hb).1.2.2.2.1, (f3 b hb).1.2.1, (f3 b hb).1.2.2.2.2.1, (f3 b hb).1.2.2.2.2.2⟩
      have nC : H5 ce.locals = none := I6.free
      obtain ⟨m, hn, _⟩ := I6.loc
      have hn : s6.heap.Ns ce.locals m := hn
      exact hRR D ce s6 m H5 I7 qq hn (I3.fpOk (by rw [cL]; exact Nat.le_refl _) nC)
    · have ti := T.item (X.blk s3 H3 scope ce fp) rfl rfl rfl hc i [] s5 _ H5 (fun _ _ => False) I5 (stat I5 n5) st5 go
      refine thnF ti fun r s6 ⟨u, hr, h6⟩ => ?_
      subst hr
      refine thnF h6 fun _ s7 ⟨x, H7, I7, r7, y7, st7, n7⟩ => ?_
      have I7' := I7.pinned (stat I7 n7) (T.obj _ _ st7)
      refine thnF (pg.run _ s7 _ H7 x u _ I7' r7 (step x H7 y7)) fun _ s8 ⟨σ8, H8, I8, hw8, q8⟩ => ?_
      refine thnF (pt.run _ s8 σ8 H8 _ I8 q8) fun b s9 ⟨H9, I9, q9⟩ => ?_
      have fin : ∀ {s' : Shared} {H' : Hp}, Inv (X.blk s3 H3 scope ce fp) ([] ++ pinsAt fp s7.heap) σ8 H' s' → Nx H' → ∃ m, m < n ∧ ∃ i H', Inv (X.blk s3 H3 scope ce fp) [] (wipe σ (own.map (·.2))) H' s' ∧ tn i s'.heap ∧ (∀ b ∈ fp, H' b = none) ∧ W i m H' := fun {s' H'} I' nx => by
        obtain ⟨m', hm, w'⟩ := hNx H' nx
        have pin' : ∀ b ∈ fp, ∀ o, s7.heap.get? b = some o → s'.heap.get? b = some o ∧ H' b = none := fun b hb o e =>
          let z := I'.pin (b, o) (List.mem_append_right _ (List.mem_append_right _ (mem_pinsAt hb e)))
          ⟨z.1, z.2.1⟩
        have hl : (wipe σ (own.map (·.2))).length = σ8.length := by rw [← hw8, wipe_length]
        refine ⟨m', hm, i + 1, H', (I'.unpinned (pins := [])).weak hl (fun j v e => ?_), T.keep _ _ _ st7 fun b hb o e => (pin' b hb o e).1, fun b hb => ?_, w'⟩
        · rw [← hw8] at e
          exact (wipe_some e).1
        · obtain ⟨o, e, _⟩ := T.obj _ _ st7 b hb
          exact (pin' b hb o e).2
      cases b with
      | false =>
        simp only [Bool.false_eq_true, if_false] at q9 ⊢
        exact fin I9 q9
      | true =>
        simp only [if_true] at q9 ⊢
        refine wpAny_mono (pe.run _ s9 σ8 H9 _ (I9.wish _) q9) (fun z s10 ⟨yv, H10, I10, r10, acc, hD10, hz10, nx⟩ => ?_) fun u s10 xx => out_of hst hfr tk I3 f3 cL cF xx
        exact app_ok (X := X.blk s3 H3 scope ce fp) I10.unwish hD10 hz10 r10 fun s11 I11 => fin I11 nx
  exact codeAny_compStart_list loop (T.self X.A 0 _ _ _ st4 loop)
/-- name = [..] on one line, the name a local; the element may raise -/
theorem ps_setLcX {i : Nat} {y : Str} {py : Pos} {elt tg iter : Expr} {ifs : List Expr} {scope : Scope} {own : List (Str × Nat)} {pos spos : Pos} {wi : TI} {g : TG} {tt : TT} {te : TE} {E : XK}
    (hst : X.stack = X.env :: X.outer) (hfr : X.env.frame = some X.env.locals) (tk : Takes X (fun cls d _ H => E cls d H))
    (hc : X.calm = true) (hN : X.N.Nodup) (hy : X.N[i]? = some y) (hyl : X.env.scope.names.lookup y = some .local)
    (hsw : swapsWith (.ListComp elt [⟨tg, iter, ifs, 0⟩] scope pos) (some (.Name y py)) spos.line X.env = pure true) (hi : PI X tg iter wi) (ok : BlkOk X.N X.env.scope scope own)
    (hg : ∀ (s : Shared) (H : Hp) (C : Addr) (cl : List (Str × Addr)) (fp : List Addr), PG (X.blk s H scope (compEnvC scope cl C X.env) fp) tg g) (ht : ∀ (s : Shared) (H : Hp) (C : Addr) (cl : List (Str × Addr)) (fp : List Addr), PTs (X.blk s H scope (compEnvC scope cl C X.env) fp) ifs tt)
    (he : ∀ (s : Shared) (H : Hp) (C : Addr) (cl : List (Str × Addr)) (fp : List Addr) (xe : Value → Shared → Prop), (∀ (pins : List (Addr × Obj)) (σ : L2.St) (H1 : Hp) (s1 : Shared) (e : Value) (s' : Shared), Inv ((X.blk s H scope (compEnvC scope cl C X.env) fp).wish xe) pins σ H1 s1 → L2.CX X.prog X.w X.stack H1 s1 E e s' → xe e s') → PE ((X.blk s H scope (compEnvC scope cl C X.env) fp).wish xe) elt te) (hs : ∀ x, foldedSetIterable iter X.env x = pure x := by intro _; rfl) :
    PS X (.Assign [.Name y py] (.ListComp elt [⟨tg, iter, ifs, 0⟩] scope pos) spos) (tAsg (tLc wi g tt te (own.map (·.2))) (gName i)) := by
  refine ⟨fun pins s σ H D I h => ?_⟩
  rw [exec_Assign_Name_used _ _ _ _ hsw]
  refine wpAny_bind (wpAny_standAt (wpAny_bind ?_))
  show wpAny _ X.A (do let _ ← comprehension (.ListComp elt [⟨tg, iter, ifs, 0⟩] scope pos) scope X.env (firstIterPos [⟨tg, iter, ifs, 0⟩] pos) (newList []) false (eval iter X.env) (some (assign (.Name y py) X.env))) _ _ s
  have h : tLc wi g tt te (own.map (·.2)) σ H (fun x H1 => gName i x σ H1 D.nx) := h
  refine wpAny_bind (thn (lcX_core (Qf := fun _ s' => SP X pins D .next s') hst hfr tk hc hN I hi ok hg ht he hs h fun L ce s' m H' I' q hn f => ?_) fun _ s' hq => wpAny_pure (wpAny_pure hq))
  show wpAny _ _ (assign (.Name y py) X.env (.ref L)) _ _ _
  refine wpAny_assign_Name (store_ok2 (v := V.ref L) I' hN hy (.inl hyl) rfl (fun s2 I2 ⟨a, sb, ha⟩ => ?_) (.inr hyl))
  obtain ⟨f0, f1, f2, f3, f4, f5⟩ := f
  have haC : ce.locals ≠ a := by
    rcases ha with z | z
    · rw [z]; exact f1
    · exact fun e => f4 y a z e.symm
  refine ⟨m, hn.sameBut sb haC, fun h3 sb3 => ?_⟩
  exact ⟨_, H', I2.turned (t' := s2.toks) (fun b o hb e => (sb3.2 b hb).trans e) f0 f1 f3 f4 f5, q⟩
end
end LcX

section
variable {P : Program} {w : World} {K : PySem.W.Frag} {mg : Str → Option Value} {base : Heap}
theorem knZ_snoc (xs : List (Str × Int)) (x : Str) (v : Int) : knZ (xs ++ [(x, v)]) = kput (knZ xs) x v := by
  unfold knZ
  rw [List.foldl_append]
  rfl
/-- a sequence of ints, a list or a tuple -/
def SqN (K : PySem.W.Frag) (H : Hp) (a : Addr) (ns : List Int) : Prop := SqL K H a (ns.map V.int) ∨ SqT K H a (ns.map V.int)
theorem kp_at {S : Addr → Prop} {H H1 : Hp} {d : Addr} {o : HO} (k : Kp S H H1) (n : H d = none) : Kp S H (upd H1 d o) := fun c x e f => by
  rw [upd_ne (ne_of_none e n)]
  exact k c x e f
theorem kp_on {S : Addr → Prop} {H H1 : Hp} {d : Addr} {o : HO} {u : HO} (k : Kp S H H1) (e1 : H d = some u) (m : Mut (some u)) (hs : S d) : Kp S H (upd H1 d o) := fun c x e f => by
  by_cases h : c = d
  · subst h
    rw [e1] at e
    cases e
    exact absurd m (f hs)
  · rw [upd_ne h]
    exact k c x e f
theorem sqL_ki {H H' : Hp} {C p dx b : Addr} {fs : List (Str × V)} {xs : List V} (ep : H p = some (.ins C dx fs)) (k : Kp (fun x => x = p) H H') (h : SqL K H b xs) : SqL K H' b xs := by
  rcases h with (h | ⟨ob, h⟩) | h
  · exact .inl (.inl (k _ _ h fun z => by rw [z, ep] at h; cases h))
  · exact .inl (.inr ⟨ob, k _ _ h fun z => by rw [z, ep] at h; cases h⟩)
  · exact .inr h
def ri_inv (K : PySem.W.Frag) (H : Hp) (p dx a b r d : Addr) (ps : List (Str × Int)) (j : Nat) (σ' : L2.St) (H' : Hp) : Prop :=
  Kp (fun x => x = p) H H' ∧ H' p = some (.ins (He.ga K "Room") dx [("known", .ref d)]) ∧ (∃ x4 x5 x6, σ' = [some (.ref p), some (.ref a), some (.ref b), some (.ref r), x4, x5, x6]) ∧
    ∃ kvs : List (Key × V), H' d = some (.dK kvs) ∧ kvs.length ≤ j ∧ ∀ x, valV kvs (.inr x) = (knZ (ps.take j) x).map V.int
theorem ri_step {H : Hp} {p dx a b r d : Addr} {ps : List (Str × Int)} {j : Nat} {σ' : L2.St} {H1 : Hp} {x : Str} {n : Int} {T : Addr} (hd : H d = none) (hj : ps[j]? = some (x, n)) (i : ri_inv K H p dx a b r d ps j σ' H1) (hT : H1 T = none) {v : V}
    {kvs : List (Key × V)} (e2 : H1 d = some (.dK kvs)) (e3 : kvs.length ≤ j) (e4 : ∀ x, valV kvs (.inr x) = (knZ (ps.take j) x).map V.int) (ev : v = .int n) {σ2 : L2.St} (h2 : ∃ x4 x5 x6, σ2 = [some (.ref p), some (.ref a), some (.ref b), some (.ref r), x4, x5, x6]) :
    ri_inv K H p dx a b r d ps (j + 1) σ2 (upd (upd H1 T (.tup [.str x, .int n])) d (.dK (putK kvs (.inr x) v))) := by
  obtain ⟨k1, e1, _, _⟩ := i
  have hdp : d ≠ p := fun z => by rw [z, e1] at e2; cases e2
  have hdT : d ≠ T := fun z => by rw [z, hT] at e2; cases e2
  have hpT : p ≠ T := fun z => by rw [z, hT] at e1; cases e1
  refine ⟨kp_at (k1.trans (Kp.of_same (same_new hT))) hd, ?_, h2, _, upd_same, ?_, fun y => ?_⟩
  · rw [upd_ne hdp.symm, upd_ne hpT]
    exact e1
  · have := length_putK kvs (.inr x) v
    omega
  · have hl := (List.getElem?_eq_some_iff.mp hj).1
    have ht : ps.take (j + 1) = ps.take j ++ [(x, n)] := by
      rw [List.take_succ, hj]
      rfl
    rw [ht, knZ_snoc, valV_put, ev]
    unfold kput
    by_cases hy : y = x
    · rw [if_pos (by rw [hy]), if_pos hy]
      rfl
    · rw [if_neg (fun z => hy (by injection z)), if_neg hy]
      exact e4 y
/-- rows: names and sizes -/
def rowD (x : Str × Nat) : PyData := .tuple [.str x.1, .int (x.2 : Int)]
def rwZ (ws : List (Str × Nat)) : Rw := fun x => match ws.find? (fun q => decide (q.1 = x)) with
  | some q => List.replicate q.2 0
  | none => []
theorem rwZ_32 (ws : List (Str × Nat)) : Rw32 (rwZ ws) := fun x v hv => by
  unfold rwZ at hv
  split at hv
  · rw [List.eq_of_mem_replicate hv]; exact in32_0
  · cases hv
theorem rwZ_of {ws : List (Str × Nat)} {q : Str × Nat} (nd : (ws.map (·.1)).Nodup) (h : q ∈ ws) : rwZ ws q.1 = List.replicate q.2 0 := by
  unfold rwZ
  have : ws.find? (fun y => decide (y.1 = q.1)) = some q := by
    induction ws with
    | nil => cases h
    | cons y r ih =>
      rw [List.find?_cons]
      have nd2 := List.nodup_cons.mp nd
      rcases List.mem_cons.mp h with e | h
      · rw [← e, decide_eq_true rfl]
      · have hne : y.1 ≠ q.1 := fun e => nd2.1 (by show y.1 ∈ _; rw [e]; exact List.mem_map_of_mem (f := (·.1)) h)
        rw [decide_eq_false hne]
        exact ih nd2.2 h
  rw [this]
/-- a new Room, all of it new -/
structure NewRoom (K : PySem.W.Frag) (H H' : Hp) (A : Adr) (rs : List Str) (kn : Kn) (rw : Rw) (n : Nat) : Prop where
  kp : Kp (fun x => x = A.p) H H'
  ro : RoomAt K H' A rs kn rw n
  d0 : H A.d = none
  r0 : H A.r = none
  a0 : ∀ x ∈ rs, H (A.ra x) = none
  rd : A.r ≠ A.d
  ri : ∀ x ∈ rs, ∀ y ∈ rs, A.ra x = A.ra y → x = y
def sp_ri (K : PySem.W.Frag) : Sp := fun vs H Q _ => ∃ (p dx a b r : Addr) (ps : List (Str × Int)) (ws : List (Str × Nat)), vs = [.ref p, .ref a, .ref b, .ref r] ∧ H p = some (.ins (He.ga K "Room") dx []) ∧ SqT K H a (ps.map fun x => V.str x.1) ∧ SqN K H b (ps.map (·.2)) ∧ ps.length ≤ 100 ∧ Dp K H (.ref r) (.tuple (ws.map rowD)) ∧ (ws.map (·.1)).Nodup ∧ (∀ q ∈ ws, q.2 ≤ 100) ∧ ws.length ≤ 100 ∧
  ∀ H' (A : Adr), A.p = p → NewRoom K H H' A (ws.map (·.1)) (knZ ps) (rwZ ws) ps.length → Q .non H'
/-- the rows laid so far -/
structure RowsAt (H H' : Hp) (p dx d r2 : Addr) (C : Addr) (kvs : List (Key × V)) (ws : List (Str × Nat)) (ra : Str → Addr) : Prop where
  kp : Kp (fun x => x = p) H H'
  ep : H' p = some (.ins C dx (roomF d r2))
  ed : H' d = some (.dK kvs)
  er : ∃ rvs : List (Key × V), H' r2 = some (.dK rvs) ∧ rvs.length ≤ ws.length ∧ ∀ x ∈ ws.map (·.1), valV rvs (.inr x) = some (.ref (ra x))
  el : ∀ q ∈ ws, H' (ra q.1) = some (.lst ((List.replicate q.2 (0 : Int)).map V.int)) ∧ H (ra q.1) = none
  ri : ∀ x ∈ ws.map (·.1), ∀ y ∈ ws.map (·.1), ra x = ra y → x = y
theorem flat_rep (n : Nat) : (List.replicate n [V.int 0]).flatten = (List.replicate n (0 : Int)).map V.int := by
  induction n with
  | zero => rfl
  | succ n ih => rw [List.replicate_succ, List.flatten_cons, ih, List.replicate_succ]; rfl
theorem RowsAt.step {H H1 : Hp} {p dx d r2 C : Addr} {kvs rvs : List (Key × V)} {ws : List (Str × Nat)} {ra : Str → Addr} {q : Str × Nat} {z l : Addr} (R : RowsAt H H1 p dx d r2 C kvs ws ra) (hr0 : H r2 = none) (rd : r2 ≠ d) (hq : q.1 ∉ ws.map (·.1)) (nz : H1 z = none)
    (nl : upd H1 z (.lst [.int 0]) l = none) (e2 : H1 r2 = some (.dK rvs)) (l2 : rvs.length ≤ ws.length) (v2 : ∀ x ∈ ws.map (·.1), valV rvs (.inr x) = some (.ref (ra x))) :
    RowsAt H (upd (upd (upd H1 z (.lst [.int 0])) l (.lst ((List.replicate q.2 (0 : Int)).map V.int))) r2 (.dK (putK rvs (.inr q.1) (.ref l)))) p dx d r2 C kvs (ws ++ [q]) (fun y => if y = q.1 then l else ra y) := by
  have lz : l ≠ z := fun e => by rw [e, upd_same] at nl; cases nl
  have nl1 : H1 l = none := by rw [upd_ne lz] at nl; exact nl
  have ne : ∀ {b : Addr} {o : HO}, H1 b = some o → b ≠ z ∧ b ≠ l := fun {b o} e => ⟨ne_of_none e nz, ne_of_none e nl1⟩
  have at_ : ∀ {b : Addr} {o : HO}, H1 b = some o → b ≠ r2 → (upd (upd (upd H1 z (.lst [.int 0])) l (.lst ((List.replicate q.2 (0 : Int)).map V.int))) r2 (.dK (putK rvs (.inr q.1) (.ref l)))) b = some o := fun {b o} e h => by
    rw [upd_ne h, upd_ne (ne e).2, upd_ne (ne e).1]
    exact e
  have rp : p ≠ r2 := fun e => by have := R.ep; rw [e, e2] at this; cases this
  have rl : l ≠ r2 := fun e => by rw [e, e2] at nl1; cases nl1
  have fresh : ∀ {b : Addr}, H1 b = none → H b = none := fun {b} h => by
    cases e : H b with
    | none => rfl
    | some o =>
      by_cases hb : b = p
      · rw [hb, R.ep] at h; cases h
      · rw [R.kp b o e (fun y => absurd y hb)] at h; cases h
  have mem : ∀ {x : Str}, x ∈ (ws ++ [q]).map (·.1) → x = q.1 ∨ (x ≠ q.1 ∧ x ∈ ws.map (·.1)) := fun {x} hx => by
    by_cases e : x = q.1
    · exact .inl e
    · rw [List.map_append] at hx
      rcases List.mem_append.mp hx with h | h
      · exact .inr ⟨e, h⟩
      · exact absurd (List.mem_singleton.mp h) e
  refine ⟨fun b o e hk => ?_, at_ R.ep rp, at_ R.ed rd.symm, ⟨_, upd_same, ?_, fun x hx => ?_⟩, fun y hy => ?_, fun x hx y hy e => ?_⟩
  · have e1 := R.kp b o e hk
    exact at_ e1 (fun z => by rw [z] at e; rw [hr0] at e; cases e)
  · have := length_putK rvs (.inr q.1) (.ref l)
    rw [List.length_append, List.length_singleton]
    omega
  · rw [valV_put]
    rcases mem hx with e | ⟨e, h⟩
    · rw [if_pos (by rw [e]), if_pos e]
    · rw [if_neg (fun z => e (by injection z)), if_neg e]
      exact v2 x h
  · rcases List.mem_append.mp hy with h | h
    · have hne : y.1 ≠ q.1 := fun e => hq (by rw [← e]; exact List.mem_map_of_mem (f := (·.1)) h)
      rw [if_neg hne]
      obtain ⟨a1, a2⟩ := R.el y h
      exact ⟨at_ a1 (fun z => by rw [z, e2] at a1; cases a1), a2⟩
    · rw [List.mem_singleton.mp h, if_pos rfl]
      exact ⟨by rw [upd_ne rl]; exact upd_same, fresh nl1⟩
  · have inH : ∀ {x : Str}, x ∈ ws.map (·.1) → ra x ≠ l := fun {x} hx e => by
      obtain ⟨y, hy, rfl⟩ := List.mem_map.mp hx
      have := (R.el y hy).1
      rw [e, nl1] at this
      cases this
    rcases mem hx with e1 | ⟨e1, h1⟩ <;> rcases mem hy with e2 | ⟨e2, h2⟩
    · rw [e1, e2]
    · rw [if_pos e1, if_neg e2] at e; exact absurd e.symm (inH h2)
    · rw [if_neg e1, if_pos e2] at e; exact absurd e (inH h1)
    · rw [if_neg e1, if_neg e2] at e; exact R.ri x h1 y h2 e
theorem ok_Room_init (T : Top K mg) : FnOk P w K mg base CX0 1 (He.ma K (He.ga K "Room") "__init__") T.fd_Room___init__ ["self", "params", "inputs", "rows"] (sp_ri K) := by
  refine T.F_Room___init__.ok sc_Room___init__ (fun vs H Q E h => ?_) (fun cdv A outer s H vs Q E hr h => ?_)
  · obtain ⟨p, dx, a, b, r, ps, ws, rfl, _⟩ := h
    rfl
  · obtain ⟨p, dx, a, b, r, ps, ws, rfl, ep, ha, hb, lp, hrw, nd, w100, lw, q⟩ := h
    refine ⟨_, PSs.nox (pss_cons (ps_fld (pv 0) pe_dnewK rfl)
        (pss_cons (ps_for PassesOwn.never (by rfl) (ZipM.pi_zipM (by rfl) T.m_zip (pa_cons (pv 1) (pa_cons (pv 2) pa_nil))) (pg_tup (n := 2) (by rfl) (pgs_cons (pg_name (i := 4) sc_Room___init__.nd rfl (Or.inl rfl)) (pgs_cons (pg_name (i := 5) sc_Room___init__.nd rfl (Or.inl rfl)) pgs_nil))) (pss_one (ps_dput (hu_of hr) (pe_fld (pv 0) rfl) (pv 4) (pv 5) (by rfl))))
        (pss_cons (ps_fld (pv 0) pe_dnewK rfl)
        (pss_one (ps_for PassesOwn.never (by rfl) (pi_tup (pv 3)) (pg_tup (n := 2) (by rfl) (pgs_cons (pg_name (i := 4) sc_Room___init__.nd rfl (Or.inl rfl)) (pgs_cons (pg_name (i := 6) sc_Room___init__.nd rfl (Or.inl rfl)) pgs_nil))) (pss_one (ps_dput (hu_of hr) (pe_fld (pv 0) rfl) (pv 4) (pe_op op_rep (pe_lst (pa_cons pe_int pa_nil)) (pv 6)) (by rfl)))))))), ?_⟩
    intro d hd
    have hdp : d ≠ p := fun z => by rw [z, ep] at hd; cases hd
    have epd : upd H d (.dK []) p = some (.ins (He.ga K "Room") dx []) := by
      rw [upd_ne hdp.symm]
      exact ep
    refine ⟨_, rfl, p, _, dx, _, rfl, epd, T.cl_Room, T.no_Room_known, by decide, ?_⟩
    have k0 : Kp (fun x => x = p) H (upd (upd H d (.dK [])) p (.ins (He.ga K "Room") dx [("known", .ref d)])) := kp_on (kp_at Kp.refl hd) ep trivial rfl
    have i0 : ∀ x4 x5 x6, ri_inv K H p dx a b r d ps 0 [some (.ref p), some (.ref a), some (.ref b), some (.ref r), x4, x5, x6] (upd (upd H d (.dK [])) p (.ins (He.ga K "Room") dx [("known", .ref d)])) := fun x4 x5 x6 =>
      ⟨k0, upd_same, ⟨_, _, _, rfl⟩, [], by rw [upd_ne hdp]; exact upd_same, Nat.le_refl _, fun x => rfl⟩
    dsimp only
    refine seq_by (fun σ' H' => ri_inv K H p dx a b r d ps ps.length σ' H') ?_ ?_
    rotate_left
    · intro N hN
      refine ⟨_, rfl, _, rfl, a, b, ps.map (fun x => V.str x.1), (ps.map (·.2)).map V.int, rfl, ?_⟩
      have getp : ∀ {i : Nat} {x y : V}, (ps.map fun x => V.str x.1)[i]? = some x → ((ps.map (·.2)).map V.int)[i]? = some y → ∃ q : Str × Int, ps[i]? = some q ∧ x = .str q.1 ∧ y = .int q.2 := fun {i x y} hx hy => by
        rw [List.getElem?_map] at hx
        rw [List.getElem?_map, List.getElem?_map] at hy
        cases hq : ps[i]? with
        | none => rw [hq] at hx; cases hx
        | some q => rw [hq] at hx hy; cases hx; cases hy; exact ⟨q, rfl, rfl, rfl⟩
      have ll : (ps.map fun x => V.str x.1).length = ((ps.map (·.2)).map V.int).length := by
        rw [List.length_map, List.length_map, List.length_map]
      rcases hb with hb | hb
      · refine .inl ⟨sqT_kp k0 ha, sqL_ki ep k0 hb, ?_⟩
        refine ZipM.for_zipM (K := K) ll (ri_inv K H p dx a b r d ps) (i0 _ _ _) ?_ ?_ ?_
        · intro j σ' H' iv
          exact ⟨sqT_kp iv.1 ha, sqL_ki ep iv.1 hb⟩
        · intro i x y T' σ' H1 hx hy iv hT
          obtain ⟨q1, hq, rfl, rfl⟩ := getp hx hy
          have iv0 := iv
          obtain ⟨k1, e1, ⟨x4, x5, x6, rfl⟩, kvs, e2, e3, e4⟩ := iv
          have hdT : d ≠ T' := fun z => by rw [z, hT] at e2; cases e2
          have hpT : p ≠ T' := fun z => by rw [z, hT] at e1; cases e1
          have il := (List.getElem?_eq_some_iff.mp hq).1
          refine ⟨T', _, rfl, .inl (.inl upd_same), rfl, _, _, rfl, _, _, rfl, rfl, _, rfl, _, rfl, p, _, dx, _, _, rfl, by rw [upd_ne hpT]; exact e1, T.cl_Room, T.no_Room_known, rfl, _, rfl, d, _, rfl, .inl ⟨kvs, .inr q1.1, by rw [upd_ne hdT]; exact e2, rfl, ?_, rfl⟩, ?_⟩
          · rw [sizeLine_eq]
            omega
          · exact ri_step hd hq iv0 hT e2 e3 e4 rfl ⟨_, _, _, rfl⟩
        · intro σ' H1 iv
          rw [List.length_map] at iv
          exact hN _ _ iv
      · refine .inr ⟨sqT_kp k0 ha, sqT_kp k0 hb, ?_⟩
        refine RZ.for_zipT (K := K) ll (ri_inv K H p dx a b r d ps) (i0 _ _ _) ?_ ?_ ?_
        · intro j σ' H' iv
          exact ⟨sqT_kp iv.1 ha, sqT_kp iv.1 hb⟩
        · intro i x y T' σ' H1 hx hy iv hT
          obtain ⟨q1, hq, rfl, rfl⟩ := getp hx hy
          have iv0 := iv
          obtain ⟨k1, e1, ⟨x4, x5, x6, rfl⟩, kvs, e2, e3, e4⟩ := iv
          have hdT : d ≠ T' := fun z => by rw [z, hT] at e2; cases e2
          have hpT : p ≠ T' := fun z => by rw [z, hT] at e1; cases e1
          have il := (List.getElem?_eq_some_iff.mp hq).1
          refine ⟨T', _, rfl, .inl (.inl upd_same), rfl, _, _, rfl, _, _, rfl, rfl, _, rfl, _, rfl, p, _, dx, _, _, rfl, by rw [upd_ne hpT]; exact e1, T.cl_Room, T.no_Room_known, rfl, _, rfl, d, _, rfl, .inl ⟨kvs, .inr q1.1, by rw [upd_ne hdT]; exact e2, rfl, ?_, rfl⟩, ?_⟩
          · rw [sizeLine_eq]
            omega
          · exact ri_step hd hq iv0 hT e2 e3 e4 rfl ⟨_, _, _, rfl⟩
        · intro σ' H1 iv
          rw [List.length_map] at iv
          exact hN _ _ iv
    intro σ' H1 iv
    obtain ⟨k1, e1, ⟨x4, x5, x6, rfl⟩, kvs, e2, e3, e4⟩ := iv
    intro r2 hr2
    have hrp : p ≠ r2 := fun z => by rw [z, hr2] at e1; cases e1
    have hrd : d ≠ r2 := fun z => by rw [z, hr2] at e2; cases e2
    have hr0 : H r2 = none := by
      cases h : H r2 with
      | none => rfl
      | some o =>
        have := k1 r2 o h (fun z => absurd z hrp.symm)
        rw [hr2] at this
        cases this
    refine ⟨_, rfl, p, _, dx, _, rfl, by rw [upd_ne hrp]; exact e1, T.cl_Room, T.no_Room_rows, (by show 1 < 1000; decide), ?_⟩
    have k3 : Kp (fun x => x = p) H (upd (upd H1 r2 (.dK [])) p (.ins (He.ga K "Room") dx (roomF d r2))) := kp_on (kp_at k1 hr0) ep trivial rfl
    obtain ⟨r0, xs, er, hrS, da⟩ := dp_tup hrw
    cases er
    have lx := dpAll_len da
    rw [List.length_map] at lx
    have R0 : RowsAt H (upd (upd H1 r2 (.dK [])) p (.ins (He.ga K "Room") dx (roomF d r2))) p dx d r2 (He.ga K "Room") kvs [] (fun _ => 0) := by
      refine ⟨k3, upd_same, by rw [upd_ne hdp, upd_ne hrd]; exact e2, ⟨[], by rw [upd_ne hrp.symm]; exact upd_same, Nat.le_refl _, (fun x hx => by cases hx)⟩, (fun q hq => by cases hq), (fun x hx => by cases hx)⟩
    refine ⟨_, rfl, r, rfl, ⟨_, sqT_kp k3 hrS⟩, ?_⟩
    refine for_tup (K := K) (xs := xs) (fun j σ' H' => (∃ ra, RowsAt H H' p dx d r2 (He.ga K "Room") kvs (ws.take j) ra) ∧ ∃ x4 x5 x6, σ' = [some (.ref p), some (.ref a), some (.ref b), some (.ref r), x4, x5, x6]) ?_ ?_ ?_ ?_
    · exact ⟨⟨_, by rw [List.take_zero]; exact R0⟩, _, _, _, rfl⟩
    · rintro j σ' H' _ ⟨⟨ra, R⟩, _⟩
      exact sqT_kp R.kp hrS
    · rintro j y σ' H2 hy ⟨⟨ra, R⟩, y4, y5, y6, rfl⟩
      have jl : j < ws.length := by
        have := (List.getElem?_eq_some_iff.mp hy).1
        omega
      obtain ⟨dy, hdy, ddy⟩ := dpAll_getV da hy
      rw [List.getElem?_map, List.getElem?_eq_getElem jl] at hdy
      cases hdy
      have ddy2 := dp_kp R.kp _ _ (by simp [rowD, nLd, nLs]) ddy
      obtain ⟨tp, ts, rfl, htp, dts⟩ := dp_tup ddy2
      obtain ⟨t0, u0, rfl, g0, f0⟩ := dpAll_cons dts
      obtain ⟨t1, u1, rfl, g1, f1⟩ := dpAll_cons f0
      cases dpAll_nil f1
      cases dp_str g0
      cases dp_int g1
      obtain ⟨rvs, er2, lr2, vr2⟩ := R.er
      have w1 := w100 ws[j] (List.getElem_mem jl)
      refine ⟨tp, _, rfl, htp, rfl, _, _, rfl, _, _, rfl, rfl, (by show 1 ≤ sizeLine; decide), fun z nz => ?_⟩
      refine ⟨_, rfl, z, _, _, rfl, rfl, upd_same, by omega, by omega, ?_, fun l nl => ?_⟩
      · rw [sizeLine_eq, Int.toNat_natCast]
        show 1 * _ ≤ _
        omega
      rw [Int.toNat_natCast, flat_rep]
      have nz1 := nz
      have hpz : p ≠ z := fun e => by have := R.ep; rw [e, nz] at this; cases this
      have lz : l ≠ z := fun e => by rw [e, upd_same] at nl; cases nl
      have nl1 : H2 l = none := by rw [upd_ne lz] at nl; exact nl
      have hpl : p ≠ l := fun e => by have := R.ep; rw [e, nl1] at this; cases this
      have r2z : r2 ≠ z := ne_of_none er2 nz
      have r2l : r2 ≠ l := ne_of_none er2 nl1
      have nq : (ws[j]).1 ∉ (ws.take j).map (·.1) := fun hm => by
        have hs : ws.take (j + 1) = ws.take j ++ [ws[j]] := by rw [List.take_succ, List.getElem?_eq_getElem jl]; rfl
        have nd' : ((ws.take (j + 1)).map (·.1)).Nodup := nd.sublist ((List.take_sublist _ _).map _)
        rw [hs, List.map_append, List.nodup_append] at nd'
        exact nd'.2.2 _ hm _ (List.mem_singleton.mpr rfl) rfl
      refine ⟨_, rfl, p, _, dx, _, _, rfl, by rw [upd_ne hpl, upd_ne hpz]; exact R.ep, T.cl_Room, T.no_Room_rows, roomF_rows _ _, _, rfl, r2, _, rfl, .inl ⟨rvs, .inr (ws[j]).1, by rw [upd_ne r2l, upd_ne r2z]; exact er2, rfl, ?_, rfl⟩, ?_⟩
      · rw [sizeLine_eq]
        have : (ws.take j).length ≤ j := List.length_take_le ..
        omega
      · refine ⟨⟨fun y => if y = (ws[j]).1 then l else ra y, ?_⟩, _, _, _, rfl⟩
        have hs : ws.take (j + 1) = ws.take j ++ [ws[j]] := by rw [List.take_succ, List.getElem?_eq_getElem jl]; rfl
        rw [hs]
        exact R.step hr0 hrd.symm nq nz nl er2 lr2 vr2
    · rintro σ' H2 ⟨⟨ra, R⟩, _⟩
      rw [lx, List.take_length] at R
      obtain ⟨rvs, er2, lr2, vr2⟩ := R.er
      refine q H2 ⟨p, d, 0, 0, r2, ra⟩ rfl ⟨R.kp, ⟨⟨dx, R.ep⟩, ⟨kvs, R.ed, e3, fun x => by rw [e4 x, List.take_length]⟩, ⟨rvs, er2, vr2⟩, fun x hx => ?_⟩, hd, hr0, fun x hx => ?_, hrd.symm, R.ri⟩
      · obtain ⟨y, hy, rfl⟩ := List.mem_map.mp hx
        rw [rwZ_of nd hy]
        exact (R.el y hy).1
      · obtain ⟨y, hy, rfl⟩ := List.mem_map.mp hx
        exact (R.el y hy).2
theorem kn32_of {ps : List (Str × Int)} (h : ∀ x ∈ ps, In32 x.2) : Kn32 (knZ ps) := by
  have gen : ∀ (ps : List (Str × Int)) (k : Kn), Kn32 k → (∀ x ∈ ps, In32 x.2) → Kn32 (ps.foldl (fun k p => kput k p.1 p.2) k) := by
    intro ps
    induction ps with
    | nil => exact fun k hk _ => hk
    | cons p r ih =>
      intro k hk h
      refine ih _ ?_ (fun x hx => h x (List.mem_cons_of_mem _ hx))
      intro y v hy
      have hy : kput k p.1 p.2 y = some v := hy
      unfold kput at hy
      by_cases e : y = p.1
      · rw [if_pos e] at hy
        cases hy
        exact h p (List.mem_cons_self ..)
      · rw [if_neg e] at hy
        exact hk y v hy
  exact gen ps _ (fun x v h => by cases h) h
theorem same_made {H : Hp} {a dx C : Addr} (ha : H a = none) (hx : H dx = none) (ne : dx ≠ a) : Same H (upd (upd H dx (.own a)) a (.ins C dx [])) := fun c o e => by
  rw [upd_ne (ne_of_none e ha), upd_ne (ne_of_none e hx)]
  exact e
end

section
variable {P : Program} {w : World} {K : PySem.W.Frag} {mg : Str → Option Value} {base : Heap}
def sp_riL (K : PySem.W.Frag) : Sp := fun vs H Q _ => ∃ (p dx a b r : Addr) (ps : List (Str × Int)), vs = [.ref p, .ref a, .ref b, .ref r] ∧ H p = some (.ins (He.ga K "Room") dx []) ∧ SqT K H a (ps.map fun x => V.str x.1) ∧ SqL K H b ((ps.map (·.2)).map V.int) ∧ ps.length ≤ 100 ∧ SqL K H r [] ∧
  ∀ H' (A : Adr), A.p = p → NewRoom K H H' A [] (knZ ps) (fun _ => []) ps.length → Q .non H'
theorem ok_Room_initL (T : Top K mg) : FnOk P w K mg base CX0 1 (He.ma K (He.ga K "Room") "__init__") T.fd_Room___init__ ["self", "params", "inputs", "rows"] (sp_riL K) := by
  refine T.F_Room___init__.ok sc_Room___init__ (fun vs H Q E h => ?_) (fun cdv A outer s H vs Q E hr h => ?_)
  · obtain ⟨p, dx, a, b, r, ps, rfl, _⟩ := h
    rfl
  · obtain ⟨p, dx, a, b, r, ps, rfl, ep, ha, hb, lp, hrw, q⟩ := h
    refine ⟨_, PSs.nox (pss_cons (ps_fld (pv 0) pe_dnewK rfl)
        (pss_cons (ps_for PassesOwn.never (by rfl) (ZipM.pi_zipM (by rfl) T.m_zip (pa_cons (pv 1) (pa_cons (pv 2) pa_nil))) (pg_tup (n := 2) (by rfl) (pgs_cons (pg_name (i := 4) sc_Room___init__.nd rfl (Or.inl rfl)) (pgs_cons (pg_name (i := 5) sc_Room___init__.nd rfl (Or.inl rfl)) pgs_nil))) (pss_one (ps_dput (hu_of hr) (pe_fld (pv 0) rfl) (pv 4) (pv 5) (by rfl))))
        (pss_cons (ps_fld (pv 0) pe_dnewK rfl)
        (pss_one (ps_for PassesOwn.never (by rfl) (pi_list (pv 3)) (pg_tup (n := 2) (by rfl) (pgs_cons (pg_name (i := 4) sc_Room___init__.nd rfl (Or.inl rfl)) (pgs_cons (pg_name (i := 6) sc_Room___init__.nd rfl (Or.inl rfl)) pgs_nil))) (pss_one (ps_dput (hu_of hr) (pe_fld (pv 0) rfl) (pv 4) (pe_op op_rep (pe_lst (pa_cons pe_int pa_nil)) (pv 6)) (by rfl)))))))), ?_⟩
    intro d hd
    have hdp : d ≠ p := fun z => by rw [z, ep] at hd; cases hd
    have epd : upd H d (.dK []) p = some (.ins (He.ga K "Room") dx []) := by
      rw [upd_ne hdp.symm]
      exact ep
    refine ⟨_, rfl, p, _, dx, _, rfl, epd, T.cl_Room, T.no_Room_known, by decide, ?_⟩
    have k0 : Kp (fun x => x = p) H (upd (upd H d (.dK [])) p (.ins (He.ga K "Room") dx [("known", .ref d)])) := kp_on (kp_at Kp.refl hd) ep trivial rfl
    have i0 : ∀ x4 x5 x6, ri_inv K H p dx a b r d ps 0 [some (.ref p), some (.ref a), some (.ref b), some (.ref r), x4, x5, x6] (upd (upd H d (.dK [])) p (.ins (He.ga K "Room") dx [("known", .ref d)])) := fun x4 x5 x6 =>
      ⟨k0, upd_same, ⟨_, _, _, rfl⟩, [], by rw [upd_ne hdp]; exact upd_same, Nat.le_refl _, fun x => rfl⟩
    dsimp only
    refine seq_by (fun σ' H' => ri_inv K H p dx a b r d ps ps.length σ' H') ?_ ?_
    rotate_left
    · intro N hN
      refine ⟨_, rfl, _, rfl, a, b, ps.map (fun x => V.str x.1), (ps.map (·.2)).map V.int, rfl, ?_⟩
      have getp : ∀ {i : Nat} {x y : V}, (ps.map fun x => V.str x.1)[i]? = some x → ((ps.map (·.2)).map V.int)[i]? = some y → ∃ q : Str × Int, ps[i]? = some q ∧ x = .str q.1 ∧ y = .int q.2 := fun {i x y} hx hy => by
        rw [List.getElem?_map] at hx
        rw [List.getElem?_map, List.getElem?_map] at hy
        cases hq : ps[i]? with
        | none => rw [hq] at hx; cases hx
        | some q => rw [hq] at hx hy; cases hx; cases hy; exact ⟨q, rfl, rfl, rfl⟩
      have ll : (ps.map fun x => V.str x.1).length = ((ps.map (·.2)).map V.int).length := by
        rw [List.length_map, List.length_map, List.length_map]
      refine .inl ⟨sqT_kp k0 ha, sqL_ki ep k0 hb, ?_⟩
      refine ZipM.for_zipM (K := K) ll (ri_inv K H p dx a b r d ps) (i0 _ _ _) ?_ ?_ ?_
      · intro j σ' H' iv
        exact ⟨sqT_kp iv.1 ha, sqL_ki ep iv.1 hb⟩
      · intro i x y T' σ' H1 hx hy iv hT
        obtain ⟨q1, hq, rfl, rfl⟩ := getp hx hy
        have iv0 := iv
        obtain ⟨k1, e1, ⟨x4, x5, x6, rfl⟩, kvs, e2, e3, e4⟩ := iv
        have hdT : d ≠ T' := fun z => by rw [z, hT] at e2; cases e2
        have hpT : p ≠ T' := fun z => by rw [z, hT] at e1; cases e1
        have il := (List.getElem?_eq_some_iff.mp hq).1
        refine ⟨T', _, rfl, .inl (.inl upd_same), rfl, _, _, rfl, _, _, rfl, rfl, _, rfl, _, rfl, p, _, dx, _, _, rfl, by rw [upd_ne hpT]; exact e1, T.cl_Room, T.no_Room_known, rfl, _, rfl, d, _, rfl, .inl ⟨kvs, .inr q1.1, by rw [upd_ne hdT]; exact e2, rfl, ?_, rfl⟩, ?_⟩
        · rw [sizeLine_eq]
          omega
        · exact ri_step hd hq iv0 hT e2 e3 e4 rfl ⟨_, _, _, rfl⟩
      · intro σ' H1 iv
        rw [List.length_map] at iv
        exact hN _ _ iv
    intro σ' H1 iv
    obtain ⟨k1, e1, ⟨x4, x5, x6, rfl⟩, kvs, e2, e3, e4⟩ := iv
    intro r2 hr2
    have hrp : p ≠ r2 := fun z => by rw [z, hr2] at e1; cases e1
    have hrd : d ≠ r2 := fun z => by rw [z, hr2] at e2; cases e2
    have hr0 : H r2 = none := by
      cases h : H r2 with
      | none => rfl
      | some o =>
        have := k1 r2 o h (fun z => absurd z hrp.symm)
        rw [hr2] at this
        cases this
    refine ⟨_, rfl, p, _, dx, _, rfl, by rw [upd_ne hrp]; exact e1, T.cl_Room, T.no_Room_rows, (by show 1 < 1000; decide), ?_⟩
    have k3 : Kp (fun x => x = p) H (upd (upd H1 r2 (.dK [])) p (.ins (He.ga K "Room") dx (roomF d r2))) := kp_on (kp_at k1 hr0) ep trivial rfl
    refine ⟨_, rfl, r, rfl, ⟨_, sqL_ki ep k3 hrw⟩, ?_⟩
    refine for_list (K := K) (xs := []) (fun j σ' H' => H' = upd (upd H1 r2 (.dK [])) p (.ins (He.ga K "Room") dx (roomF d r2))) ?_ ?_ ?_ ?_
    · rfl
    · rintro j σ' H' _ rfl
      exact sqL_ki ep k3 hrw
    · rintro j y σ' H2 hy _
      cases hy
    · rintro σ' H2 rfl
      refine q _ ⟨p, d, 0, 0, r2, fun _ => 0⟩ rfl ⟨k3, ⟨⟨dx, upd_same⟩, ⟨kvs, by show upd _ p _ d = _; rw [upd_ne hdp, upd_ne hrd]; exact e2, e3, fun x => by rw [e4 x, List.take_length]⟩, ⟨[], by show upd _ p _ r2 = _; rw [upd_ne hrp.symm]; exact upd_same, (fun x hx => by cases hx)⟩, (fun x hx => by cases hx)⟩, hd, hr0, (fun x hx => by cases hx), hrd.symm, (fun x hx => by cases hx)⟩
end

section
variable {P : Program} {w : World} {K : PySem.W.Frag} {mg : Str → Option Value} {base : Heap}
def PostB (K : PySem.W.Frag) (hs : Hs) (rs : List Str) (A : Adr) (h : Addr) (M N : Nat) (H : Hp) (s : PSt) (Q : VK) (E : XK) : Rs → Prop
  | .fin => ∀ H', Kp (SA rs A) H H' → Std K hs rs A h M N H' s → Q (.int 0) H'
  | .gave v => ∀ H', Kp (SA rs A) H H' → Std K hs rs A h M N H' s → In32 v → Q (.int v) H'
  | .on => ∀ H', Kp (SA rs A) H H' → Std K hs rs A h M N H' s → E (.ref (He.ga K "Unended")) none H'
  | .flt w => ∀ H' d, Kp (SA rs A) H H' → Std K hs rs A h M N H' s → H' d = some (wordF w) → E (.ref (He.ga K "Faulted")) (some d) H'
def sp_body (K : PySem.W.Frag) (n : Nat) : Sp := fun vs H Q E => ∃ (hs : Hs) (rs : List Str) (A : Adr) (h : Addr) (M N : Nat) (s s' : PSt) (v : V) (bd : List Sm) (r : Rs) (F : Nat), vs = [.ref A.q, v, .ref A.p] ∧ Std K hs rs A h M N H s ∧ Dp K H v (.tuple (Sm.ds bd)) ∧ (∀ m ∈ bd, m.ok hs n rs) ∧ doAll hs F bd s = some (r, s') ∧ PostB K hs rs A h M N H s' Q E r
theorem ok_body_of (T : Top K mg) (n k : Nat) (G_Play_do_all : FnOk P w K mg base (L2.CX P w) k (He.ma K (He.ga K "Play") "do_all") T.fd_Play_do_all ["self", "body", "room"] (sp_all K n)) : FnOk P w K mg base (L2.CX P w) (k + 1) (He.ma K (He.ga K "Play") "play_body") T.fd_Play_play_body ["self", "body", "room"] (sp_body K n) := by
  refine T.F_Play_play_body.ok sc_Play_play_body (fun vs H Q E h => ?_) (fun cdv A outer s H vs Q E hr h => ?_)
  · obtain ⟨hs, rs, A, h, M, N, s, s', v, bd, r, F, rfl, _⟩ := h
    rfl
  · obtain ⟨hs, rs, B, hh, M, N, s, s', v, bd, r, F, rfl, st, dp, ok, hd, po⟩ := h
    refine ⟨_, (pss_cons (ps_set (i := 3) sc_Play_play_body.nd rfl (Or.inl rfl) (pe_meth (pv 0) T.cl_Play T.me_Play_do_all G_Play_do_all (hr.mono (by omega)) T.b_Play_do_all .nil (passes_call (takes_of rfl rfl rfl rfl) (fun _ _ _ _ h => h)) (pa_cons (pv 1) (pa_cons (pv 2) pa_nil))))
        (pss_one (ps_ret (pe_ifExp (pt_cmpR op_isN (pv 3) pe_non (nomark _)) pe_int (pv 3))))), ?_⟩
    obtain ⟨qx, eq⟩ := st.ob
    refine ⟨_, rfl, B.q, qx, _, rfl, eq, playF_no (by decide +kernel) (by decide +kernel) (by decide +kernel), _, rfl, _, rfl, hs, rs, B, hh, M, N, s, s', v, bd, r, F, rfl, st, dp, ok, hd, ?_⟩
    cases r with
    | fin =>
      intro H' k' st'
      refine ⟨_, rfl, rfl, _, rfl, ?_⟩
      exact po H' k' st'
    | gave v =>
      intro H' k' st' i'
      refine ⟨_, rfl, rfl, _, rfl, ?_⟩
      exact ⟨_, rfl, po H' k' st' i'⟩
    | on => exact po
    | flt w => exact po
end

section
variable {K : PySem.W.Frag}
theorem wxs_err {kn : Kn} {rw : Rw} : ∀ {es : List Ex} {i : Nat} {vs : List Int} {e : Ex} {f : Str}, wxs (es.take i) kn rw = .ok vs → es[i]? = some e → wx e kn rw = .error f → wxs es kn rw = .error f
  | [], i, vs, e, f, _, h, _ => by simp at h
  | a :: r, 0, vs, e, f, _, h, he => by
    simp at h
    subst h
    simp only [wxs, he]
  | a :: r, i + 1, vs, e, f, h0, h, he => by
    rw [List.take_succ_cons] at h0
    rw [List.getElem?_cons_succ] at h
    unfold wxs at h0 ⊢
    cases ha : wx a kn rw with
    | error g => rw [ha] at h0; cases h0
    | ok v =>
      rw [ha] at h0
      dsimp only at h0 ⊢
      cases hb : wxs (r.take i) kn rw with
      | error g => rw [hb] at h0; cases h0
      | ok us => rw [wxs_err hb h he]
theorem wxs_add {kn : Kn} {rw : Rw} : ∀ {es : List Ex} {i : Nat} {vs : List Int} {e : Ex} {v : Int}, wxs (es.take i) kn rw = .ok vs → es[i]? = some e → wx e kn rw = .ok v → wxs (es.take (i + 1)) kn rw = .ok (vs ++ [v])
  | [], i, vs, e, v, _, h, _ => by simp at h
  | a :: r, 0, vs, e, v, h0, h, he => by
    simp at h
    subst h
    simp only [List.take_zero, wxs] at h0
    cases h0
    simp only [Nat.zero_add, List.take_succ_cons, List.take_zero, wxs, he]
    rfl
  | a :: r, i + 1, vs, e, v, h0, h, he => by
    rw [List.take_succ_cons] at h0 ⊢
    rw [List.getElem?_cons_succ] at h
    unfold wxs at h0 ⊢
    cases ha : wx a kn rw with
    | error g => rw [ha] at h0; cases h0
    | ok u =>
      rw [ha] at h0
      dsimp only at h0 ⊢
      cases hb : wxs (r.take i) kn rw with
      | error g => rw [hb] at h0; cases h0
      | ok us =>
        rw [hb] at h0
        cases h0
        rw [wxs_add hb h he]
        rfl
theorem wxs_32q {kn : Kn} {rw : Rw} {rs : List Str} (hk : Kn32 kn) (hr : Rw32 rw) : ∀ {es : List Ex} {vs : List Int}, (∀ e ∈ es, e.wf rs) → wxs es kn rw = .ok vs → ∀ v ∈ vs, In32 v
  | [], vs, _, h, v, hv => by simp only [wxs] at h; cases h; cases hv
  | a :: r, vs, hw, h, v, hv => by
    unfold wxs at h
    cases ha : wx a kn rw with
    | error g => rw [ha] at h; cases h
    | ok u =>
      rw [ha] at h
      dsimp only at h
      cases hb : wxs r kn rw with
      | error g => rw [hb] at h; cases h
      | ok us =>
        rw [hb] at h
        cases h
        rcases List.mem_cons.mp hv with e | h2
        · rw [e]
          exact wx_32 hk hr (hw a (List.mem_cons_self ..)) ha
        · exact wxs_32q hk hr (fun e he => hw e (List.mem_cons_of_mem _ he)) hb v h2
/-- back from a helper: our own room stands as it stood -/
theorem Std.back {hs : Hs} {rs : List Str} {A B : Adr} {h : Addr} {M N N' : Nat} {H H3 H4 : Hp} {s s1 : PSt} (k : Std K hs rs B h M N H s) (s3 : Same H H3) (k4 : Kp (SA [] { A with q := B.q, t := B.t }) H3 H4) (nd : H A.d = none) (st4 : Std K hs [] { A with q := B.q, t := B.t } h M N' H4 s1) (l1 : s1.lf ≤ s.lf) :
    Kp (SA rs B) H H4 ∧ Std K hs rs B h M N H4 { s with lf := s1.lf, td := s1.td } := by
  have a := k.ap
  have kk : ∀ {c : Addr} {o : HO}, H c = some o → c ≠ B.q → c ≠ B.t → H4 c = some o := fun {c o} e h1 h2 => k4 c o (s3 c o e) (fun z => by
    rcases z with z | z | z | ⟨x, hx, _⟩
    · have : H c = none := by rw [z]; exact nd
      rw [this] at e; cases e
    · exact absurd z h1
    · exact absurd z h2
    · cases hx)
  refine ⟨fun c o e hk => k4 c o (s3 c o e) (fun z => hk (by
    rcases z with z | z | z | ⟨x, hx, _⟩
    · have : H c = none := by rw [z]; exact nd
      rw [this] at e; cases e
    · exact .inr (.inl z)
    · exact .inr (.inr (.inl z))
    · cases hx)), ?_⟩
  obtain ⟨⟨dx, e1⟩, ⟨kvs, e2, l2, hv⟩, ⟨rvs, e5, v5⟩, e6⟩ := k.ro
  have nz := k.nz
  refine ⟨⟨⟨dx, kk e1 k.pq a.pt⟩, ⟨kvs, kk e2 a.dq a.dt, ?_, hv⟩, ⟨rvs, kk e5 a.rq a.rt, v5⟩, fun x hx => kk (e6 x hx) (a.aq x hx) (k.rt x hx)⟩, st4.ob, st4.tl, st4.hk, k.k32, k.r32, st4.sz, ?_, k.m6, k.n6, k.pq, k.rd, k.hd, k.rt, k.ri⟩
  · show kvs.length ≤ N - s1.lf
    omega
  · show s1.lf ≤ N
    omega
end

section
variable {P : Program} {w : World} {K : PySem.W.Frag} {mg : Str → Option Value} {base : Heap}
theorem len_ofS (x : String) : (Str.ofString x).length = x.toList.length := by
  have h0 : (Str.ofString x).length = (Str.ofString x).cps.toList.length := by simp [Str.length]
  have := TL.tl_ofString x
  rw [h0, show (Str.ofString x).cps.toList = x.toList.map Char.toNat from this, List.length_map]
theorem app_len (a b : Str) : (a ++ b).length = a.length + b.length := by
  show (a.cps ++ b.cps).size = _
  rw [Array.size_append]
  rfl
theorem int_len {n : Int} (h : In32 n) : ((toString n : String) : Str).length ≤ 13 := by
  obtain ⟨h1, h2⟩ := h
  rw [len_ofS, String.length_toList]
  exact Nat.le_trans (PySem.int_text_length_le10 (k := 10) (by decide) (by omega)) (by decide)
theorem ixN_of {n j : Nat} (hj : j < n) : ixN n (j : Int) = some j := by
  unfold ixN
  rw [if_pos (by omega), if_pos (by omega)]
  simp
theorem kn32_put {kn : Kn} {x : Str} {v : Int} (h : Kn32 kn) (hv : In32 v) : Kn32 (kput kn x v) := fun y u hy => by
  unfold kput at hy
  by_cases h2 : y = x
  · rw [if_pos h2] at hy
    cases hy
    exact hv
  · rw [if_neg h2] at hy
    exact h y u hy
theorem val_put {kvs : List (Key × V)} {kn : Kn} {x : Str} {v : Int} (hv : ∀ x, valV kvs (.inr x) = (kn x).map V.int) (y : Str) : valV (putK kvs (.inr x) (.int v)) (.inr y) = (kput kn x v y).map V.int := by
  rw [valV_put]
  unfold kput
  by_cases hy : y = x
  · rw [if_pos (by rw [hy]), if_pos hy]
    rfl
  · rw [if_neg (fun z => hy (by injection z)), if_neg hy]
    exact hv y
theorem Std.put {hs : Hs} {rs : List Str} {A : Adr} {h : Addr} {M N : Nat} {H : Hp} {s : PSt} {kvs : List (Key × V)} {x : Str} {v : Int} (k : Std K hs rs A h M N H s) (e : H A.d = some (.dK kvs)) (l : kvs.length ≤ N - s.lf) (hv : ∀ x, valV kvs (.inr x) = (s.kn x).map V.int) (v32 : In32 v) (m6 : M < 6000) (n6 : N < 7000) :
    Std K hs rs A h (M + 1) (N + 1) (upd H A.d (.dK (putK kvs (.inr x) (.int v)))) { s with kn := kput s.kn x v } := by
  have a := k.ap
  obtain ⟨dx, ep⟩ := k.ro.ob
  obtain ⟨rvs, er, hr⟩ := k.ro.rk
  obtain ⟨qx, eq⟩ := k.ob
  have sz := k.sz
  have nz := k.nz
  refine ⟨⟨⟨dx, by rw [upd_ne a.pd]; exact ep⟩, ⟨_, upd_same, ?_, val_put hv⟩, ⟨rvs, by rw [upd_ne k.rd]; exact er, hr⟩, fun x hx => by rw [upd_ne (a.ad x hx)]; exact k.ro.rl x hx⟩, ⟨qx, by rw [upd_ne a.dq.symm]; exact eq⟩, by rw [upd_ne a.dt.symm]; exact k.tl, k.hk.kp (Kp.upd (S := fun z => z = A.d) e trivial rfl) k.hd, kn32_put k.k32 v32, k.r32, by show s.td.length + s.lf ≤ M + 1; omega, by show s.lf ≤ N + 1; omega, by omega, by omega, k.pq, k.rd, k.hd, k.rt, k.ri⟩
  have := length_putK kvs (.inr x) (.int v)
  show (putK kvs (.inr x) (.int v)).length ≤ N + 1 - s.lf
  omega
theorem Std.say {hs : Hs} {rs : List Str} {A : Adr} {h : Addr} {M N : Nat} {H : Hp} {s : PSt} {v : Int} (k : Std K hs rs A h M N H s) (m6 : M < 6000) (n6 : N < 7000) : Std K hs rs A h (M + 1) (N + 1) (upd H A.t (.lst (s.td.map V.int ++ [.int v]))) { s with td := s.td ++ [v] } := by
  have a := k.ap
  obtain ⟨⟨dx, ep⟩, ⟨kvs, ed, l, hv⟩, ⟨rvs, er, hr⟩, rl⟩ := k.ro
  obtain ⟨qx, eq⟩ := k.ob
  have sz := k.sz
  have nz := k.nz
  refine ⟨⟨⟨dx, by rw [upd_ne a.pt]; exact ep⟩, ⟨kvs, by rw [upd_ne a.dt]; exact ed, ?_, hv⟩, ⟨rvs, by rw [upd_ne a.rt]; exact er, hr⟩, fun x hx => by rw [upd_ne (k.rt x hx)]; exact rl x hx⟩, ⟨qx, by rw [upd_ne a.qt]; exact eq⟩, ?_, k.hk.kp (Kp.upd (S := fun z => z = A.t) k.tl trivial rfl) a.ht, k.k32, k.r32, ?_, by show s.lf ≤ N + 1; omega, by omega, by omega, k.pq, k.rd, k.hd, k.rt, k.ri⟩
  · show kvs.length ≤ N + 1 - s.lf
    omega
  · rw [upd_same]
    show _ = some (HO.lst ((s.td ++ [v]).map V.int))
    rw [List.map_append]
    rfl
  · show (s.td ++ [v]).length + s.lf ≤ M + 1
    rw [List.length_append, List.length_singleton]
    omega
theorem rw32_put {rw' : Rw} {x : Str} {i : Nat} {v : Int} (h : Rw32 rw') (hv : In32 v) : Rw32 (rput rw' x i v) := fun y u hu => by
  unfold rput at hu
  by_cases hy : y = x
  · rw [if_pos hy] at hu
    rcases List.mem_or_eq_of_mem_set hu with z | z
    · exact h x u z
    · rw [z]; exact hv
  · rw [if_neg hy] at hu
    exact h y u hu
theorem Std.rput {hs : Hs} {rs : List Str} {A : Adr} {h : Addr} {M N : Nat} {H : Hp} {s : PSt} {x : Str} {i : Nat} {v : Int} (k : Std K hs rs A h M N H s) (hx : x ∈ rs) (v32 : In32 v) : Std K hs rs A h M N (upd H (A.ra x) (.lst (((s.rw x).map V.int).set i (.int v)))) { s with rw := rput s.rw x i v } := by
  have a := k.ap
  obtain ⟨⟨dx, ep⟩, ⟨kvs, ed, l, hv⟩, ⟨rvs, er, hr⟩, rl⟩ := k.ro
  obtain ⟨qx, eq⟩ := k.ob
  refine ⟨⟨⟨dx, by rw [upd_ne (a.ap x hx).symm]; exact ep⟩, ⟨kvs, by rw [upd_ne (a.ad x hx).symm]; exact ed, l, hv⟩, ⟨rvs, by rw [upd_ne (a.ar x hx).symm]; exact er, hr⟩, fun y hy => ?_⟩, ⟨qx, by rw [upd_ne (a.aq x hx).symm]; exact eq⟩, by rw [upd_ne (k.rt x hx).symm]; exact k.tl, k.hk.kp (Kp.upd (S := fun z => z = A.ra x) (rl x hx) trivial rfl) (fun z => a.ah x hx z.symm), k.k32, rw32_put k.r32 v32, k.sz, k.nz, k.m6, k.n6, k.pq, k.rd, k.hd, k.rt, k.ri⟩
  show upd H (A.ra x) _ (A.ra y) = some (.lst ((if y = x then (s.rw x).set i v else s.rw y).map V.int))
  by_cases e : y = x
  · rw [e, if_pos rfl, upd_same, List.map_set]
  · rw [if_neg e, upd_ne (fun z => e (k.ri y hy x hx z))]
    exact rl y hy
theorem ok_one_of (T : Top K mg) (n k : Nat) (hk : 15 ≤ k) (G_Play_do_all : FnOk P w K mg base (L2.CX P w) k (He.ma K (He.ga K "Play") "do_all") T.fd_Play_do_all ["self", "body", "room"] (sp_all K n)) :
    FnOk P w K mg base (L2.CX P w) (k + 3) (He.ma K (He.ga K "Play") "do_one") T.fd_Play_do_one ["self", "statement", "room"] (sp_one K (n + 1)) := by
  have G_Play_again := ok_again_of T n k hk G_Play_do_all
  have G_Room_worth := ok_Room_worth (P := P) (w := w) (base := base) T 10
  have G_Room_row_with := ok_Room_row_with (P := P) (w := w) (base := base) T
  have G_Faulted___init__ := ok_Faulted_init (P := P) (w := w) (base := base) T
  have G_Play_play_body := ok_body_of T n k G_Play_do_all
  have G_Room___init__ := ok_Room_initL (P := P) (w := w) (base := base) T
  refine T.F_Play_do_one.ok sc_Play_do_one (fun vs H Q E h => ?_) (fun cdv A outer s H vs Q E hr h => ?_)
  · obtain ⟨hs, rs, A, h, M, N, s, s', v, m, r, F, rfl, _⟩ := h
    rfl
  · obtain ⟨hs, rs, B, hh, M, N, s, s', v, m, r, F, rfl, st, dp, ok, hd, m6, n6, po⟩ := h
    refine ⟨_, (pss_cons (ps_set (i := 3) sc_Play_do_one.nd rfl (Or.inl rfl) (pe_ix ix_tup (pv 1) pe_int (fun _ _ => rfl)))
        (pss_cons (ps_if (pt_cmpR op_eq (pv 3) pe_str (nomark _)) (pss_one (ps_ret (pe_meth (pv 2) T.cl_Room T.me_Room_worth G_Room_worth (hr.mono (by omega)) T.b_Room_worth .nil (passes_call (takes_of rfl rfl rfl rfl) (fun _ _ _ _ h => h)) (pa_cons (pe_ix ix_tup (pv 1) pe_int (fun _ _ => rfl)) pa_nil)))) pss_nil)
        (pss_cons (ps_if (pt_cmpR op_eq (pv 3) pe_str (nomark _)) (pss_cons (ps_set (i := 4) sc_Play_do_one.nd rfl (Or.inl rfl) (pe_ix ix_tup (pv 1) pe_int (fun _ _ => rfl)))
        (pss_one (ps_raise rfl (takes_of rfl rfl rfl rfl) (pmk_oex T.o_Faulted T.in_Faulted.iC T.in_Faulted.tI G_Faulted___init__ (hr.mono (by omega)) T.b_Faulted___init__ .nil pass0 (by rfl) T.g_Faulted (pa_cons (pe_joined (.cons pe_str (.cons (pe_fmt (pv 4)) .nil))) pa_nil))))) pss_nil)
        (pss_cons (ps_if (pt_cmpR op_eq (pv 3) pe_str (nomark _)) (pss_one (ps_ret (pe_meth (pv 0) T.cl_Play T.me_Play_do_all G_Play_do_all (hr.mono (by omega)) T.b_Play_do_all .nil (passes_call (takes_of rfl rfl rfl rfl) (fun _ _ _ _ h => h)) (pa_cons (pe_ifExp (pt_cmpR op_ne (pe_meth (pv 2) T.cl_Room T.me_Room_worth G_Room_worth (hr.mono (by omega)) T.b_Room_worth .nil (passes_call (takes_of rfl rfl rfl rfl) (fun _ _ _ _ h => h)) (pa_cons (pe_ix ix_tup (pv 1) pe_int (fun _ _ => rfl)) pa_nil)) pe_int (nomark _)) (pe_ix ix_tup (pv 1) pe_int (fun _ _ => rfl)) (pe_ix ix_tup (pv 1) pe_int (fun _ _ => rfl))) (pa_cons (pv 2) pa_nil))))) pss_nil)
        (pss_cons (ps_if (pt_cmpR op_eq (pv 3) pe_str (nomark _)) (pss_one (ps_ret (pe_meth (pv 0) T.cl_Play T.me_Play_again G_Play_again (hr.mono (by omega)) T.b_Play_again .nil (passes_call (takes_of rfl rfl rfl rfl) (fun _ _ _ _ h => h)) (pa_cons (pv 1) (pa_cons (pv 2) pa_nil))))) pss_nil)
        (pss_cons (ps_if (pt_cmpR op_eq (pv 3) pe_str (nomark _)) (pss_one (ps_dput (hu_of hr) (pe_fld (pv 2) rfl) (pe_ix ix_tup (pv 1) pe_int (fun _ _ => rfl)) (pe_meth (pv 2) T.cl_Room T.me_Room_worth G_Room_worth (hr.mono (by omega)) T.b_Room_worth .nil (passes_call (takes_of rfl rfl rfl rfl) (fun _ _ _ _ h => h)) (pa_cons (pe_ix ix_tup (pv 1) pe_int (fun _ _ => rfl)) pa_nil)) (by rfl))) (pss_one (ps_if (pt_cmpR op_eq (pv 3) pe_str (nomark _)) (pss_one (ps_expr (pe_bm PySem.F.plainAttrs_list PySem.F.slot_list_append PySem.F.type_list_append mt_append (pe_fld (pv 0) rfl) (pa_cons (pe_meth (pv 2) T.cl_Room T.me_Room_worth G_Room_worth (hr.mono (by omega)) T.b_Room_worth .nil (passes_call (takes_of rfl rfl rfl rfl) (fun _ _ _ _ h => h)) (pa_cons (pe_ix ix_tup (pv 1) pe_int (fun _ _ => rfl)) pa_nil)) pa_nil)))) (pss_one (ps_if (pt_cmpR op_eq (pv 3) pe_str (nomark _)) (pss_cons (ps_set (i := 5) sc_Play_do_one.nd rfl (Or.inl rfl) (pe_meth (pv 2) T.cl_Room T.me_Room_worth G_Room_worth (hr.mono (by omega)) T.b_Room_worth .nil (passes_call (takes_of rfl rfl rfl rfl) (fun _ _ _ _ h => h)) (pa_cons (pe_ix ix_tup (pv 1) pe_int (fun _ _ => rfl)) pa_nil)))
        (pss_cons (ps_set (i := 4) sc_Play_do_one.nd rfl (Or.inl rfl) (pe_meth (pv 2) T.cl_Room T.me_Room_worth G_Room_worth (hr.mono (by omega)) T.b_Room_worth .nil (passes_call (takes_of rfl rfl rfl rfl) (fun _ _ _ _ h => h)) (pa_cons (pe_ix ix_tup (pv 1) pe_int (fun _ _ => rfl)) pa_nil)))
        (pss_one (ps_asg (pv 4) (pg_sub (pe_meth (pv 2) T.cl_Room T.me_Room_row_with G_Room_row_with (hr.mono (by omega)) T.b_Room_row_with .nil (passes_call (takes_of rfl rfl rfl rfl) (fun _ _ _ _ h => h)) (pa_cons (pe_ix ix_tup (pv 1) pe_int (fun _ _ => rfl)) (pa_cons (pv 5) pa_nil))) (pv 5) set_list))))) (pss_cons (ps_asg (pe_dget (hu_of hr) (pe_fld (pv 0) rfl) (pe_ix ix_tup (pv 1) pe_int (fun _ _ => rfl)) (fun _ _ => rfl)) (pg_tup (n := 2) (by rfl) (pgs_cons (pg_name (i := 6) sc_Play_do_one.nd rfl (Or.inl rfl)) (pgs_cons (pg_name (i := 7) sc_Play_do_one.nd rfl (Or.inl rfl)) pgs_nil))))
        (pss_cons (LcX.ps_setLcX (i := 8) (own := [("e", 9)]) rfl rfl (takes_of rfl rfl rfl rfl) (by rfl) sc_Play_do_one.nd rfl rfl (sw_true rfl rfl rfl (by decide +kernel)) (pi_tup (pe_ix ix_tup (pv 1) pe_int (fun _ _ => rfl))) (blkOk_by (own := [("e", 9)]) (N := N_Play_do_one) (sc := defScope s_Play_do_one) (by decide +kernel)) (fun _ _ _ _ _ => (pg_name (i := 9) sc_Play_do_one.nd rfl (Or.inl rfl))) (fun _ _ _ _ _ => pts_nil) (fun _ _ _ _ _ _ hp => (pe_meth (pv 2) T.cl_Room T.me_Room_worth G_Room_worth (hr.mono (by omega)) T.b_Room_worth .nil hp (pa_cons (pv 9) pa_nil))))
        (pss_one (ps_dput (hu_of hr) (pe_fld (pv 2) rfl) (pe_ix ix_tup (pv 1) pe_int (fun _ _ => rfl)) (pe_meth (pv 0) T.cl_Play T.me_Play_play_body G_Play_play_body (hr.mono (by omega)) T.b_Play_play_body .nil (passes_call (takes_of rfl rfl rfl rfl) (fun _ _ _ _ h => h)) (pa_cons (pv 7) (pa_cons (pe_make T.mk_Room G_Room___init__ (hr.mono (by omega)) (by rfl) T.g_Room T.b_Room___init__ .nil pass0 (pa_cons (pv 6) (pa_cons (pv 8) (pa_cons (pe_lst pa_nil) pa_nil)))) pa_nil))) (by rfl))))))))))
        (pss_one (ps_ret pe_non)))))))), ?_⟩
    obtain ⟨dx, ep⟩ := st.ro.ob
    obtain ⟨qx, eq⟩ := st.ob
    have up : Std K hs rs B hh (M + 1) (N + 1) H s := st.mono (by omega) (by omega) (by omega) (by omega)
    cases F with
    | zero => simp [doOne] at hd
    | succ F =>
      cases m with
      | give e =>
        obtain ⟨p0, xs, rfl, hp, da⟩ := dp_tup dp
        obtain ⟨x0, r0, rfl, d0, e0⟩ := dpAll_cons da
        obtain ⟨x1, r1, rfl, d1, e1⟩ := dpAll_cons e0
        cases dp_str d0
        rw [doOne] at hd
        refine ⟨_, rfl, p0, _, 0, _, rfl, rfl, hp, atI_nat (j := 0) rfl, ?_⟩
        refine ⟨_, rfl, rfl, _, rfl, ifD rfl ?_⟩
        refine ⟨_, rfl, B.p, dx, _, rfl, ep, roomF_no (by decide +kernel) (by decide +kernel), _, rfl, p0, _, 1, _, rfl, rfl, hp, atI_nat (j := 1) rfl, B, rs, x1, e, s.kn, s.rw, _, rfl, ok.1, ok.2, st.ro, st.k32, st.r32, d1, fun z hw H2 s2 => ?_, fun f hf => ?_⟩
        · rw [hw] at hd
          cases hd
          exact po _ (Kp.of_same s2) (up.sm s2) (wx_32 st.k32 st.r32 ok.2 hw)
        · rw [hf] at hd
          cases hd
          exact po.flt up
      | fail n =>
        obtain ⟨p0, xs, rfl, hp, da⟩ := dp_tup dp
        obtain ⟨x0, r0, rfl, d0, e0⟩ := dpAll_cons da
        obtain ⟨x1, r1, rfl, d1, e1⟩ := dpAll_cons e0
        cases dp_str d0
        cases dp_int d1
        rw [doOne] at hd
        cases hd
        refine ⟨_, rfl, p0, _, 0, _, rfl, rfl, hp, atI_nat (j := 0) rfl, ?_⟩
        refine ⟨_, rfl, rfl, _, rfl, ifN (by decide +kernel) ?_⟩
        refine ⟨_, rfl, rfl, _, rfl, ifD rfl ?_⟩
        refine ⟨_, rfl, p0, _, 1, _, rfl, rfl, hp, atI_nat (j := 1) rfl, ?_⟩
        have hl : n.natAbs.log2 < 1920 := by
          have i32 : In32 n := ok.1
          have h1 : n.natAbs < 2 ^ 40 := by
            have := i32.1
            have := i32.2
            omega
          have := PySem.Flt.log2_lt_of (show 0 < 40 by decide) h1
          omega
        have hlen := int_len (n := n) ok.1
        refine ⟨_, rfl, by decide +kernel, _, rfl, .inr ⟨n, rfl, hl, _, rfl, ?_, ?_⟩⟩
        · rw [empty_app]
          have := app_len ("fail " : Str) (toString n : Str)
          rw [this, sizeLine_eq]
          have : ("fail " : Str).length = 5 := by decide +kernel
          omega
        · rw [empty_app]
          exact flt_mk (po.flt up)
      | tell e =>
        obtain ⟨p0, xs, rfl, hp, da⟩ := dp_tup dp
        obtain ⟨x0, r0, rfl, d0, e0⟩ := dpAll_cons da
        obtain ⟨x1, r1, rfl, d1, e1⟩ := dpAll_cons e0
        cases dp_str d0
        rw [doOne] at hd
        refine ⟨_, rfl, p0, _, 0, _, rfl, rfl, hp, atI_nat (j := 0) rfl, ?_⟩
        refine ⟨_, rfl, rfl, _, rfl, ifN (by decide +kernel) ?_⟩
        refine ⟨_, rfl, rfl, _, rfl, ifN (by decide +kernel) ?_⟩
        refine ⟨_, rfl, rfl, _, rfl, ifN (by decide +kernel) ?_⟩
        refine ⟨_, rfl, rfl, _, rfl, ifN (by decide +kernel) ?_⟩
        refine ⟨_, rfl, rfl, _, rfl, ifN (by decide +kernel) ?_⟩
        refine ⟨_, rfl, rfl, _, rfl, ifD rfl ?_⟩
        refine ⟨_, rfl, B.q, _, qx, _, _, rfl, eq, T.cl_Play, T.no_Play_told, playF_told _ _ _, .inl ⟨rfl, _, .of st.tl⟩, ?_⟩
        refine ⟨_, rfl, B.p, dx, _, rfl, ep, roomF_no (by decide +kernel) (by decide +kernel), _, rfl, p0, _, 1, _, rfl, rfl, hp, atI_nat (j := 1) rfl, B, rs, x1, e, s.kn, s.rw, _, rfl, ok.1, ok.2, st.ro, st.k32, st.r32, d1, fun z hw H2 s2 => ?_, fun f hf => ?_⟩
        · rw [hw] at hd
          cases hd
          have st2 := st.sm s2
          refine ⟨B.t, _, _, rfl, rfl, st2.tl, ?_, ?_⟩
          · rw [List.length_map, sizeLine_eq]
            have := st.sz
            omega
          · exact po _ ((Kp.of_same s2).trans (Kp.upd st2.tl trivial (.inr (.inr (.inl rfl))))) (st2.say m6 n6)
        · rw [hf] at hd
          cases hd
          exact po.flt up
      | set x e =>
        obtain ⟨p0, xs, rfl, hp, da⟩ := dp_tup dp
        obtain ⟨x0, r0, rfl, d0, e0⟩ := dpAll_cons da
        obtain ⟨x1, r1, rfl, d1, e1⟩ := dpAll_cons e0
        obtain ⟨x2, r2, rfl, d2, e2⟩ := dpAll_cons e1
        cases dp_str d0
        cases dp_str d1
        rw [doOne] at hd
        refine ⟨_, rfl, p0, _, 0, _, rfl, rfl, hp, atI_nat (j := 0) rfl, ?_⟩
        refine ⟨_, rfl, rfl, _, rfl, ifN (by decide +kernel) ?_⟩
        refine ⟨_, rfl, rfl, _, rfl, ifN (by decide +kernel) ?_⟩
        refine ⟨_, rfl, rfl, _, rfl, ifN (by decide +kernel) ?_⟩
        refine ⟨_, rfl, rfl, _, rfl, ifN (by decide +kernel) ?_⟩
        refine ⟨_, rfl, rfl, _, rfl, ifD rfl ?_⟩
        refine ⟨_, rfl, B.p, dx, _, rfl, ep, roomF_no (by decide +kernel) (by decide +kernel), _, rfl, p0, _, 2, _, rfl, rfl, hp, atI_nat (j := 2) rfl, B, rs, x2, e, s.kn, s.rw, _, rfl, ok.1, ok.2, st.ro, st.k32, st.r32, d2, fun z hw H2 s2 => ?_, fun f hf => ?_⟩
        · rw [hw] at hd
          cases hd
          have st2 := st.sm s2
          obtain ⟨kvs, ed, lk, hv⟩ := st2.ro.dk
          refine ⟨_, rfl, B.p, _, dx, _, _, rfl, s2 _ _ ep, T.cl_Room, T.no_Room_known, roomF_known _ _, _, rfl, p0, _, 1, _, rfl, rfl, sqT_sm s2 hp, atI_nat (j := 1) rfl, B.d, _, rfl, .inl ⟨kvs, .inr x, ed, rfl, ?_, rfl⟩, ?_⟩
          · rw [sizeLine_eq]
            omega
          · exact po _ ((Kp.of_same s2).trans (Kp.upd ed trivial (.inl rfl))) (st2.put ed lk hv (wx_32 st.k32 st.r32 ok.2 hw) m6 n6)
        · rw [hf] at hd
          cases hd
          exact po.flt up
      | put x e f =>
        obtain ⟨p0, xs, rfl, hp, da⟩ := dp_tup dp
        obtain ⟨x0, r0, rfl, d0, e0⟩ := dpAll_cons da
        obtain ⟨x1, r1, rfl, d1, e1⟩ := dpAll_cons e0
        obtain ⟨x2, r2, rfl, d2, e2⟩ := dpAll_cons e1
        obtain ⟨x3, r3, rfl, d3, e3⟩ := dpAll_cons e2
        cases dp_str d0
        cases dp_str d1
        rw [doOne] at hd
        refine ⟨_, rfl, p0, _, 0, _, rfl, rfl, hp, atI_nat (j := 0) rfl, ?_⟩
        refine ⟨_, rfl, rfl, _, rfl, ifN (by decide +kernel) ?_⟩
        refine ⟨_, rfl, rfl, _, rfl, ifN (by decide +kernel) ?_⟩
        refine ⟨_, rfl, rfl, _, rfl, ifN (by decide +kernel) ?_⟩
        refine ⟨_, rfl, rfl, _, rfl, ifN (by decide +kernel) ?_⟩
        refine ⟨_, rfl, rfl, _, rfl, ifN (by decide +kernel) ?_⟩
        refine ⟨_, rfl, rfl, _, rfl, ifN (by decide +kernel) ?_⟩
        refine ⟨_, rfl, rfl, _, rfl, ifD rfl ?_⟩
        refine ⟨_, rfl, B.p, dx, _, rfl, ep, roomF_no (by decide +kernel) (by decide +kernel), _, rfl, p0, _, 2, _, rfl, rfl, hp, atI_nat (j := 2) rfl, B, rs, x2, e, s.kn, s.rw, _, rfl, ok.2.1.1, ok.2.1.2, st.ro, st.k32, st.r32, d2, fun z hw H2 s2 => ?_, fun g hf => ?_⟩
        · rw [hw] at hd
          dsimp only at hd
          have st2 := st.sm s2
          refine ⟨_, rfl, B.p, dx, _, rfl, s2 _ _ ep, roomF_no (by decide +kernel) (by decide +kernel), _, rfl, p0, _, 3, _, rfl, rfl, sqT_sm s2 hp, atI_nat (j := 3) rfl, B, rs, x3, f, s.kn, s.rw, _, rfl, ok.2.2.1, ok.2.2.2, st2.ro, st.k32, st.r32, dp_sm s2 d3, fun v hv H3 s3 => ?_, fun g hf => ?_⟩
          · rw [hv] at hd
            dsimp only at hd
            have s23 := s2.trans s3
            have st3 := st.sm s23
            refine ⟨_, rfl, _, rfl, B.p, dx, _, rfl, s23 _ _ ep, roomF_no (by decide +kernel) (by decide +kernel), _, rfl, p0, _, 1, _, rfl, rfl, sqT_sm s23 hp, atI_nat (j := 1) rfl, _, rfl, B, rs, s.kn, s.rw, _, x, z, rfl, st3.ro, ok.1, fun hz => ?_, fun hz => ?_⟩
            · rw [if_pos hz] at hd
              cases hd
              have el := st3.ro.rl x ok.1
              obtain ⟨j, rfl⟩ := Int.eq_ofNat_of_zero_le hz.1
              refine ⟨_, rfl, B.ra x, _, _, j, rfl, rfl, el, ?_, ?_⟩
              · rw [List.length_map]
                exact ixN_of (by omega)
              · exact po _ ((Kp.of_same s23).trans (Kp.upd el trivial (.inr (.inr (.inr ⟨x, ok.1, rfl⟩))))) ((st3.mono (by omega) (by omega) (by omega) (by omega)).rput ok.1 (wx_32 st.k32 st.r32 ok.2.2.2 hv))
            · rw [if_neg hz] at hd
              cases hd
              exact (po.kp (Kp.of_same s23)).flt (up.sm s23)
          · rw [hf] at hd
            cases hd
            exact (po.kp (Kp.of_same s2)).flt (up.sm s2)
        · rw [hf] at hd
          cases hd
          exact po.flt up
      | ite e ys ns =>
        obtain ⟨p0, xs, rfl, hp, da⟩ := dp_tup dp
        obtain ⟨x0, r0, rfl, d0, e0⟩ := dpAll_cons da
        obtain ⟨x1, r1, rfl, d1, e1⟩ := dpAll_cons e0
        obtain ⟨x2, r2, rfl, d2, e2⟩ := dpAll_cons e1
        obtain ⟨x3, r3, rfl, d3, e3⟩ := dpAll_cons e2
        cases dp_str d0
        rw [doOne] at hd
        refine ⟨_, rfl, p0, _, 0, _, rfl, rfl, hp, atI_nat (j := 0) rfl, ?_⟩
        refine ⟨_, rfl, rfl, _, rfl, ifN (by decide +kernel) ?_⟩
        refine ⟨_, rfl, rfl, _, rfl, ifN (by decide +kernel) ?_⟩
        refine ⟨_, rfl, rfl, _, rfl, ifD rfl ?_⟩
        refine ⟨_, rfl, B.q, qx, _, rfl, eq, playF_no (by decide +kernel) (by decide +kernel) (by decide +kernel), ?_⟩
        refine ⟨_, rfl, B.p, dx, _, rfl, ep, roomF_no (by decide +kernel) (by decide +kernel), _, rfl, p0, _, 1, _, rfl, rfl, hp, atI_nat (j := 1) rfl, B, rs, x1, e, s.kn, s.rw, _, rfl, ok.1.1, ok.1.2, st.ro, st.k32, st.r32, d1, fun z hw H2 s2 => ?_, fun f hf => ?_⟩
        · rw [hw] at hd
          dsimp only at hd
          have st2 := st.sm s2
          have hp2 := sqT_sm s2 hp
          have po2 := Post.mono (Nat.le_succ M) (by omega) (Nat.le_succ N) (by omega) (Post.kp (Kp.of_same s2) po)
          refine ⟨rfl, _, rfl, ?_⟩
          by_cases hz : z = 0
          · rw [if_neg (fun y => y hz)] at hd
            refine ifNF (by rw [hz]) ?_
            exact ⟨_, rfl, p0, _, 3, _, rfl, rfl, hp2, atI_nat (j := 3) rfl, _, rfl, hs, rs, B, hh, M, N, s, s', x3, ns, r, F, rfl, st2, dp_sm s2 d3, ok.2.2, hd, po2⟩
          · rw [if_pos hz] at hd
            refine ifNT (fun y => hz (V.int.inj y)) ?_
            exact ⟨_, rfl, p0, _, 2, _, rfl, rfl, hp2, atI_nat (j := 2) rfl, _, rfl, hs, rs, B, hh, M, N, s, s', x2, ys, r, F, rfl, st2, dp_sm s2 d2, ok.2.1, hd, po2⟩
        · rw [hf] at hd
          cases hd
          exact po.flt up
      | loop e b =>
        have dp0 := dp
        obtain ⟨p0, xs, rfl, hp, da⟩ := dp_tup dp
        obtain ⟨x0, r0, rfl, d0, e0⟩ := dpAll_cons da
        cases dp_str d0
        rw [doOne] at hd
        have po2 := Post.mono (Nat.le_succ M) (by omega) (Nat.le_succ N) (by omega) po
        refine ⟨_, rfl, p0, _, 0, _, rfl, rfl, hp, atI_nat (j := 0) rfl, ?_⟩
        refine ⟨_, rfl, rfl, _, rfl, ifN (by decide +kernel) ?_⟩
        refine ⟨_, rfl, rfl, _, rfl, ifN (by decide +kernel) ?_⟩
        refine ⟨_, rfl, rfl, _, rfl, ifN (by decide +kernel) ?_⟩
        refine ⟨_, rfl, rfl, _, rfl, ifD rfl ?_⟩
        exact ⟨_, rfl, B.q, qx, _, rfl, eq, playF_no (by decide +kernel) (by decide +kernel) (by decide +kernel), _, rfl, _, rfl, hs, rs, B, hh, M, N, s, s', _, e, b, r, F, rfl, st, dp0, ok.1, ok.2, hd, po2⟩
      | call x h es =>
        obtain ⟨_, okE, l100, pr, bdy, hh1, lpe, okB⟩ := ok
        obtain ⟨p0, xs, rfl, hp, da⟩ := dp_tup dp
        obtain ⟨x0, r0, rfl, d0, e0⟩ := dpAll_cons da
        obtain ⟨x1, r1, rfl, d1, e1⟩ := dpAll_cons e0
        obtain ⟨x2, r2, rfl, d2, e2⟩ := dpAll_cons e1
        obtain ⟨x3, r3, rfl, d3, e3⟩ := dpAll_cons e2
        cases dp_str d0
        cases dp_str d1
        cases dp_str d2
        obtain ⟨p3, es3, rfl, hp3, d33⟩ := dp_tup d3
        have l3 : es3.length = es.length := by rw [dpAll_len d33, List.length_map]
        rw [doOne] at hd
        rw [hh1] at hd
        dsimp only at hd
        refine ⟨_, rfl, p0, _, 0, _, rfl, rfl, hp, atI_nat (j := 0) rfl, ?_⟩
        refine ⟨_, rfl, rfl, _, rfl, ifN (by decide +kernel) ?_⟩
        refine ⟨_, rfl, rfl, _, rfl, ifN (by decide +kernel) ?_⟩
        refine ⟨_, rfl, rfl, _, rfl, ifN (by decide +kernel) ?_⟩
        refine ⟨_, rfl, rfl, _, rfl, ifN (by decide +kernel) ?_⟩
        refine ⟨_, rfl, rfl, _, rfl, ifN (by decide +kernel) ?_⟩
        refine ⟨_, rfl, rfl, _, rfl, ifN (by decide +kernel) ?_⟩
        refine ⟨_, rfl, rfl, _, rfl, ifN (by decide +kernel) ?_⟩
        obtain ⟨hvs, ehv, fhv⟩ := st.hk
        obtain ⟨u, hu, du⟩ := fhv h (pr, bdy) hh1
        obtain ⟨pu, us, rfl, hpu, dus⟩ := dp_tup du
        obtain ⟨y0, w0, rfl, g0, f0⟩ := dpAll_cons dus
        obtain ⟨y1, w1, rfl, g1, f1⟩ := dpAll_cons f0
        cases dpAll_nil f1
        obtain ⟨pp, us0, rfl, hpp, dpp⟩ := dp_tup g0
        have hd0 : DGet H hh (.str h) (some (.ref pu)) := by
          have := DGet.k (k := .inr h) ehv
          rw [hu] at this
          exact this
        refine ⟨_, rfl, B.q, _, qx, _, _, rfl, eq, T.cl_Play, T.no_Play_helpers, playF_helpers _ _ _, _, rfl, p0, _, 2, _, rfl, rfl, hp, atI_nat (j := 2) rfl, hh, _, rfl, hd0, ?_⟩
        refine ⟨pu, _, rfl, hpu, rfl, _, _, rfl, _, _, rfl, rfl, ?_⟩
        refine ⟨_, rfl, p0, _, 3, _, rfl, rfl, hp, atI_nat (j := 3) rfl, p3, rfl, ⟨_, hp3⟩, fun D nD => ?_⟩
        refine lc_tup (K := K) (a := p3) (xs := es3) (fun i H' => Same H H' ∧ ∃ vs : List Int, wxs (es.take i) s.kn s.rw = .ok vs ∧ H' D = some (.lst (vs.map V.int)) ∧ vs.length = i) ?_ ?_ ?_ ?_
        · exact ⟨same_new nD, [], by simp only [List.take_zero, wxs], upd_same, rfl⟩
        · rintro i H1 _ ⟨s1, _⟩
          exact sqT_sm s1 hp3
        · rintro i y H1 hy ⟨s1, vs, hw, eD, lv⟩
          have il : i < es.length := by
            have := (List.getElem?_eq_some_iff.mp hy).1
            omega
          obtain ⟨dd, hdd, ddd⟩ := dpAll_getV d33 hy
          rw [List.getElem?_map, List.getElem?_eq_getElem il] at hdd
          cases hdd
          have oe := okE es[i] (List.getElem_mem il)
          have gi := List.getElem?_eq_getElem il
          refine ⟨rfl, _, rfl, B.p, dx, _, rfl, s1 _ _ ep, roomF_no (by decide +kernel) (by decide +kernel), _, rfl, B, rs, y, es[i], s.kn, s.rw, _, rfl, oe.1, oe.2, (st.sm s1).ro, st.k32, st.r32, dp_sm s1 ddd, fun z hz H2 s2 => ?_, fun f hf => ?_⟩
          · refine ⟨_, s2 _ _ eD, by rw [List.length_map, lv, sizeLine_eq]; omega, same_upd (s1.trans s2) nD, vs ++ [z], wxs_add hw gi hz, by rw [upd_same, List.map_append]; rfl, by rw [List.length_append, lv]; rfl⟩
          · rw [wxs_err hw gi hf] at hd
            cases hd
            exact (po.flt up).sm s1
        rintro H1 ⟨s1, vs, hw, eD, lv⟩
        rw [l3, List.take_length] at hw
        rw [hw] at hd
        dsimp only at hd
        have v32 := wxs_32q st.k32 st.r32 (fun e he => (okE e he).2) hw
        have lz : pr.length = vs.length := by rw [lpe, lv, l3]
        have hpz1 : (pr.zip vs).map (fun x => V.str x.1) = pr.map V.str := by
          have : (pr.zip vs).map (fun x => V.str x.1) = ((pr.zip vs).map Prod.fst).map V.str := by rw [List.map_map]; rfl
          rw [this, List.map_fst_zip (by omega)]
        have hpz2 : (pr.zip vs).map (·.2) = vs := List.map_snd_zip (by omega)
        have hus0 : us0 = pr.map V.str := by
          have : ∀ {l : List Str} {vs : List V}, DpAll K H vs (l.map PyData.str) → vs = l.map V.str := fun {l} => by
            induction l with
            | nil => intro vs hh; exact dpAll_nil hh
            | cons a r ih =>
              intro vs hh
              obtain ⟨v, q, rfl, g, k⟩ := dpAll_cons hh
              cases dp_str g
              rw [ih k]
              rfl
          exact this dpp
        subst hus0
        dsimp only [gName]
        refine ⟨_, rfl, B.q, qx, _, rfl, s1 _ _ eq, playF_no (by decide +kernel) (by decide +kernel) (by decide +kernel), _, rfl, _, rfl, _, rfl, Nat.zero_le _, fun lp nlp => ?_⟩
        have s2 := s1.trans (same_new (o := .lst []) nlp)
        intro pa px hpa hpx pne
        have mdR := same_made (C := He.ga K "Room") hpa hpx pne
        have s3 := s2.trans mdR
        have npa : H pa = none := none_sm s2 hpa
        refine ⟨pa, px, pp, D, lp, pr.zip vs, rfl, upd_same, by rw [hpz1]; exact sqT_sm s3 hpp, .of (by rw [hpz2]; exact mdR _ _ ((same_new nlp) _ _ eD)), by rw [List.length_zip]; omega, .of (mdR _ _ upd_same), fun H3 A eA nr => ⟨rfl, ?_⟩⟩
        subst eA
        have sH3 : Same H H3 := Kp.same s3 nr.kp (fun b hb => by cases hb; exact npa)
        have nd : H A.d = none := none_sm s3 nr.d0
        have ne0 : ∀ {c : Addr} {o : HO}, H c = some o → c ≠ A.d := fun {c o} e => ne_of_none e nd
        have stI : Std K hs [] { A with q := B.q, t := B.t } hh M (s.lf + 100) H3 { kn := knZ (pr.zip vs), rw := fun _ => [], lf := s.lf, td := s.td } := by
          refine ⟨?_, ⟨qx, sH3 _ _ eq⟩, sH3 _ _ st.tl, st.hk.sm sH3, kn32_of (fun q hq => v32 _ (by rw [← hpz2]; exact List.mem_map_of_mem (f := (·.2)) hq)), (fun x v hv => by cases hv), st.sz, by show s.lf ≤ s.lf + 100; omega, st.m6, ?_, (ne_of_none eq npa).symm, nr.rd, ne0 ehv, (fun x hx => by cases hx), (fun x hx => by cases hx)⟩
          · show RoomAt K H3 _ _ (knZ (pr.zip vs)) (fun _ => []) (s.lf + 100 - s.lf)
            obtain ⟨o1, ⟨kvs, o2, o3, o4⟩, o5, o6⟩ := nr.ro
            refine ⟨o1, ⟨kvs, o2, ?_, o4⟩, o5, o6⟩
            rw [List.length_zip] at o3
            omega
          · have := st.nz
            have := st.sz
            have := st.m6
            omega
        cases hq : doAll hs F bdy { kn := knZ (pr.zip vs), rw := fun _ => [], lf := s.lf, td := s.td } with
        | none => rw [hq] at hd; cases hd
        | some rr =>
          obtain ⟨r1, s1'⟩ := rr
          rw [hq] at hd
          have sz1 := ((size1 hs F).1 _ _ _ _ hq).1
          have sz2 : s1'.lf ≤ s.lf := sz1
          have back := fun (H4 : Hp) (k4 : Kp (SA [] { A with q := B.q, t := B.t }) H3 H4) (st4 : Std K hs [] { A with q := B.q, t := B.t } hh M (s.lf + 100) H4 s1') => st.back sH3 k4 nd st4 sz2
          refine ⟨hs, [], { A with q := B.q, t := B.t }, hh, M, s.lf + 100, _, s1', _, bdy, r1, F, rfl, stI, dp_sm sH3 g1, okB, hq, ?_⟩
          cases r1 with
          | fin =>
            cases hd
            intro H4 k4 st4
            obtain ⟨kO, stO⟩ := back H4 k4 st4
            obtain ⟨dx4, ep4⟩ := stO.ro.ob
            obtain ⟨kvs, ed, lk, hv⟩ := stO.ro.dk
            refine ⟨_, rfl, B.p, _, dx4, _, _, rfl, ep4, T.cl_Room, T.no_Room_known, roomF_known _ _, _, rfl, p0, _, 1, _, rfl, rfl, sqT_kp kO hp, atI_nat (j := 1) rfl, B.d, _, rfl, .inl ⟨kvs, .inr x, ed, rfl, ?_, rfl⟩, ?_⟩
            · rw [sizeLine_eq]
              omega
            · exact po _ (kO.trans (Kp.upd ed trivial (.inl rfl))) (stO.put ed lk hv in32_0 m6 n6)
          | gave v =>
            cases hd
            intro H4 k4 st4 i4
            obtain ⟨kO, stO⟩ := back H4 k4 st4
            obtain ⟨dx4, ep4⟩ := stO.ro.ob
            obtain ⟨kvs, ed, lk, hv⟩ := stO.ro.dk
            refine ⟨_, rfl, B.p, _, dx4, _, _, rfl, ep4, T.cl_Room, T.no_Room_known, roomF_known _ _, _, rfl, p0, _, 1, _, rfl, rfl, sqT_kp kO hp, atI_nat (j := 1) rfl, B.d, _, rfl, .inl ⟨kvs, .inr x, ed, rfl, ?_, rfl⟩, ?_⟩
            · rw [sizeLine_eq]
              omega
            · exact po _ (kO.trans (Kp.upd ed trivial (.inl rfl))) (stO.put ed lk hv i4 m6 n6)
          | on =>
            cases hd
            intro H4 k4 st4
            obtain ⟨kO, stO⟩ := back H4 k4 st4
            exact po H4 kO (stO.mono (by omega) (by omega) (by omega) (by omega))
          | flt f =>
            cases hd
            intro H4 d4 k4 st4 e4
            obtain ⟨kO, stO⟩ := back H4 k4 st4
            exact po H4 d4 kO (stO.mono (by omega) (by omega) (by omega) (by omega)) e4

theorem ok_levels (T : Top K mg) : ∀ n : Nat, FnOk P w K mg base (L2.CX P w) (4 * n + 16) (He.ma K (He.ga K "Play") "do_all") T.fd_Play_do_all ["self", "body", "room"] (sp_all K n)
  | 0 => ok_all_of T 0 15 (by omega) <| by
    refine T.F_Play_do_one.ok sc_Play_do_one (fun vs H Q E h => ?_) (fun cdv A outer s H vs Q E hr h => ?_)
    · obtain ⟨hs, rs, A, h, M, N, s, s', v, m, r, F, rfl, _⟩ := h
      rfl
    · obtain ⟨hs, rs, B, hh, M, N, s, s', v, m, r, F, rfl, st, dp, ok, hd, m6, n6, po⟩ := h
      cases ok
  | n + 1 => ok_all_of T (n + 1) (4 * n + 19) (by omega) (ok_one_of T n (4 * n + 16) (by omega) (ok_levels T n))
end

section
variable {P : Program} {w : World} {K : PySem.W.Frag} {mg : Str → Option Value} {base : Heap}
abbrev Hl := List (Str × List Str × List Sm)
def hlD (x : Str × List Str × List Sm) : PyData := .tuple [.str x.1, .tuple (x.2.1.map PyData.str), .tuple (Sm.ds x.2.2)]
def hsZ (hl : Hl) : Hs := fun x => (hl.find? fun q => decide (q.1 = x)).map (·.2)
theorem hlD_nl (x : Str × List Str × List Sm) : nLd (hlD x) = true := by simp [hlD, nLd, nLs, strs_nl, Sm.noLs]
structure HlAt (K : PySem.W.Frag) (H' : Hp) (h2 : Addr) (hl : Hl) : Prop where
  e : ∃ hvs : List (Key × V), H' h2 = some (.dK hvs) ∧ hvs.length ≤ hl.length ∧ ∀ y ∈ hl, ∃ u, valV hvs (.inr y.1) = some u ∧ Dp K H' u (helpD y.2)
theorem HlAt.help {H' : Hp} {h2 : Addr} {hl : Hl} (h : HlAt K H' h2 hl) : HelpAt K H' h2 (hsZ hl) := by
  obtain ⟨hvs, e, _, f⟩ := h.e
  refine ⟨hvs, e, fun x pb hx => ?_⟩
  unfold hsZ at hx
  cases hf : hl.find? (fun q => decide (q.1 = x)) with
  | none => rw [hf] at hx; cases hx
  | some q =>
    rw [hf] at hx
    cases hx
    have hm := List.mem_of_find?_eq_some hf
    have he : q.1 = x := of_decide_eq_true (List.find?_some (p := fun (q : Str × List Str × List Sm) => decide (q.1 = x)) hf)
    rw [← he]
    exact f q hm
def sp_pi (K : PySem.W.Frag) : Sp := fun vs H Q _ => ∃ (q dx : Addr) (v : V) (hl : Hl) (n : Nat), vs = [.ref q, v, .int n] ∧ H q = some (.ins (He.ga K "Play") dx []) ∧ Dp K H v (.tuple (hl.map hlD)) ∧ (hl.map (·.1)).Nodup ∧ hl.length ≤ 100 ∧
  ∀ H' t h2, Kp (fun x => x = q) H H' → H t = none → H h2 = none → H' q = some (.ins (He.ga K "Play") dx (playF h2 (n : Int) t)) → H' t = some (.lst []) → HelpAt K H' h2 (hsZ hl) → Q .non H'
theorem ok_Play_init (T : Top K mg) : FnOk P w K mg base CX0 1 (He.ma K (He.ga K "Play") "__init__") T.fd_Play___init__ ["self", "helpers", "most"] (sp_pi K) := by
  refine T.F_Play___init__.ok sc_Play___init__ (fun vs H Q E h => ?_) (fun cdv A outer s H vs Q E hr h => ?_)
  · obtain ⟨q, dx, v, hl, n, rfl, _⟩ := h
    rfl
  · obtain ⟨q, dx, v, hl, n, rfl, eq, dp, nd, l100, po⟩ := h
    refine ⟨_, PSs.nox (pss_cons (ps_fld (pv 0) pe_dnewK rfl)
        (pss_cons (ps_for PassesOwn.never (by rfl) (pi_tup (pv 1)) (pg_tup (n := 3) (by rfl) (pgs_cons (pg_name (i := 3) sc_Play___init__.nd rfl (Or.inl rfl)) (pgs_cons (pg_name (i := 4) sc_Play___init__.nd rfl (Or.inl rfl)) (pgs_cons (pg_name (i := 5) sc_Play___init__.nd rfl (Or.inl rfl)) pgs_nil)))) (pss_one (ps_dput (hu_of hr) (pe_fld (pv 0) rfl) (pv 3) (pe_tup (pa_cons (pv 4) (pa_cons (pv 5) pa_nil))) (by rfl))))
        (pss_cons (ps_fld (pv 0) (pv 2) rfl)
        (pss_one (ps_fld (pv 0) (pe_lst pa_nil) rfl))))), ?_⟩
    obtain ⟨h, xs, rfl, hh, da⟩ := dp_tup dp
    have lx := dpAll_len da
    rw [List.length_map] at lx
    intro h2 hn2
    have hq2 : q ≠ h2 := fun z => by rw [z, hn2] at eq; cases eq
    refine ⟨_, rfl, q, _, dx, _, rfl, by rw [upd_ne hq2]; exact eq, T.cl_Play, T.no_Play_helpers, by decide, ?_⟩
    have k1 : Kp (fun x => x = q) H (upd (upd H h2 (.dK [])) q (.ins (He.ga K "Play") dx [("helpers", .ref h2)])) := kp_on (kp_at Kp.refl hn2) eq trivial rfl
    refine ⟨_, rfl, h, rfl, ⟨_, sqT_kp k1 hh⟩, ?_⟩
    refine for_tup (K := K) (xs := xs) (fun j σ' H' => Kp (fun x => x = q) H H' ∧ H' q = some (.ins (He.ga K "Play") dx [("helpers", .ref h2)]) ∧ HlAt K H' h2 (hl.take j) ∧ ∃ x3 x4 x5, σ' = [some (.ref q), some (.ref h), some (.int n), x3, x4, x5]) ?_ ?_ ?_ ?_
    · exact ⟨k1, upd_same, ⟨[], by rw [upd_ne hq2.symm]; exact upd_same, Nat.le_refl _, (fun y hy => by cases hy)⟩, _, _, _, rfl⟩
    · rintro j σ' H' _ ⟨k', _⟩
      exact sqT_kp k' hh
    · rintro j y σ' H1 hy ⟨k2, e1, ⟨hvs, e2, l2, f2⟩, x3, x4, x5, rfl⟩
      have jl : j < hl.length := by
        have := (List.getElem?_eq_some_iff.mp hy).1
        omega
      obtain ⟨dy, hdy, ddy⟩ := dpAll_getV da hy
      rw [List.getElem?_map, List.getElem?_eq_getElem jl] at hdy
      cases hdy
      have ddy2 := dp_kp k2 _ _ (hlD_nl _) ddy
      obtain ⟨tp, ts, rfl, htp, dts⟩ := dp_tup ddy2
      obtain ⟨t0, u0, rfl, g0, f0⟩ := dpAll_cons dts
      obtain ⟨t1, u1, rfl, g1, f1⟩ := dpAll_cons f0
      obtain ⟨t2, u2, rfl, g2, f3⟩ := dpAll_cons f1
      cases dpAll_nil f3
      cases dp_str g0
      refine ⟨tp, _, rfl, htp, rfl, _, _, rfl, _, _, rfl, _, _, rfl, rfl, _, rfl, _, rfl, (by show 2 ≤ sizeLine; decide), fun z nz => ?_⟩
      have hqz : q ≠ z := ne_of_none e1 nz
      have h2z : h2 ≠ z := ne_of_none e2 nz
      have nq : (hl[j]).1 ∉ (hl.take j).map (·.1) := fun hm => by
        have hs : hl.take (j + 1) = hl.take j ++ [hl[j]] := by rw [List.take_succ, List.getElem?_eq_getElem jl]; rfl
        have nd' : ((hl.take (j + 1)).map (·.1)).Nodup := nd.sublist ((List.take_sublist _ _).map _)
        rw [hs, List.map_append, List.nodup_append] at nd'
        exact nd'.2.2 _ hm _ (List.mem_singleton.mpr rfl) rfl
      have ltk : (hl.take j).length ≤ j := List.length_take_le ..
      refine ⟨_, rfl, q, _, dx, _, _, rfl, by rw [upd_ne hqz]; exact e1, T.cl_Play, T.no_Play_helpers, rfl, _, rfl, h2, _, rfl, .inl ⟨hvs, .inr (hl[j]).1, by rw [upd_ne h2z]; exact e2, rfl, ?_, rfl⟩, ?_⟩
      · rw [sizeLine_eq]
        omega
      have e2z : upd H1 z (.tup [t1, t2]) h2 = some (.dK hvs) := by rw [upd_ne h2z]; exact e2
      have kz : Kp (fun x => x = h2) (upd H1 z (.tup [t1, t2])) (upd (upd H1 z (.tup [t1, t2])) h2 (.dK (putK hvs (.inr (hl[j]).1) (.ref z)))) := Kp.upd e2z trivial rfl
      have sz := same_new (o := .tup [t1, t2]) nz
      have hs : hl.take (j + 1) = hl.take j ++ [hl[j]] := by rw [List.take_succ, List.getElem?_eq_getElem jl]; rfl
      refine ⟨?_, by rw [upd_ne hq2, upd_ne hqz]; exact e1, ⟨_, upd_same, ?_, fun y hy => ?_⟩, _, _, _, rfl⟩
      · exact kp_at (k2.trans (Kp.of_same sz)) hn2
      · have := length_putK hvs (.inr (hl[j]).1) (.ref z)
        rw [hs, List.length_append, List.length_singleton]
        omega
      · rw [hs] at hy
        rcases List.mem_append.mp hy with hy | hy
        · have hne : y.1 ≠ (hl[j]).1 := fun e => nq (by rw [← e]; exact List.mem_map_of_mem (f := (·.1)) hy)
          obtain ⟨u, a, b⟩ := f2 y hy
          refine ⟨u, ?_, dp_kp kz _ _ (helpD_nl _) (dp_sm sz b)⟩
          rw [valV_put, if_neg (fun z => hne (by injection z))]
          exact a
        · rw [List.mem_singleton.mp hy]
          refine ⟨.ref z, by rw [valV_put, if_pos rfl], ?_⟩
          refine dp_kp kz _ _ (helpD_nl _) (.tup (.of upd_same) (.cons (dp_sm sz g1) (.cons (dp_sm sz g2) .nil)))
    · rintro σ' H1 ⟨k2, e1, hA, x3, x4, x5, rfl⟩
      rw [lx, List.take_length] at hA
      have hlp := hA.help
      obtain ⟨hvs, e2, _, _⟩ := hA.e
      refine ⟨_, rfl, _, rfl, q, _, dx, _, rfl, e1, T.cl_Play, T.no_Play_left, (by show 1 < 1000; decide), ?_⟩
      refine ⟨Nat.zero_le _, fun t ht => ?_⟩
      have hqt : q ≠ t := fun z => by rw [z, upd_same] at ht; cases ht
      rw [upd_ne hqt.symm] at ht
      have h2t : h2 ≠ t := ne_of_none e2 ht
      have ht0 : H t = none := by
        cases e : H t with
        | none => rfl
        | some o => rw [k2 t o e (fun z => absurd z hqt.symm)] at ht; cases ht
      refine ⟨_, rfl, q, _, dx, _, rfl, by rw [upd_ne hqt]; exact upd_same, T.cl_Play, T.no_Play_told, (by show 2 < 1000; decide), ?_⟩
      have eu : upd H1 q (.ins (He.ga K "Play") dx [("helpers", .ref h2), ("left", .int n)]) q = some (.ins (He.ga K "Play") dx [("helpers", .ref h2), ("left", .int n)]) := upd_same
      have kk : Kp (fun x => x = q) H1 (upd (upd (upd H1 q (.ins (He.ga K "Play") dx [("helpers", .ref h2), ("left", .int n)])) t (.lst [])) q (.ins (He.ga K "Play") dx (playF h2 n t))) := by
        exact kp_on (kp_at (kp_on Kp.refl e1 trivial rfl) ht) e1 trivial rfl
      refine po _ t h2 (k2.trans kk) ht0 hn2 upd_same ?_ (hlp.kp kk hq2.symm)
      rw [upd_ne hqt.symm]
      exact upd_same
def sp_isin : Sp := fun vs H Q _ => ∃ n : Int, vs = [.int n] ∧ In32 n ∧ Q (.bl true) H
theorem ok_is_input (T : Top K mg) : FnOk P w K mg base CX0 2 (He.ga K "is_input") T.fd_is_input ["thing"] sp_isin := by
  have G_wrapped := ok_wrapped (P := P) (w := w) (base := base) T
  refine T.F_is_input.ok sc_is_input (fun vs H Q E h => ?_) (fun cdv A outer s H vs Q E hr h => ?_)
  · obtain ⟨n, rfl, _⟩ := h
    rfl
  · obtain ⟨n, rfl, h32, q⟩ := h
    refine ⟨_, PSs.nox (pss_one (ps_ret (pe_and (pe_callB call_isi (by rfl) T.m_isinstance (by decide +kernel) (pa_cons (pv 0) (pa_cons (pe_bltn (v := .ty "int") (by rfl) T.m_int (by decide +kernel) rfl) pa_nil))) (pe_and (pe_not (pe_callB call_isi (by rfl) T.m_isinstance (by decide +kernel) (pa_cons (pv 0) (pa_cons (pe_bltn (v := .ty "bool") (by rfl) T.m_bool (by decide +kernel) rfl) pa_nil)))) (pe_one (pe_cmpR op_eq (pe_call G_wrapped (hr.mono (by omega)) (by rfl) T.g_wrapped T.F_wrapped.kp T.b_wrapped .nil pass0 (pa_cons (pv 0) pa_nil)) (pv 0) (nomark _))))))), ?_⟩
    have ty : TyX K H (.int n) (.type (tyS (.int n))) := dp_ty (.int n)
    refine ⟨_, rfl, _, _, _, _, true, rfl, .ty _, ty, kit_int (.int n), _, rfl, ifT rfl ?_⟩
    refine ⟨_, rfl, _, _, _, _, false, rfl, .ty _, ty, kit_bool (.int n), _, rfl, _, rfl, ifT rfl ?_⟩
    refine ⟨_, rfl, n, rfl, _, rfl, rfl, ?_⟩
    rw [wr_in h32]
    have e : decide (V.int n = V.int n) = true := decide_eq_true rfl
    rw [e]
    exact q
def sp_need (K : PySem.W.Frag) : Sp := fun vs H Q _ => ∃ (b : Addr) (ns : List Int) (m : Int), vs = [.ref b, .int m] ∧ m = ns.length ∧ SqN K H b ns ∧ (∀ n ∈ ns, In32 n) ∧ ns.length ≤ 100 ∧ ∀ H', Same H H' → Q .non H'
theorem isi_seq (K : PySem.W.Frag) (b : Bool) : PySem.W.kitAny K (.type (if b then "list" else "tuple")) [.type "list", .type "tuple"] = some true := by
  cases b with
  | true => exact kitAny_cons (kit_ty (r := true) (by decide +kernel)) (fun z => nomatch z) fun _ => rfl
  | false => exact kitAny_cons (kit_ty (r := false) (by decide +kernel)) (fun _ => kitAny_cons (kit_ty (r := true) (by decide +kernel)) (fun z => nomatch z) fun _ => rfl) (fun z => nomatch z)
theorem ok_need_inputs (T : Top K mg) : FnOk P w K mg base CX0 3 (He.ga K "need_inputs") T.fd_need_inputs ["inputs", "many"] (sp_need K) := by
  have G_is_input := ok_is_input (P := P) (w := w) (base := base) T
  refine T.F_need_inputs.ok sc_need_inputs (fun vs H Q E h => ?_) (fun cdv A outer s H vs Q E hr h => ?_)
  · obtain ⟨b, ns, m, rfl, _⟩ := h
    rfl
  · obtain ⟨b, ns, m, rfl, rfl, hb, n32, ln, q⟩ := h
    rcases hb with hb | hb
    · refine ⟨_, PSs.nox (pss_cons (ps_if (PW.pt (pw_or (pt_not (pt_val (pe_callB call_isiT (by rfl) T.m_isinstance (by decide +kernel) (pa_cons (pv 0) (pa_cons (pe_tup (pa_cons (pe_bltn (v := .ty "list") (by rfl) T.m_list (by decide +kernel) rfl) (pa_cons (pe_bltn (v := .ty "tuple") (by rfl) T.m_tuple (by decide +kernel) rfl) pa_nil))) pa_nil))))) (pw_or1 (pt_cmpR op_ne (pe_callB call_len_seq (by rfl) T.m_len (by decide +kernel) (pa_cons (pv 0) pa_nil)) (pv 1) (nomark _))))) (pss_one ps_never) pss_nil)
        (pss_one (ps_if (pt_not (pt_val (pe_callB (cr_all (by rfl)) (by rfl) T.m_all (by decide +kernel) (pa_cons (pe_lc (own := [("one", 2)]) (by rfl) sc_need_inputs.nd (pi_list (pv 0)) (blkOk_by (own := [("one", 2)]) (N := N_need_inputs) (sc := defScope s_need_inputs) (by decide +kernel)) (fun _ _ _ _ _ => (pg_name (i := 2) sc_need_inputs.nd rfl (Or.inl rfl))) (fun _ _ _ _ _ => pts_nil) (fun _ _ _ _ _ => (pe_call G_is_input (hr.mono (by omega)) (by rfl) T.g_is_input T.F_is_input.kp T.b_is_input .nil pass0 (pa_cons (pv 2) pa_nil)))) pa_nil)))) (pss_one ps_never) pss_nil))), ?_⟩
      refine ⟨_, rfl, by rw [sizeLine_eq]; show 2 ≤ _; omega, fun tp htp => ?_⟩
      have s1 : Same H (upd H tp (.tup [.ty "list", .ty "tuple"])) := same_new htp
      have hb1 := s1.seq hb
      refine ⟨_, tp, _, _, _, true, rfl, upd_same, .cons (.ty _) (.cons (.ty _) .nil), ty_lst hb1, isi_seq K true, _, rfl, ifF rfl ?_⟩
      refine ⟨_, rfl, b, _, rfl, .inl hb1, _, rfl, rfl, _, rfl, ?_⟩
      rw [List.length_map]
      refine ifNF rfl ?_
      refine ⟨_, rfl, b, rfl, ⟨_, hb1⟩, fun D hD => ?_⟩
      have hD0 : H D = none := by
        cases h : H D with
        | none => rfl
        | some o => rw [s1 D o h] at hD; cases hD
      refine lc_list (K := K) (a := b) (xs := ns.map V.int) (fun j H' => Same H H' ∧ H' D = some (.lst ((List.replicate j true).map V.bl))) ?_ ?_ ?_ ?_
      · exact ⟨same_upd s1 hD0, upd_same⟩
      · intro j H' _ k
        exact k.1.seq hb
      · rintro j x H1 hx ⟨k1, e1⟩
        rw [List.getElem?_map] at hx
        have jl : j < ns.length := by
          cases hj : ns[j]? with
          | none => rw [hj] at hx; cases hx
          | some n => exact (List.getElem?_eq_some_iff.mp hj).1
        rw [List.getElem?_eq_getElem jl] at hx
        cases hx
        refine ⟨rfl, _, rfl, _, rfl, n32 _ (List.getElem_mem jl), _, e1, ?_, same_upd k1 hD0, ?_⟩
        · rw [List.length_map, List.length_replicate, sizeLine_eq]
          omega
        · rw [upd_same, List.replicate_succ', List.map_append]
          rfl
      · rintro H1 ⟨k1, e1⟩
        refine ⟨D, _, rfl, .inl (.inl e1), _, rfl, ?_⟩
        have ea : (List.replicate (ns.map V.int).length true).all id = true := by
          rw [List.all_eq_true]
          intro x hx
          rw [List.eq_of_mem_replicate hx]
          rfl
        rw [ea]
        exact q _ k1
    · refine ⟨_, PSs.nox (pss_cons (ps_if (PW.pt (pw_or (pt_not (pt_val (pe_callB call_isiT (by rfl) T.m_isinstance (by decide +kernel) (pa_cons (pv 0) (pa_cons (pe_tup (pa_cons (pe_bltn (v := .ty "list") (by rfl) T.m_list (by decide +kernel) rfl) (pa_cons (pe_bltn (v := .ty "tuple") (by rfl) T.m_tuple (by decide +kernel) rfl) pa_nil))) pa_nil))))) (pw_or1 (pt_cmpR op_ne (pe_callB call_len_seq (by rfl) T.m_len (by decide +kernel) (pa_cons (pv 0) pa_nil)) (pv 1) (nomark _))))) (pss_one ps_never) pss_nil)
        (pss_one (ps_if (pt_not (pt_val (pe_callB (cr_all (by rfl)) (by rfl) T.m_all (by decide +kernel) (pa_cons (pe_lc (own := [("one", 2)]) (by rfl) sc_need_inputs.nd (pi_tup (pv 0)) (blkOk_by (own := [("one", 2)]) (N := N_need_inputs) (sc := defScope s_need_inputs) (by decide +kernel)) (fun _ _ _ _ _ => (pg_name (i := 2) sc_need_inputs.nd rfl (Or.inl rfl))) (fun _ _ _ _ _ => pts_nil) (fun _ _ _ _ _ => (pe_call G_is_input (hr.mono (by omega)) (by rfl) T.g_is_input T.F_is_input.kp T.b_is_input .nil pass0 (pa_cons (pv 2) pa_nil)))) pa_nil)))) (pss_one ps_never) pss_nil))), ?_⟩
      refine ⟨_, rfl, by rw [sizeLine_eq]; show 2 ≤ _; omega, fun tp htp => ?_⟩
      have s1 : Same H (upd H tp (.tup [.ty "list", .ty "tuple"])) := same_new htp
      have hb1 := sqT_sm s1 hb
      refine ⟨_, tp, _, _, _, true, rfl, upd_same, .cons (.ty _) (.cons (.ty _) .nil), ty_tup hb1, isi_seq K false, _, rfl, ifF rfl ?_⟩
      refine ⟨_, rfl, b, _, rfl, .inr hb1, _, rfl, rfl, _, rfl, ?_⟩
      rw [List.length_map]
      refine ifNF rfl ?_
      refine ⟨_, rfl, b, rfl, ⟨_, hb1⟩, fun D hD => ?_⟩
      have hD0 : H D = none := by
        cases h : H D with
        | none => rfl
        | some o => rw [s1 D o h] at hD; cases hD
      refine lc_tup (K := K) (a := b) (xs := ns.map V.int) (fun j H' => Same H H' ∧ H' D = some (.lst ((List.replicate j true).map V.bl))) ?_ ?_ ?_ ?_
      · exact ⟨same_upd s1 hD0, upd_same⟩
      · intro j H' _ k
        exact sqT_sm k.1 hb
      · rintro j x H1 hx ⟨k1, e1⟩
        rw [List.getElem?_map] at hx
        have jl : j < ns.length := by
          cases hj : ns[j]? with
          | none => rw [hj] at hx; cases hx
          | some n => exact (List.getElem?_eq_some_iff.mp hj).1
        rw [List.getElem?_eq_getElem jl] at hx
        cases hx
        refine ⟨rfl, _, rfl, _, rfl, n32 _ (List.getElem_mem jl), _, e1, ?_, same_upd k1 hD0, ?_⟩
        · rw [List.length_map, List.length_replicate, sizeLine_eq]
          omega
        · rw [upd_same, List.replicate_succ', List.map_append]
          rfl
      · rintro H1 ⟨k1, e1⟩
        refine ⟨D, _, rfl, .inl (.inl e1), _, rfl, ?_⟩
        have ea : (List.replicate (ns.map V.int).length true).all id = true := by
          rw [List.all_eq_true]
          intro x hx
          rw [List.eq_of_mem_replicate hx]
          rfl
        rw [ea]
        exact q _ k1
end

section
variable {P : Program} {w : World} {K : PySem.W.Frag} {mg : Str → Option Value} {base : Heap}
theorem ix_tupQ {X : Cx} (h : X.K = K) : IxR X (rIxT K) := by subst h; exact ix_tup
def Rs.d : Rs → PyData
  | .fin => .tuple [.str "gave", .int 0]
  | .gave v => .tuple [.str "gave", .int v]
  | .on => .tuple [.str "on"]
  | .flt w => .tuple [.str "fault", .str w]
def plD (hl : Hl) (ps : List (Str × Int)) (ws : List (Str × Nat)) (bd : List Sm) : PyData := .tuple [.tuple (hl.map hlD), .tuple (ps.map fun x => .str x.1), .tuple (ws.map rowD), .tuple (Sm.ds bd)]
def enD (s : PSt) (r : Rs) : PyData := .tuple [.tuple (s.td.map PyData.int), r.d]
theorem ints_dp {H : Hp} : ∀ l : List Int, DpAll K H (l.map V.int) (l.map PyData.int)
  | [] => .nil
  | _ :: r => .cons (.int _) (ints_dp r)
theorem strs_of {H : Hp} : ∀ {vs : List V} {ps : List (Str × Int)}, DpAll K H vs (ps.map fun x => PyData.str x.1) → vs = ps.map fun x => V.str x.1
  | _, [], h => by cases h; rfl
  | _, p :: r, h => by
    obtain ⟨x, xs, rfl, h1, h2⟩ := dpAll_cons h
    rw [dp_str h1, strs_of h2]
    rfl
/-- a program that may be played -/
structure PlOk (n : Nat) (hl : Hl) (ps : List (Str × Int)) (ws : List (Str × Nat)) (bd : List Sm) : Prop where
  i32 : ∀ x ∈ ps, In32 x.2
  lp : ps.length ≤ 100
  hn : (hl.map (·.1)).Nodup
  h100 : hl.length ≤ 100
  wn : (ws.map (·.1)).Nodup
  wz : ∀ q ∈ ws, q.2 ≤ 100
  w100 : ws.length ≤ 100
  ok : ∀ m ∈ bd, m.ok (hsZ hl) n (ws.map (·.1))
def st0 (ps : List (Str × Int)) (ws : List (Str × Nat)) (most : Nat) : PSt := { kn := knZ ps, rw := rwZ ws, lf := most, td := [] }
def sp_played (K : PySem.W.Frag) (n : Nat) : Sp := fun vs H Q _ => ∃ (v : V) (b : Addr) (most : Nat) (hl : Hl) (ps : List (Str × Int)) (ws : List (Str × Nat)) (bd : List Sm) (s' : PSt) (r : Rs) (F : Nat), vs = [v, .ref b, .int most] ∧ Dp K H v (plD hl ps ws bd) ∧ SqN K H b (ps.map (·.2)) ∧ PlOk n hl ps ws bd ∧ most ≤ 5000 ∧
  doAll (hsZ hl) F bd (st0 ps ws most) = some (r, s') ∧ ∀ H' u, Same H H' → Dp K H' u (enD s' r) → Q u H'
/-- how played ends: what is told and the end, in new tuples -/
theorem end_dp {H : Hp} {td : List Int} {e : V} {ed : PyData} {tt tr : Addr} (htt : H tt = none) (htr : upd H tt (.tup (td.map V.int)) tr = none) (de : Dp K H e ed) :
    Dp K (upd (upd H tt (.tup (td.map V.int))) tr (.tup [.ref tt, e])) (.ref tr) (.tuple [.tuple (td.map PyData.int), ed]) := by
  have ne : tt ≠ tr := fun z => by rw [← z, upd_same] at htr; cases htr
  refine .tup (.inl (.inl upd_same)) (.cons (.tup (.inl (.inl ?_)) (ints_dp td)) (.cons (dp_sm (same_upd (same_new htt) ?_) de) .nil))
  · rw [upd_ne ne]
    exact upd_same
  · rw [upd_ne ne.symm] at htr
    exact htr
theorem sqN_sm {H H' : Hp} {a : Addr} {ns : List Int} (k : Same H H') (h : SqN K H a ns) : SqN K H' a ns := by
  rcases h with h | h
  · exact .inl (k.seq h)
  · exact .inr (sqT_sm k h)
theorem ret_ok (T : Top K mg) {σ : L2.St} {H : Hp} {q t qx h0 : Addr} {lf : Int} {td : List Int} {e : V} {ed : PyData} {Q : VK} (h3 : σ[3]? = some (some (.ref q))) (h4 : σ[4]? = some (some e)) (eq : H q = some (.ins (He.ga K "Play") qx (playF h0 lf t))) (et : H t = some (.lst (td.map V.int))) (de : Dp K H e ed)
    (po : ∀ H' u, Same H H' → Dp K H' u (.tuple [.tuple (td.map PyData.int), ed]) → Q u H') :
    tTup (tCons (tCB (fun xs H Q => ∃ p ys, xs = [.ref p] ∧ ((SqL K H p ys ∧ ∀ l, H l = none → Q (.ref l) (upd H l (.tup ys))) ∨ (SqT K H p ys ∧ Q (.ref p) H))) (tCons (tFld K (tVar 3) "told") tNil)) (tCons (tVar 4) tNil)) σ H Q := by
  refine ⟨_, h3, q, _, qx, _, _, rfl, eq, T.cl_Play, T.no_Play_told, playF_told _ _ _, t, _, rfl, .inl ⟨.inl (.inl et), fun tt htt => ?_⟩⟩
  refine ⟨_, h4, by rw [sizeLine_eq]; show 2 ≤ _; omega, fun tr htr => ?_⟩
  have ne : tt ≠ tr := fun z => by rw [← z, upd_same] at htr; cases htr
  refine po _ _ (same_upd (same_new htt) ?_) (end_dp htt htr de)
  rw [upd_ne ne.symm] at htr
  exact htr
theorem pair_dp {H : Hp} {tp : Addr} {x : Str} {v : Int} : Dp K (upd H tp (.tup [.str x, .int v])) (.ref tp) (.tuple [.str x, .int v]) := .tup (.inl (.inl upd_same)) (.cons (.str _) (.cons (.int _) .nil))
theorem ok_played (T : Top K mg) (n : Nat) : FnOk P w K mg base CX0 (4 * n + 20) (He.ga K "played") T.fd_played ["program", "inputs", "most"] (sp_played K n) := by
  have G_need_inputs := ok_need_inputs (P := P) (w := w) (base := base) T
  have G_Play___init__ := ok_Play_init (P := P) (w := w) (base := base) T
  have G_Room___init__ := ok_Room_init (P := P) (w := w) (base := base) T
  have G_Play_play_body := ok_body_of (P := P) (w := w) (base := base) T n _ (ok_levels T n)
  refine T.F_played.ok sc_played (fun vs H Q E h => ?_) (fun cdv A outer s H vs Q E hr h => ?_)
  · obtain ⟨v, b, most, hl, ps, ws, bd, s', r, F, rfl, _⟩ := h
    rfl
  · obtain ⟨v, b, most, hl, ps, ws, bd, s', r, F, rfl, dp, hb, pk, m5, hd, q⟩ := h
    refine ⟨_, PSs.nox (pss_cons (ps_expr (pe_call G_need_inputs (hr.mono (by omega)) (by rfl) T.g_need_inputs T.F_need_inputs.kp T.b_need_inputs .nil pass0 (pa_cons (pv 1) (pa_cons (pe_callB call_len_seq (by rfl) T.m_len (by decide +kernel) (pa_cons (pe_ix ix_tup (pv 0) pe_int (fun _ _ => rfl)) pa_nil)) pa_nil))))
        (pss_cons (ps_set (i := 3) sc_played.nd rfl (Or.inl rfl) (pe_make T.mk_Play G_Play___init__ (hr.mono (by omega)) (by rfl) T.g_Play T.b_Play___init__ .nil pass0 (pa_cons (pe_ix ix_tup (pv 0) pe_int (fun _ _ => rfl)) (pa_cons (pv 2) pa_nil))))
        (pss_cons (TryN.ps_try_nam (Wout := fun _ _ _ _ => False) rfl rfl sc_played.nd takes_none5 (fun W pn xe tk _ => (pss_one (ps_set (i := 4) sc_played.nd rfl (Or.inl rfl) (pe_tup (pa_cons pe_str (pa_cons (TryN.pe_methAt (pv 3) T.cl_Play T.me_Play_play_body G_Play_play_body (hr.mono (by omega)) T.b_Play_play_body .nil (fun σ => passAt tk σ) (pa_cons (pe_ix (ix_tupQ (K := K) rfl) (pv 0) pe_int (fun _ _ => rfl)) (pa_cons (pe_make T.mk_Room G_Room___init__ (hr.mono (by omega)) (by rfl) T.g_Room T.b_Room___init__ .nil pass0 (pa_cons (pe_ix (ix_tupQ (K := K) rfl) (pv 0) pe_int (fun _ _ => rfl)) (pa_cons (pv 1) (pa_cons (pe_ix (ix_tupQ (K := K) rfl) (pv 0) pe_int (fun _ _ => rfl)) pa_nil)))) pa_nil))) pa_nil)))))) (TryN.HdsN.as (i := 5) ⟨rfl, by decide, .inl T.g_Faulted⟩ rfl rfl (fun a oe cls d pn hz hf => (pss_one (ps_set (i := 4) sc_played.nd rfl (Or.inl rfl) (pe_tup (pa_cons pe_str (pa_cons (pe_xf T.xf_Faulted T.nf_Faulted_word hz hf (pv 5)) pa_nil)))))) (TryN.HdsN.cons ⟨rfl, by decide, .inl T.g_Unended⟩ (fun a oe cls d pn _ _ => (pss_one (ps_set (i := 4) sc_played.nd rfl (Or.inl rfl) (pe_tup (pa_cons pe_str pa_nil))))) .nil)))
        (pss_one (ps_ret (pe_tup (pa_cons (pe_callTy call_tuple_of (by rfl) T.m_tuple (by decide +kernel) (pa_cons (pe_fld (pv 3) rfl) pa_nil)) (pa_cons (pv 4) pa_nil)))))))), ?_⟩
    obtain ⟨p0, xs, rfl, hp, da⟩ := dp_tup dp
    obtain ⟨x0, r0, rfl, d0, e0⟩ := dpAll_cons da
    obtain ⟨x1, r1, rfl, d1, e1⟩ := dpAll_cons e0
    obtain ⟨x2, r2, rfl, d2, e2⟩ := dpAll_cons e1
    obtain ⟨x3, r3, rfl, d3, e3⟩ := dpAll_cons e2
    obtain ⟨a1, ys, rfl, ha1, z1⟩ := dp_tup d1
    have ey := strs_of z1
    subst ey
    have d2' := d2
    obtain ⟨rw2, _, rfl, hrw2, z2⟩ := dp_tup d2
    refine ⟨_, rfl, _, rfl, p0, _, 1, _, rfl, rfl, hp, atI_nat (j := 1) rfl, a1, _, rfl, .inr ha1, b, ps.map (·.2), _, rfl, by rw [List.length_map, List.length_map], hb, ?_, by rw [List.length_map]; exact pk.lp, fun H1 s1 => ?_⟩
    · intro n hn
      obtain ⟨x, hx, rfl⟩ := List.mem_map.mp hn
      exact pk.i32 x hx
    refine ⟨_, rfl, p0, _, 0, _, rfl, rfl, sqT_sm s1 hp, atI_nat (j := 0) rfl, _, rfl, ?_⟩
    intro qa qx hqa hqx qne
    have sH1 : Same H _ := s1.trans (same_made (C := He.ga K "Play") hqa hqx qne)
    refine ⟨qa, qx, x0, hl, most, rfl, upd_same, dp_sm sH1 d0, pk.hn, pk.h100, fun H2 t h2 k2 ht hh2 eq2 et2 hk2 => ⟨rfl, ?_⟩⟩
    have nqa : H qa = none := none_sm s1 hqa
    have nt : H t = none := none_sm sH1 ht
    have sH2 : Same H H2 := Kp.same sH1 k2 (fun b hb => by cases hb; exact nqa)
    refine ⟨_, rfl, qa, qx, _, rfl, eq2, playF_no (by decide +kernel) (by decide +kernel) (by decide +kernel), ?_⟩
    refine ⟨_, rfl, p0, _, 3, _, rfl, rfl, sqT_sm sH2 hp, atI_nat (j := 3) rfl, ?_⟩
    refine ⟨_, rfl, p0, _, 1, _, rfl, rfl, sqT_sm sH2 hp, atI_nat (j := 1) rfl, _, rfl, _, rfl, p0, _, 2, _, rfl, rfl, sqT_sm sH2 hp, atI_nat (j := 2) rfl, ?_⟩
    intro pa px hpa hpx pne
    have mdR := same_made (C := He.ga K "Room") hpa hpx pne
    have sH2' : Same H _ := sH2.trans mdR
    have npa : H pa = none := none_sm sH2 hpa
    have ne1 : qa ≠ pa := ne_of_none eq2 hpa
    have ne2 : t ≠ pa := ne_of_none et2 hpa
    have hk2' := hk2
    obtain ⟨hvs, eh2, _⟩ := hk2'
    have ne3 : h2 ≠ pa := ne_of_none eh2 hpa
    refine ⟨pa, px, a1, b, rw2, ps, ws, rfl, upd_same, sqT_sm sH2' ha1, sqN_sm sH2' hb, pk.lp, dp_sm sH2' d2', pk.wn, pk.wz, pk.w100, fun H3 B eB nr => ⟨rfl, ?_⟩⟩
    subst eB
    have sH3 : Same H H3 := Kp.same sH2' nr.kp (fun b hb => by cases hb; exact npa)
    have k3 : Kp (fun x => x = B.p) H2 H3 := (Kp.of_same mdR).trans nr.kp
    have eq3 : H3 qa = some (.ins (He.ga K "Play") qx (playF h2 most t)) := k3 _ _ eq2 (fun z => absurd z ne1)
    have et3 : H3 t = some (.lst []) := k3 _ _ et2 (fun z => absurd z ne2)
    have f2 : ∀ {c : Addr} {o : HO}, H2 c = some o → ∀ {e : Addr}, (upd (upd H2 px (.own B.p)) B.p (.ins (He.ga K "Room") px [])) e = none → c ≠ e := fun {c o} hc {e} he z => by
      rw [← z, mdR _ _ hc] at he
      cases he
    have nd : H B.d = none := none_sm sH2' nr.d0
    have noneSA : ∀ c, SA (ws.map (·.1)) { B with q := qa, t := t } c → H c = none := fun c hc => by
      rcases hc with h | h | h | ⟨x, hx, h⟩
      · rw [h]; exact nd
      · rw [h]; exact nqa
      · rw [h]; exact nt
      · rw [h]; exact none_sm sH2' (nr.a0 x hx)
    have st0 : Std K (hsZ hl) (ws.map (·.1)) { B with q := qa, t := t } h2 most (most + ps.length) H3 (st0 ps ws most) := by
      refine ⟨?_, ⟨qx, eq3⟩, et3, hk2.kp k3 ne3, kn32_of pk.i32, rwZ_32 ws, ?_, ?_, by omega, by have := pk.lp; omega, ne1.symm, nr.rd, f2 eh2 nr.d0, fun x hx => (f2 et2 (nr.a0 x hx)).symm, nr.ri⟩
      · show RoomAt K H3 _ _ (knZ ps) (rwZ ws) (most + ps.length - most)
        rw [show most + ps.length - most = ps.length by omega]
        exact ⟨nr.ro.ob, nr.ro.dk, nr.ro.rk, nr.ro.rl⟩
      · show 0 + most ≤ most
        omega
      · show most ≤ most + ps.length
        omega
    refine ⟨hsZ hl, ws.map (·.1), { B with q := qa, t := t }, h2, most, most + ps.length, _, s', x3, bd, r, F, rfl, st0, dp_sm sH3 d3, pk.ok, hd, ?_⟩
    cases r with
    | fin =>
      intro H4 k4 st4
      have sH4 : Same H H4 := Kp.same sH3 k4 noneSA
      obtain ⟨qx4, eq4⟩ := st4.ob
      have et4 := st4.tl
      refine ⟨by rw [sizeLine_eq]; show 2 ≤ _; omega, fun tp htp => ?_⟩
      have nq : qa ≠ tp := ne_of_none eq4 htp
      have nt : t ≠ tp := ne_of_none et4 htp
      refine ret_ok T (σ := [_, _, _, _, _, _]) rfl rfl (by rw [upd_ne nq]; exact eq4) (by rw [upd_ne nt]; exact et4) (pair_dp) (fun H7 u s7 dq => ?_)
      exact q _ u ((same_upd sH4 (none_sm sH4 htp)).trans s7) dq
    | gave v =>
      intro H4 k4 st4 _
      have sH4 : Same H H4 := Kp.same sH3 k4 noneSA
      obtain ⟨qx4, eq4⟩ := st4.ob
      have et4 := st4.tl
      refine ⟨by rw [sizeLine_eq]; show 2 ≤ _; omega, fun tp htp => ?_⟩
      have nq : qa ≠ tp := ne_of_none eq4 htp
      have nt : t ≠ tp := ne_of_none et4 htp
      refine ret_ok T (σ := [_, _, _, _, _, _]) rfl rfl (by rw [upd_ne nq]; exact eq4) (by rw [upd_ne nt]; exact et4) (pair_dp) (fun H7 u s7 dq => ?_)
      exact q _ u ((same_upd sH4 (none_sm sH4 htp)).trans s7) dq
    | on =>
      intro H4 k4 st4
      refine ⟨false, T.em_Unended_Faulted, (fun z => nomatch z), fun _ => ⟨true, T.em_Unended_Unended, fun _ ea hea => ?_, (fun z => nomatch z)⟩⟩
      have sH4 : Same H H4 := Kp.same sH3 k4 noneSA
      obtain ⟨qx4, eq4⟩ := st4.ob
      have et4 := st4.tl
      refine ⟨by rw [sizeLine_eq]; show 1 ≤ _; omega, fun tp htp => ?_⟩
      have nq : qa ≠ tp := ne_of_none eq4 htp
      have nt : t ≠ tp := ne_of_none et4 htp
      refine ret_ok T (σ := [_, _, _, _, _, _]) rfl rfl (by rw [upd_ne nq]; exact eq4) (by rw [upd_ne nt]; exact et4) (.tup (.inl (.inl upd_same)) (.cons (.str _) .nil)) (fun H7 u s7 dq => ?_)
      exact q _ u ((same_upd sH4 (none_sm sH4 htp)).trans s7) dq
    | flt w =>
      intro H4 dw k4 st4 ew
      refine ⟨true, T.em_Faulted_Faulted, fun _ ea hea => ?_, (fun z => nomatch z)⟩
      have sH4 : Same H H4 := Kp.same sH3 k4 noneSA
      obtain ⟨qx4, eq4⟩ := st4.ob
      have et4 := st4.tl
      have lk : ([(("word" : Str), V.str w)] : List (Str × V)).lookup ("word" : Str) = some (.str w) := by
        rw [List.lookup_cons, show (("word" : Str) == "word") = true by decide +kernel]
      refine ⟨_, rfl, rfl, rfl, dw, _, .str w, rfl, ew, lk, by rw [sizeLine_eq]; show 2 ≤ _; omega, fun tp htp => ?_⟩
      have nq : qa ≠ tp := ne_of_none eq4 htp
      have nt : t ≠ tp := ne_of_none et4 htp
      refine ret_ok T (σ := [_, _, _, _, _, _]) rfl rfl (by rw [upd_ne nq]; exact eq4) (by rw [upd_ne nt]; exact et4) (.tup (.inl (.inl upd_same)) (.cons (.str _) (.cons (.str _) .nil))) (fun H7 u s7 dq => ?_)
      exact q _ u ((same_upd sH4 (none_sm sH4 htp)).trans s7) dq
end

section
variable {P : Program} {w : World} {K : PySem.W.Frag} {mg : Str → Option Value} {base : Heap}
/-- the law's room: its names and rows -/
structure LRoom (H : Hp) (A : Adr) (rs : List Str) (kn : Kn) (rw : Rw) (n : Nat) : Prop where
  ob : H A.p = some (.dK [(.inr "known", .ref A.d), (.inr "rows", .ref A.r)])
  dk : ∃ kvs : List (Key × V), H A.d = some (.dK kvs) ∧ kvs.length ≤ n ∧ ∀ x, valV kvs (.inr x) = (kn x).map V.int
  rk : ∃ rvs : List (Key × V), H A.r = some (.dK rvs) ∧ ∀ x ∈ rs, valV rvs (.inr x) = some (.ref (A.ra x))
  rl : ∀ x ∈ rs, H (A.ra x) = some (.lst ((rw x).map V.int))
theorem LRoom.sm {H H' : Hp} {A : Adr} {rs : List Str} {kn : Kn} {rw : Rw} {n : Nat} (h : LRoom H A rs kn rw n) (s : Same H H') : LRoom H' A rs kn rw n := by
  obtain ⟨e, ⟨kvs, e2, l, v⟩, ⟨rvs, e3, v3⟩, rl⟩ := h
  exact ⟨s _ _ e, ⟨kvs, s _ _ e2, l, v⟩, ⟨rvs, s _ _ e3, v3⟩, fun x hx => s _ _ (rl x hx)⟩
theorem LRoom.row {H : Hp} {A : Adr} {rs : List Str} {kn : Kn} {rw : Rw} {n : Nat} {x : Str} (h : LRoom H A rs kn rw n) (hx : x ∈ rs) : DGet H A.r (.str x) (some (.ref (A.ra x))) := by
  obtain ⟨rvs, e3, v3⟩ := h.rk
  have := DGet.k (k := .inr x) e3
  rw [v3 x hx] at this
  exact this
def tbl (a b c d : V) : List (Key × V) := mergeK [] [(.inr "add", a), (.inr "sub", b), (.inr "mul", c), (.inr "less", d)]
theorem tbl_eq (a b c d : V) : tbl a b c d = putK (putK (putK (putK [] (.inr "add") a) (.inr "sub") b) (.inr "mul") c) (.inr "less") d := rfl
theorem tbl_val (a b c d : V) (w : Str) : valV (tbl a b c d) (.inr w) = if w = "less" then some d else if w = "mul" then some c else if w = "sub" then some b else if w = "add" then some a else none := by
  rw [tbl_eq, valV_put, valV_put, valV_put, valV_put]
  have inj : ∀ x y : Str, ((Sum.inr x : Key) = .inr y) = (x = y) := fun x y => propext ⟨fun h => by injection h, fun h => by rw [h]⟩
  simp only [inj]
  rfl
theorem tbl_add (a b c d : V) : valV (tbl a b c d) (.inr "add") = some a := by rw [tbl_val, if_neg (by decide +kernel), if_neg (by decide +kernel), if_neg (by decide +kernel), if_pos rfl]
theorem tbl_sub (a b c d : V) : valV (tbl a b c d) (.inr "sub") = some b := by rw [tbl_val, if_neg (by decide +kernel), if_neg (by decide +kernel), if_pos rfl]
theorem tbl_mul (a b c d : V) : valV (tbl a b c d) (.inr "mul") = some c := by rw [tbl_val, if_neg (by decide +kernel), if_pos rfl]
theorem tbl_less (a b c d : V) : valV (tbl a b c d) (.inr "less") = some d := by rw [tbl_val, if_pos rfl]
theorem tbl_div (a b c d : V) : valV (tbl a b c d) (.inr "div") = none := by rw [tbl_val, if_neg (by decide +kernel), if_neg (by decide +kernel), if_neg (by decide +kernel), if_neg (by decide +kernel)]
theorem tbl_rem (a b c d : V) : valV (tbl a b c d) (.inr "rem") = none := by rw [tbl_val, if_neg (by decide +kernel), if_neg (by decide +kernel), if_neg (by decide +kernel), if_neg (by decide +kernel)]
theorem tbl_same (a b c d : V) : valV (tbl a b c d) (.inr "same") = none := by rw [tbl_val, if_neg (by decide +kernel), if_neg (by decide +kernel), if_neg (by decide +kernel), if_neg (by decide +kernel)]
def sp_lworth (K : PySem.W.Frag) (n : Nat) : Sp := fun vs H Q _ => ∃ (A : Adr) (rs : List Str) (v : V) (e : Ex) (kn : Kn) (rw : Rw) (lm : Nat), vs = [v, .ref A.p] ∧ e.dep < n ∧ e.wf rs ∧ LRoom H A rs kn rw lm ∧ Kn32 kn ∧ Rw32 rw ∧ Dp K H v e.d ∧ (∀ z, wx e kn rw = .ok z → ∀ H', Same H H' → Q (.int z) H') ∧ ∀ f, wx e kn rw = .error f → ∀ H', Same H H' → Q (.str f) H'
theorem ty_int {H : Hp} (z : Int) : TyX K H (.int z) (.type (tyS (.int z))) := dp_ty (.int z)
theorem fmod_is (a b : Int) : a - a.fdiv b * b = a.fmod b := by
  have := Int.mul_fdiv_add_fmod a b
  rw [Int.mul_comm] at this
  omega
theorem ok__law_worth (T : Top K mg) : ∀ n : Nat, FnOk P w K mg base CX0 (n + 1) (He.ga K "_law_worth") T.fd__law_worth ["_law_e", "_law_room"] (sp_lworth K n)
  | 0 => by
    refine T.F__law_worth.ok sc__law_worth (fun vs H Q E h => ?_) (fun cdv A outer s H vs Q E hr h => ?_)
    · obtain ⟨A, rs, v, e, kn, rw, lm, rfl, _⟩ := h
      rfl
    · obtain ⟨A, rs, v, e, kn, rw, lm, rfl, h1, _⟩ := h
      omega
  | n + 1 => by
    have G__law_worth := ok__law_worth T n
    refine T.F__law_worth.ok sc__law_worth (fun vs H Q E h => ?_) (fun cdv A outer s H vs Q E hr h => ?_)
    · obtain ⟨A, rs, v, e, kn, rw, lm, rfl, _⟩ := h
      rfl
    · obtain ⟨B, rs, v, e, kn, rw', lm, rfl, hn, wf, ro, kn32, rw32, dp, q0, qf⟩ := h
      refine ⟨_, PSs.nox (pss_cons (ps_if (pt_cmpR op_eq (pe_ix ix_tup (pv 0) pe_int (fun _ _ => rfl)) pe_str (nomark _)) (pss_one (ps_ret (pe_ix ix_tup (pv 0) pe_int (fun _ _ => rfl)))) pss_nil)
        (pss_cons (ps_if (pt_cmpR op_eq (pe_ix ix_tup (pv 0) pe_int (fun _ _ => rfl)) pe_str (nomark _)) (pss_one (ps_ret (pe_dget2 (hu_of hr) (pe_dget (hu_of hr) (pv 1) pe_str (fun _ _ => rfl)) (pe_ix ix_tup (pv 0) pe_int (fun _ _ => rfl)) pe_int ⟨rfl, rfl, rfl, rfl⟩))) pss_nil)
        (pss_cons (ps_set (i := 2) sc__law_worth.nd rfl (Or.inl rfl) (pe_call G__law_worth (hr.mono (by omega)) (by rfl) T.g__law_worth T.F__law_worth.kp T.b__law_worth .nil pass0 (pa_cons (pe_ix ix_tup (pv 0) (pe_op op_add pe_int (pe_callTy call_int1 (by rfl) T.m_int (by decide +kernel) (pa_cons (pe_cmpR op_eq (pe_ix ix_tup (pv 0) pe_int (fun _ _ => rfl)) pe_str (nomark _)) pa_nil))) (fun _ _ => rfl)) (pa_cons (pv 1) pa_nil))))
        (pss_cons (ps_if (pt_val (pe_callB call_isi (by rfl) T.m_isinstance (by decide +kernel) (pa_cons (pv 2) (pa_cons (pe_bltn (v := .ty "str") (by rfl) T.m_str (by decide +kernel) rfl) pa_nil)))) (pss_one (ps_ret (pv 2))) pss_nil)
        (pss_cons (ps_if (pt_cmpR op_eq (pe_ix ix_tup (pv 0) pe_int (fun _ _ => rfl)) pe_str (nomark _)) (pss_one (ps_ret (pe_callTy call_int1 (by rfl) T.m_int (by decide +kernel) (pa_cons (pe_cmpR op_eq (pv 2) pe_int (nomark _)) pa_nil)))) pss_nil)
        (pss_cons (ps_if (pt_cmpR op_eq (pe_ix ix_tup (pv 0) pe_int (fun _ _ => rfl)) pe_str (nomark _)) (pss_cons (ps_if (PW.pt (pw_or (pt_cmpR op_lt (pv 2) pe_int (nomark _)) (pw_or1 (pt_cmpR op_ge (pv 2) (pe_callB call_len_seq (by rfl) T.m_len (by decide +kernel) (pa_cons (pe_dget (hu_of hr) (pe_dget (hu_of hr) (pv 1) pe_str (fun _ _ => rfl)) (pe_ix ix_tup (pv 0) pe_int (fun _ _ => rfl)) (fun _ _ => rfl)) pa_nil)) (nomark _))))) (pss_one (ps_ret pe_str)) pss_nil)
        (pss_one (ps_ret (pe_ix ix_list (pe_dget (hu_of hr) (pe_dget (hu_of hr) (pv 1) pe_str (fun _ _ => rfl)) (pe_ix ix_tup (pv 0) pe_int (fun _ _ => rfl)) (fun _ _ => rfl)) (pv 2) (fun _ _ => rfl))))) pss_nil)
        (pss_cons (ps_set (i := 3) sc__law_worth.nd rfl (Or.inl rfl) (pe_call G__law_worth (hr.mono (by omega)) (by rfl) T.g__law_worth T.F__law_worth.kp T.b__law_worth .nil pass0 (pa_cons (pe_ix ix_tup (pv 0) pe_int (fun _ _ => rfl)) (pa_cons (pv 1) pa_nil))))
        (pss_cons (ps_if (pt_val (pe_callB call_isi (by rfl) T.m_isinstance (by decide +kernel) (pa_cons (pv 3) (pa_cons (pe_bltn (v := .ty "str") (by rfl) T.m_str (by decide +kernel) rfl) pa_nil)))) (pss_one (ps_ret (pv 3))) pss_nil)
        (pss_cons (ps_if (PW.pt (pw_and (pt_cmpR op_in_seq (pe_ix ix_tup (pv 0) pe_int (fun _ _ => rfl)) (pe_lst (pa_cons pe_str (pa_cons pe_str pa_nil))) (by rfl)) (pw_and1 (pt_cmpR op_eq (pv 3) pe_int (nomark _))))) (pss_one (ps_ret pe_str)) pss_nil)
        (pss_cons (ps_set (i := 4) sc__law_worth.nd rfl (Or.inl rfl) (pe_dget2 (hu_of hr) (pe_disp (pps_cons pe_str (pe_op op_add (pv 2) (pv 3)) (pps_cons pe_str (pe_op op_sub (pv 2) (pv 3)) (pps_cons pe_str (pe_op op_mul (pv 2) (pv 3)) (pps_cons pe_str (pe_callTy call_int1 (by rfl) T.m_int (by decide +kernel) (pa_cons (pe_cmpR op_lt (pv 2) (pv 3) (nomark _)) pa_nil)) pps_nil)))) (by rfl) (by rfl) (fun z => by cases z) (by decide)) (pe_ix ix_tup (pv 0) pe_int (fun _ _ => rfl)) pe_int ⟨rfl, rfl, rfl, rfl⟩))
        (pss_cons (ps_if (pt_cmpR op_eq (pe_ix ix_tup (pv 0) pe_int (fun _ _ => rfl)) pe_str (nomark _)) (pss_one (ps_set (i := 4) sc__law_worth.nd rfl (Or.inl rfl) (pe_callTy call_int1 (by rfl) T.m_int (by decide +kernel) (pa_cons (pe_cmpR op_eq (pv 2) (pv 3) (nomark _)) pa_nil)))) pss_nil)
        (pss_cons (ps_if (pt_cmpR op_in_seq (pe_ix ix_tup (pv 0) pe_int (fun _ _ => rfl)) (pe_lst (pa_cons pe_str (pa_cons pe_str pa_nil))) (by rfl)) (pss_cons (ps_set (i := 4) sc__law_worth.nd rfl (Or.inl rfl) (pe_op op_fdivG (pv 2) (pv 3)))
        (pss_one (ps_set (i := 4) sc__law_worth.nd rfl (Or.inl rfl) (pe_ix ix_list (pe_lst (pa_cons (pv 4) (pa_cons (pe_op op_sub (pv 2) (pe_op op_mul (pv 4) (pv 3))) pa_nil))) (pe_callTy call_int1 (by rfl) T.m_int (by decide +kernel) (pa_cons (pe_cmpR op_eq (pe_ix ix_tup (pv 0) pe_int (fun _ _ => rfl)) pe_str (nomark _)) pa_nil)) (fun _ _ => rfl))))) pss_nil)
        (pss_one (ps_ret (pe_op op_sub (pe_op op_mod (pe_op op_add (pv 4) pe_int) pe_int) pe_int))))))))))))))), ?_⟩
      have ep := ro.ob
      cases e with
      | num m =>
        obtain ⟨t, xs, rfl, ht, da⟩ := dp_tup dp
        obtain ⟨x0, r0, rfl, d0, e0⟩ := dpAll_cons da
        obtain ⟨x1, r1, rfl, d1, e1⟩ := dpAll_cons e0
        cases dp_str d0
        cases dp_int d1
        refine ⟨_, rfl, t, _, 0, _, rfl, rfl, ht, atI_nat (j := 0) rfl, rfl, _, rfl, ifD rfl ?_⟩
        exact ⟨_, rfl, t, _, 1, _, rfl, rfl, ht, atI_nat (j := 1) rfl, q0 _ rfl _ (Same.refl _)⟩
      | nam x =>
        obtain ⟨t, xs, rfl, ht, da⟩ := dp_tup dp
        obtain ⟨x0, r0, rfl, d0, e0⟩ := dpAll_cons da
        obtain ⟨x1, r1, rfl, d1, e1⟩ := dpAll_cons e0
        cases dp_str d0
        cases dp_str d1
        obtain ⟨kvs, ed, _, hv⟩ := ro.dk
        refine ⟨_, rfl, t, _, 0, _, rfl, rfl, ht, atI_nat (j := 0) rfl, rfl, _, rfl, ifN (by decide +kernel) ?_⟩
        refine ⟨_, rfl, t, _, 0, _, rfl, rfl, ht, atI_nat (j := 0) rfl, rfl, _, rfl, ifD rfl ?_⟩
        refine ⟨_, rfl, B.p, _, rfl, DGet.k (k := .inr "known") ep, B.d, rfl, .inl ⟨_, .inl ed⟩, _, rfl, t, _, 1, _, rfl, rfl, ht, atI_nat (j := 1) rfl, _, DGet.k (k := .inr x) ed, ?_⟩
        rw [hv x]
        have e9 : ((kn x).map V.int).getD (.int 0) = .int ((kn x).getD 0) := by cases kn x <;> rfl
        rw [e9]
        exact q0 _ rfl _ (Same.refl _)
      | no a =>
        obtain ⟨t, xs, rfl, ht, da⟩ := dp_tup dp
        obtain ⟨x0, r0, rfl, d0, e0⟩ := dpAll_cons da
        obtain ⟨x1, r1, rfl, d1, e1⟩ := dpAll_cons e0
        cases dp_str d0
        have hd : a.dep < n := by
          have : a.dep + 1 < n + 1 := hn
          omega
        refine ⟨_, rfl, t, _, 0, _, rfl, rfl, ht, atI_nat (j := 0) rfl, rfl, _, rfl, ifN (by decide +kernel) ?_⟩
        refine ⟨_, rfl, t, _, 0, _, rfl, rfl, ht, atI_nat (j := 0) rfl, rfl, _, rfl, ifN (by decide +kernel) ?_⟩
        refine ⟨_, rfl, _, rfl, t, _, 0, _, rfl, rfl, ht, atI_nat (j := 0) rfl, rfl, .inr ⟨false, rfl, _, _, rfl, rfl, ?_⟩⟩
        refine ⟨t, _, 1, _, rfl, rfl, ht, atI_nat (j := 1) rfl, _, rfl, B, rs, x1, a, kn, rw', lm, rfl, hd, wf, ro, kn32, rw32, d1, fun u hu H1 s1 => ?_, fun f hf H1 s1 => ?_⟩
        · have ht1 := sqT_sm s1 ht
          refine ⟨_, rfl, _, _, _, _, false, rfl, .ty _, ty_int u, kit_str (.int u), _, rfl, ifF rfl ?_⟩
          refine ⟨_, rfl, t, _, 0, _, rfl, rfl, ht1, atI_nat (j := 0) rfl, rfl, _, rfl, ifD rfl ?_⟩
          exact ⟨_, rfl, rfl, .inr ⟨_, rfl, q0 _ (by unfold wx; rw [hu]; rfl) _ s1⟩⟩
        · refine ⟨_, rfl, _, _, _, _, true, rfl, .ty _, dp_ty (.str f), kit_str (.str f), _, rfl, ifT rfl ?_⟩
          exact ⟨_, rfl, qf f (by unfold wx; rw [hf]) _ s1⟩
      | at_ r a =>
        obtain ⟨t, xs, rfl, ht, da⟩ := dp_tup dp
        obtain ⟨x0, r0, rfl, d0, e0⟩ := dpAll_cons da
        obtain ⟨x1, r1, rfl, d1, e1⟩ := dpAll_cons e0
        obtain ⟨x2, r2, rfl, d2, e2⟩ := dpAll_cons e1
        cases dp_str d0
        cases dp_str d1
        have hd : a.dep < n := by
          have : a.dep + 1 < n + 1 := hn
          omega
        refine ⟨_, rfl, t, _, 0, _, rfl, rfl, ht, atI_nat (j := 0) rfl, rfl, _, rfl, ifN (by decide +kernel) ?_⟩
        refine ⟨_, rfl, t, _, 0, _, rfl, rfl, ht, atI_nat (j := 0) rfl, rfl, _, rfl, ifN (by decide +kernel) ?_⟩
        refine ⟨_, rfl, _, rfl, t, _, 0, _, rfl, rfl, ht, atI_nat (j := 0) rfl, rfl, .inr ⟨true, rfl, _, _, rfl, rfl, ?_⟩⟩
        refine ⟨t, _, 2, _, rfl, rfl, ht, atI_nat (j := 2) rfl, _, rfl, B, rs, x2, a, kn, rw', lm, rfl, hd, wf.2, ro, kn32, rw32, d2, fun u hu H1 s1 => ?_, fun f hf H1 s1 => ?_⟩
        · have ht1 := sqT_sm s1 ht
          have ro1 := ro.sm s1
          have rl1 := ro1.rl r wf.1
          have hl : ((rw' r).map V.int).length = (rw' r).length := List.length_map ..
          refine ⟨_, rfl, _, _, _, _, false, rfl, .ty _, ty_int u, kit_str (.int u), _, rfl, ifF rfl ?_⟩
          refine ⟨_, rfl, t, _, 0, _, rfl, rfl, ht1, atI_nat (j := 0) rfl, rfl, _, rfl, ifN (by decide +kernel) ?_⟩
          refine ⟨_, rfl, t, _, 0, _, rfl, rfl, ht1, atI_nat (j := 0) rfl, rfl, _, rfl, ifD rfl ?_⟩
          refine ⟨_, rfl, _, _, rfl, rfl, _, rfl, ?_⟩
          by_cases h0 : u < 0
          · refine ifD h0 (ifT rfl ?_)
            exact qf "place" (by unfold wx; rw [hu]; dsimp only; rw [if_neg (fun z => by have := z.1; omega)]) _ s1
          · refine ifN h0 ?_
            refine ⟨_, rfl, _, rfl, B.p, _, rfl, DGet.k (k := .inr "rows") ro1.ob, _, rfl, t, _, 1, _, rfl, rfl, ht1, atI_nat (j := 1) rfl, B.r, _, rfl, ro1.row wf.1, B.ra r, _, rfl, .inl (.of rl1), _, _, rfl, rfl, _, rfl, ?_⟩
            rw [hl]
            by_cases h1 : ((rw' r).length : Int) ≤ u
            · refine ifD h1 ?_
              exact qf "place" (by unfold wx; rw [hu]; dsimp only; rw [if_neg (fun z => by have := z.2; omega)]) _ s1
            · refine ifN h1 ?_
              refine ⟨_, rfl, B.p, _, rfl, DGet.k (k := .inr "rows") ro1.ob, _, rfl, t, _, 1, _, rfl, rfl, ht1, atI_nat (j := 1) rfl, B.r, _, rfl, ro1.row wf.1, _, rfl, B.ra r, _, _, _, rfl, rfl, .of rl1, at_ints (by omega) (by omega), ?_⟩
              exact q0 _ (by unfold wx; rw [hu]; dsimp only; rw [if_pos ⟨by omega, by omega⟩]) _ s1
        · refine ⟨_, rfl, _, _, _, _, true, rfl, .ty _, dp_ty (.str f), kit_str (.str f), _, rfl, ifT rfl ?_⟩
          exact ⟨_, rfl, qf f (by unfold wx; rw [hf]) _ s1⟩
      | op wd a b =>
        obtain ⟨w1, w2, w3, w4⟩ := wds_not wf.1
        obtain ⟨t, xs, rfl, ht, da⟩ := dp_tup dp
        obtain ⟨x0, r0, rfl, d0, e0⟩ := dpAll_cons da
        obtain ⟨x1, r1, rfl, d1, e1⟩ := dpAll_cons e0
        obtain ⟨x2, r2, rfl, d2, e2⟩ := dpAll_cons e1
        cases dp_str d0
        have nv : ∀ {x y : Str} {A B : Prop}, x ≠ y → B → if decide (V.str x = V.str y) = true then A else B := fun h hB => ifN (fun z => h (V.str.inj z)) hB
        have nf : ∀ {x y : Str}, x ≠ y → decide (V.str x = V.str y) = false := fun h => decide_eq_false (fun z => h (V.str.inj z))
        have hd : max a.dep b.dep + 1 < n + 1 := hn
        have hda : a.dep < n := by
          have := Nat.le_max_left a.dep b.dep
          omega
        have hdb : b.dep < n := by
          have := Nat.le_max_right a.dep b.dep
          omega
        refine ⟨_, rfl, t, _, 0, _, rfl, rfl, ht, atI_nat (j := 0) rfl, rfl, _, rfl, nv w1 ?_⟩
        refine ⟨_, rfl, t, _, 0, _, rfl, rfl, ht, atI_nat (j := 0) rfl, rfl, _, rfl, nv w2 ?_⟩
        refine ⟨_, rfl, _, rfl, t, _, 0, _, rfl, rfl, ht, atI_nat (j := 0) rfl, rfl, .inr ⟨_, rfl, _, _, rfl, rfl, ?_⟩⟩
        rw [nf w3]
        refine ⟨t, _, 1, _, rfl, rfl, ht, atI_nat (j := 1) rfl, _, rfl, B, rs, x1, a, kn, rw', lm, rfl, hda, wf.2.1, ro, kn32, rw32, d1, fun u hu H1 s1 => ?_, fun f hf H1 s1 => ?_⟩
        · have ht1 := sqT_sm s1 ht
          have u32 := wx_32 kn32 rw32 wf.2.1 hu
          refine ⟨_, rfl, _, _, _, _, false, rfl, .ty _, ty_int u, kit_str (.int u), _, rfl, ifF rfl ?_⟩
          refine ⟨_, rfl, t, _, 0, _, rfl, rfl, ht1, atI_nat (j := 0) rfl, rfl, _, rfl, nv w4 ?_⟩
          refine ⟨_, rfl, t, _, 0, _, rfl, rfl, ht1, atI_nat (j := 0) rfl, rfl, _, rfl, nv w3 ?_⟩
          refine ⟨_, rfl, t, _, 2, _, rfl, rfl, ht1, atI_nat (j := 2) rfl, _, rfl, B, rs, x2, b, kn, rw', lm, rfl, hdb, wf.2.2, ro.sm s1, kn32, rw32, dp_sm s1 d2, fun v hv H2 s2 => ?_, fun f hf H2 s2 => ?_⟩
          · have s12 := s1.trans s2
            have ht2 := sqT_sm s12 ht
            have v32 := wx_32 kn32 rw32 wf.2.2 hv
            refine ⟨_, rfl, _, _, _, _, false, rfl, .ty _, ty_int v, kit_str (.int v), _, rfl, ifF rfl ?_⟩
            refine ⟨_, rfl, t, _, 0, _, rfl, rfl, ht2, atI_nat (j := 0) rfl, by decide, fun L1 hL1 => ?_⟩
            have s3 := same_upd (o := .lst [.str "div", .str "rem"]) s12 (none_sm s12 hL1)
            have ht3 := sqT_sm s3 ht
            refine ⟨L1, _, rfl, .inl (.of upd_same), rfl, by decide +kernel, _, rfl, ?_⟩
            have hd := due_rck (a := u) (b := v) wf.1
            have mulc : CMul u v := .inl ⟨by have := u32.1; omega, by have := u32.2; omega⟩
            cases hc : rck wd u v with
            | none =>
              have qd := qf "division" (by unfold wx; rw [hu]; dsimp only; rw [hv]; dsimp only; rw [hc]) _ s3
              rw [hc] at hd
              have hd : Due u v wd .non := hd
              cases hd with
              | div0 h => exact ifT rfl ⟨_, rfl, rfl, _, rfl, ifD (by rw [h]) qd⟩
              | rem0 h => exact ifT rfl ⟨_, rfl, rfl, _, rfl, ifD (by rw [h]) qd⟩
            | some z =>
              have q : ∀ H', Same H H' → Q (.int z) H' := q0 z (by unfold wx; rw [hu]; dsimp only; rw [hv]; dsimp only; rw [hc])
              rw [hc] at hd
              have hd : Due u v wd (.int z) := hd
              cases hd with
              | div h =>
                refine ifT rfl ⟨_, rfl, rfl, _, rfl, ifN (fun z => h (V.int.inj z)) ?_⟩
                intro D1 hD1
                have s4 := same_upd (o := .dK (tbl (.int (u + v)) (.int (u - v)) (.int (u * v)) (.int (if decide (u < v) = true then 1 else 0)))) (same_upd (o := .dK []) s3 (none_sm s3 hD1)) (none_sm s3 hD1)
                have ht4 := sqT_sm s4 ht
                refine ⟨_, rfl, _, rfl, _, _, rfl, rfl, _, rfl, _, rfl, _, _, rfl, rfl, _, rfl, _, rfl, _, _, rfl, rfl, mulc, _, rfl, _, rfl, _, _, rfl, rfl, .inr ⟨_, rfl, ?_⟩⟩
                refine ⟨upd_same, [(.inr "add", _), (.inr "sub", _), (.inr "mul", _), (.inr "less", _)], rfl, (by show 4 ≤ 15; decide), D1, rfl, .inl ⟨_, .inl upd_same⟩, _, rfl, t, _, 0, _, rfl, rfl, ht4, atI_nat (j := 0) rfl, _, DGet.k (k := .inr "div") upd_same, ?_⟩
                have tv := tbl_div (.int (u + v)) (.int (u - v)) (.int (u * v)) (.int (if decide (u < v) = true then 1 else 0))
                show gName 4 ((valV (tbl (.int (u + v)) (.int (u - v)) (.int (u * v)) (.int (if decide (u < v) = true then 1 else 0))) (.inr "div")).getD (.int 0)) _ _ _
                rw [tv]
                refine ⟨_, rfl, t, _, 0, _, rfl, rfl, ht4, atI_nat (j := 0) rfl, rfl, _, rfl, ifN (by decide +kernel) ?_⟩
                refine ⟨_, rfl, t, _, 0, _, rfl, rfl, ht4, atI_nat (j := 0) rfl, by decide, fun L2 hL2 => ?_⟩
                have s5 := same_upd (o := .lst [.str "div", .str "rem"]) s4 (none_sm s4 hL2)
                have ht5 := sqT_sm s5 ht
                refine ⟨L2, _, rfl, .inl (.of upd_same), rfl, by decide +kernel, _, rfl, ?_⟩
                refine ifT rfl ?_
                refine ⟨_, rfl, _, rfl, u, v, rfl, rfl, ⟨h, log_small ⟨v32.1, by have := v32.2; omega⟩⟩, ?_⟩
                refine ⟨_, rfl, _, rfl, _, rfl, _, rfl, _, _, rfl, rfl, .inr ⟨by have := v32.1; omega, by have := v32.2; omega⟩, _, _, rfl, rfl, (by show 2 ≤ sizeLine; decide), fun L3 hL3 => ?_⟩
                have s6 := same_upd (o := .lst [.int (u.fdiv v), .int (u - u.fdiv v * v)]) s5 (none_sm s5 hL3)
                have ht6 := sqT_sm s6 ht
                refine ⟨_, rfl, t, _, 0, _, rfl, rfl, ht6, atI_nat (j := 0) rfl, rfl, .inr ⟨false, rfl, L3, _, _, _, rfl, rfl, .of upd_same, atI_nat (j := 0) rfl, ?_⟩⟩
                refine ⟨_, rfl, _, _, rfl, rfl, _, _, rfl, rfl, (by show (0 : Int) < 4294967296; decide), _, _, rfl, rfl, ?_⟩
                exact q _ s6
              | rem h =>
                refine ifT rfl ⟨_, rfl, rfl, _, rfl, ifN (fun z => h (V.int.inj z)) ?_⟩
                intro D1 hD1
                have s4 := same_upd (o := .dK (tbl (.int (u + v)) (.int (u - v)) (.int (u * v)) (.int (if decide (u < v) = true then 1 else 0)))) (same_upd (o := .dK []) s3 (none_sm s3 hD1)) (none_sm s3 hD1)
                have ht4 := sqT_sm s4 ht
                refine ⟨_, rfl, _, rfl, _, _, rfl, rfl, _, rfl, _, rfl, _, _, rfl, rfl, _, rfl, _, rfl, _, _, rfl, rfl, mulc, _, rfl, _, rfl, _, _, rfl, rfl, .inr ⟨_, rfl, ?_⟩⟩
                refine ⟨upd_same, [(.inr "add", _), (.inr "sub", _), (.inr "mul", _), (.inr "less", _)], rfl, (by show 4 ≤ 15; decide), D1, rfl, .inl ⟨_, .inl upd_same⟩, _, rfl, t, _, 0, _, rfl, rfl, ht4, atI_nat (j := 0) rfl, _, DGet.k (k := .inr "rem") upd_same, ?_⟩
                have tv := tbl_rem (.int (u + v)) (.int (u - v)) (.int (u * v)) (.int (if decide (u < v) = true then 1 else 0))
                show gName 4 ((valV (tbl (.int (u + v)) (.int (u - v)) (.int (u * v)) (.int (if decide (u < v) = true then 1 else 0))) (.inr "rem")).getD (.int 0)) _ _ _
                rw [tv]
                refine ⟨_, rfl, t, _, 0, _, rfl, rfl, ht4, atI_nat (j := 0) rfl, rfl, _, rfl, ifN (by decide +kernel) ?_⟩
                refine ⟨_, rfl, t, _, 0, _, rfl, rfl, ht4, atI_nat (j := 0) rfl, by decide, fun L2 hL2 => ?_⟩
                have s5 := same_upd (o := .lst [.str "div", .str "rem"]) s4 (none_sm s4 hL2)
                have ht5 := sqT_sm s5 ht
                refine ⟨L2, _, rfl, .inl (.of upd_same), rfl, by decide +kernel, _, rfl, ?_⟩
                refine ifT rfl ?_
                refine ⟨_, rfl, _, rfl, u, v, rfl, rfl, ⟨h, log_small ⟨v32.1, by have := v32.2; omega⟩⟩, ?_⟩
                refine ⟨_, rfl, _, rfl, _, rfl, _, rfl, _, _, rfl, rfl, .inr ⟨by have := v32.1; omega, by have := v32.2; omega⟩, _, _, rfl, rfl, (by show 2 ≤ sizeLine; decide), fun L3 hL3 => ?_⟩
                have s6 := same_upd (o := .lst [.int (u.fdiv v), .int (u - u.fdiv v * v)]) s5 (none_sm s5 hL3)
                have ht6 := sqT_sm s6 ht
                refine ⟨_, rfl, t, _, 0, _, rfl, rfl, ht6, atI_nat (j := 0) rfl, rfl, .inr ⟨true, rfl, L3, _, _, _, rfl, rfl, .of upd_same, atI_nat (j := 1) rfl, ?_⟩⟩
                refine ⟨_, rfl, _, _, rfl, rfl, _, _, rfl, rfl, (by show (0 : Int) < 4294967296; decide), _, _, rfl, rfl, ?_⟩
                have q2 := q _ s6
                rw [← fmod_is] at q2
                exact q2
              | add =>
                refine ifF rfl ?_
                intro D1 hD1
                have s4 := same_upd (o := .dK (tbl (.int (u + v)) (.int (u - v)) (.int (u * v)) (.int (if decide (u < v) = true then 1 else 0)))) (same_upd (o := .dK []) s3 (none_sm s3 hD1)) (none_sm s3 hD1)
                have ht4 := sqT_sm s4 ht
                refine ⟨_, rfl, _, rfl, _, _, rfl, rfl, _, rfl, _, rfl, _, _, rfl, rfl, _, rfl, _, rfl, _, _, rfl, rfl, mulc, _, rfl, _, rfl, _, _, rfl, rfl, .inr ⟨_, rfl, ?_⟩⟩
                refine ⟨upd_same, [(.inr "add", _), (.inr "sub", _), (.inr "mul", _), (.inr "less", _)], rfl, (by show 4 ≤ 15; decide), D1, rfl, .inl ⟨_, .inl upd_same⟩, _, rfl, t, _, 0, _, rfl, rfl, ht4, atI_nat (j := 0) rfl, _, DGet.k (k := .inr "add") upd_same, ?_⟩
                have tv := tbl_add (.int (u + v)) (.int (u - v)) (.int (u * v)) (.int (if decide (u < v) = true then 1 else 0))
                show gName 4 ((valV (tbl (.int (u + v)) (.int (u - v)) (.int (u * v)) (.int (if decide (u < v) = true then 1 else 0))) (.inr "add")).getD (.int 0)) _ _ _
                rw [tv]
                refine ⟨_, rfl, t, _, 0, _, rfl, rfl, ht4, atI_nat (j := 0) rfl, rfl, _, rfl, ifN (by decide +kernel) ?_⟩
                refine ⟨_, rfl, t, _, 0, _, rfl, rfl, ht4, atI_nat (j := 0) rfl, by decide, fun L2 hL2 => ?_⟩
                have s5 := same_upd (o := .lst [.str "div", .str "rem"]) s4 (none_sm s4 hL2)
                have ht5 := sqT_sm s5 ht
                refine ⟨L2, _, rfl, .inl (.of upd_same), rfl, by decide +kernel, _, rfl, ?_⟩
                refine ifF rfl ?_
                refine ⟨_, rfl, _, _, rfl, rfl, _, _, rfl, rfl, (by show (0 : Int) < 4294967296; decide), _, _, rfl, rfl, ?_⟩
                exact q _ s5
              | sub =>
                refine ifF rfl ?_
                intro D1 hD1
                have s4 := same_upd (o := .dK (tbl (.int (u + v)) (.int (u - v)) (.int (u * v)) (.int (if decide (u < v) = true then 1 else 0)))) (same_upd (o := .dK []) s3 (none_sm s3 hD1)) (none_sm s3 hD1)
                have ht4 := sqT_sm s4 ht
                refine ⟨_, rfl, _, rfl, _, _, rfl, rfl, _, rfl, _, rfl, _, _, rfl, rfl, _, rfl, _, rfl, _, _, rfl, rfl, mulc, _, rfl, _, rfl, _, _, rfl, rfl, .inr ⟨_, rfl, ?_⟩⟩
                refine ⟨upd_same, [(.inr "add", _), (.inr "sub", _), (.inr "mul", _), (.inr "less", _)], rfl, (by show 4 ≤ 15; decide), D1, rfl, .inl ⟨_, .inl upd_same⟩, _, rfl, t, _, 0, _, rfl, rfl, ht4, atI_nat (j := 0) rfl, _, DGet.k (k := .inr "sub") upd_same, ?_⟩
                have tv := tbl_sub (.int (u + v)) (.int (u - v)) (.int (u * v)) (.int (if decide (u < v) = true then 1 else 0))
                show gName 4 ((valV (tbl (.int (u + v)) (.int (u - v)) (.int (u * v)) (.int (if decide (u < v) = true then 1 else 0))) (.inr "sub")).getD (.int 0)) _ _ _
                rw [tv]
                refine ⟨_, rfl, t, _, 0, _, rfl, rfl, ht4, atI_nat (j := 0) rfl, rfl, _, rfl, ifN (by decide +kernel) ?_⟩
                refine ⟨_, rfl, t, _, 0, _, rfl, rfl, ht4, atI_nat (j := 0) rfl, by decide, fun L2 hL2 => ?_⟩
                have s5 := same_upd (o := .lst [.str "div", .str "rem"]) s4 (none_sm s4 hL2)
                have ht5 := sqT_sm s5 ht
                refine ⟨L2, _, rfl, .inl (.of upd_same), rfl, by decide +kernel, _, rfl, ?_⟩
                refine ifF rfl ?_
                refine ⟨_, rfl, _, _, rfl, rfl, _, _, rfl, rfl, (by show (0 : Int) < 4294967296; decide), _, _, rfl, rfl, ?_⟩
                exact q _ s5
              | mul =>
                refine ifF rfl ?_
                intro D1 hD1
                have s4 := same_upd (o := .dK (tbl (.int (u + v)) (.int (u - v)) (.int (u * v)) (.int (if decide (u < v) = true then 1 else 0)))) (same_upd (o := .dK []) s3 (none_sm s3 hD1)) (none_sm s3 hD1)
                have ht4 := sqT_sm s4 ht
                refine ⟨_, rfl, _, rfl, _, _, rfl, rfl, _, rfl, _, rfl, _, _, rfl, rfl, _, rfl, _, rfl, _, _, rfl, rfl, mulc, _, rfl, _, rfl, _, _, rfl, rfl, .inr ⟨_, rfl, ?_⟩⟩
                refine ⟨upd_same, [(.inr "add", _), (.inr "sub", _), (.inr "mul", _), (.inr "less", _)], rfl, (by show 4 ≤ 15; decide), D1, rfl, .inl ⟨_, .inl upd_same⟩, _, rfl, t, _, 0, _, rfl, rfl, ht4, atI_nat (j := 0) rfl, _, DGet.k (k := .inr "mul") upd_same, ?_⟩
                have tv := tbl_mul (.int (u + v)) (.int (u - v)) (.int (u * v)) (.int (if decide (u < v) = true then 1 else 0))
                show gName 4 ((valV (tbl (.int (u + v)) (.int (u - v)) (.int (u * v)) (.int (if decide (u < v) = true then 1 else 0))) (.inr "mul")).getD (.int 0)) _ _ _
                rw [tv]
                refine ⟨_, rfl, t, _, 0, _, rfl, rfl, ht4, atI_nat (j := 0) rfl, rfl, _, rfl, ifN (by decide +kernel) ?_⟩
                refine ⟨_, rfl, t, _, 0, _, rfl, rfl, ht4, atI_nat (j := 0) rfl, by decide, fun L2 hL2 => ?_⟩
                have s5 := same_upd (o := .lst [.str "div", .str "rem"]) s4 (none_sm s4 hL2)
                have ht5 := sqT_sm s5 ht
                refine ⟨L2, _, rfl, .inl (.of upd_same), rfl, by decide +kernel, _, rfl, ?_⟩
                refine ifF rfl ?_
                refine ⟨_, rfl, _, _, rfl, rfl, _, _, rfl, rfl, (by show (0 : Int) < 4294967296; decide), _, _, rfl, rfl, ?_⟩
                exact q _ s5
              | less =>
                refine ifF rfl ?_
                intro D1 hD1
                have s4 := same_upd (o := .dK (tbl (.int (u + v)) (.int (u - v)) (.int (u * v)) (.int (if decide (u < v) = true then 1 else 0)))) (same_upd (o := .dK []) s3 (none_sm s3 hD1)) (none_sm s3 hD1)
                have ht4 := sqT_sm s4 ht
                refine ⟨_, rfl, _, rfl, _, _, rfl, rfl, _, rfl, _, rfl, _, _, rfl, rfl, _, rfl, _, rfl, _, _, rfl, rfl, mulc, _, rfl, _, rfl, _, _, rfl, rfl, .inr ⟨_, rfl, ?_⟩⟩
                refine ⟨upd_same, [(.inr "add", _), (.inr "sub", _), (.inr "mul", _), (.inr "less", _)], rfl, (by show 4 ≤ 15; decide), D1, rfl, .inl ⟨_, .inl upd_same⟩, _, rfl, t, _, 0, _, rfl, rfl, ht4, atI_nat (j := 0) rfl, _, DGet.k (k := .inr "less") upd_same, ?_⟩
                have tv := tbl_less (.int (u + v)) (.int (u - v)) (.int (u * v)) (.int (if decide (u < v) = true then 1 else 0))
                show gName 4 ((valV (tbl (.int (u + v)) (.int (u - v)) (.int (u * v)) (.int (if decide (u < v) = true then 1 else 0))) (.inr "less")).getD (.int 0)) _ _ _
                rw [tv]
                refine ⟨_, rfl, t, _, 0, _, rfl, rfl, ht4, atI_nat (j := 0) rfl, rfl, _, rfl, ifN (by decide +kernel) ?_⟩
                refine ⟨_, rfl, t, _, 0, _, rfl, rfl, ht4, atI_nat (j := 0) rfl, by decide, fun L2 hL2 => ?_⟩
                have s5 := same_upd (o := .lst [.str "div", .str "rem"]) s4 (none_sm s4 hL2)
                have ht5 := sqT_sm s5 ht
                refine ⟨L2, _, rfl, .inl (.of upd_same), rfl, by decide +kernel, _, rfl, ?_⟩
                refine ifF rfl ?_
                refine ⟨_, rfl, _, _, rfl, rfl, _, _, rfl, rfl, (by show (0 : Int) < 4294967296; decide), _, _, rfl, rfl, ?_⟩
                have q2 := q _ s5
                rw [← wr_in (b2n_32 _)] at q2
                exact q2
              | same =>
                refine ifF rfl ?_
                intro D1 hD1
                have s4 := same_upd (o := .dK (tbl (.int (u + v)) (.int (u - v)) (.int (u * v)) (.int (if decide (u < v) = true then 1 else 0)))) (same_upd (o := .dK []) s3 (none_sm s3 hD1)) (none_sm s3 hD1)
                have ht4 := sqT_sm s4 ht
                refine ⟨_, rfl, _, rfl, _, _, rfl, rfl, _, rfl, _, rfl, _, _, rfl, rfl, _, rfl, _, rfl, _, _, rfl, rfl, mulc, _, rfl, _, rfl, _, _, rfl, rfl, .inr ⟨_, rfl, ?_⟩⟩
                refine ⟨upd_same, [(.inr "add", _), (.inr "sub", _), (.inr "mul", _), (.inr "less", _)], rfl, (by show 4 ≤ 15; decide), D1, rfl, .inl ⟨_, .inl upd_same⟩, _, rfl, t, _, 0, _, rfl, rfl, ht4, atI_nat (j := 0) rfl, _, DGet.k (k := .inr "same") upd_same, ?_⟩
                have tv := tbl_same (.int (u + v)) (.int (u - v)) (.int (u * v)) (.int (if decide (u < v) = true then 1 else 0))
                show gName 4 ((valV (tbl (.int (u + v)) (.int (u - v)) (.int (u * v)) (.int (if decide (u < v) = true then 1 else 0))) (.inr "same")).getD (.int 0)) _ _ _
                rw [tv]
                refine ⟨_, rfl, t, _, 0, _, rfl, rfl, ht4, atI_nat (j := 0) rfl, rfl, _, rfl, ifD rfl ?_⟩
                refine ⟨_, rfl, _, rfl, rfl, .inr ⟨_, rfl, ?_⟩⟩
                refine ⟨_, rfl, t, _, 0, _, rfl, rfl, ht4, atI_nat (j := 0) rfl, by decide, fun L2 hL2 => ?_⟩
                have s5 := same_upd (o := .lst [.str "div", .str "rem"]) s4 (none_sm s4 hL2)
                have ht5 := sqT_sm s5 ht
                refine ⟨L2, _, rfl, .inl (.of upd_same), rfl, by decide +kernel, _, rfl, ?_⟩
                refine ifF rfl ?_
                refine ⟨_, rfl, _, _, rfl, rfl, _, _, rfl, rfl, (by show (0 : Int) < 4294967296; decide), _, _, rfl, rfl, ?_⟩
                have q2 := q _ s5
                rw [← wr_in (b2n_32 _), show decide (u = v) = decide (V.int u = V.int v) by by_cases z : u = v <;> simp [z]] at q2
                exact q2
          · refine ⟨_, rfl, _, _, _, _, true, rfl, .ty _, dp_ty (.str f), kit_str (.str f), _, rfl, ifT rfl ?_⟩
            exact ⟨_, rfl, qf f (by unfold wx; rw [hu]; dsimp only; rw [hf]) _ (s1.trans s2)⟩
        · refine ⟨_, rfl, _, _, _, _, true, rfl, .ty _, dp_ty (.str f), kit_str (.str f), _, rfl, ifT rfl ?_⟩
          exact ⟨_, rfl, qf f (by unfold wx; rw [hf]) _ s1⟩
end

section
variable {P : Program} {w : World} {K : PySem.W.Frag} {mg : Str → Option Value} {base : Heap}
def playK (lf : Int) (t h : Addr) : List (Key × V) := [(.inr "left", .int lf), (.inr "told", .ref t), (.inr "helpers", .ref h)]
theorem playK_put (lf l2 : Int) (t h : Addr) : putK (playK lf t h) (.inr "left") (.int l2) = playK l2 t h := by
  have e1 : decide ((Sum.inr "left" : Key) = .inr "left") = true := by decide +kernel
  have n2 : ¬ ((Sum.inr "told" : Key) = .inr "left") := by decide +kernel
  have n3 : ¬ ((Sum.inr "helpers" : Key) = .inr "left") := by decide +kernel
  unfold putK playK
  rw [if_pos (by rw [List.any_cons, e1]; rfl), List.map_cons, List.map_cons, List.map_cons, if_pos rfl, if_neg n2, if_neg n3]
  rfl
structure LStd (K : PySem.W.Frag) (hs : Hs) (rs : List Str) (A : Adr) (h : Addr) (M N : Nat) (H : Hp) (s : PSt) : Prop where
  ro : LRoom H A rs s.kn s.rw (N - s.lf)
  ob : H A.q = some (.dK (playK (s.lf : Int) A.t h))
  tl : H A.t = some (.lst (s.td.map V.int))
  hk : HelpAt K H h hs
  k32 : Kn32 s.kn
  r32 : Rw32 s.rw
  sz : s.td.length + s.lf ≤ M
  nz : s.lf ≤ N
  m6 : M ≤ 6000
  n6 : N ≤ 7000
  pq : A.p ≠ A.q
  pd : A.p ≠ A.d
  dq : A.d ≠ A.q
  rd : A.r ≠ A.d
  rq : A.r ≠ A.q
  hd : h ≠ A.d
  hq : h ≠ A.q
  rt : ∀ x ∈ rs, A.ra x ≠ A.t
  ri : ∀ x ∈ rs, ∀ y ∈ rs, A.ra x = A.ra y → x = y
theorem LStd.sm {hs : Hs} {rs : List Str} {A : Adr} {h : Addr} {M N : Nat} {H H' : Hp} {s : PSt} (k : LStd K hs rs A h M N H s) (e : Same H H') : LStd K hs rs A h M N H' s :=
  ⟨k.ro.sm e, e _ _ k.ob, e _ _ k.tl, k.hk.sm e, k.k32, k.r32, k.sz, k.nz, k.m6, k.n6, k.pq, k.pd, k.dq, k.rd, k.rq, k.hd, k.hq, k.rt, k.ri⟩
theorem LStd.mono {hs : Hs} {rs : List Str} {A : Adr} {h : Addr} {M N M' N' : Nat} {H : Hp} {s : PSt} (k : LStd K hs rs A h M N H s) (l : M ≤ M') (l6 : M' ≤ 6000) (ln : N ≤ N') (n6 : N' ≤ 7000) : LStd K hs rs A h M' N' H s := by
  obtain ⟨h1, ⟨kvs, h2, h3, h4⟩, h5, h6⟩ := k.ro
  exact ⟨⟨h1, ⟨kvs, h2, by omega, h4⟩, h5, h6⟩, k.ob, k.tl, k.hk, k.k32, k.r32, by have := k.sz; omega, by have := k.nz; omega, l6, n6, k.pq, k.pd, k.dq, k.rd, k.rq, k.hd, k.hq, k.rt, k.ri⟩
structure LApart (rs : List Str) (A : Adr) (h : Addr) : Prop where
  pt : A.p ≠ A.t
  dt : A.d ≠ A.t
  qt : A.q ≠ A.t
  rt : A.r ≠ A.t
  ht : h ≠ A.t
  ap : ∀ x ∈ rs, A.ra x ≠ A.p
  ad : ∀ x ∈ rs, A.ra x ≠ A.d
  aq : ∀ x ∈ rs, A.ra x ≠ A.q
  ar : ∀ x ∈ rs, A.ra x ≠ A.r
  ah : ∀ x ∈ rs, A.ra x ≠ h
theorem LStd.ap {hs : Hs} {rs : List Str} {A : Adr} {h : Addr} {M N : Nat} {H : Hp} {s : PSt} (k : LStd K hs rs A h M N H s) : LApart rs A h := by
  obtain ⟨e1, ⟨kvs, e2, _⟩, ⟨rvs, e5, _⟩, e6⟩ := k.ro
  have e3 := k.ob
  have e4 := k.tl
  obtain ⟨hvs, e7, _⟩ := k.hk
  refine ⟨fun z => ?_, fun z => ?_, fun z => ?_, fun z => ?_, fun z => ?_, fun x hx z => ?_, fun x hx z => ?_, fun x hx z => ?_, fun x hx z => ?_, fun x hx z => ?_⟩
  · rw [z, e4] at e1; cases e1
  · rw [z, e4] at e2; cases e2
  · rw [z, e4] at e3; cases e3
  · rw [z, e4] at e5; cases e5
  · rw [z, e4] at e7; cases e7
  · have := e6 x hx; rw [z, e1] at this; cases this
  · have := e6 x hx; rw [z, e2] at this; cases this
  · have := e6 x hx; rw [z, e3] at this; cases this
  · have := e6 x hx; rw [z, e5] at this; cases this
  · have := e6 x hx; rw [z, e7] at this; cases this
theorem LStd.turn {hs : Hs} {rs : List Str} {A : Adr} {h : Addr} {M N : Nat} {H : Hp} {s : PSt} (k : LStd K hs rs A h M N H s) (l0 : s.lf ≠ 0) : LStd K hs rs A h (M - 1) (N - 1) (upd H A.q (.dK (playK ((s.lf : Int) - 1) A.t h))) { s with lf := s.lf - 1 } := by
  have a := k.ap
  obtain ⟨e1, ⟨kvs, e2, l2, hv⟩, ⟨rvs, e5, v5⟩, e6⟩ := k.ro
  have hl : ((s.lf : Nat) : Int) - 1 = ((s.lf - 1 : Nat) : Int) := by omega
  have sz := k.sz
  have nz := k.nz
  have m6 := k.m6
  have n6 := k.n6
  refine ⟨⟨by rw [upd_ne k.pq]; exact e1, ⟨kvs, by rw [upd_ne k.dq]; exact e2, ?_, hv⟩, ⟨rvs, by rw [upd_ne k.rq]; exact e5, v5⟩, fun x hx => by rw [upd_ne (a.aq x hx)]; exact e6 x hx⟩, by rw [upd_same, hl], by rw [upd_ne a.qt.symm]; exact k.tl, k.hk.kp (Kp.upd (S := fun z => z = A.q) k.ob trivial rfl) k.hq, k.k32, k.r32, ?_, ?_, by omega, by omega, k.pq, k.pd, k.dq, k.rd, k.rq, k.hd, k.hq, k.rt, k.ri⟩
  · show kvs.length ≤ N - 1 - (s.lf - 1)
    omega
  · show s.td.length + (s.lf - 1) ≤ M - 1
    omega
  · show s.lf - 1 ≤ N - 1
    omega
def gvD (v : Int) : PyData := .tuple [.str "gave", .int v]
def onD : PyData := .tuple [.str "on"]
def fltD (w : Str) : PyData := .tuple [.str "fault", .str w]
def LPost (K : PySem.W.Frag) (hs : Hs) (rs : List Str) (A : Adr) (h : Addr) (M N : Nat) (H : Hp) (s : PSt) (Q : VK) : Rs → Prop
  | .fin => ∀ H', Kp (SA rs A) H H' → LStd K hs rs A h M N H' s → Q .non H'
  | .gave v => ∀ H' u, Kp (SA rs A) H H' → LStd K hs rs A h M N H' s → In32 v → Dp K H' (.ref u) (gvD v) → Q (.ref u) H'
  | .on => ∀ H' u, Kp (SA rs A) H H' → LStd K hs rs A h M N H' s → Dp K H' (.ref u) onD → Q (.ref u) H'
  | .flt w => ∀ H' u, Kp (SA rs A) H H' → LStd K hs rs A h M N H' s → Dp K H' (.ref u) (fltD w) → Q (.ref u) H'
theorem LPost.kp {hs : Hs} {rs : List Str} {A : Adr} {h : Addr} {M N : Nat} {H H1 : Hp} {s : PSt} {Q : VK} {r : Rs} (k : Kp (SA rs A) H H1) (p : LPost K hs rs A h M N H s Q r) : LPost K hs rs A h M N H1 s Q r := by
  cases r with
  | fin => exact fun H' k' st => p H' (k.trans k') st
  | gave v => exact fun H' u k' st i d => p H' u (k.trans k') st i d
  | on => exact fun H' u k' st d => p H' u (k.trans k') st d
  | flt w => exact fun H' u k' st d => p H' u (k.trans k') st d
theorem LPost.mono {hs : Hs} {rs : List Str} {A : Adr} {h : Addr} {M M' N N' : Nat} {H : Hp} {s : PSt} {Q : VK} {r : Rs} (l : M ≤ M') (l6 : M' ≤ 6000) (ln : N ≤ N') (n6 : N' ≤ 7000) (p : LPost K hs rs A h M' N' H s Q r) : LPost K hs rs A h M N H s Q r := by
  cases r with
  | fin => exact fun H' k' st => p H' k' (st.mono l l6 ln n6)
  | gave v => exact fun H' u k' st i d => p H' u k' (st.mono l l6 ln n6) i d
  | on => exact fun H' u k' st d => p H' u k' (st.mono l l6 ln n6) d
  | flt w => exact fun H' u k' st d => p H' u k' (st.mono l l6 ln n6) d
/-- a fault of an expression, told in a new tuple -/
theorem LPost.flt {hs : Hs} {rs : List Str} {A : Adr} {h : Addr} {M N : Nat} {H : Hp} {s : PSt} {Q : VK} {f : Str} (p : LPost K hs rs A h M N H s Q (.flt f)) (st : LStd K hs rs A h M N H s) {H' : Hp} (e : Same H H') : 2 ≤ sizeLine ∧ ∀ u, H' u = none → Q (.ref u) (upd H' u (.tup [.str "fault", .str f])) :=
  ⟨by decide, fun u nu => p _ u (Kp.of_same (e.trans (same_new nu))) (st.sm (e.trans (same_new nu))) (.tup (.of upd_same) (.cons (.str _) (.cons (.str _) .nil)))⟩
def sp_ldone (K : PySem.W.Frag) (n : Nat) : Sp := fun vs H Q _ => ∃ (hs : Hs) (rs : List Str) (A : Adr) (h : Addr) (M N : Nat) (s s' : PSt) (v : V) (bd : List Sm) (r : Rs) (F : Nat), vs = [v, .ref A.p, .ref A.q] ∧ LStd K hs rs A h M N H s ∧ Dp K H v (.tuple (Sm.ds bd)) ∧ (∀ m ∈ bd, m.ok hs n rs) ∧ doAll hs F bd s = some (r, s') ∧ LPost K hs rs A h M N H s' Q r
def sp_lone (K : PySem.W.Frag) (n : Nat) : Sp := fun vs H Q _ => ∃ (hs : Hs) (rs : List Str) (A : Adr) (h : Addr) (M N : Nat) (s s' : PSt) (v : V) (m : Sm) (r : Rs) (F : Nat), vs = [v, .ref A.p, .ref A.q] ∧ LStd K hs rs A h M N H s ∧ Dp K H v m.d ∧ m.ok hs n rs ∧ doOne hs F m s = some (r, s') ∧ M < 6000 ∧ N < 7000 ∧ LPost K hs rs A h (M + 1) (N + 1) H s' Q r
def sp_lagain (K : PySem.W.Frag) (n : Nat) : Sp := fun vs H Q _ => ∃ (hs : Hs) (rs : List Str) (A : Adr) (h : Addr) (M N : Nat) (s s' : PSt) (v : V) (e : Ex) (b : List Sm) (r : Rs) (F : Nat), vs = [v, .ref A.p, .ref A.q] ∧ LStd K hs rs A h M N H s ∧ Dp K H v (Sm.loop e b).d ∧ e.ok rs ∧ (∀ m ∈ b, m.ok hs n rs) ∧ again hs F e b s = some (r, s') ∧ LPost K hs rs A h M N H s' Q r
theorem on_dp {H : Hp} {p : Addr} : Dp K (upd H p (.tup [.str "on"])) (.ref p) onD := .tup (.inl (.inl upd_same)) (.cons (.str _) .nil)
theorem ok_ldone_of (T : Top K mg) (n k : Nat) (G__law_one : FnOk P w K mg base CX0 k (He.ga K "_law_one") T.fd__law_one ["_law_s", "_law_room", "_law_play"] (sp_lone K n)) :
    FnOk P w K mg base CX0 (k + 1) (He.ga K "_law_done") T.fd__law_done ["_law_body", "_law_room", "_law_play"] (sp_ldone K n) := by
  refine T.F__law_done.ok sc__law_done (fun vs H Q E h => ?_) (fun cdv A outer s H vs Q E hr h => ?_)
  · obtain ⟨hs, rs, A, h, M, N, s, s', v, bd, r, F, rfl, _⟩ := h
    rfl
  · obtain ⟨hs, rs, B, hh, M, N, s, s', v, bd, r, F, rfl, st, dp, ok, hd, po⟩ := h
    refine ⟨_, PSs.nox (pss_cons (ps_for PassesOwn.never (by rfl) (pi_tup (pv 0)) (pg_name (i := 3) sc__law_done.nd rfl (Or.inl rfl)) (pss_cons (ps_if (pt_cmpR op_eq (pe_dget (hu_of hr) (pv 2) pe_str (fun _ _ => rfl)) pe_int (nomark _)) (pss_one (ps_ret (pe_tup (pa_cons pe_str pa_nil)))) pss_nil)
        (pss_cons (ps_dput (hu_of hr) (pv 2) pe_str (pe_op op_sub (pe_dget (hu_of hr) (pv 2) pe_str (fun _ _ => rfl)) pe_int) (by rfl))
        (pss_cons (ps_set (i := 4) sc__law_done.nd rfl (Or.inl rfl) (pe_call G__law_one (hr.mono (by omega)) (by rfl) T.g__law_one T.F__law_one.kp T.b__law_one .nil pass0 (pa_cons (pv 3) (pa_cons (pv 1) (pa_cons (pv 2) pa_nil)))))
        (pss_one (ps_if (pt_cmpR op_notN (pv 4) pe_non (nomark _)) (pss_one (ps_ret (pv 4))) pss_nil))))))
        (pss_one (ps_ret pe_non))), ?_⟩
    obtain ⟨p0, xs, rfl, hp, da⟩ := dp_tup dp
    have lx := dpAll_len da
    rw [Sm.ds_eq, List.length_map] at lx
    refine ⟨_, rfl, p0, rfl, ⟨_, hp⟩, ?_⟩
    refine for_tup (K := K) (xs := xs) (fun j σ' H' => Kp (SA rs B) H H' ∧ ∃ (F' : Nat) (s1 : PSt) (x3 x4 : Option V), LStd K hs rs B hh M N H' s1 ∧ doAll hs F' (bd.drop j) s1 = some (r, s') ∧ σ' = [some (.ref p0), some (.ref B.p), some (.ref B.q), x3, x4]) ?_ ?_ ?_ ?_
    · exact ⟨Kp.refl, F, s, none, none, st, hd, rfl⟩
    · rintro j σ' H' _ ⟨k', _⟩
      exact sqT_kp k' hp
    · rintro j y σ' H1 hy ⟨k1, F', s1, x3, x4, st1, hd1, rfl⟩
      have jl : j < bd.length := by
        have := (List.getElem?_eq_some_iff.mp hy).1
        omega
      obtain ⟨m, hm⟩ : ∃ m, bd[j]? = some m := ⟨bd[j], List.getElem?_eq_getElem jl⟩
      have hdrop : bd.drop j = m :: bd.drop (j + 1) := by
        rw [List.drop_eq_getElem_cons jl]
        rw [List.getElem?_eq_getElem jl] at hm
        cases hm
        rfl
      rw [hdrop] at hd1
      cases F' with
      | zero => simp [doAll] at hd1
      | succ F' =>
        rw [doAll] at hd1
        have eq := st1.ob
        refine ⟨_, rfl, B.q, _, rfl, DGet.k (k := .inr "left") eq, rfl, _, rfl, ?_⟩
        by_cases l0 : s1.lf = 0
        · refine ifD (by rw [l0]; rfl) ?_
          rw [if_pos l0] at hd1
          cases hd1
          refine ⟨by decide, fun u hu => ?_⟩
          exact po _ u (k1.trans (Kp.of_same (same_new hu))) (st1.sm (same_new hu)) on_dp
        · refine ifN (fun z => l0 (by have := V.int.inj z; omega)) ?_
          rw [if_neg l0] at hd1
          refine ⟨_, rfl, B.q, _, rfl, DGet.k (k := .inr "left") eq, _, _, rfl, rfl, _, rfl, B.q, _, rfl, .inl ⟨_, .inr "left", eq, rfl, (by show 3 < sizeLine; decide), rfl⟩, ?_⟩
          rw [playK_put]
          have st2 := st1.turn l0
          have k2 := k1.trans (Kp.upd (S := SA rs B) (u := .dK (playK ((s1.lf : Int) - 1) B.t hh)) eq trivial (.inr (.inl rfl)))
          obtain ⟨d, hdd, ddd⟩ := dpAll_getV da hy
          rw [Sm.ds_eq, List.getElem?_map, hm] at hdd
          cases hdd
          have dm := dp_kp k2 _ _ (Sm.noL m) ddd
          cases ho : doOne hs F' m { s1 with lf := s1.lf - 1 } with
          | none => rw [ho] at hd1; cases hd1
          | some rs =>
            obtain ⟨r1, s2⟩ := rs
            rw [ho] at hd1
            have sz := st1.sz
            have nz := st1.nz
            have m1 : M - 1 + 1 = M := by omega
            have n1 : N - 1 + 1 = N := by omega
            have m6 := st1.m6
            have n6 := st1.n6
            refine ⟨_, rfl, _, rfl, _, rfl, hs, rs, B, hh, M - 1, N - 1, _, s2, y, m, r1, F', rfl, st2, dm, ok m (List.mem_of_getElem? hm), ho, by omega, by omega, ?_⟩
            rw [m1, n1]
            cases r1 with
            | fin =>
              intro H3 k3 st3
              refine ⟨_, rfl, rfl, _, rfl, ?_⟩
              exact ⟨k2.trans k3, F', s2, _, _, st3, hd1, rfl⟩
            | gave v =>
              intro H3 u k3 st3 i3 du
              cases hd1
              refine ⟨_, rfl, rfl, _, rfl, ?_⟩
              exact ⟨_, rfl, po _ u (k2.trans k3) st3 i3 du⟩
            | on =>
              intro H3 u k3 st3 du
              cases hd1
              refine ⟨_, rfl, rfl, _, rfl, ?_⟩
              exact ⟨_, rfl, po _ u (k2.trans k3) st3 du⟩
            | flt w =>
              intro H3 u k3 st3 du
              cases hd1
              refine ⟨_, rfl, rfl, _, rfl, ?_⟩
              exact ⟨_, rfl, po _ u (k2.trans k3) st3 du⟩
    · rintro σ' H1 ⟨k1, F', s1, x3, x4, st1, hd1, rfl⟩
      rw [lx, List.drop_length] at hd1
      cases F' with
      | zero => simp [doAll] at hd1
      | succ F' =>
        rw [doAll] at hd1
        cases hd1
        exact po _ k1 st1
theorem ok_lagain_of (T : Top K mg) (n k : Nat) (hk : 11 ≤ k) (G__law_done : FnOk P w K mg base CX0 k (He.ga K "_law_done") T.fd__law_done ["_law_body", "_law_room", "_law_play"] (sp_ldone K n)) :
    FnOk P w K mg base CX0 (k + 1) (He.ga K "_law_again") T.fd__law_again ["_law_s", "_law_room", "_law_play"] (sp_lagain K n) := by
  have G__law_worth := ok__law_worth (P := P) (w := w) (base := base) T 10
  refine T.F__law_again.ok sc__law_again (fun vs H Q E h => ?_) (fun cdv A outer s H vs Q E hr h => ?_)
  · obtain ⟨hs, rs, A, h, M, N, s, s', v, e, b, r, F, rfl, _⟩ := h
    rfl
  · obtain ⟨hs, rs, B, hh, M, N, s, s', v, e, b, r, F, rfl, st, dp, eo, ok, hd, po⟩ := h
    refine ⟨_, PSs.nox (pss_one (ps_while PassesOwn.never (pt_val pe_bl) (pss_cons (ps_set (i := 3) sc__law_again.nd rfl (Or.inl rfl) (pe_call G__law_worth (hr.mono (by omega)) (by rfl) T.g__law_worth T.F__law_worth.kp T.b__law_worth .nil pass0 (pa_cons (pe_ix ix_tup (pv 0) pe_int (fun _ _ => rfl)) (pa_cons (pv 1) pa_nil))))
        (pss_cons (ps_if (pt_val (pe_callB call_isi (by rfl) T.m_isinstance (by decide +kernel) (pa_cons (pv 3) (pa_cons (pe_bltn (v := .ty "str") (by rfl) T.m_str (by decide +kernel) rfl) pa_nil)))) (pss_one (ps_ret (pe_tup (pa_cons pe_str (pa_cons (pv 3) pa_nil))))) pss_nil)
        (pss_cons (ps_if (pt_cmpR op_eq (pv 3) pe_int (nomark _)) (pss_one (ps_ret pe_non)) pss_nil)
        (pss_cons (ps_set (i := 4) sc__law_again.nd rfl (Or.inl rfl) (pe_call G__law_done (hr.mono (by omega)) (by rfl) T.g__law_done T.F__law_done.kp T.b__law_done .nil pass0 (pa_cons (pe_ix ix_tup (pv 0) pe_int (fun _ _ => rfl)) (pa_cons (pv 1) (pa_cons (pv 2) pa_nil)))))
        (pss_cons (ps_if (pt_cmpR op_notN (pv 4) pe_non (nomark _)) (pss_one (ps_ret (pv 4))) pss_nil)
        (pss_cons (ps_if (pt_cmpR op_eq (pe_dget (hu_of hr) (pv 2) pe_str (fun _ _ => rfl)) pe_int (nomark _)) (pss_one (ps_ret (pe_tup (pa_cons pe_str pa_nil)))) pss_nil)
        (pss_one (ps_dput (hu_of hr) (pv 2) pe_str (pe_op op_sub (pe_dget (hu_of hr) (pv 2) pe_str (fun _ _ => rfl)) pe_int) (by rfl))))))))))), ?_⟩
    obtain ⟨p0, xs, rfl, hp, da⟩ := dp_tup dp
    obtain ⟨x0, r0, rfl, d0, e0⟩ := dpAll_cons da
    obtain ⟨x1, r1, rfl, d1, e1⟩ := dpAll_cons e0
    obtain ⟨x2, r2, rfl, d2, e2⟩ := dpAll_cons e1
    refine while_m (fun m σ' H' => Kp (SA rs B) H H' ∧ ∃ (s1 : PSt) (x3 x4 : Option V), LStd K hs rs B hh M N H' s1 ∧ again hs m e b s1 = some (r, s') ∧ σ' = [some (.ref p0), some (.ref B.p), some (.ref B.q), x3, x4]) ?_ ?_ ?_
    · exact ⟨F, Kp.refl, s, none, none, st, hd, rfl⟩
    · rintro m σ' H1 ⟨k1, s1, x3, x4, st1, hd1, rfl⟩
      refine ⟨_, rfl, ifT rfl ?_⟩
      cases m with
      | zero => simp [again] at hd1
      | succ m =>
        rw [again] at hd1
        have hp1 := sqT_kp k1 hp
        refine ⟨_, rfl, p0, _, 1, _, rfl, rfl, hp1, atI_nat (j := 1) rfl, _, rfl, B, rs, x1, e, s1.kn, s1.rw, _, rfl, eo.1, eo.2, st1.ro, st1.k32, st1.r32, dp_kp k1 _ _ (Ex.noL e) d1, fun z hw H2 s2 => ?_, fun f hf H2 s2 => ?_⟩
        · rw [hw] at hd1
          dsimp only at hd1
          have k2 := k1.trans (Kp.of_same s2)
          have st2 := st1.sm s2
          refine ⟨_, rfl, _, _, _, _, false, rfl, .ty _, ty_int z, kit_str (.int z), _, rfl, ifF rfl ?_⟩
          refine ⟨_, rfl, rfl, _, rfl, ?_⟩
          by_cases hz : z = 0
          · rw [if_pos hz] at hd1
            cases hd1
            refine ifD (by rw [hz]) ?_
            exact po _ k2 st2
          · rw [if_neg hz] at hd1
            refine ifN (fun y => hz (V.int.inj y)) ?_
            cases ha : doAll hs m b s1 with
            | none => rw [ha] at hd1; cases hd1
            | some rs =>
              obtain ⟨r1, s2'⟩ := rs
              rw [ha] at hd1
              refine ⟨_, rfl, p0, _, 2, _, rfl, rfl, sqT_kp k2 hp, atI_nat (j := 2) rfl, _, rfl, _, rfl, hs, rs, B, hh, M, N, s1, s2', x2, b, r1, m, rfl, st2, dp_kp k2 _ _ (by rw [nLd]; exact Sm.noLs b) d2, ok, ha, ?_⟩
              cases r1 with
              | fin =>
                intro H3 k3 st3
                have k13 := k2.trans k3
                refine ⟨_, rfl, rfl, _, rfl, ?_⟩
                have eq3 := st3.ob
                dsimp only at hd1
                refine ⟨_, rfl, B.q, _, rfl, DGet.k (k := .inr "left") eq3, rfl, _, rfl, ?_⟩
                by_cases l0 : s2'.lf = 0
                · rw [if_pos l0] at hd1
                  cases hd1
                  refine ifD (by rw [l0]; rfl) ?_
                  refine ⟨by decide, fun u hu => ?_⟩
                  exact po _ u (k13.trans (Kp.of_same (same_new hu))) (st3.sm (same_new hu)) on_dp
                · rw [if_neg l0] at hd1
                  refine ifN (fun z => l0 (by have := V.int.inj z; omega)) ?_
                  refine ⟨_, rfl, B.q, _, rfl, DGet.k (k := .inr "left") eq3, _, _, rfl, rfl, _, rfl, B.q, _, rfl, .inl ⟨_, .inr "left", eq3, rfl, (by show 3 < sizeLine; decide), rfl⟩, ?_⟩
                  rw [playK_put]
                  have k4 := k13.trans (Kp.upd (S := SA rs B) (u := .dK (playK ((s2'.lf : Int) - 1) B.t hh)) eq3 trivial (.inr (.inl rfl)))
                  exact ⟨m, Nat.lt_succ_self _, k4, _, _, _, (st3.turn l0).mono (by omega) st3.m6 (by omega) st3.n6, hd1, rfl⟩
              | gave v =>
                intro H3 u k3 st3 i3 du
                cases hd1
                refine ⟨_, rfl, rfl, _, rfl, ?_⟩
                exact ⟨_, rfl, po _ u (k2.trans k3) st3 i3 du⟩
              | on =>
                intro H3 u k3 st3 du
                cases hd1
                refine ⟨_, rfl, rfl, _, rfl, ?_⟩
                exact ⟨_, rfl, po _ u (k2.trans k3) st3 du⟩
              | flt w =>
                intro H3 u k3 st3 du
                cases hd1
                refine ⟨_, rfl, rfl, _, rfl, ?_⟩
                exact ⟨_, rfl, po _ u (k2.trans k3) st3 du⟩
        · rw [hf] at hd1
          cases hd1
          refine ⟨_, rfl, _, _, _, _, true, rfl, .ty _, dp_ty (.str f), kit_str (.str f), _, rfl, ifT rfl ?_⟩
          exact ⟨_, rfl, (po.kp k1).flt st1 s2⟩
    · intro σ' H' Q1 Q2 h hc
      obtain ⟨c, e, q⟩ := hc
      exact ⟨c, e, h _ _ q⟩
theorem putK_new {kvs : List (Key × V)} {k : Key} {v : V} (h : ∀ kv ∈ kvs, kv.1 ≠ k) : putK kvs k v = kvs ++ [(k, v)] := by
  unfold putK
  rw [if_neg]
  intro z
  obtain ⟨kv, hk, e⟩ := List.any_eq_true.mp z
  exact h kv hk (of_decide_eq_true e)
theorem merge_room (d r : Addr) : mergeK [] [(.inr "known", .ref d), (.inr "rows", .ref r)] = [(.inr "known", .ref d), (.inr "rows", .ref r)] := by
  show putK (putK ([] : List (Key × V)) (.inr "known") (.ref d)) (.inr "rows") (.ref r) = _
  rw [putK_new (kvs := []) (fun kv z => by cases z), putK_new]
  · rfl
  · intro kv z
    have z' : kv = (.inr "known", .ref d) := by simpa using z
    rw [z']
    show (Sum.inr _ : Key) ≠ _
    decide +kernel
theorem val_merge (ps : List (Str × Int)) (x : Str) : valV (mergeK [] (ps.map fun y => ((Sum.inr y.1 : Key), V.int y.2))) (.inr x) = (knZ ps x).map V.int := by
  have gen : ∀ (l : List (Str × Int)) (acc : List (Key × V)) (kn : Kn), (∀ x, valV acc (.inr x) = (kn x).map V.int) → ∀ x, valV (mergeK acc (l.map fun y => ((Sum.inr y.1 : Key), V.int y.2))) (.inr x) = (l.foldl (fun k p => kput k p.1 p.2) kn x).map V.int := by
    intro l
    induction l with
    | nil => exact fun acc kn h => h
    | cons y r ih => exact fun acc kn h => ih _ _ (val_put h)
  exact gen ps [] _ (fun x => rfl) x
end

/-! dict(zip(t, l)), t a tuple of texts, l a list: own rule -/
namespace ZipM
open PySem PySem.Spec PyProof.Rows L2
section
variable {prog : Program} {w : World} {A : Around} {E : Value → Shared → Prop} {s : Shared} {z TI TO T i1 i2 : Addr} {fp1 fp2 : List Addr} {n1 n2 i : Nat} {P1 P2 : Nat → Value → Prop} {St1 St2 : Nat → Heap → Prop} {f : Bool} {oT : Obj}
theorem item_held {Q : Value → Shared → Prop} (S : ZipSep2 z TI TO i1 i2 fp1 fp2) (D1 : Draws prog w A i1 fp1 n1 P1 St1) (D2 : Draws prog w A i2 fp2 n2 P2 St2)
    (hz : IsZipHeld s.heap z TI TO T f) (hT : s.heap.get? T = some oT) (hTI : IsPair s.heap TI (.ref i1) (.ref i2)) (st1 : St1 i s.heap) (st2 : St2 i s.heap) (hlt1 : i < n1) (hlt2 : i < n2)
    (hQ : ∀ x1 x2 h' tk, P1 i x1 → P2 i x2 → IsZipHeld h' z TI TO T true → St1 (i + 1) h' → St2 (i + 1) h' → IsPair h' s.heap.objs.size x1 x2 → h'.objs.size = s.heap.objs.size + 1 →
      (∀ c o, c ≠ z → c ≠ i1 → c ≠ i2 → s.heap.get? c = some o → h'.get? c = some o) → Q (.ref s.heap.objs.size) { s with heap := h', toks := tk }) :
    wpAny (model prog w) A (Builtin.«zip.__next__» ⟨[.ref z], []⟩) (fun fin s' => ∃ v, fin = .done (.ret v) ∧ Q v s') E s := by
  obtain ⟨hp, g, d, tk0, os⟩ := s
  show wpAny _ _ (field (.ref z) 2 >>= _) _ _ _
  refine wpAny_bind (wpAny_field hz rfl (x := .bool false) rfl ?_)
  show wpAny _ _ (field (.ref z) 3 >>= _) _ _ _
  refine wpAny_bind (wpAny_field hz rfl (x := .ref TI) rfl ?_)
  refine wpAny_bind (wpAny_seqItems hTI rfl ?_)
  show wpAny _ _ (Builtin.SmallTypes.ownedTupleIsFree (.ref z) >>= _) _ _ _
  refine wpAny_bind (wpAny_tupleHeld_zip hz hT fun g0 hz0 hs0 => ?_)
  replace hs0 : Heap.SameBut z hp g0 := hs0
  simp only [Bool.false_eq_true, if_false]
  refine wpAny_bind ?_
  rw [← Array.forIn_toList]
  simp only [List.forIn_cons, List.forIn_nil]
  refine wpAny_bind (wpAny_bind (wpAny_holding ?_))
  show wpAny _ _ (Builtin.SmallTypes.nextOf (.ref i1) >>= _) _ _ ⟨g0, g, d, tk0, os⟩
  refine wpAny_bind (D1.item i _ _ _ hlt1 (D1.over st1 hs0 S.zf1) fun x1 p1 tk1 hx1 sn1 hp1 => wpAny_pure ?_)
  replace hp1 : Heap.SameBut i1 g0 p1 := hp1
  refine wpAny_pure ?_
  refine wpAny_bind (wpAny_bind (wpAny_holding ?_))
  show wpAny _ _ (Builtin.SmallTypes.nextOf (.ref i2) >>= _) _ _ ⟨p1, g, d, tk1, os⟩
  refine wpAny_bind (D2.item i _ _ _ hlt2 (D2.over (D2.over st2 hs0 S.zf2) hp1 S.sep1_2) fun x2 p2 tk2 hx2 sn2 hp2 => wpAny_pure ?_)
  replace hp2 : Heap.SameBut i2 p1 p2 := hp2
  refine wpAny_pure (wpAny_pure ?_)
  show wpAny _ _ (newTuple [x1, x2] >>= _) _ _ ⟨p2, g, d, tk2, os⟩
  refine wpAny_bind (wpAny_newTuple ?_)
  have hsz : p2.objs.size = hp.objs.size := by rw [hp2.1, hp1.1, hs0.1]
  have hzz : IsZipHeld p2 z TI TO T true := hp2.extBut _ _ S.zi2 (hp1.extBut _ _ S.zi1 hz0)
  have hkk : ∀ c o, c ≠ z → c ≠ i1 → c ≠ i2 → hp.get? c = some o → p2.get? c = some o := fun c o cz c1 c2 e => hp2.extBut _ _ c2 (hp1.extBut _ _ c1 (hs0.extBut _ _ cz e))
  have hj1 : St1 (i + 1) p2 := D1.over sn1 hp2 S.sep2_1
  refine wpAny_pure ⟨_, rfl, ?_⟩
  show Q (.ref p2.objs.size) _
  have hP : IsPair (p2.push { cls := .type "tuple", data := .seq #[x1, x2] }) p2.objs.size x1 x2 := Heap.get?_push_size _ rfl
  have hz4 : (p2.push { cls := .type "tuple", data := .seq #[x1, x2] }).objs.size = p2.objs.size + 1 := Heap.size_push ..
  rw [hsz] at hP hz4 ⊢
  exact hQ x1 x2 _ tk2 hx1 hx2 (Heap.get?_push_of_some _ hzz) (D1.frame _ _ _ hj1 fun b hb o e => Heap.get?_push_of_some _ e) (D2.frame _ _ _ sn2 fun b hb o e => Heap.get?_push_of_some _ e) hP hz4 fun c o cz c1 c2 e => Heap.get?_push_of_some _ (hkk c o cz c1 c2 e)
theorem end_held {Q : Fin → Shared → Prop} (S : ZipSep2 z TI TO i1 i2 fp1 fp2) (D1 : Draws prog w A i1 fp1 n1 P1 St1) (D2 : Draws prog w A i2 fp2 n2 P2 St2)
    (hz : IsZipHeld s.heap z TI TO T f) (hT : s.heap.get? T = some oT) (hTI : IsPair s.heap TI (.ref i1) (.ref i2)) (st1 : St1 i s.heap) (st2 : St2 i s.heap) (hle1 : i ≤ n1) (hle2 : i ≤ n2) (hend : i = n1 ∨ i = n2)
    (hE : ∀ h' tk e, (∀ c o, c ≠ z → c ≠ i1 → c ≠ i2 → s.heap.get? c = some o → h'.get? c = some o) → (∃ o, h'.get? e = some o ∧ o.cls = .type "StopIteration") → E (.ref e) { s with heap := h', toks := tk }) :
    wpAny (model prog w) A (Builtin.«zip.__next__» ⟨[.ref z], []⟩) Q E s := by
  obtain ⟨hp, g, d, tk0, os⟩ := s
  show wpAny _ _ (field (.ref z) 2 >>= _) _ _ _
  refine wpAny_bind (wpAny_field hz rfl (x := .bool false) rfl ?_)
  show wpAny _ _ (field (.ref z) 3 >>= _) _ _ _
  refine wpAny_bind (wpAny_field hz rfl (x := .ref TI) rfl ?_)
  refine wpAny_bind (wpAny_seqItems hTI rfl ?_)
  show wpAny _ _ (Builtin.SmallTypes.ownedTupleIsFree (.ref z) >>= _) _ _ _
  refine wpAny_bind (wpAny_tupleHeld_zip hz hT fun g0 hz0 hs0 => ?_)
  replace hs0 : Heap.SameBut z hp g0 := hs0
  simp only [Bool.false_eq_true, if_false]
  refine wpAny_bind ?_
  rw [← Array.forIn_toList]
  simp only [List.forIn_cons, List.forIn_nil]
  refine wpAny_bind (wpAny_bind (wpAny_holding ?_))
  show wpAny _ _ (Builtin.SmallTypes.nextOf (.ref i1) >>= _) _ _ ⟨g0, g, d, tk0, os⟩
  by_cases hlt1 : i < n1
  · refine wpAny_bind (D1.item i _ _ _ hlt1 (D1.over st1 hs0 S.zf1) fun x1 p1 tk1 hx1 sn1 hp1 => wpAny_pure ?_)
    replace hp1 : Heap.SameBut i1 g0 p1 := hp1
    have hi2 : i = n2 := by omega
    refine wpAny_pure ?_
    refine wpAny_bind (wpAny_bind (wpAny_holding ?_))
    show wpAny _ _ (Builtin.SmallTypes.nextOf (.ref i2) >>= _) _ _ ⟨p1, g, d, tk1, os⟩
    refine wpAny_bind (D2.done ⟨p1, g, d, tk1, os⟩ _ _ (by rw [← hi2]; exact (D2.over (D2.over st2 hs0 S.zf2) hp1 S.sep1_2)) fun q e hq he => ?_)
    replace hq : Heap.ExtBut i2 p1 q := hq
    exact hE q tk1 e (fun c o cz c1 c2 x => hq _ _ c2 (hp1.extBut _ _ c1 (hs0.extBut _ _ cz x))) he
  · have hi1 : i = n1 := by omega
    refine wpAny_bind (D1.done ⟨g0, g, d, tk0, os⟩ _ _ (by rw [← hi1]; exact (D1.over st1 hs0 S.zf1)) fun q e hq he => ?_)
    replace hq : Heap.ExtBut i1 g0 q := hq
    exact hE q tk0 e (fun c o cz c1 c2 x => hq _ _ c1 (hs0.extBut _ _ cz x)) he
theorem next_item_held {Q : Option Value → Shared → Prop} (S : ZipSep2 z TI TO i1 i2 fp1 fp2) (D1 : Draws prog w A.in1 i1 fp1 n1 P1 St1) (D2 : Draws prog w A.in1 i2 fp2 n2 P2 St2)
    (hz : IsZipHeld s.heap z TI TO T f) (hT : s.heap.get? T = some oT) (hTI : IsPair s.heap TI (.ref i1) (.ref i2)) (st1 : St1 i s.heap) (st2 : St2 i s.heap) (hlt1 : i < n1) (hlt2 : i < n2)
    (hQ : ∀ x1 x2 h' tk, P1 i x1 → P2 i x2 → IsZipHeld h' z TI TO T true → St1 (i + 1) h' → St2 (i + 1) h' → IsPair h' s.heap.objs.size x1 x2 → h'.objs.size = s.heap.objs.size + 1 →
      (∀ c o, c ≠ z → c ≠ i1 → c ≠ i2 → s.heap.get? c = some o → h'.get? c = some o) → Q (some (.ref s.heap.objs.size)) { s with heap := h', toks := tk }) :
    wpAny (model prog w) A (pyNext (.ref z)) Q E s := by
  have hTy : s.TypeIs (.ref z) "zip" := ⟨_, hz, rfl⟩
  unfold pyNext
  exact wpAny_bind (wpAny_attempt (wpAny_callSpecial?_slot (name := Str.ofString "__next__") hTy F.slot_zip_next
    (wpAny_call_entry F.slot_zip_next hTy F.entry_zip_next
      (item_held S D1 D2 hz hT hTI st1 st2 hlt1 hlt2 fun x1 x2 h' tk y1 y2 b1 d1 d2 b5 b6 b7 => wpAny_pure (hQ x1 x2 h' tk y1 y2 b1 d1 d2 b5 b6 b7)) (F.args_zip_next_1 _))))
theorem next_end_held {Q : Option Value → Shared → Prop} (S : ZipSep2 z TI TO i1 i2 fp1 fp2) (D1 : Draws prog w A.in1 i1 fp1 n1 P1 St1) (D2 : Draws prog w A.in1 i2 fp2 n2 P2 St2)
    (hz : IsZipHeld s.heap z TI TO T f) (hT : s.heap.get? T = some oT) (hTI : IsPair s.heap TI (.ref i1) (.ref i2)) (st1 : St1 i s.heap) (st2 : St2 i s.heap) (hle1 : i ≤ n1) (hle2 : i ≤ n2) (hend : i = n1 ∨ i = n2)
    (hQ : ∀ h' tk, (∀ c o, c ≠ z → c ≠ i1 → c ≠ i2 → s.heap.get? c = some o → h'.get? c = some o) → Q none { s with heap := h', toks := tk }) : wpAny (model prog w) A (pyNext (.ref z)) Q E s := by
  have hTy : s.TypeIs (.ref z) "zip" := ⟨_, hz, rfl⟩
  unfold pyNext
  refine wpAny_bind (wpAny_attempt (wpAny_callSpecial?_slot (name := Str.ofString "__next__") hTy F.slot_zip_next
    (wpAny_call_entry F.slot_zip_next hTy F.entry_zip_next (end_held S D1 D2 hz hT hTI st1 st2 hle1 hle2 hend fun h' tk e hk he => ?_) (F.args_zip_next_1 _))))
  obtain ⟨o, ho, hc⟩ := he
  refine wpAny_bind (wpAny_isInstance (T := "StopIteration") (b := true) ⟨o, ho, hc⟩ isSubtype_stop ?_)
  exact wpAny_pure (hQ _ _ hk)
end
theorem pairArgT {prog : Program} {w : World} (z TI TO i1 i2 a b : Addr) (D : ZipApart z TI TO i1 i2 a b) (n1 : a ≠ i1) (n2 : b ≠ i2) (xs ys : Array Value) :
    PairArg prog w "zip" z [z, TI, TO, i1, i2, a, b] [z, TO, i1, i2] (min xs.size ys.size) (fun i k v => xs[i]? = some k ∧ ys[i]? = some v)
      (fun h => IsZip h z TI TO .none ∧ IsPair h TI (.ref i1) (.ref i2) ∧ (∃ x y, IsPair h TO x y) ∧ h.IsTupleIter i1 a 0 ∧ h.IsListIter i2 b 0 ∧ h.IsTuple a xs ∧ h.IsList b ys) where
  type := fun s ok => ⟨_, ok.1, rfl⟩
  notDict := by decide
  keep := fun h h' ok hk => by
    obtain ⟨hz, hTI, ⟨x, y, hTO⟩, h1, h2, hl1, hl2⟩ := ok
    exact ⟨hk _ _ hz, hk _ _ hTI, ⟨x, y, hk _ _ hTO⟩, h1.at fun o e => hk _ o e, h2.at fun o e => hk _ o e, hl1.at fun o e => hk _ o e, hl2.at fun o e => hk _ o e⟩
  there := fun h ok c hb => by
    obtain ⟨hz, hTI, ⟨x, y, hTO⟩, ⟨o1, h1, _⟩, ⟨o2, h2, _⟩, ⟨o3, hl1, _⟩, ⟨o4, hl2, _⟩⟩ := ok
    simp only [List.mem_cons, List.not_mem_nil, or_false] at hb
    rcases hb with rfl | rfl | rfl | rfl | rfl | rfl | rfl
    all_goals first | exact ⟨_, hz⟩ | exact ⟨_, hTI⟩ | exact ⟨_, hTO⟩ | exact ⟨_, h1⟩ | exact ⟨_, h2⟩ | exact ⟨_, hl1⟩ | exact ⟨_, hl2⟩
  sub := fun b hb => by simp at hb ⊢; rcases hb with rfl | rfl | rfl | rfl <;> simp
  noKeys := fun A s Q E hA ok h => getAttrOr_miss_zip ok.1 rfl rfl rfl zip_no_keys (by decide +kernel) hA h
  iter := fun A s d Q E hA ok hd hdf h => by
    obtain ⟨hz, hTI, ⟨x, y, hTO⟩, h1, h2, hl1, hl2⟩ := ok
    simp only [List.mem_cons, List.not_mem_nil, or_false, not_or] at hdf
    obtain ⟨dz, dTI, dTO, di1, di2, dl1, dl2⟩ := hdf
    have S := sep_of D
    have D1 : Draws prog w A.in1 i1 _ _ _ _ := Draws.tuple (A := A.in1) hA i1 a n1 xs
    have D2 : Draws prog w A.in1 i2 _ _ _ _ := Draws.list (A := A.in1) hA i2 b n2 ys
    refine wpAny_pyIter_zip hz (h z [z, TO, i1, i2] (fun i h => IsPair h TI (.ref i1) (.ref i2) ∧ (h.IsTupleIter i1 a i ∧ h.IsTuple a xs) ∧ (h.IsListIter i2 b i ∧ h.IsList b ys) ∧
      ((IsZip h z TI TO .none ∧ ∃ a b, IsPair h TO a b) ∨ ∃ T f oT, IsZipHeld h z TI TO T f ∧ h.get? T = some oT ∧ T ≠ z ∧ T ≠ i1 ∧ T ≠ i2 ∧ T ≠ d)) s.heap s.toks ?_
      ⟨hTI, ⟨h1, hl1⟩, ⟨h2, hl2⟩, .inl ⟨hz, x, y, hTO⟩⟩ (fun _ _ e => e) fun b hb => .inl hb)
    exact {
      off := fun hm => by
        simp only [List.mem_cons, List.not_mem_nil, or_false] at hm
        rcases hm with e | e | e | e
        · exact dz e
        · exact dTO e
        · exact di1 e
        · exact di2 e
      frame := fun i h₁ h₂ st hk => by
        obtain ⟨hTI, ⟨h1, hl1⟩, ⟨h2, hl2⟩, hz⟩ := st
        refine ⟨hk _ _ (Ne.symm dTI) hTI, ⟨h1.at fun o e => hk _ o (Ne.symm di1) e, hl1.at fun o e => hk _ o (Ne.symm dl1) e⟩, ⟨h2.at fun o e => hk _ o (Ne.symm di2) e, hl2.at fun o e => hk _ o (Ne.symm dl2) e⟩, ?_⟩
        rcases hz with ⟨hz, a, b, hTO⟩ | ⟨T, f, oT, hz, hT, r1, r2, r3, r4⟩
        · exact .inl ⟨hk _ _ (Ne.symm dz) hz, a, b, hk _ _ (Ne.symm dTO) hTO⟩
        · exact .inr ⟨T, f, oT, hk _ _ (Ne.symm dz) hz, hk _ _ r4 hT, r1, r2, r3, r4⟩
      item := fun i s₁ Q₁ E₁ hi st hds hQ => by
        obtain ⟨hTI, st1, st2, hz⟩ := st
        have hix : i < xs.size := Nat.lt_of_lt_of_le hi (Nat.min_le_left ..)
        have hiy : i < ys.size := Nat.lt_of_lt_of_le hi (Nat.min_le_right ..)
        have lt : ∀ {c o}, s₁.heap.get? c = some o → s₁.heap.objs.size ≠ c := fun e => Nat.ne_of_gt (Heap.lt_size e)
        have m1 : s₁.heap.objs.size ≠ i1 := let ⟨_, e, _⟩ := st1.1; lt e
        have m2 : s₁.heap.objs.size ≠ i2 := let ⟨_, e, _⟩ := st2.1; lt e
        rcases hz with ⟨hz, a, b, hTO⟩ | ⟨T, f, oT, hz, hT, r1, r2, r3, r4⟩
        · refine wpAny_pyNext_zipD2_item S D1 D2 hz hTI hTO st1 st2 hix hiy fun x1 x2 h' tk y1 y2 a1 a2 a3 a4 a5 a6 hk => ?_
          exact hQ s₁.heap.objs.size _ _ h' tk ⟨y1, y2⟩ (.inl ⟨_, a5, rfl, _, rfl⟩)
            ⟨hk _ _ S.TIz S.TITO S.TIi1 S.TIi2 hTI, a3, a4, .inr ⟨s₁.heap.objs.size, false, _, a1, a5, lt hz, m1, m2, Nat.ne_of_gt hds⟩⟩
            fun c o hc e => hk c o (fun x => hc (by simp [x])) (fun x => hc (by simp [x])) (fun x => hc (by simp [x])) (fun x => hc (by simp [x])) e
        · refine next_item_held S D1 D2 hz hT hTI st1 st2 hix hiy fun x1 x2 h' tk y1 y2 a1 a3 a4 a5 a6 hk => ?_
          exact hQ s₁.heap.objs.size _ _ h' tk ⟨y1, y2⟩ (.inl ⟨_, a5, rfl, _, rfl⟩)
            ⟨hk _ _ S.TIz S.TIi1 S.TIi2 hTI, a3, a4, .inr ⟨T, true, oT, a1, hk _ _ r1 r2 r3 hT, r1, r2, r3, r4⟩⟩
            fun c o hc e => hk c o (fun x => hc (by simp [x])) (fun x => hc (by simp [x])) (fun x => hc (by simp [x])) e
      done := fun s₁ Q₁ E₁ st hQ => by
        obtain ⟨hTI, st1, st2, hz⟩ := st
        have hend : min xs.size ys.size = xs.size ∨ min xs.size ys.size = ys.size := by omega
        rcases hz with ⟨hz, a, b, hTO⟩ | ⟨T, f, oT, hz, hT, r1, r2, r3, r4⟩
        · exact wpAny_pyNext_zipD2_end S D1 D2 hz hTI hTO st1 st2 (Nat.min_le_left ..) (Nat.min_le_right ..) hend fun h' tk hk => hQ h' tk fun c o hc e => hk c o (fun x => hc (by simp [x])) (fun x => hc (by simp [x])) (fun x => hc (by simp [x])) (fun x => hc (by simp [x])) e
        · exact next_end_held S D1 D2 hz hT hTI st1 st2 (Nat.min_le_left ..) (Nat.min_le_right ..) hend fun h' tk hk => hQ h' tk fun c o hc e => hk c o (fun x => hc (by simp [x])) (fun x => hc (by simp [x])) (fun x => hc (by simp [x])) e }
def tDictZip (K : PySem.W.Frag) (ta : TA) : TE := fun σ H Q => ta σ H fun vs H1 => ∃ (a b : Addr) (kvs : List (Str × V)), vs = [.ref a, .ref b] ∧ SqT K H1 a (kvs.map fun x => V.str x.1) ∧ SqL K H1 b (kvs.map (·.2)) ∧ kvs.length ≤ 1000 ∧ ∀ p, H1 p = none → Q (.ref p) (upd H1 p (.dK (mergeK [] (kvs.map fun x => (Sum.inr x.1, x.2)))))
theorem kv_strs : ∀ {kvs : List (Str × V)} {us ws : List Value}, Vals (kvs.map fun x => V.str x.1) us → Vals (kvs.map (·.2)) ws → ∃ prs : List (Key × Value), prs.length = kvs.length ∧ KV (kvs.map fun x => ((Sum.inr x.1 : Key), x.2)) prs ∧ us.length = kvs.length ∧ ws.length = kvs.length ∧ ∀ (i : Nat) (k v : Value), us[i]? = some k → ws[i]? = some v → ∃ k', prs[i]? = some (k', v) ∧ keyIs k' k = true
  | [], us, ws, h1, h2 => by
    cases h1
    cases h2
    exact ⟨[], rfl, .nil, rfl, rfl, fun i k v h => by cases h⟩
  | x :: r, _, _, .cons (b := u) h1 t1, .cons (b := v) h2 t2 => by
    obtain ⟨prs, l, kv, a1, a2, f⟩ := kv_strs t1 t2
    obtain ⟨t, rfl⟩ := h1
    refine ⟨(.inr x.1, v) :: prs, by rw [List.length_cons, l, List.length_cons], .cons ⟨rfl, h2⟩ kv, by rw [List.length_cons, a1, List.length_cons], by rw [List.length_cons, a2, List.length_cons], fun i k v' hk hv => ?_⟩
    cases i with
    | zero => cases hk; cases hv; exact ⟨_, rfl, keyIs_str _ _⟩
    | succ i => exact f i k v' hk hv
theorem pe_dictzip {X : Cx} {e e2 : Expr} {ta : TA} {p p2 pos pos2 : Pos} (hc : X.calm = true) (hg : Gl X "dict") (hm : X.mg "dict" = none) (hg2 : Gl X "zip") (hm2 : X.mg "zip" = none) (ha : PA X [e, e2] ta)
    (hs : starEach [e, e2] X.env = (false, eval e X.env) :: starEach [e2] X.env := by rfl) (hpl : (backTo pos2 (starEach [e2] X.env)).any (·.1) = false := by rfl)
    (hs2 : starEach [.Call (.Name "zip" p2) [e, e2] [] pos2] X.env = (false, eval (.Call (.Name "zip" p2) [e, e2] [] pos2) X.env) :: starEach [] X.env := by rfl) :
    PE X (.Call (.Name "dict" p) [.Call (.Name "zip" p2) [e, e2] [] pos2] [] pos) (tDictZip X.K ta) := by
  refine ⟨fun pins s σ H Q I h => ?_⟩
  refine Call_ (ld_blt I hg hm (PyProof.Rows.boot_dict) (PyProof.Rows.callWith_type1 (args_cons (Call_ (ld_blt I hg2 hm2 PyProof.Rows.boot_zip (PyProof.Rows.callWith_type1 (thn (ha.run pos2 pins s σ H _ I h) fun us s1 ⟨vs, H1, I1, r1, q1⟩ => ?_) hs hpl))) hs2) hs2 rfl))
  obtain ⟨a, b, kvs, ex, hqx, hqy, lz, q⟩ := q1
  subst ex
  cases r1 with
  | cons r rr =>
    cases rr with
    | cons r' rr =>
      cases rr
      cases r
      cases r'
      obtain ⟨its, rv, p1, _⟩ := I1.tuple hqx
      obtain ⟨its2, rv2, p2', _⟩ := I1.list hqy
      obtain ⟨prs, lp, kv, la, lb, hf⟩ := kv_strs rv rv2
      obtain ⟨o1, ho1, _⟩ := id p1
      have lt1 := Heap.lt_size ho1
      have lt2 := p2'.lt
      refine zip_begins2 (begins_tuple a its.toArray) (begins_list b its2.toArray) p1 p2'.isList fun h' hz hTI hTO h1 h2 hsz hk => args_nil ?_
      have I2 : Inv X pins σ H1 { s1 with heap := h' } := I1.kept (t' := s1.toks) hk
      have hm : (h'.objs.size == sysModules) = false := beq_eq_false_iff_ne.mpr (Nat.ne_of_gt I2.big)
      have hn : min its.toArray.size its2.toArray.size = kvs.length := by rw [List.size_toArray, List.size_toArray, la, lb, Nat.min_self]
      refine PySem.call_dict_pairs (knd := mixKind X.prog X.w) (kvs := prs) (pairArgT _ _ _ _ _ a b (PySem.W.ktu_apart s1.heap.objs.size a b lt1 lt2) (Nat.ne_of_lt lt1) (Nat.ne_of_lt (Nat.lt_succ_of_lt lt2)) its.toArray its2.toArray) (I.ok.hd hc)
        ⟨hz, hTI, ⟨_, _, hTO⟩, ⟨_, h1, rfl, rfl⟩, ⟨_, h2, rfl, rfl⟩, (show s1.heap.IsTuple a its.toArray from p1).at fun o e => hk _ o e, p2'.isList.at fun o e => hk _ o e⟩ ⟨by rw [hn, lp], fun i k v z => hf i k v (by simpa using z.1) (by simpa using z.2)⟩ (by rw [hn, sizeLine_eq]; omega) fun h2' tk hd' hk' => ?_
      have fr : ∀ c, c ∈ [s1.heap.objs.size + 4, s1.heap.objs.size + 3, s1.heap.objs.size, s1.heap.objs.size + 1] → s1.heap.objs.size ≤ c := fun c hcm => by
        have e' : c = s1.heap.objs.size + 4 ∨ c = s1.heap.objs.size + 3 ∨ c = s1.heap.objs.size ∨ c = s1.heap.objs.size + 1 := by simpa using hcm
        rcases e' with z | z | z | z
        · rw [z]; exact Nat.le_add_right _ _
        · rw [z]; exact Nat.le_add_right _ _
        · rw [z]; exact Nat.le_refl _
        · rw [z]; exact Nat.le_add_right _ _
      have hk1 : ∀ c o, s1.heap.get? c = some o → h2'.get? c = some o := fun c o e => hk' c o (fun hcm => absurd (Heap.lt_size e) (Nat.not_lt_of_le (fr c hcm))) (hk c o e)
      have sz : s1.heap.objs.size ≤ h'.objs.size := by omega
      have hlen : (mergeK [] (kvs.map fun x => ((Sum.inr x.1 : Key), x.2))).length ≤ sizeLine := by
        have h1 := length_mergeK (kvs.map fun x => ((Sum.inr x.1 : Key), x.2)) []
        rw [List.length_map, List.length_nil] at h1
        rw [sizeLine_eq]
        omega
      exact ⟨.ref h'.objs.size, upd H1 h'.objs.size (.dK (mergeK [] (kvs.map fun x => ((Sum.inr x.1 : Key), x.2)))), I1.laid (t' := tk) hk1 sz (show ObjOk X.prog X.w _ _ _ (.dK _) from ⟨hlen, hm, merged [] prs, KV.merge kv .nil, hd'⟩), rfl, q _ (I1.hok.fresh sz)⟩
end ZipM

section
variable {P : Program} {w : World} {K : PySem.W.Frag} {mg : Str → Option Value} {base : Heap}
def selT : List V → List PyData → List V
  | x :: xs, d :: ds => if isT d then x :: selT xs ds else selT xs ds
  | _, _ => []
theorem selT_snoc : ∀ {xs : List V} {ds : List PyData} {x : V} {d : PyData}, xs.length = ds.length → selT (xs ++ [x]) (ds ++ [d]) = selT xs ds ++ (if isT d then [x] else [])
  | [], [], x, d, _ => by cases h : isT d <;> simp [selT, h]
  | a :: xs, b :: ds, x, d, h => by
    have ih := selT_snoc (x := x) (d := d) (show xs.length = ds.length from Nat.succ.inj h)
    rw [List.cons_append, List.cons_append, selT, selT, ih]
    cases isT b <;> rfl
theorem selT_len : ∀ (xs : List V) (ds : List PyData), (selT xs ds).length ≤ xs.length
  | [], _ => by simp [selT]
  | _ :: _, [] => by simp [selT]
  | _ :: xs, d :: ds => by
    have := selT_len xs ds
    rw [selT]
    cases isT d
    · exact Nat.le_succ_of_le this
    · exact Nat.succ_le_succ this
theorem isT_ex (e : Ex) : isT e.d = true := by cases e <;> rfl
theorem none_kp {S : Addr → Prop} {H H1 : Hp} {a : Addr} (k : Kp S H H1) (na : ¬ S a) (h : H1 a = none) : H a = none := by
  cases e : H a with
  | none => rfl
  | some o => rw [k a o e (fun z => absurd z na)] at h; cases h
theorem LStd.put {hs : Hs} {rs : List Str} {A : Adr} {h : Addr} {M N : Nat} {H : Hp} {s : PSt} {kvs : List (Key × V)} {x : Str} {v : Int} (k : LStd K hs rs A h M N H s) (e : H A.d = some (.dK kvs)) (l : kvs.length ≤ N - s.lf) (hv : ∀ x, valV kvs (.inr x) = (s.kn x).map V.int) (v32 : In32 v) (m6 : M < 6000) (n6 : N < 7000) :
    LStd K hs rs A h (M + 1) (N + 1) (upd H A.d (.dK (putK kvs (.inr x) (.int v)))) { s with kn := kput s.kn x v } := by
  have a := k.ap
  obtain ⟨rvs, er, hr⟩ := k.ro.rk
  have sz := k.sz
  have nz := k.nz
  refine ⟨⟨by rw [upd_ne k.pd]; exact k.ro.ob, ⟨_, upd_same, ?_, val_put hv⟩, ⟨rvs, by rw [upd_ne k.rd]; exact er, hr⟩, fun x hx => by rw [upd_ne (a.ad x hx)]; exact k.ro.rl x hx⟩, by rw [upd_ne k.dq.symm]; exact k.ob, by rw [upd_ne a.dt.symm]; exact k.tl, k.hk.kp (Kp.upd (S := fun z => z = A.d) e trivial rfl) k.hd, kn32_put k.k32 v32, k.r32, by show s.td.length + s.lf ≤ M + 1; omega, by show s.lf ≤ N + 1; omega, by omega, by omega, k.pq, k.pd, k.dq, k.rd, k.rq, k.hd, k.hq, k.rt, k.ri⟩
  have := length_putK kvs (.inr x) (.int v)
  show (putK kvs (.inr x) (.int v)).length ≤ N + 1 - s.lf
  omega
theorem LStd.say {hs : Hs} {rs : List Str} {A : Adr} {h : Addr} {M N : Nat} {H : Hp} {s : PSt} {v : Int} (k : LStd K hs rs A h M N H s) (m6 : M < 6000) (n6 : N < 7000) : LStd K hs rs A h (M + 1) (N + 1) (upd H A.t (.lst (s.td.map V.int ++ [.int v]))) { s with td := s.td ++ [v] } := by
  have a := k.ap
  obtain ⟨ep, ⟨kvs, ed, l, hv⟩, ⟨rvs, er, hr⟩, rl⟩ := k.ro
  have sz := k.sz
  have nz := k.nz
  refine ⟨⟨by rw [upd_ne a.pt]; exact ep, ⟨kvs, by rw [upd_ne a.dt]; exact ed, ?_, hv⟩, ⟨rvs, by rw [upd_ne a.rt]; exact er, hr⟩, fun x hx => by rw [upd_ne (k.rt x hx)]; exact rl x hx⟩, by rw [upd_ne a.qt]; exact k.ob, ?_, k.hk.kp (Kp.upd (S := fun z => z = A.t) k.tl trivial rfl) a.ht, k.k32, k.r32, ?_, by show s.lf ≤ N + 1; omega, by omega, by omega, k.pq, k.pd, k.dq, k.rd, k.rq, k.hd, k.hq, k.rt, k.ri⟩
  · show kvs.length ≤ N + 1 - s.lf
    omega
  · rw [upd_same]
    show _ = some (HO.lst ((s.td ++ [v]).map V.int))
    rw [List.map_append]
    rfl
  · show (s.td ++ [v]).length + s.lf ≤ M + 1
    rw [List.length_append, List.length_singleton]
    omega
theorem LStd.rput {hs : Hs} {rs : List Str} {A : Adr} {h : Addr} {M N : Nat} {H : Hp} {s : PSt} {x : Str} {i : Nat} {v : Int} (k : LStd K hs rs A h M N H s) (hx : x ∈ rs) (v32 : In32 v) : LStd K hs rs A h M N (upd H (A.ra x) (.lst (((s.rw x).map V.int).set i (.int v)))) { s with rw := rput s.rw x i v } := by
  have a := k.ap
  obtain ⟨ep, ⟨kvs, ed, l, hv⟩, ⟨rvs, er, hr⟩, rl⟩ := k.ro
  refine ⟨⟨by rw [upd_ne (a.ap x hx).symm]; exact ep, ⟨kvs, by rw [upd_ne (a.ad x hx).symm]; exact ed, l, hv⟩, ⟨rvs, by rw [upd_ne (a.ar x hx).symm]; exact er, hr⟩, fun y hy => ?_⟩, by rw [upd_ne (a.aq x hx).symm]; exact k.ob, by rw [upd_ne (k.rt x hx).symm]; exact k.tl, k.hk.kp (Kp.upd (S := fun z => z = A.ra x) (rl x hx) trivial rfl) (fun z => a.ah x hx z.symm), k.k32, rw32_put k.r32 v32, k.sz, k.nz, k.m6, k.n6, k.pq, k.pd, k.dq, k.rd, k.rq, k.hd, k.hq, k.rt, k.ri⟩
  show upd H (A.ra x) _ (A.ra y) = some (.lst ((if y = x then (s.rw x).set i v else s.rw y).map V.int))
  by_cases e : y = x
  · rw [e, if_pos rfl, upd_same, List.map_set]
  · rw [if_neg e, upd_ne (fun z => e (k.ri y hy x hx z))]
    exact rl y hy
theorem gv_dp {H : Hp} {p : Addr} {v : Int} : Dp K (upd H p (.tup [.str "gave", .int v])) (.ref p) (gvD v) := .tup (.inl (.inl upd_same)) (.cons (.str _) (.cons (.int _) .nil))
/-! the pieces of a statement -/
def pcs : Sm → List Ex
  | .give e => [e]
  | .tell e => [e]
  | .set _ e => [e]
  | .put _ e f => [e, f]
  | .ite e _ _ => [e]
  | .call _ _ es => es
  | _ => []
def plainS : Sm → Bool
  | .fail _ => false
  | .loop _ _ => false
  | _ => true
theorem plain_d {m : Sm} (h : plainS m = true) : ∃ (w0 : Str) (ds : List PyData), m.d = .tuple (.str w0 :: ds) ∧ w0 ≠ "fail" ∧ w0 ≠ "while" ∧ ds.length ≤ 3 ∧ (w0 = "if" ↔ ∃ e ys ns, m = .ite e ys ns) ∧ (w0 = "call" ↔ ∃ x h es, m = .call x h es) := by
  cases m with
  | fail n => cases h
  | loop e b => cases h
  | give e => exact ⟨_, _, by rw [Sm.d], by decide +kernel, by decide +kernel, by simp, ⟨fun z => absurd z (by decide +kernel), (fun ⟨_, _, _, z⟩ => by cases z)⟩, ⟨fun z => absurd z (by decide +kernel), (fun ⟨_, _, _, z⟩ => by cases z)⟩⟩
  | tell e => exact ⟨_, _, by rw [Sm.d], by decide +kernel, by decide +kernel, by simp, ⟨fun z => absurd z (by decide +kernel), (fun ⟨_, _, _, z⟩ => by cases z)⟩, ⟨fun z => absurd z (by decide +kernel), (fun ⟨_, _, _, z⟩ => by cases z)⟩⟩
  | set x e => exact ⟨_, _, by rw [Sm.d], by decide +kernel, by decide +kernel, by simp, ⟨fun z => absurd z (by decide +kernel), (fun ⟨_, _, _, z⟩ => by cases z)⟩, ⟨fun z => absurd z (by decide +kernel), (fun ⟨_, _, _, z⟩ => by cases z)⟩⟩
  | put r e f => exact ⟨_, _, by rw [Sm.d], by decide +kernel, by decide +kernel, by simp, ⟨fun z => absurd z (by decide +kernel), (fun ⟨_, _, _, z⟩ => by cases z)⟩, ⟨fun z => absurd z (by decide +kernel), (fun ⟨_, _, _, z⟩ => by cases z)⟩⟩
  | ite e ys ns => exact ⟨_, _, by rw [Sm.d], by decide +kernel, by decide +kernel, by simp, ⟨fun _ => ⟨_, _, _, rfl⟩, fun _ => rfl⟩, ⟨fun z => absurd z (by decide +kernel), (fun ⟨_, _, _, z⟩ => by cases z)⟩⟩
  | call x h es => exact ⟨_, _, by rw [Sm.d], by decide +kernel, by decide +kernel, by simp, ⟨fun z => absurd z (by decide +kernel), (fun ⟨_, _, _, z⟩ => by cases z)⟩, ⟨fun _ => ⟨_, _, _, rfl⟩, fun _ => rfl⟩⟩
theorem ex_isT (e : Ex) : isT e.d = true := isT_ex e
/-- what the first look picks -/
theorem sel_pcs {H : Hp} {m : Sm} {w0 : Str} {ds : List PyData} {zs : List V} (hp : plainS m = true) (hm : m.d = .tuple (.str w0 :: ds)) (h : DpAll K H zs ds) (n1 : w0 ≠ "if") (n2 : w0 ≠ "call") : DpAll K H (selT zs ds) ((pcs m).map Ex.d) := by
  cases m with
  | fail n => cases hp
  | loop e b => cases hp
  | give e =>
    rw [Sm.d] at hm
    cases hm
    obtain ⟨z1, r1, rfl, g1, h1⟩ := dpAll_cons h
    cases dpAll_nil h1
    rw [selT, ex_isT]
    exact .cons g1 .nil
  | tell e =>
    rw [Sm.d] at hm
    cases hm
    obtain ⟨z1, r1, rfl, g1, h1⟩ := dpAll_cons h
    cases dpAll_nil h1
    rw [selT, ex_isT]
    exact .cons g1 .nil
  | set x e =>
    rw [Sm.d] at hm
    cases hm
    obtain ⟨z1, r1, rfl, g1, h1⟩ := dpAll_cons h
    obtain ⟨z2, r2, rfl, g2, h2⟩ := dpAll_cons h1
    cases dpAll_nil h2
    rw [selT, selT, ex_isT]
    exact .cons g2 .nil
  | put r e f =>
    rw [Sm.d] at hm
    cases hm
    obtain ⟨z1, r1, rfl, g1, h1⟩ := dpAll_cons h
    obtain ⟨z2, r2, rfl, g2, h2⟩ := dpAll_cons h1
    obtain ⟨z3, r3, rfl, g3, h3⟩ := dpAll_cons h2
    cases dpAll_nil h3
    rw [selT, selT, selT, ex_isT, ex_isT]
    exact .cons g2 (.cons g3 .nil)
  | ite e ys ns => rw [Sm.d] at hm; cases hm; exact absurd rfl n1
  | call x g es => rw [Sm.d] at hm; cases hm; exact absurd rfl n2
theorem pcs_ok {hs : Hs} {n : Nat} {rs : List Str} {m : Sm} (h : Sm.ok hs (n + 1) rs m) (hp : plainS m = true) : (∀ e ∈ pcs m, e.ok rs) ∧ (pcs m).length ≤ 100 := by
  cases m with
  | fail n => cases hp
  | loop e b => cases hp
  | give e => exact ⟨fun x hx => by rw [List.mem_singleton.mp hx]; exact h, by simp [pcs]⟩
  | tell e => exact ⟨fun x hx => by rw [List.mem_singleton.mp hx]; exact h, by simp [pcs]⟩
  | set y e => exact ⟨fun x hx => by rw [List.mem_singleton.mp hx]; exact h, by simp [pcs]⟩
  | put r e f =>
    refine ⟨fun x hx => ?_, by simp [pcs]⟩
    rcases List.mem_cons.mp hx with rfl | hx
    · exact h.2.1
    · rw [List.mem_singleton.mp hx]; exact h.2.2
  | ite e ys ns => exact ⟨fun x hx => by rw [List.mem_singleton.mp hx]; exact h.1, by simp [pcs]⟩
  | call x g es => exact ⟨h.2.1, h.2.2.1⟩
theorem wxs_flt {hs : Hs} {F : Nat} {m : Sm} {s s' : PSt} {r : Rs} {f : Str} (hp : plainS m = true) (h : wxs (pcs m) s.kn s.rw = .error f) (hd : doOne hs (F + 1) m s = some (r, s')) : r = .flt f ∧ s' = s := by
  have one : ∀ {e : Ex}, wxs [e] s.kn s.rw = .error f → wx e s.kn s.rw = .error f := fun {e} h => by
    unfold wxs at h
    cases hw : wx e s.kn s.rw with
    | error g => rw [hw] at h; cases h; rfl
    | ok v => rw [hw] at h; cases h
  cases m with
  | fail n => cases hp
  | loop e b => cases hp
  | give e => rw [doOne, one h] at hd; cases hd; exact ⟨rfl, rfl⟩
  | tell e => rw [doOne, one h] at hd; cases hd; exact ⟨rfl, rfl⟩
  | set x e => rw [doOne, one h] at hd; cases hd; exact ⟨rfl, rfl⟩
  | ite e ys ns => rw [doOne, one h] at hd; cases hd; exact ⟨rfl, rfl⟩
  | put x e g =>
    have h : wxs [e, g] s.kn s.rw = .error f := h
    rw [wxs] at h
    rw [doOne] at hd
    cases hw : wx e s.kn s.rw with
    | error k => rw [hw] at h hd; cases h; cases hd; exact ⟨rfl, rfl⟩
    | ok p =>
      rw [hw] at h hd
      dsimp only at h hd
      cases hv : wxs [g] s.kn s.rw with
      | ok vs => rw [hv] at h; cases h
      | error k =>
        rw [hv] at h
        cases h
        rw [one hv] at hd
        cases hd
        exact ⟨rfl, rfl⟩
  | call x g es =>
    have h : wxs es s.kn s.rw = .error f := h
    rw [doOne] at hd
    cases hg : hs g with
    | none => rw [hg] at hd; cases hd
    | some pb =>
      rw [hg] at hd
      dsimp only at hd
      rw [h] at hd
      cases hd
      exact ⟨rfl, rfl⟩
theorem wxs_snoc {kn : Kn} {rw' : Rw} : ∀ {es : List Ex} {vs : List Int} {e : Ex} {v : Int}, wxs es kn rw' = .ok vs → wx e kn rw' = .ok v → wxs (es ++ [e]) kn rw' = .ok (vs ++ [v])
  | [], vs, e, v, h, he => by cases h; simp [wxs, he]
  | a :: r, vs, e, v, h, he => by
    rw [wxs] at h
    cases ha : wx a kn rw' with
    | error g => rw [ha] at h; cases h
    | ok u =>
      rw [ha] at h
      dsimp only at h
      cases hr : wxs r kn rw' with
      | error g => rw [hr] at h; cases h
      | ok us =>
        rw [hr] at h
        cases h
        rw [List.cons_append, wxs, ha]
        dsimp only
        rw [wxs_snoc hr he]
        rfl
theorem wxs_bad {kn : Kn} {rw' : Rw} : ∀ {es : List Ex} {vs : List Int} {e : Ex} {f : Str} {t : List Ex}, wxs es kn rw' = .ok vs → wx e kn rw' = .error f → wxs (es ++ e :: t) kn rw' = .error f
  | [], vs, e, f, t, h, he => by simp [wxs, he]
  | a :: r, vs, e, f, t, h, he => by
    rw [wxs] at h
    cases ha : wx a kn rw' with
    | error g => rw [ha] at h; cases h
    | ok u =>
      rw [ha] at h
      dsimp only at h
      cases hr : wxs r kn rw' with
      | error g => rw [hr] at h; cases h
      | ok us =>
        rw [List.cons_append, wxs, ha]
        dsimp only
        rw [wxs_bad hr he]
theorem wxs_len {kn : Kn} {rw' : Rw} : ∀ {es : List Ex} {vs : List Int}, wxs es kn rw' = .ok vs → vs.length = es.length
  | [], vs, h => by cases h; rfl
  | a :: r, vs, h => by
    rw [wxs] at h
    cases ha : wx a kn rw' with
    | error g => rw [ha] at h; cases h
    | ok u =>
      rw [ha] at h
      dsimp only at h
      cases hr : wxs r kn rw' with
      | error g => rw [hr] at h; cases h
      | ok us => rw [hr] at h; cases h; rw [List.length_cons, wxs_len hr, List.length_cons]
theorem wxs_one {kn : Kn} {rw' : Rw} {e : Ex} {vs : List Int} (h : wxs [e] kn rw' = .ok vs) : ∃ v, vs = [v] ∧ wx e kn rw' = .ok v := by
  rw [wxs] at h
  cases ha : wx e kn rw' with
  | error g => rw [ha] at h; cases h
  | ok u => rw [ha] at h; cases h; exact ⟨u, rfl, rfl⟩
theorem wxs_32 {kn : Kn} {rw' : Rw} {rs : List Str} (hk : Kn32 kn) (hr : Rw32 rw') : ∀ {es : List Ex} {vs : List Int}, (∀ e ∈ es, e.ok rs) → wxs es kn rw' = .ok vs → ∀ v ∈ vs, In32 v
  | [], vs, _, h, v, hv => by cases h; cases hv
  | a :: r, vs, ok, h, v, hv => by
    rw [wxs] at h
    cases ha : wx a kn rw' with
    | error g => rw [ha] at h; cases h
    | ok u =>
      rw [ha] at h
      dsimp only at h
      cases hb : wxs r kn rw' with
      | error g => rw [hb] at h; cases h
      | ok us =>
        rw [hb] at h
        cases h
        rcases List.mem_cons.mp hv with rfl | hv
        · exact wx_32 hk hr (ok a (List.mem_cons_self ..)).2 ha
        · exact wxs_32 hk hr (fun e he => ok e (List.mem_cons_of_mem _ he)) hb v hv
theorem at_last {xs : List V} {x : V} : atI (xs ++ [x]) (-1) = some x := by
  have hl : (xs ++ [x]).length = xs.length + 1 := by rw [List.length_append, List.length_singleton]
  have hi : ixN (xs.length + 1) (-1) = some xs.length := by
    unfold ixN
    rw [if_neg (by decide), if_pos (by omega)]
    exact congrArg some (by omega)
  unfold atI
  rw [hl, hi]
  simp
theorem LStd.back {hs : Hs} {rs : List Str} {A B : Adr} {h : Addr} {M N N' : Nat} {H H3 H4 : Hp} {s s1 : PSt} (k : LStd K hs rs B h M N H s) (s3 : Same H H3) (k4 : Kp (SA [] { A with q := B.q, t := B.t }) H3 H4) (nd : H A.d = none) (st4 : LStd K hs [] { A with q := B.q, t := B.t } h M N' H4 s1) (l1 : s1.lf ≤ s.lf) :
    Kp (SA rs B) H H4 ∧ LStd K hs rs B h M N H4 { s with lf := s1.lf, td := s1.td } := by
  have a := k.ap
  have kk : ∀ {c : Addr} {o : HO}, H c = some o → c ≠ B.q → c ≠ B.t → H4 c = some o := fun {c o} e h1 h2 => k4 c o (s3 c o e) (fun z => by
    rcases z with z | z | z | ⟨x, hx, _⟩
    · have : H c = none := by rw [z]; exact nd
      rw [this] at e; cases e
    · exact absurd z h1
    · exact absurd z h2
    · cases hx)
  refine ⟨fun c o e hk => k4 c o (s3 c o e) (fun z => hk (by
    rcases z with z | z | z | ⟨x, hx, _⟩
    · have : H c = none := by rw [z]; exact nd
      rw [this] at e; cases e
    · exact .inr (.inl z)
    · exact .inr (.inr (.inl z))
    · cases hx)), ?_⟩
  obtain ⟨e1, ⟨kvs, e2, l2, hv⟩, ⟨rvs, e5, v5⟩, e6⟩ := k.ro
  have nz := k.nz
  refine ⟨⟨kk e1 k.pq a.pt, ⟨kvs, kk e2 k.dq a.dt, ?_, hv⟩, ⟨rvs, kk e5 k.rq a.rt, v5⟩, fun x hx => kk (e6 x hx) (a.aq x hx) (k.rt x hx)⟩, st4.ob, st4.tl, st4.hk, k.k32, k.r32, st4.sz, ?_, k.m6, k.n6, k.pq, k.pd, k.dq, k.rd, k.rq, k.hd, k.hq, k.rt, k.ri⟩
  · show kvs.length ≤ N - s1.lf
    omega
  · show s1.lf ≤ N
    omega
def sp_lcalled (K : PySem.W.Frag) (n : Nat) : Sp := fun vs H Q _ => ∃ (hs : Hs) (rs : List Str) (A : Adr) (h W : Addr) (M N : Nat) (s s' : PSt) (v : V) (x g : Str) (es : List Ex) (ws : List Int) (r : Rs) (F : Nat), vs = [v, .ref W, .ref A.p, .ref A.q] ∧ LStd K hs rs A h M N H s ∧ Dp K H v (Sm.call x g es).d ∧ SqL K H W (ws.map V.int) ∧ wxs es s.kn s.rw = .ok ws ∧ (Sm.call x g es).ok hs (n + 1) rs ∧ doOne hs (F + 1) (Sm.call x g es) s = some (r, s') ∧ M < 6000 ∧ N < 7000 ∧ LPost K hs rs A h (M + 1) (N + 1) H s' Q r
theorem ok_lcalled (T : Top K mg) (n k : Nat) (hk : 11 ≤ k) (G__law_done : FnOk P w K mg base CX0 k (He.ga K "_law_done") T.fd__law_done ["_law_body", "_law_room", "_law_play"] (sp_ldone K n)) : FnOk P w K mg base CX0 (k + 1) (He.ga K "_law_called") T.fd__law_called ["_law_s", "_law_worths", "_law_room", "_law_play"] (sp_lcalled K n) := by
  refine T.F__law_called.ok sc__law_called (fun vs H Q E h => ?_) (fun cdv A outer s H vs Q E hr h => ?_)
  · obtain ⟨hs, rs, A, h, W, M, N, s, s', v, x, g, es, ws, r, F, rfl, _⟩ := h
    rfl
  · obtain ⟨hs, rs, B, hh, W, M, N, s, s', v, x, g, es, vs, r, F, rfl, st, dp, hW, hw, ok, hd, m6, n6, po⟩ := h
    refine ⟨_, PSs.nox (pss_cons (ps_asg (pe_dget (hu_of hr) (pe_dget (hu_of hr) (pv 3) pe_str (fun _ _ => rfl)) (pe_ix ix_tup (pv 0) pe_int (fun _ _ => rfl)) (fun _ _ => rfl)) (pg_tup (n := 2) (by rfl) (pgs_cons (pg_name (i := 4) sc__law_called.nd rfl (Or.inl rfl)) (pgs_cons (pg_name (i := 5) sc__law_called.nd rfl (Or.inl rfl)) pgs_nil))))
        (pss_cons (ps_set (i := 6) sc__law_called.nd rfl (Or.inl rfl) (pe_orT (pe_call G__law_done (hr.mono (by omega)) (by rfl) T.g__law_done T.F__law_done.kp T.b__law_done .nil pass0 (pa_cons (pv 5) (pa_cons (pe_disp (pps_cons pe_str (ZipM.pe_dictzip rfl (by rfl) T.m_dict (by rfl) T.m_zip (pa_cons (pv 4) (pa_cons (pv 1) pa_nil))) (pps_cons pe_str pe_dnewK pps_nil)) (by rfl) (by rfl) (fun z => by cases z) (by decide)) (pa_cons (pv 3) pa_nil)))) (pe_one (pe_tup (pa_cons pe_str (pa_cons pe_int pa_nil))))))
        (pss_cons (ps_if (pt_cmpR op_ne (pe_ix ix_tup (pv 6) pe_int (fun _ _ => rfl)) pe_str (nomark _)) (pss_one (ps_ret (pv 6))) pss_nil)
        (pss_cons (ps_dput (hu_of hr) (pe_dget (hu_of hr) (pv 2) pe_str (fun _ _ => rfl)) (pe_ix ix_tup (pv 0) pe_int (fun _ _ => rfl)) (pe_ix ix_tup (pv 6) pe_int (fun _ _ => rfl)) (by rfl))
        (pss_one (ps_ret pe_non)))))), ?_⟩
    obtain ⟨_, okE, l100, pr, bdy, hh1, lpe, okB⟩ := ok
    obtain ⟨p0, xs, rfl, hp, da⟩ := dp_tup dp
    obtain ⟨x0, r0, rfl, d0, e0⟩ := dpAll_cons da
    obtain ⟨x1, r1, rfl, d1, e1⟩ := dpAll_cons e0
    obtain ⟨x2, r2, rfl, d2, e2⟩ := dpAll_cons e1
    cases dp_str d0
    cases dp_str d1
    cases dp_str d2
    have v32 := wxs_32 st.k32 st.r32 okE hw
    have lv := wxs_len hw
    rw [doOne] at hd
    rw [hh1] at hd
    dsimp only at hd
    rw [hw] at hd
    dsimp only at hd
    obtain ⟨hvs, ehv, fhv⟩ := st.hk
    obtain ⟨u, hu, du⟩ := fhv g (pr, bdy) hh1
    obtain ⟨pu, us, rfl, hpu, dus⟩ := dp_tup du
    obtain ⟨y0, w0, rfl, g0, f0⟩ := dpAll_cons dus
    obtain ⟨y1, w1, rfl, g1, f1⟩ := dpAll_cons f0
    cases dpAll_nil f1
    obtain ⟨pp, us0, rfl, hpp, dpp⟩ := dp_tup g0
    have hd0 : DGet H hh (.str g) (some (.ref pu)) := by
      have := DGet.k (k := .inr g) ehv
      rw [hu] at this
      exact this
    have hus0 : us0 = pr.map V.str := by
      have : ∀ {l : List Str} {vs : List V}, DpAll K H vs (l.map PyData.str) → vs = l.map V.str := fun {l} => by
        induction l with
        | nil => intro vs hh; exact dpAll_nil hh
        | cons a r ih =>
          intro vs hh
          obtain ⟨v, q, rfl, g, k⟩ := dpAll_cons hh
          cases dp_str g
          rw [ih k]
          rfl
      exact this dpp
    subst hus0
    have hpz1 : ((pr.zip vs).map fun y => (y.1, V.int y.2)).map (fun x => V.str x.1) = pr.map V.str := by
      rw [List.map_map]
      have : ((pr.zip vs).map ((fun x : Str × V => V.str x.1) ∘ fun y => (y.1, V.int y.2))) = ((pr.zip vs).map Prod.fst).map V.str := by rw [List.map_map]; rfl
      rw [this, List.map_fst_zip (by omega)]
    have hpz2 : ((pr.zip vs).map fun y => (y.1, V.int y.2)).map (·.2) = vs.map V.int := by
      rw [List.map_map]
      have : ((pr.zip vs).map ((fun x : Str × V => x.2) ∘ fun y => (y.1, V.int y.2))) = ((pr.zip vs).map Prod.snd).map V.int := by rw [List.map_map]; rfl
      rw [this, List.map_snd_zip (by omega)]
    have hpz3 : (pr.zip vs).map (·.2) = vs := List.map_snd_zip (by omega)
    refine ⟨_, rfl, B.q, _, rfl, DGet.k (k := .inr "helpers") st.ob, _, rfl, p0, _, 2, _, rfl, rfl, hp, atI_nat (j := 2) rfl, hh, _, rfl, hd0, ?_⟩
    refine ⟨pu, _, rfl, hpu, rfl, _, _, rfl, _, _, rfl, rfl, ?_⟩
    refine ⟨_, rfl, ?_⟩
    intro pa hpa
    have k6 := same_new (o := .dK []) hpa
    refine ⟨_, rfl, _, rfl, pp, W, (pr.zip vs).map (fun y => (y.1, V.int y.2)), rfl, by rw [hpz1]; exact sqT_sm k6 hpp, by rw [hpz2]; exact k6.seq hW, by rw [List.length_map, List.length_zip]; omega, fun d hd6 => ?_⟩
    rw [List.map_map]
    have nd : H d = none := none_sm k6 hd6
    have npd : pa ≠ d := fun z => by rw [← z, upd_same] at hd6; cases hd6
    generalize hKn : (mergeK [] ((pr.zip vs).map ((fun x : Str × V => ((Sum.inr x.1 : Key), x.2)) ∘ fun y : Str × Int => (y.1, V.int y.2)))) = kvs
    have hkv : ∀ x, valV kvs (.inr x) = (knZ (pr.zip vs) x).map V.int := fun x => by
      rw [← hKn]
      exact val_merge (pr.zip vs) x
    have lkv : kvs.length ≤ 100 := by
      have := length_mergeK ((pr.zip vs).map ((fun x : Str × V => ((Sum.inr x.1 : Key), x.2)) ∘ fun y : Str × Int => (y.1, V.int y.2))) []
      rw [List.length_map, List.length_nil, List.length_zip] at this
      rw [← hKn]
      omega
    have s7 := same_upd (o := .dK kvs) k6 nd
    intro rr hrr
    have nr : H rr = none := none_sm s7 hrr
    have npr : pa ≠ rr := fun z => by rw [← z, upd_ne npd, upd_same] at hrr; cases hrr
    have ndr : d ≠ rr := fun z => by rw [← z, upd_same] at hrr; cases hrr
    refine ⟨by rw [upd_ne npr, upd_ne npd]; exact upd_same, [(.inr "known", _), (.inr "rows", _)], rfl, (by show 2 ≤ 15; decide), ?_⟩
    rw [merge_room]
    have s8 : Same H (upd (upd (upd (upd H pa (.dK [])) d (.dK kvs)) rr (.dK [])) pa (.dK [(.inr "known", .ref d), (.inr "rows", .ref rr)])) := same_upd (same_upd s7 nr) hpa
    have ep8 : (upd (upd (upd (upd H pa (.dK [])) d (.dK kvs)) rr (.dK [])) pa (.dK [(.inr "known", .ref d), (.inr "rows", .ref rr)])) pa = some (.dK [(.inr "known", .ref d), (.inr "rows", .ref rr)]) := upd_same
    have ed8 : (upd (upd (upd (upd H pa (.dK [])) d (.dK kvs)) rr (.dK [])) pa (.dK [(.inr "known", .ref d), (.inr "rows", .ref rr)])) d = some (.dK kvs) := by rw [upd_ne npd.symm, upd_ne ndr]; exact upd_same
    have er8 : (upd (upd (upd (upd H pa (.dK [])) d (.dK kvs)) rr (.dK [])) pa (.dK [(.inr "known", .ref d), (.inr "rows", .ref rr)])) rr = some (.dK []) := by rw [upd_ne npr.symm]; exact upd_same
    generalize (upd (upd (upd (upd H pa (.dK [])) d (.dK kvs)) rr (.dK [])) pa (.dK [(.inr "known", .ref d), (.inr "rows", .ref rr)])) = H8 at s8 ep8 ed8 er8 ⊢
    have stI : LStd K hs [] { (⟨pa, d, 0, 0, rr, fun _ => 0⟩ : Adr) with q := B.q, t := B.t } hh M (s.lf + 100) H8 { kn := knZ (pr.zip vs), rw := fun _ => [], lf := s.lf, td := s.td } := by
      refine ⟨⟨ep8, ⟨kvs, ed8, by show kvs.length ≤ s.lf + 100 - s.lf; omega, hkv⟩, ⟨[], er8, (fun x hx => by cases hx)⟩, (fun x hx => by cases hx)⟩, s8 _ _ st.ob, s8 _ _ st.tl, st.hk.sm s8, kn32_of (fun q hq => v32 _ (by rw [← hpz3]; exact List.mem_map_of_mem (f := (·.2)) hq)), (fun x v hv => by cases hv), st.sz, by show s.lf ≤ s.lf + 100; omega, st.m6, ?_, (ne_of_none st.ob hpa).symm, npd, (ne_of_none st.ob nd).symm, ndr.symm, (ne_of_none st.ob nr).symm, ne_of_none ehv nd, st.hq, (fun x hx => by cases hx), (fun x hx => by cases hx)⟩
      have := st.sz
      have := st.m6
      omega
    have fin : ∀ {ed : PyData} {xs : List PyData} {H' : Hp} {u : Addr}, ed = .tuple (.str "gave" :: xs) ∨ ed = .tuple (.str "on" :: xs) ∨ ed = .tuple (.str "fault" :: xs) → Dp K H' (.ref u) ed → TruV K (.ref u) H' true := fun {ed xs H' u} he du => by
      have : ∃ y ys, ed = .tuple (y :: ys) := by rcases he with rfl | rfl | rfl <;> exact ⟨_, _, rfl⟩
      obtain ⟨y, ys, rfl⟩ := this
      obtain ⟨u1, xs9, e9, hu9, da9⟩ := dp_tup du
      cases e9
      obtain ⟨z1, r1, rfl, _, _⟩ := dpAll_cons da9
      exact .inr (.inl ⟨_, hu9, rfl⟩)
    cases hq : doAll hs F bdy { kn := knZ (pr.zip vs), rw := fun _ => [], lf := s.lf, td := s.td } with
    | none => rw [hq] at hd; cases hd
    | some rr' =>
      obtain ⟨r1, s1'⟩ := rr'
      rw [hq] at hd
      have sz2 : s1'.lf ≤ s.lf := ((size1 hs F).1 _ _ _ _ hq).1
      have back := fun (H4 : Hp) (k4 : Kp (SA [] { (⟨pa, d, 0, 0, rr, fun _ => 0⟩ : Adr) with q := B.q, t := B.t }) H8 H4) (st4 : LStd K hs [] { (⟨pa, d, 0, 0, rr, fun _ => 0⟩ : Adr) with q := B.q, t := B.t } hh M (s.lf + 100) H4 s1') => st.back s8 k4 nd st4 sz2
      refine ⟨_, rfl, hs, [], { (⟨pa, d, 0, 0, rr, fun _ => 0⟩ : Adr) with q := B.q, t := B.t }, hh, M, s.lf + 100, _, s1', _, bdy, r1, F, rfl, stI, dp_sm s8 g1, okB, hq, ?_⟩
      cases r1 with
      | fin =>
        cases hd
        intro H10 k10 st10
        obtain ⟨kO, stO⟩ := back H10 k10 st10
        refine ⟨false, rfl, ifF rfl ⟨(by show 2 ≤ sizeLine; decide), fun tp htp => ?_⟩⟩
        have kt := same_new (o := .tup [.str "gave", .int 0]) htp
        have stT := stO.sm kt
        have kT := kO.trans (Kp.of_same kt)
        obtain ⟨kvs2, ed, lk, hv⟩ := stT.ro.dk
        refine ⟨_, rfl, tp, _, 0, _, rfl, rfl, .of upd_same, atI_nat (j := 0) rfl, rfl, _, rfl, ifNF rfl ?_⟩
        refine ⟨_, rfl, tp, _, 1, _, rfl, rfl, .of upd_same, atI_nat (j := 1) rfl, _, rfl, B.p, _, rfl, DGet.k (k := .inr "known") stT.ro.ob, _, rfl, p0, _, 1, _, rfl, rfl, sqT_kp kT hp, atI_nat (j := 1) rfl, B.d, _, rfl, .inl ⟨kvs2, .inr x, ed, rfl, ?_, rfl⟩, ?_⟩
        · rw [sizeLine_eq]
          omega
        · exact po _ (kT.trans (Kp.upd ed trivial (.inl rfl))) (stT.put ed lk hv in32_0 m6 n6)
      | gave z =>
        cases hd
        intro H10 u9 k10 st10 i10 du9
        obtain ⟨kO, stO⟩ := back H10 k10 st10
        refine ⟨true, fin (.inl rfl) du9, ifT rfl ?_⟩
        obtain ⟨ua, ux, eu, hua, dua⟩ := dp_tup du9
        cases eu
        obtain ⟨t0, q0, rfl, a0, b0⟩ := dpAll_cons dua
        obtain ⟨t1, q1, rfl, a1, b1⟩ := dpAll_cons b0
        cases dp_str a0
        cases dp_int a1
        obtain ⟨kvs2, ed, lk, hv⟩ := stO.ro.dk
        refine ⟨_, rfl, u9, _, 0, _, rfl, rfl, hua, atI_nat (j := 0) rfl, rfl, _, rfl, ifNF rfl ?_⟩
        refine ⟨_, rfl, u9, _, 1, _, rfl, rfl, hua, atI_nat (j := 1) rfl, _, rfl, B.p, _, rfl, DGet.k (k := .inr "known") stO.ro.ob, _, rfl, p0, _, 1, _, rfl, rfl, sqT_kp kO hp, atI_nat (j := 1) rfl, B.d, _, rfl, .inl ⟨kvs2, .inr x, ed, rfl, ?_, rfl⟩, ?_⟩
        · rw [sizeLine_eq]
          omega
        · exact po _ (kO.trans (Kp.upd ed trivial (.inl rfl))) (stO.put ed lk hv i10 m6 n6)
      | on =>
        cases hd
        intro H10 u9 k10 st10 du9
        obtain ⟨kO, stO⟩ := back H10 k10 st10
        refine ⟨true, fin (.inr (.inl rfl)) du9, ifT rfl ?_⟩
        obtain ⟨ua, ux, eu, hua, dua⟩ := dp_tup du9
        cases eu
        obtain ⟨t0, q0, rfl, a0, b0⟩ := dpAll_cons dua
        cases dp_str a0
        refine ⟨_, rfl, u9, _, 0, _, rfl, rfl, hua, atI_nat (j := 0) rfl, rfl, _, rfl, ifNT (by decide +kernel) ?_⟩
        exact ⟨_, rfl, po H10 u9 kO (stO.mono (by omega) (by omega) (by omega) (by omega)) du9⟩
      | flt f =>
        cases hd
        intro H10 u9 k10 st10 du9
        obtain ⟨kO, stO⟩ := back H10 k10 st10
        refine ⟨true, fin (.inr (.inr rfl)) du9, ifT rfl ?_⟩
        obtain ⟨ua, ux, eu, hua, dua⟩ := dp_tup du9
        cases eu
        obtain ⟨t0, q0, rfl, a0, b0⟩ := dpAll_cons dua
        cases dp_str a0
        refine ⟨_, rfl, u9, _, 0, _, rfl, rfl, hua, atI_nat (j := 0) rfl, rfl, _, rfl, ifNT (by decide +kernel) ?_⟩
        exact ⟨_, rfl, po H10 u9 kO (stO.mono (by omega) (by omega) (by omega) (by omega)) du9⟩

theorem ok_lone_of (T : Top K mg) (n k : Nat) (hk : 11 ≤ k) (G__law_done : FnOk P w K mg base CX0 k (He.ga K "_law_done") T.fd__law_done ["_law_body", "_law_room", "_law_play"] (sp_ldone K n)) :
    FnOk P w K mg base CX0 (k + 2) (He.ga K "_law_one") T.fd__law_one ["_law_s", "_law_room", "_law_play"] (sp_lone K (n + 1)) := by
  have G__law_again := ok_lagain_of T n k hk G__law_done
  have G__law_worth := ok__law_worth (P := P) (w := w) (base := base) T 10
  have G__law_called := ok_lcalled T n k hk G__law_done
  refine T.F__law_one.ok sc__law_one (fun vs H Q E h => ?_) (fun cdv A outer s H vs Q E hr h => ?_)
  · obtain ⟨hs, rs, A, h, M, N, s, s', v, m, r, F, rfl, _⟩ := h
    rfl
  · obtain ⟨hs, rs, B, hh, M, N, s, s', v, m, r, F, rfl, st, dp, ok, hd, m6, n6, po⟩ := h
    refine ⟨_, PSs.nox (pss_cons (ps_if (pt_cmpR op_eq (pe_ix ix_tup (pv 0) pe_int (fun _ _ => rfl)) pe_str (nomark _)) (pss_one (ps_ret (pe_tup (pa_cons pe_str (pa_cons (pe_op op_add_str pe_str (pe_callTy call_str_int (by rfl) T.m_str (by decide +kernel) (pa_cons (pe_ix ix_tup (pv 0) pe_int (fun _ _ => rfl)) pa_nil))) pa_nil))))) pss_nil)
        (pss_cons (ps_if (pt_cmpR op_eq (pe_ix ix_tup (pv 0) pe_int (fun _ _ => rfl)) pe_str (nomark _)) (pss_one (ps_ret (pe_call G__law_again (hr.mono (by omega)) (by rfl) T.g__law_again T.F__law_again.kp T.b__law_again .nil pass0 (pa_cons (pv 0) (pa_cons (pv 1) (pa_cons (pv 2) pa_nil)))))) pss_nil)
        (pss_cons (ps_setLc (i := 3) (own := [("_law_e", 5)]) (by rfl) sc__law_one.nd rfl rfl (sw_true rfl rfl rfl (by decide +kernel)) (pi_tup (pe_slice sl_tupA (pv 0) (po_some pe_int) po_none)) (blkOk_by (own := [("_law_e", 5)]) (N := N__law_one) (sc := defScope s__law_one) (by decide +kernel)) (fun _ _ _ _ _ => (pg_name (i := 5) sc__law_one.nd rfl (Or.inl rfl))) (fun _ _ _ _ _ => (pts_one (pt_val (pe_callB (call_isiK (K := K) rfl) (by rfl) T.m_isinstance (by decide +kernel) (pa_cons (pv 5) (pa_cons (pe_bltn (v := .ty "tuple") (by rfl) T.m_tuple (by decide +kernel) rfl) pa_nil)))))) (fun _ _ _ _ _ => (pv 5)))
        (pss_cons (ps_if (pt_cmpR op_eq (pe_ix ix_tup (pv 0) pe_int (fun _ _ => rfl)) pe_str (nomark _)) (pss_one (ps_set (i := 3) sc__law_one.nd rfl (Or.inl rfl) (pe_lst (pa_cons (pe_ix ix_tup (pv 0) pe_int (fun _ _ => rfl)) pa_nil)))) pss_nil)
        (pss_cons (ps_if (pt_cmpR op_eq (pe_ix ix_tup (pv 0) pe_int (fun _ _ => rfl)) pe_str (nomark _)) (pss_one (ps_set (i := 3) sc__law_one.nd rfl (Or.inl rfl) (pe_callTy call_list_of (by rfl) T.m_list (by decide +kernel) (pa_cons (pe_ix ix_tup (pv 0) pe_int (fun _ _ => rfl)) pa_nil)))) pss_nil)
        (pss_cons (ps_set (i := 4) sc__law_one.nd rfl (Or.inl rfl) (pe_lst pa_nil))
        (pss_cons (ps_for PassesOwn.never (by rfl) (pi_list (pv 3)) (pg_name (i := 5) sc__law_one.nd rfl (Or.inl rfl)) (pss_cons (ps_expr (pe_bm PySem.F.plainAttrs_list PySem.F.slot_list_append PySem.F.type_list_append mt_append (pv 4) (pa_cons (pe_call G__law_worth (hr.mono (by omega)) (by rfl) T.g__law_worth T.F__law_worth.kp T.b__law_worth .nil pass0 (pa_cons (pv 5) (pa_cons (pv 1) pa_nil))) pa_nil)))
        (pss_one (ps_if (pt_val (pe_callB call_isi (by rfl) T.m_isinstance (by decide +kernel) (pa_cons (pe_ix ix_list (pv 4) (pe_un un_neg pe_int) (fun _ _ => rfl)) (pa_cons (pe_bltn (v := .ty "str") (by rfl) T.m_str (by decide +kernel) rfl) pa_nil)))) (pss_one (ps_ret (pe_tup (pa_cons pe_str (pa_cons (pe_ix ix_list (pv 4) (pe_un un_neg pe_int) (fun _ _ => rfl)) pa_nil))))) pss_nil))))
        (pss_cons (ps_if (pt_cmpR op_eq (pe_ix ix_tup (pv 0) pe_int (fun _ _ => rfl)) pe_str (nomark _)) (pss_one (ps_ret (pe_tup (pa_cons pe_str (pa_cons (pe_ix ix_list (pv 4) pe_int (fun _ _ => rfl)) pa_nil))))) pss_nil)
        (pss_cons (ps_if (pt_cmpR op_eq (pe_ix ix_tup (pv 0) pe_int (fun _ _ => rfl)) pe_str (nomark _)) (pss_one (ps_ret (pe_call G__law_done (hr.mono (by omega)) (by rfl) T.g__law_done T.F__law_done.kp T.b__law_done .nil pass0 (pa_cons (pe_ix ix_list (pe_lst (pa_cons (pe_ix ix_tup (pv 0) pe_int (fun _ _ => rfl)) (pa_cons (pe_ix ix_tup (pv 0) pe_int (fun _ _ => rfl)) pa_nil))) (pe_callTy call_int1 (by rfl) T.m_int (by decide +kernel) (pa_cons (pe_cmpR op_ne (pe_ix ix_list (pv 4) pe_int (fun _ _ => rfl)) pe_int (nomark _)) pa_nil)) (fun _ _ => rfl)) (pa_cons (pv 1) (pa_cons (pv 2) pa_nil)))))) pss_nil)
        (pss_cons (ps_if (pt_cmpR op_eq (pe_ix ix_tup (pv 0) pe_int (fun _ _ => rfl)) pe_str (nomark _)) (pss_one (ps_dput (hu_of hr) (pe_dget (hu_of hr) (pv 1) pe_str (fun _ _ => rfl)) (pe_ix ix_tup (pv 0) pe_int (fun _ _ => rfl)) (pe_ix ix_list (pv 4) pe_int (fun _ _ => rfl)) (by rfl))) pss_nil)
        (pss_cons (ps_if (pt_cmpR op_eq (pe_ix ix_tup (pv 0) pe_int (fun _ _ => rfl)) pe_str (nomark _)) (pss_one (ps_expr (pe_bm PySem.F.plainAttrs_list PySem.F.slot_list_append PySem.F.type_list_append mt_append (pe_dget (hu_of hr) (pv 2) pe_str (fun _ _ => rfl)) (pa_cons (pe_ix ix_list (pv 4) pe_int (fun _ _ => rfl)) pa_nil)))) pss_nil)
        (pss_cons (ps_if (pt_cmpR op_eq (pe_ix ix_tup (pv 0) pe_int (fun _ _ => rfl)) pe_str (nomark _)) (pss_cons (ps_if (PW.pt (pw_or (pt_cmpR op_lt (pe_ix ix_list (pv 4) pe_int (fun _ _ => rfl)) pe_int (nomark _)) (pw_or1 (pt_cmpR op_ge (pe_ix ix_list (pv 4) pe_int (fun _ _ => rfl)) (pe_callB call_len_seq (by rfl) T.m_len (by decide +kernel) (pa_cons (pe_dget (hu_of hr) (pe_dget (hu_of hr) (pv 1) pe_str (fun _ _ => rfl)) (pe_ix ix_tup (pv 0) pe_int (fun _ _ => rfl)) (fun _ _ => rfl)) pa_nil)) (nomark _))))) (pss_one (ps_ret (pe_tup (pa_cons pe_str (pa_cons pe_str pa_nil))))) pss_nil)
        (pss_one (ps_asg (pe_ix ix_list (pv 4) pe_int (fun _ _ => rfl)) (pg_sub (pe_dget (hu_of hr) (pe_dget (hu_of hr) (pv 1) pe_str (fun _ _ => rfl)) (pe_ix ix_tup (pv 0) pe_int (fun _ _ => rfl)) (fun _ _ => rfl)) (pe_ix ix_list (pv 4) pe_int (fun _ _ => rfl)) set_list)))) pss_nil)
        (pss_cons (ps_if (pt_cmpR op_eq (pe_ix ix_tup (pv 0) pe_int (fun _ _ => rfl)) pe_str (nomark _)) (pss_one (ps_ret (pe_call G__law_called (hr.mono (by omega)) (by rfl) T.g__law_called T.F__law_called.kp T.b__law_called .nil pass0 (pa_cons (pv 0) (pa_cons (pv 4) (pa_cons (pv 1) (pa_cons (pv 2) pa_nil))))))) pss_nil)
        (pss_one (ps_ret pe_non))))))))))))))), ?_⟩
    have up : LStd K hs rs B hh (M + 1) (N + 1) H s := st.mono (by omega) (by omega) (by omega) (by omega)
    have nv : ∀ {x y : Str} {A B : Prop}, x ≠ y → B → if decide (V.str x = V.str y) = true then A else B := fun h hB => ifN (fun z => h (V.str.inj z)) hB
    have pv' : ∀ {x y : Str} {A B : Prop}, x = y → A → if decide (V.str x = V.str y) = true then A else B := fun h hB => ifD (congrArg V.str h) hB
    cases F with
    | zero => simp [doOne] at hd
    | succ F =>
    by_cases hpl : plainS m = true
    · obtain ⟨w0, ds, hmd, nfail, nwhile, ld, hif, hcall⟩ := plain_d hpl
      obtain ⟨pok, p100⟩ := pcs_ok ok hpl
      rw [hmd] at dp
      obtain ⟨p0, xs, rfl, hp, da⟩ := dp_tup dp
      obtain ⟨x0, zs, rfl, d0, dz⟩ := dpAll_cons da
      cases dp_str d0
      have lz : zs.length = ds.length := dpAll_len dz
      refine ⟨_, rfl, p0, _, 0, _, rfl, rfl, hp, atI_nat (j := 0) rfl, rfl, _, rfl, nv nfail ?_⟩
      refine ⟨_, rfl, p0, _, 0, _, rfl, rfl, hp, atI_nat (j := 0) rfl, rfl, _, rfl, nv nwhile ?_⟩
      refine ⟨_, rfl, 1, rfl, p0, _, rfl, hp, fun z => absurd z tail_no, fun _ S nS => ?_⟩
      rw [cut_tail]
      have kS := same_new (o := .tup zs) nS
      refine ⟨S, rfl, ⟨_, .of upd_same⟩, fun D nD => ?_⟩
      refine lc_tup (K := K) (xs := zs) (fun i H' => Same (upd H S (.tup zs)) H' ∧ H' D = some (.lst (selT (zs.take i) (ds.take i)))) ?_ ?_ ?_ ?_
      · exact ⟨same_new nD, upd_same⟩
      · rintro i H' _ ⟨s', _⟩
        exact sqT_sm s' (.of upd_same)
      · rintro i y H1 hy ⟨s1, ee⟩
        obtain ⟨d, hdd, dd⟩ := dpAll_getV dz hy
        have d1' := dp_sm (kS.trans s1) dd
        have il := (List.getElem?_eq_some_iff.mp hy).1
        have tk1 : zs.take (i + 1) = zs.take i ++ [y] := by rw [List.take_succ, hy]; rfl
        have tk2 : ds.take (i + 1) = ds.take i ++ [d] := by rw [List.take_succ, hdd]; rfl
        have ll : (zs.take i).length = (ds.take i).length := by rw [List.length_take, List.length_take, lz]
        rw [tk1, tk2, selT_snoc ll]
        refine ⟨rfl, _, rfl, _, _, _, _, isT d, rfl, .ty _, dp_ty d1', kit_tup d, _, rfl, ?_⟩
        cases hT : isT d with
        | false =>
          refine ifF rfl ⟨s1, ?_⟩
          rw [ee]
          simp
        | true =>
          refine ifT rfl ⟨_, rfl, _, ee, ?_, ?_, ?_⟩
          · have h1 := selT_len (zs.take i) (ds.take i)
            rw [List.length_take, lz] at h1
            rw [sizeLine_eq]
            omega
          · exact fun b o hb => by rw [upd_ne (ne_of_none hb nD)]; exact s1 _ _ hb
          · exact upd_same
      rintro H3 ⟨k3, e3⟩
      rw [List.take_length, lz, List.take_length] at e3
      have s3 : Same H H3 := kS.trans k3
      have hp3 := sqT_sm s3 hp
      dsimp only [gName]
      refine ifs_by (fun σ' H' => Same H H' ∧ ∃ (L : Addr) (ys : List V), H' L = some (.lst ys) ∧ (w0 ≠ "call" → DpAll K H' ys ((pcs m).map Ex.d)) ∧ σ' = [some (.ref p0), some (.ref B.p), some (.ref B.q), some (.ref L), none, none]) ?_ ?_
      rotate_left
      · intro N' hN
        refine ⟨_, rfl, p0, _, 0, _, rfl, rfl, hp3, atI_nat (j := 0) rfl, rfl, _, rfl, ?_⟩
        by_cases wi : w0 = "if"
        · refine pv' wi ?_
          obtain ⟨e, ys, ns, rfl⟩ := hif.mp wi
          rw [Sm.d] at hmd
          cases hmd
          obtain ⟨z1, r1, rfl, g1, f1⟩ := dpAll_cons dz
          refine ⟨_, rfl, p0, _, 1, _, rfl, rfl, hp3, atI_nat (j := 1) rfl, (by show 1 ≤ sizeLine; decide), fun L hL => ?_⟩
          exact hN _ _ ⟨s3.trans (same_new hL), L, _, upd_same, fun _ => .cons (dp_sm (s3.trans (same_new hL)) g1) .nil, rfl⟩
        · refine nv wi ?_
          exact hN _ _ ⟨s3, D, _, e3, fun wc => sel_pcs hpl hmd (dpAll_sm s3 dz) wi wc, rfl⟩
      rintro σ' H4 ⟨s4, L4, ys4, e4, d4, rfl⟩
      refine ifs_by (fun σ' H' => Same H H' ∧ ∃ (L : Addr) (ys : List V), H' L = some (.lst ys) ∧ DpAll K H' ys ((pcs m).map Ex.d) ∧ σ' = [some (.ref p0), some (.ref B.p), some (.ref B.q), some (.ref L), none, none]) ?_ ?_
      rotate_left
      · intro N' hN
        refine ⟨_, rfl, p0, _, 0, _, rfl, rfl, sqT_sm s4 hp, atI_nat (j := 0) rfl, rfl, _, rfl, ?_⟩
        by_cases wc : w0 = "call"
        · refine pv' wc ?_
          obtain ⟨x, h, es, rfl⟩ := hcall.mp wc
          rw [Sm.d] at hmd
          cases hmd
          obtain ⟨z1, r1, rfl, g1, f1⟩ := dpAll_cons dz
          obtain ⟨z2, r2, rfl, g2, f2⟩ := dpAll_cons f1
          obtain ⟨z3, r3, rfl, g3, f3⟩ := dpAll_cons f2
          obtain ⟨pe, es', rfl, hpe, dpe⟩ := dp_tup g3
          refine ⟨_, rfl, p0, _, 3, _, rfl, rfl, sqT_sm s4 hp, atI_nat (j := 3) rfl, pe, _, rfl, .inr (sqT_sm s4 hpe), fun L hL => ?_⟩
          exact hN _ _ ⟨s4.trans (same_new hL), L, _, upd_same, dpAll_sm (s4.trans (same_new hL)) dpe, rfl⟩
        · refine nv wc ?_
          exact hN _ _ ⟨s4, L4, _, e4, d4 wc, rfl⟩
      rintro σ' H5 ⟨s5, L, ys, eL, dL, rfl⟩
      refine ⟨Nat.zero_le _, fun W hW => ?_⟩
      have sW : Same H (upd H5 W (.lst [])) := same_upd s5 (none_sm s5 hW)
      have nW : H W = none := none_sm s5 hW
      have nLW : L ≠ W := ne_of_none eL hW
      have eLW : upd H5 W (.lst []) L = some (.lst ys) := by rw [upd_ne nLW]; exact eL
      have ly : ys.length = (pcs m).length := by rw [dpAll_len dL, List.length_map]
      refine ⟨_, rfl, L, rfl, ⟨_, .of eLW⟩, ?_⟩
      refine for_list (K := K) (xs := ys) (fun j σ' H' => Kp (fun a => a = W) (upd H5 W (.lst [])) H' ∧ Same H H' ∧ (∃ vs, wxs ((pcs m).take j) s.kn s.rw = .ok vs ∧ H' W = some (.lst (vs.map V.int))) ∧ ∃ x5, σ' = [some (.ref p0), some (.ref B.p), some (.ref B.q), some (.ref L), some (.ref W), x5]) ?_ ?_ ?_ ?_
      · exact ⟨Kp.refl, sW, ⟨[], rfl, upd_same⟩, _, rfl⟩
      · rintro j σ' H' _ ⟨k6, _⟩
        exact .of (k6 _ _ eLW (fun y => absurd y nLW))
      · rintro j y σ' H6 hy ⟨k6, s6, ⟨vs, hvs, e6⟩, x5, rfl⟩
        have jl : j < (pcs m).length := by
          have := (List.getElem?_eq_some_iff.mp hy).1
          omega
        have hst := List.take_succ (l := pcs m) (i := j)
        rw [List.getElem?_eq_getElem jl] at hst
        have hsd : pcs m = (pcs m).take j ++ (pcs m)[j] :: (pcs m).drop (j + 1) := by
          rw [← List.drop_eq_getElem_cons jl, List.take_append_drop]
        have me : (pcs m)[j] ∈ pcs m := List.getElem_mem jl
        obtain ⟨d, hdd, dd⟩ := dpAll_getV dL hy
        rw [List.getElem?_map, List.getElem?_eq_getElem jl] at hdd
        cases hdd
        have hNW : ∀ {b : Addr} {o : HO}, H b = some o → b ≠ W := fun {b o} hb => ne_of_none hb nW
        have sLW : Same H5 (upd H5 W (.lst [])) := same_new hW
        have dd6 := dp_kp k6 _ _ (Ex.noL _) (dp_sm sLW dd)
        generalize (pcs m)[j] = ej at hst hsd me dd6
        refine ⟨_, rfl, .inl ⟨rfl, _, .of e6⟩, ?_⟩
        have lv := wxs_len hvs
        rw [List.length_take] at lv
        refine ⟨_, rfl, _, rfl, B, rs, y, ej, s.kn, s.rw, _, rfl, (pok _ me).1, (pok _ me).2, st.ro.sm s6, st.k32, st.r32, dd6, fun z hz H7 s7 => ?_, fun f hf H7 s7 => ?_⟩
        · refine ⟨W, _, _, rfl, rfl, s7 _ _ e6, by rw [List.length_map, sizeLine_eq]; omega, ?_⟩
          have s8 : Same H (upd H7 W (.lst (vs.map V.int ++ [.int z]))) := same_upd (s6.trans s7) nW
          refine ⟨_, rfl, 1, rfl, W, _, _, _, rfl, rfl, .of upd_same, at_last, ?_⟩
          refine ⟨_, _, _, _, false, rfl, .ty _, ty_int z, kit_str (.int z), _, rfl, ifF rfl ?_⟩
          refine ⟨?_, s8, ⟨vs ++ [z], ?_, ?_⟩, _, rfl⟩
          · exact (k6.trans (Kp.of_same s7)).trans (Kp.upd (s7 _ _ e6) trivial rfl)
          · rw [hst]
            exact wxs_snoc hvs hz
          · rw [upd_same, List.map_append]
            rfl
        · refine ⟨W, _, _, rfl, rfl, s7 _ _ e6, by rw [List.length_map, sizeLine_eq]; omega, ?_⟩
          have s8 : Same H (upd H7 W (.lst (vs.map V.int ++ [.str f]))) := same_upd (s6.trans s7) nW
          refine ⟨_, rfl, 1, rfl, W, _, _, _, rfl, rfl, .of upd_same, at_last, ?_⟩
          refine ⟨_, _, _, _, true, rfl, .ty _, dp_ty (.str f), kit_str (.str f), _, rfl, ifT rfl ?_⟩
          have hwf : wxs (pcs m) s.kn s.rw = .error f := by
            rw [hsd]
            exact wxs_bad hvs hf
          obtain ⟨rfl, rfl⟩ := wxs_flt hpl hwf hd
          refine ⟨_, rfl, 1, rfl, W, _, _, _, rfl, rfl, .of upd_same, at_last, ?_⟩
          exact po.flt up s8
      rintro σ' H6 ⟨k6, s6, ⟨vs, hvs, e6⟩, x5, rfl⟩
      rw [ly, List.take_length] at hvs
      have hp6 := sqT_sm s6 hp
      have st6 := st.sm s6
      have vs32 := wxs_32 st.k32 st.r32 pok hvs
      cases m with
      | fail n => cases hpl
      | loop e b => cases hpl
      | give e =>
        obtain ⟨z, rfl, hw⟩ := wxs_one hvs
        rw [Sm.d] at hmd
        cases hmd
        rw [doOne, hw] at hd
        cases hd
        refine ⟨_, rfl, p0, _, 0, _, rfl, rfl, hp6, atI_nat (j := 0) rfl, rfl, _, rfl, ifD rfl ?_⟩
        refine ⟨_, rfl, W, _, 0, _, rfl, rfl, .of e6, atI_nat (j := 0) rfl, (by show 2 ≤ sizeLine; decide), fun u hu => ?_⟩
        exact po _ u (Kp.of_same (s6.trans (same_new hu))) (up.sm (s6.trans (same_new hu))) (vs32 z (List.mem_cons_self ..)) gv_dp
      | tell e =>
        obtain ⟨z, rfl, hw⟩ := wxs_one hvs
        rw [Sm.d] at hmd
        cases hmd
        rw [doOne, hw] at hd
        cases hd
        refine ⟨_, rfl, p0, _, 0, _, rfl, rfl, hp6, atI_nat (j := 0) rfl, rfl, _, rfl, ifN (by decide +kernel) ?_⟩
        refine ⟨_, rfl, p0, _, 0, _, rfl, rfl, hp6, atI_nat (j := 0) rfl, rfl, _, rfl, ifN (by decide +kernel) ?_⟩
        refine ⟨_, rfl, p0, _, 0, _, rfl, rfl, hp6, atI_nat (j := 0) rfl, rfl, _, rfl, ifN (by decide +kernel) ?_⟩
        refine ⟨_, rfl, p0, _, 0, _, rfl, rfl, hp6, atI_nat (j := 0) rfl, rfl, _, rfl, ifD rfl ?_⟩
        refine ⟨_, rfl, B.q, _, rfl, DGet.k (k := .inr "told") st6.ob, .inl ⟨rfl, _, .of st6.tl⟩, ?_⟩
        refine ⟨_, rfl, W, _, 0, _, rfl, rfl, .of e6, atI_nat (j := 0) rfl, B.t, _, _, rfl, rfl, st6.tl, ?_, ?_⟩
        · rw [List.length_map, sizeLine_eq]
          have := st.sz
          omega
        have kf : Kp (SA rs B) H (upd H6 B.t (.lst (s.td.map V.int ++ [.int z]))) := (Kp.of_same s6).trans (Kp.upd st6.tl trivial (.inr (.inr (.inl rfl))))
        refine ⟨_, rfl, p0, _, 0, _, rfl, rfl, (sqT_kp kf hp), atI_nat (j := 0) rfl, rfl, _, rfl, ifN (by decide +kernel) ?_⟩
        refine ⟨_, rfl, p0, _, 0, _, rfl, rfl, (sqT_kp kf hp), atI_nat (j := 0) rfl, rfl, _, rfl, ifN (by decide +kernel) ?_⟩
        exact po _ kf (st6.say m6 n6)
      | set x e =>
        obtain ⟨z, rfl, hw⟩ := wxs_one hvs
        rw [Sm.d] at hmd
        cases hmd
        obtain ⟨z1, r1, rfl, g1, f1⟩ := dpAll_cons dz
        cases dp_str g1
        rw [doOne, hw] at hd
        cases hd
        refine ⟨_, rfl, p0, _, 0, _, rfl, rfl, hp6, atI_nat (j := 0) rfl, rfl, _, rfl, ifN (by decide +kernel) ?_⟩
        refine ⟨_, rfl, p0, _, 0, _, rfl, rfl, hp6, atI_nat (j := 0) rfl, rfl, _, rfl, ifN (by decide +kernel) ?_⟩
        refine ⟨_, rfl, p0, _, 0, _, rfl, rfl, hp6, atI_nat (j := 0) rfl, rfl, _, rfl, ifD rfl ?_⟩
        obtain ⟨kvs, ed, lk, hv⟩ := st6.ro.dk
        refine ⟨_, rfl, W, _, 0, _, rfl, rfl, .of e6, atI_nat (j := 0) rfl, _, rfl, B.p, _, rfl, DGet.k (k := .inr "known") st6.ro.ob, _, rfl, p0, _, 1, _, rfl, rfl, hp6, atI_nat (j := 1) rfl, B.d, _, rfl, .inl ⟨kvs, .inr x, ed, rfl, ?_, rfl⟩, ?_⟩
        · rw [sizeLine_eq]
          omega
        have kf : Kp (SA rs B) H (upd H6 B.d (.dK (putK kvs (.inr x) (.int z)))) := (Kp.of_same s6).trans (Kp.upd ed trivial (.inl rfl))
        refine ⟨_, rfl, p0, _, 0, _, rfl, rfl, (sqT_kp kf hp), atI_nat (j := 0) rfl, rfl, _, rfl, ifN (by decide +kernel) ?_⟩
        refine ⟨_, rfl, p0, _, 0, _, rfl, rfl, (sqT_kp kf hp), atI_nat (j := 0) rfl, rfl, _, rfl, ifN (by decide +kernel) ?_⟩
        refine ⟨_, rfl, p0, _, 0, _, rfl, rfl, (sqT_kp kf hp), atI_nat (j := 0) rfl, rfl, _, rfl, ifN (by decide +kernel) ?_⟩
        exact po _ kf (st6.put ed lk hv (vs32 z (List.mem_cons_self ..)) m6 n6)
      | put x e f =>
        have hvs : wxs [e, f] s.kn s.rw = .ok vs := hvs
        rw [wxs] at hvs
        cases hw : wx e s.kn s.rw with
        | error g => rw [hw] at hvs; cases hvs
        | ok z =>
        rw [hw] at hvs
        dsimp only at hvs
        cases hv1 : wxs [f] s.kn s.rw with
        | error g => rw [hv1] at hvs; cases hvs
        | ok us =>
        rw [hv1] at hvs
        cases hvs
        obtain ⟨v, rfl, hv⟩ := wxs_one hv1
        rw [Sm.d] at hmd
        cases hmd
        obtain ⟨z1, r1, rfl, g1, f1⟩ := dpAll_cons dz
        cases dp_str g1
        rw [doOne, hw] at hd
        dsimp only at hd
        rw [hv] at hd
        dsimp only at hd
        have ro6 := st6.ro
        have el := ro6.rl x ok.1
        have hl : ((s.rw x).map V.int).length = (s.rw x).length := List.length_map ..
        refine ⟨_, rfl, p0, _, 0, _, rfl, rfl, hp6, atI_nat (j := 0) rfl, rfl, _, rfl, ifN (by decide +kernel) ?_⟩
        refine ⟨_, rfl, p0, _, 0, _, rfl, rfl, hp6, atI_nat (j := 0) rfl, rfl, _, rfl, ifN (by decide +kernel) ?_⟩
        refine ⟨_, rfl, p0, _, 0, _, rfl, rfl, hp6, atI_nat (j := 0) rfl, rfl, _, rfl, ifN (by decide +kernel) ?_⟩
        refine ⟨_, rfl, p0, _, 0, _, rfl, rfl, hp6, atI_nat (j := 0) rfl, rfl, _, rfl, ifN (by decide +kernel) ?_⟩
        refine ⟨_, rfl, p0, _, 0, _, rfl, rfl, hp6, atI_nat (j := 0) rfl, rfl, _, rfl, ifD rfl ?_⟩
        refine ⟨_, rfl, W, _, 0, _, rfl, rfl, .of e6, atI_nat (j := 0) rfl, _, _, rfl, rfl, _, rfl, ?_⟩
        by_cases h0 : z < 0
        · refine ifD h0 (ifT rfl ?_)
          rw [if_neg (fun y => by have := y.1; omega)] at hd
          cases hd
          exact po.flt up s6
        · refine ifN h0 ?_
          refine ⟨_, rfl, W, _, 0, _, rfl, rfl, .of e6, atI_nat (j := 0) rfl, _, rfl, B.p, _, rfl, DGet.k (k := .inr "rows") ro6.ob, _, rfl, p0, _, 1, _, rfl, rfl, hp6, atI_nat (j := 1) rfl, B.r, _, rfl, ro6.row ok.1, B.ra x, _, rfl, .inl (.of el), _, _, rfl, rfl, _, rfl, ?_⟩
          rw [hl]
          by_cases h1 : ((s.rw x).length : Int) ≤ z
          · refine ifD h1 ?_
            rw [if_neg (fun y => by have := y.2; omega)] at hd
            cases hd
            exact po.flt up s6
          · refine ifN h1 ?_
            rw [if_pos ⟨by omega, by omega⟩] at hd
            cases hd
            obtain ⟨j, rfl⟩ := Int.eq_ofNat_of_zero_le (show 0 ≤ z by omega)
            refine ⟨_, rfl, W, _, 1, _, rfl, rfl, .of e6, atI_nat (j := 1) rfl, _, rfl, B.p, _, rfl, DGet.k (k := .inr "rows") ro6.ob, _, rfl, p0, _, 1, _, rfl, rfl, hp6, atI_nat (j := 1) rfl, B.r, _, rfl, ro6.row ok.1, _, rfl, W, _, 0, _, rfl, rfl, .of e6, atI_nat (j := 0) rfl, B.ra x, _, _, j, rfl, rfl, el, ?_, ?_⟩
            · rw [hl]
              exact ixN_of (by omega)
            have kf : Kp (SA rs B) H (upd H6 (B.ra x) (.lst (((s.rw x).map V.int).set j (.int v)))) := (Kp.of_same s6).trans (Kp.upd el trivial (.inr (.inr (.inr ⟨x, ok.1, rfl⟩))))
            refine ⟨_, rfl, p0, _, 0, _, rfl, rfl, (sqT_kp kf hp), atI_nat (j := 0) rfl, rfl, _, rfl, ifN (by decide +kernel) ?_⟩
            exact po _ kf ((up.sm s6).rput ok.1 (vs32 v (List.mem_cons_of_mem _ (List.mem_cons_self ..))))
      | ite e ys' ns' =>
        obtain ⟨z, rfl, hw⟩ := wxs_one hvs
        rw [Sm.d] at hmd
        cases hmd
        obtain ⟨z1, r1, rfl, g1, f1⟩ := dpAll_cons dz
        obtain ⟨z2, r2, rfl, g2, f2⟩ := dpAll_cons f1
        obtain ⟨z3, r3, rfl, g3, f3⟩ := dpAll_cons f2
        rw [doOne, hw] at hd
        dsimp only at hd
        refine ⟨_, rfl, p0, _, 0, _, rfl, rfl, hp6, atI_nat (j := 0) rfl, rfl, _, rfl, ifN (by decide +kernel) ?_⟩
        refine ⟨_, rfl, p0, _, 0, _, rfl, rfl, hp6, atI_nat (j := 0) rfl, rfl, _, rfl, ifD rfl ?_⟩
        refine ⟨_, rfl, p0, _, 3, _, rfl, rfl, hp6, atI_nat (j := 3) rfl, _, rfl, p0, _, 2, _, rfl, rfl, hp6, atI_nat (j := 2) rfl, (by show 2 ≤ sizeLine; decide), fun L2 hL2 => ?_⟩
        have s7 : Same H6 (upd H6 L2 (.lst [z3, z2])) := same_new hL2
        have sH7 := s6.trans s7
        have po2 := LPost.mono (Nat.le_succ M) (by omega) (Nat.le_succ N) (by omega) (LPost.kp (Kp.of_same sH7) po)
        refine ⟨_, rfl, W, _, 0, _, rfl, rfl, .of (s7 _ _ e6), atI_nat (j := 0) rfl, rfl, .inr ⟨_, rfl, ?_⟩⟩
        by_cases hz : z = 0
        · rw [if_neg (fun y => y hz)] at hd
          rw [show (!decide (V.int z = V.int 0)) = false by rw [hz]; rfl]
          exact ⟨L2, _, _, _, rfl, rfl, .of upd_same, atI_nat (j := 0) rfl, _, rfl, _, rfl, hs, rs, B, hh, M, N, s, s', z3, ns', r, F, rfl, st.sm sH7, dp_sm sH7 g3, ok.2.2, hd, po2⟩
        · rw [if_pos hz] at hd
          rw [show (!decide (V.int z = V.int 0)) = true by rw [decide_eq_false (fun y => hz (V.int.inj y))]; rfl]
          exact ⟨L2, _, _, _, rfl, rfl, .of upd_same, atI_nat (j := 1) rfl, _, rfl, _, rfl, hs, rs, B, hh, M, N, s, s', z2, ys', r, F, rfl, st.sm sH7, dp_sm sH7 g2, ok.2.1, hd, po2⟩
      | call x g es =>
        rw [Sm.d] at hmd
        cases hmd
        refine ⟨_, rfl, p0, _, 0, _, rfl, rfl, hp6, atI_nat (j := 0) rfl, rfl, _, rfl, ifN (by decide +kernel) ?_⟩
        refine ⟨_, rfl, p0, _, 0, _, rfl, rfl, hp6, atI_nat (j := 0) rfl, rfl, _, rfl, ifN (by decide +kernel) ?_⟩
        refine ⟨_, rfl, p0, _, 0, _, rfl, rfl, hp6, atI_nat (j := 0) rfl, rfl, _, rfl, ifN (by decide +kernel) ?_⟩
        refine ⟨_, rfl, p0, _, 0, _, rfl, rfl, hp6, atI_nat (j := 0) rfl, rfl, _, rfl, ifN (by decide +kernel) ?_⟩
        refine ⟨_, rfl, p0, _, 0, _, rfl, rfl, hp6, atI_nat (j := 0) rfl, rfl, _, rfl, ifN (by decide +kernel) ?_⟩
        refine ⟨_, rfl, p0, _, 0, _, rfl, rfl, hp6, atI_nat (j := 0) rfl, rfl, _, rfl, ifD rfl ?_⟩
        exact ⟨_, rfl, _, rfl, _, rfl, _, rfl, hs, rs, B, hh, W, M, N, s, s', _, x, g, es, vs, r, F, rfl, st6, dp_sm s6 dp, .of e6, hvs, ok, hd, m6, n6, LPost.kp (Kp.of_same s6) po⟩

    · cases m with
      | fail k =>
        obtain ⟨p0, xs, rfl, hp, da⟩ := dp_tup dp
        obtain ⟨x0, zs, rfl, d0, dz⟩ := dpAll_cons da
        obtain ⟨x1, r1, rfl, d1, e1⟩ := dpAll_cons dz
        cases dp_str d0
        cases dp_int d1
        rw [doOne] at hd
        cases hd
        refine ⟨_, rfl, p0, _, 0, _, rfl, rfl, hp, atI_nat (j := 0) rfl, rfl, _, rfl, ifD rfl ?_⟩
        have hl : k.natAbs.log2 < 1920 := by
          have i32 : In32 k := ok.1
          have h1 : k.natAbs < 2 ^ 40 := by
            have := i32.1
            have := i32.2
            omega
          have := PySem.Flt.log2_lt_of (show 0 < 40 by decide) h1
          omega
        refine ⟨_, rfl, p0, _, 1, _, rfl, rfl, hp, atI_nat (j := 1) rfl, k, rfl, hl, _, _, rfl, rfl, ?_, ?_⟩
        · have := int_len (n := k) ok.1
          have h5 : ("fail " : Str).length = 5 := by decide +kernel
          rw [h5, sizeLine_eq]
          omega
        · exact po.flt up (Same.refl _)
      | loop e b =>
        have dp0 := dp
        obtain ⟨p0, xs, rfl, hp, da⟩ := dp_tup dp
        obtain ⟨x0, zs, rfl, d0, dz⟩ := dpAll_cons da
        cases dp_str d0
        rw [doOne] at hd
        refine ⟨_, rfl, p0, _, 0, _, rfl, rfl, hp, atI_nat (j := 0) rfl, rfl, _, rfl, ifN (by decide +kernel) ?_⟩
        refine ⟨_, rfl, p0, _, 0, _, rfl, rfl, hp, atI_nat (j := 0) rfl, rfl, _, rfl, ifD rfl ?_⟩
        exact ⟨_, rfl, _, rfl, _, rfl, hs, rs, B, hh, M, N, s, s', _, e, b, r, F, rfl, st, dp0, ok.1, ok.2, hd, LPost.mono (Nat.le_succ M) (by omega) (Nat.le_succ N) (by omega) po⟩
      | give e => exact absurd rfl hpl
      | tell e => exact absurd rfl hpl
      | set x e => exact absurd rfl hpl
      | put x e f => exact absurd rfl hpl
      | ite e y n => exact absurd rfl hpl
      | call x h es => exact absurd rfl hpl
theorem ok_llevels (T : Top K mg) : ∀ n : Nat, FnOk P w K mg base CX0 (3 * n + 12) (He.ga K "_law_done") T.fd__law_done ["_law_body", "_law_room", "_law_play"] (sp_ldone K n)
  | 0 => ok_ldone_of T 0 11 <| by
    refine T.F__law_one.ok sc__law_one (fun vs H Q E h => ?_) (fun cdv A outer s H vs Q E hr h => ?_)
    · obtain ⟨hs, rs, A, h, M, N, s, s', v, m, r, F, rfl, _⟩ := h
      rfl
    · obtain ⟨hs, rs, B, hh, M, N, s, s', v, m, r, F, rfl, st, dp, ok, hd, m6, n6, po⟩ := h
      cases ok
  | n + 1 => ok_ldone_of T (n + 1) (3 * n + 14) (ok_lone_of T n (3 * n + 12) (by omega) (ok_llevels T n))
end

section
variable {P : Program} {w : World} {K : PySem.W.Frag} {mg : Str → Option Value} {base : Heap}
def lpD (s : PSt) (r : Rs) (n : Int) : PyData := .tuple [.tuple (s.td.map PyData.int), r.d, .int n]
def sp_lplayed (K : PySem.W.Frag) (n : Nat) : Sp := fun vs H Q _ => ∃ (v : V) (b : Addr) (most : Nat) (hl : Hl) (ps : List (Str × Int)) (ws : List (Str × Nat)) (bd : List Sm) (s' : PSt) (r : Rs) (F : Nat), vs = [v, .ref b, .int most] ∧ Dp K H v (plD hl ps ws bd) ∧ SqL K H b ((ps.map (·.2)).map V.int) ∧ PlOk n hl ps ws bd ∧ most ≤ 5000 ∧
  doAll (hsZ hl) F bd (st0 ps ws most) = some (r, s') ∧ ∀ H' u, Same H H' → Dp K H' u (lpD s' r ((most : Int) - s'.lf)) → Q u H'
theorem end3_dp {H : Hp} {td : List Int} {e : V} {ed : PyData} {n : Int} {tt tr : Addr} (htt : H tt = none) (htr : upd H tt (.tup (td.map V.int)) tr = none) (de : Dp K H e ed) :
    Dp K (upd (upd H tt (.tup (td.map V.int))) tr (.tup [.ref tt, e, .int n])) (.ref tr) (.tuple [.tuple (td.map PyData.int), ed, .int n]) := by
  have ne : tt ≠ tr := fun z => by rw [← z, upd_same] at htr; cases htr
  refine .tup (.inl (.inl upd_same)) (.cons (.tup (.inl (.inl ?_)) (ints_dp td)) (.cons (dp_sm (same_upd (same_new htt) ?_) de) (.cons (.int _) .nil)))
  · rw [upd_ne ne]
    exact upd_same
  · rw [upd_ne ne.symm] at htr
    exact htr
theorem lret_ok {σ : L2.St} {H : Hp} {q t h0 : Addr} {lf most : Int} {td : List Int} {e : V} {ed : PyData} {Q : VK} (h2 : σ[2]? = some (some (.int most))) (h3 : σ[3]? = some (some (.ref q))) (h4 : σ[9]? = some (some e)) (eq : H q = some (.dK (playK lf t h0))) (et : H t = some (.lst (td.map V.int))) (de : Dp K H e ed)
    (po : ∀ H' u, Same H H' → Dp K H' u (.tuple [.tuple (td.map PyData.int), ed, .int (most - lf)]) → Q u H') :
    tTup (tCons (tCB (fun xs H Q => ∃ p ys, xs = [.ref p] ∧ ((SqL K H p ys ∧ ∀ l, H l = none → Q (.ref l) (upd H l (.tup ys))) ∨ (SqT K H p ys ∧ Q (.ref p) H))) (tCons (tDGet (tVar 3) (tC (.str "told"))) tNil)) (tCons (tVar 9) (tCons (tOp (rI0 fun i j => V.int (i - j)) (tVar 2) (tDGet (tVar 3) (tC (.str "left")))) tNil))) σ H Q := by
  refine ⟨_, h3, q, _, rfl, DGet.k (k := .inr "told") eq, t, _, rfl, .inl ⟨.inl (.inl et), fun tt htt => ?_⟩⟩
  have ntq : q ≠ tt := fun z => by rw [← z, eq] at htt; cases htt
  have eqt : upd H tt (.tup (td.map V.int)) q = some (.dK (playK lf t h0)) := by rw [upd_ne ntq]; exact eq
  refine ⟨_, h4, _, h2, _, h3, q, _, rfl, DGet.k (k := .inr "left") eqt, _, _, rfl, rfl, (by show 3 ≤ sizeLine; decide), fun tr htr => ?_⟩
  have ne : tt ≠ tr := fun z => by rw [← z, upd_same] at htr; cases htr
  refine po _ _ (same_upd (same_new htt) ?_) (end3_dp htt htr de)
  rw [upd_ne ne.symm] at htr
  exact htr
theorem merge_play (lf : Int) (t h : Addr) : mergeK [] [(.inr "left", .int lf), (.inr "told", .ref t), (.inr "helpers", .ref h)] = playK lf t h := by
  show putK (putK (putK ([] : List (Key × V)) (.inr "left") (.int lf)) (.inr "told") (.ref t)) (.inr "helpers") (.ref h) = _
  have a1 : putK ([] : List (Key × V)) (.inr "left") (.int lf) = [(.inr "left", .int lf)] := putK_new (fun kv z => by cases z)
  have a2 : putK ([(.inr "left", .int lf)] : List (Key × V)) (.inr "told") (.ref t) = [(.inr "left", .int lf), (.inr "told", .ref t)] := putK_new fun kv z => by
    have z' : kv = (.inr "left", .int lf) := by simpa using z
    rw [z']
    show (Sum.inr _ : Key) ≠ _
    decide +kernel
  have a3 : putK ([(.inr "left", .int lf), (.inr "told", .ref t)] : List (Key × V)) (.inr "helpers") (.ref h) = [(.inr "left", .int lf), (.inr "told", .ref t), (.inr "helpers", .ref h)] := putK_new fun kv z => by
    have z' : kv = (.inr "left", .int lf) ∨ kv = (.inr "told", .ref t) := by simpa using z
    rcases z' with e | e <;> rw [e] <;> (show (Sum.inr _ : Key) ≠ _; decide +kernel)
  rw [a1, a2, a3]
  rfl
/-- the rows laid so far -/
structure LRows (Hb H' : Hp) (r2 : Addr) (ws : List (Str × Nat)) (ra : Str → Addr) : Prop where
  kp : Kp (fun x => x = r2) Hb H'
  er : ∃ rvs : List (Key × V), H' r2 = some (.dK rvs) ∧ rvs.length ≤ ws.length ∧ ∀ x ∈ ws.map (·.1), valV rvs (.inr x) = some (.ref (ra x))
  el : ∀ q ∈ ws, H' (ra q.1) = some (.lst ((List.replicate q.2 (0 : Int)).map V.int)) ∧ Hb (ra q.1) = none
  ri : ∀ x ∈ ws.map (·.1), ∀ y ∈ ws.map (·.1), ra x = ra y → x = y
theorem LRows.step {Hb H1 : Hp} {r2 : Addr} {rvs : List (Key × V)} {ws : List (Str × Nat)} {ra : Str → Addr} {q : Str × Nat} {z l : Addr} (R : LRows Hb H1 r2 ws ra) (hr0 : Hb r2 = some (.dK [])) (hq : q.1 ∉ ws.map (·.1)) (nz : H1 z = none)
    (nl : upd H1 z (.lst [.int 0]) l = none) (e2 : H1 r2 = some (.dK rvs)) (l2 : rvs.length ≤ ws.length) (v2 : ∀ x ∈ ws.map (·.1), valV rvs (.inr x) = some (.ref (ra x))) :
    LRows Hb (upd (upd (upd H1 z (.lst [.int 0])) l (.lst ((List.replicate q.2 (0 : Int)).map V.int))) r2 (.dK (putK rvs (.inr q.1) (.ref l)))) r2 (ws ++ [q]) (fun y => if y = q.1 then l else ra y) := by
  have lz : l ≠ z := fun e => by rw [e, upd_same] at nl; cases nl
  have nl1 : H1 l = none := by rw [upd_ne lz] at nl; exact nl
  have at_ : ∀ {b : Addr} {o : HO}, H1 b = some o → b ≠ r2 → (upd (upd (upd H1 z (.lst [.int 0])) l (.lst ((List.replicate q.2 (0 : Int)).map V.int))) r2 (.dK (putK rvs (.inr q.1) (.ref l)))) b = some o := fun {b o} e h => by
    rw [upd_ne h, upd_ne (ne_of_none e nl1), upd_ne (ne_of_none e nz)]
    exact e
  have rl : l ≠ r2 := fun e => by rw [e, e2] at nl1; cases nl1
  have fresh : ∀ {b : Addr}, H1 b = none → Hb b = none := fun {b} h => by
    cases e : Hb b with
    | none => rfl
    | some o =>
      by_cases hb : b = r2
      · rw [hb, e2] at h; cases h
      · rw [R.kp b o e (fun y => absurd y hb)] at h; cases h
  have mem : ∀ {x : Str}, x ∈ (ws ++ [q]).map (·.1) → x = q.1 ∨ (x ≠ q.1 ∧ x ∈ ws.map (·.1)) := fun {x} hx => by
    by_cases e : x = q.1
    · exact .inl e
    · rw [List.map_append] at hx
      rcases List.mem_append.mp hx with h | h
      · exact .inr ⟨e, h⟩
      · exact absurd (List.mem_singleton.mp h) e
  refine ⟨fun b o e hk => ?_, ⟨_, upd_same, ?_, fun x hx => ?_⟩, fun y hy => ?_, fun x hx y hy e => ?_⟩
  · have hb : b ≠ r2 := fun y => by
      rw [y, hr0] at e
      cases e
      exact hk y trivial
    exact at_ (R.kp b o e hk) hb
  · have := length_putK rvs (.inr q.1) (.ref l)
    rw [List.length_append, List.length_singleton]
    omega
  · rw [valV_put]
    rcases mem hx with e | ⟨e, h⟩
    · rw [if_pos (by rw [e]), if_pos e]
    · rw [if_neg (fun z => e (by injection z)), if_neg e]
      exact v2 x h
  · rcases List.mem_append.mp hy with h | h
    · have hne : y.1 ≠ q.1 := fun e => hq (by rw [← e]; exact List.mem_map_of_mem (f := (·.1)) h)
      rw [if_neg hne]
      obtain ⟨a1, a2⟩ := R.el y h
      exact ⟨at_ a1 (fun z => by rw [z, e2] at a1; cases a1), a2⟩
    · rw [List.mem_singleton.mp h, if_pos rfl]
      exact ⟨by rw [upd_ne rl]; exact upd_same, fresh nl1⟩
  · have inH : ∀ {x : Str}, x ∈ ws.map (·.1) → ra x ≠ l := fun {x} hx e => by
      obtain ⟨y, hy, rfl⟩ := List.mem_map.mp hx
      have := (R.el y hy).1
      rw [e, nl1] at this
      cases this
    rcases mem hx with e1 | ⟨e1, h1⟩ <;> rcases mem hy with e2 | ⟨e2, h2⟩
    · rw [e1, e2]
    · rw [if_pos e1, if_neg e2] at e; exact absurd e.symm (inH h2)
    · rw [if_neg e1, if_pos e2] at e; exact absurd e (inH h1)
    · rw [if_neg e1, if_neg e2] at e; exact R.ri x h1 y h2 e
theorem ok__law_played (T : Top K mg) (n : Nat) : FnOk P w K mg base CX0 (3 * n + 14) (He.ga K "_law_played") T.fd__law_played ["_law_program", "_law_inputs", "_law_most"] (sp_lplayed K n) := by
  have G__law_done := ok_llevels (P := P) (w := w) (base := base) T n
  refine T.F__law_played.ok sc__law_played (fun vs H Q E h => ?_) (fun cdv A outer s H vs Q E hr h => ?_)
  · obtain ⟨v, b, most, hl, ps, ws, bd, s', r, F, rfl, _⟩ := h
    rfl
  · obtain ⟨v, b, most, hl, ps, ws, bd, s', r, F, rfl, dp, hb, pk, m5, hd, q⟩ := h
    refine ⟨_, PSs.nox (pss_cons (ps_set (i := 3) sc__law_played.nd rfl (Or.inl rfl) (pe_disp (pps_cons pe_str (pv 2) (pps_cons pe_str (pe_lst pa_nil) (pps_cons pe_str pe_dnewK pps_nil))) (by rfl) (by rfl) (fun z => by cases z) (by decide)))
        (pss_cons (ps_for PassesOwn.never (by rfl) (pi_tup (pe_ix ix_tup (pv 0) pe_int (fun _ _ => rfl))) (pg_tup (n := 3) (by rfl) (pgs_cons (pg_name (i := 4) sc__law_played.nd rfl (Or.inl rfl)) (pgs_cons (pg_name (i := 5) sc__law_played.nd rfl (Or.inl rfl)) (pgs_cons (pg_name (i := 6) sc__law_played.nd rfl (Or.inl rfl)) pgs_nil)))) (pss_one (ps_dput (hu_of hr) (pe_dget (hu_of hr) (pv 3) pe_str (fun _ _ => rfl)) (pv 4) (pe_tup (pa_cons (pv 5) (pa_cons (pv 6) pa_nil))) (by rfl))))
        (pss_cons (ps_set (i := 7) sc__law_played.nd rfl (Or.inl rfl) (pe_disp (pps_cons pe_str (ZipM.pe_dictzip rfl (by rfl) T.m_dict (by rfl) T.m_zip (pa_cons (pe_ix ix_tup (pv 0) pe_int (fun _ _ => rfl)) (pa_cons (pv 1) pa_nil))) (pps_cons pe_str pe_dnewK pps_nil)) (by rfl) (by rfl) (fun z => by cases z) (by decide)))
        (pss_cons (ps_for PassesOwn.never (by rfl) (pi_tup (pe_ix ix_tup (pv 0) pe_int (fun _ _ => rfl))) (pg_tup (n := 2) (by rfl) (pgs_cons (pg_name (i := 4) sc__law_played.nd rfl (Or.inl rfl)) (pgs_cons (pg_name (i := 8) sc__law_played.nd rfl (Or.inl rfl)) pgs_nil))) (pss_one (ps_dput (hu_of hr) (pe_dget (hu_of hr) (pv 7) pe_str (fun _ _ => rfl)) (pv 4) (pe_op op_rep (pe_lst (pa_cons pe_int pa_nil)) (pv 8)) (by rfl))))
        (pss_cons (ps_set (i := 9) sc__law_played.nd rfl (Or.inl rfl) (pe_orT (pe_call G__law_done (hr.mono (by omega)) (by rfl) T.g__law_done T.F__law_done.kp T.b__law_done .nil pass0 (pa_cons (pe_ix ix_tup (pv 0) pe_int (fun _ _ => rfl)) (pa_cons (pv 7) (pa_cons (pv 3) pa_nil)))) (pe_one (pe_tup (pa_cons pe_str (pa_cons pe_int pa_nil))))))
        (pss_one (ps_ret (pe_tup (pa_cons (pe_callTy call_tuple_of (by rfl) T.m_tuple (by decide +kernel) (pa_cons (pe_dget (hu_of hr) (pv 3) pe_str (fun _ _ => rfl)) pa_nil)) (pa_cons (pv 9) (pa_cons (pe_op op_sub (pv 2) (pe_dget (hu_of hr) (pv 3) pe_str (fun _ _ => rfl))) pa_nil))))))))))), ?_⟩
    obtain ⟨p0, xs, rfl, hp, da⟩ := dp_tup dp
    obtain ⟨x0, r0, rfl, d0, e0⟩ := dpAll_cons da
    obtain ⟨x1, r1, rfl, d1, e1⟩ := dpAll_cons e0
    obtain ⟨x2, r2, rfl, d2, e2⟩ := dpAll_cons e1
    obtain ⟨x3, r3, rfl, d3, e3⟩ := dpAll_cons e2
    obtain ⟨h0, hxs, rfl, hh0, dh⟩ := dp_tup d0
    have lh := dpAll_len dh
    rw [List.length_map] at lh
    obtain ⟨a1, ys, rfl, ha1, z1⟩ := dp_tup d1
    have ey := strs_of z1
    subst ey
    obtain ⟨rw2, wxs', rfl, hrw2, dw⟩ := dp_tup d2
    have lw := dpAll_len dw
    rw [List.length_map] at lw
    intro qa hqa
    have s1 := same_new (o := .dK []) hqa
    refine ⟨_, rfl, Nat.zero_le _, fun t ht => ?_⟩
    have nt : H t = none := none_sm s1 ht
    have s2 := same_upd (o := .lst []) s1 nt
    have netq : t ≠ qa := fun z => by rw [z, upd_same] at ht; cases ht
    intro hh hhh
    have nh : H hh = none := none_sm s2 hhh
    have s3 := same_upd (o := .dK []) s2 nh
    have nehq : qa ≠ hh := fun z => by rw [← z, upd_ne netq.symm, upd_same] at hhh; cases hhh
    have neht : t ≠ hh := fun z => by rw [← z, upd_same] at hhh; cases hhh
    refine ⟨by rw [upd_ne nehq, upd_ne netq.symm]; exact upd_same, [(.inr "left", _), (.inr "told", _), (.inr "helpers", _)], rfl, (by show 3 ≤ 15; decide), ?_⟩
    rw [merge_play]
    have s4 : Same H (upd (upd (upd (upd H qa (.dK [])) t (.lst [])) hh (.dK [])) qa (.dK (playK most t hh))) := same_upd s3 hqa
    have eq4 : (upd (upd (upd (upd H qa (.dK [])) t (.lst [])) hh (.dK [])) qa (.dK (playK most t hh))) qa = some (.dK (playK most t hh)) := upd_same
    have et4 : (upd (upd (upd (upd H qa (.dK [])) t (.lst [])) hh (.dK [])) qa (.dK (playK most t hh))) t = some (.lst []) := by rw [upd_ne netq, upd_ne neht]; exact upd_same
    have eh4 : (upd (upd (upd (upd H qa (.dK [])) t (.lst [])) hh (.dK [])) qa (.dK (playK most t hh))) hh = some (.dK []) := by rw [upd_ne nehq.symm]; exact upd_same
    generalize hH4 : (upd (upd (upd (upd H qa (.dK [])) t (.lst [])) hh (.dK [])) qa (.dK (playK most t hh))) = H4 at s4 eq4 et4 eh4 ⊢
    refine ⟨_, rfl, p0, _, 0, _, rfl, rfl, sqT_sm s4 hp, atI_nat (j := 0) rfl, h0, rfl, ⟨_, sqT_sm s4 hh0⟩, ?_⟩
    have hh4 := sqT_sm s4 hh0
    refine for_tup (K := K) (xs := hxs) (fun j σ' H' => Kp (fun x => x = hh) H4 H' ∧ HlAt K H' hh (hl.take j) ∧ ∃ x4 x5 x6 x7 x8 x9, σ' = [some (.ref p0), some (.ref b), some (.int most), some (.ref qa), x4, x5, x6, x7, x8, x9]) ?_ ?_ ?_ ?_
    · exact ⟨Kp.refl, ⟨[], eh4, Nat.le_refl _, (fun y hy => by cases hy)⟩, _, _, _, _, _, _, rfl⟩
    · rintro j σ' H' _ ⟨k', _⟩
      exact sqT_kp k' hh4
    · rintro j y σ' H1 hy ⟨k5, ⟨hvs, e5, l5, f5⟩, x4, x5, x6, x7, x8, x9, rfl⟩
      have jl : j < hl.length := by
        have := (List.getElem?_eq_some_iff.mp hy).1
        omega
      obtain ⟨dy, hdy, ddy⟩ := dpAll_getV dh hy
      rw [List.getElem?_map, List.getElem?_eq_getElem jl] at hdy
      cases hdy
      have ddy2 := dp_kp k5 _ _ (hlD_nl _) (dp_sm s4 ddy)
      obtain ⟨tp, ts, rfl, htp, dts⟩ := dp_tup ddy2
      obtain ⟨t0, u0, rfl, g0, f0⟩ := dpAll_cons dts
      obtain ⟨t1, u1, rfl, g1, f1⟩ := dpAll_cons f0
      obtain ⟨t2, u2, rfl, g2, f3⟩ := dpAll_cons f1
      cases dpAll_nil f3
      cases dp_str g0
      have eq5 := k5 _ _ eq4 (fun z => absurd z nehq)
      refine ⟨tp, _, rfl, htp, rfl, _, _, rfl, _, _, rfl, _, _, rfl, rfl, _, rfl, _, rfl, (by show 2 ≤ sizeLine; decide), fun z nz => ?_⟩
      have h2z : hh ≠ z := ne_of_none e5 nz
      have qz : qa ≠ z := ne_of_none eq5 nz
      have nq : (hl[j]).1 ∉ (hl.take j).map (·.1) := fun hm => by
        have hs : hl.take (j + 1) = hl.take j ++ [hl[j]] := by rw [List.take_succ, List.getElem?_eq_getElem jl]; rfl
        have nd' : ((hl.take (j + 1)).map (·.1)).Nodup := pk.hn.sublist ((List.take_sublist _ _).map _)
        rw [hs, List.map_append, List.nodup_append] at nd'
        exact nd'.2.2 _ hm _ (List.mem_singleton.mpr rfl) rfl
      have ltk : (hl.take j).length ≤ j := List.length_take_le ..
      have h100 := pk.h100
      have eq5z : upd H1 z (.tup [t1, t2]) qa = some (.dK (playK most t hh)) := by rw [upd_ne qz]; exact eq5
      refine ⟨_, rfl, qa, _, rfl, DGet.k (k := .inr "helpers") eq5z, _, rfl, hh, _, rfl, .inl ⟨hvs, .inr (hl[j]).1, by rw [upd_ne h2z]; exact e5, rfl, ?_, rfl⟩, ?_⟩
      · rw [sizeLine_eq]
        omega
      have e5z : upd H1 z (.tup [t1, t2]) hh = some (.dK hvs) := by rw [upd_ne h2z]; exact e5
      have kz : Kp (fun x => x = hh) (upd H1 z (.tup [t1, t2])) (upd (upd H1 z (.tup [t1, t2])) hh (.dK (putK hvs (.inr (hl[j]).1) (.ref z)))) := Kp.upd e5z trivial rfl
      have sz := same_new (o := .tup [t1, t2]) nz
      have hs : hl.take (j + 1) = hl.take j ++ [hl[j]] := by rw [List.take_succ, List.getElem?_eq_getElem jl]; rfl
      refine ⟨(k5.trans (Kp.of_same sz)).trans kz, ⟨_, upd_same, ?_, fun y hy => ?_⟩, _, _, _, _, _, _, rfl⟩
      · have := length_putK hvs (.inr (hl[j]).1) (.ref z)
        rw [hs, List.length_append, List.length_singleton]
        omega
      · rw [hs] at hy
        rcases List.mem_append.mp hy with hy | hy
        · have hne : y.1 ≠ (hl[j]).1 := fun e => nq (by rw [← e]; exact List.mem_map_of_mem (f := (·.1)) hy)
          obtain ⟨u, a, b⟩ := f5 y hy
          refine ⟨u, ?_, dp_kp kz _ _ (helpD_nl _) (dp_sm sz b)⟩
          rw [valV_put, if_neg (fun z => hne (by injection z))]
          exact a
        · rw [List.mem_singleton.mp hy]
          refine ⟨.ref z, by rw [valV_put, if_pos rfl], ?_⟩
          refine dp_kp kz _ _ (helpD_nl _) (.tup (.of upd_same) (.cons (dp_sm sz g1) (.cons (dp_sm sz g2) .nil)))
    rintro σ' H5 ⟨k5, hA, x4, x5, x6, x7, x8, x9, rfl⟩
    rw [lh, List.take_length] at hA
    have hlp := hA.help
    obtain ⟨hvs5, eh5, _, _⟩ := hA.e
    have eq5 := k5 _ _ eq4 (fun z => absurd z nehq)
    have et5 := k5 _ _ et4 (fun z => absurd z neht)
    have s5 : Same H H5 := Kp.same s4 k5 (fun b hb => by cases hb; exact nh)
    intro pa hpa
    have npa : H pa = none := none_sm s5 hpa
    have k6 := same_new (o := .dK []) hpa
    have s6 := s5.trans k6
    have hb6 := s6.seq hb
    refine ⟨_, rfl, p0, _, 1, _, rfl, rfl, sqT_sm s6 hp, atI_nat (j := 1) rfl, _, rfl, a1, b, ps.map (fun y => (y.1, V.int y.2)), rfl, ?_, ?_, by rw [List.length_map]; have := pk.lp; omega, fun d hd6 => ?_⟩
    · rw [List.map_map]
      exact sqT_sm s6 ha1
    · rw [List.map_map]
      rw [List.map_map] at hb6
      exact hb6
    rw [List.map_map]
    have nd : H d = none := none_sm s6 hd6
    have npd : pa ≠ d := fun z => by rw [← z, upd_same] at hd6; cases hd6
    generalize hKn : (mergeK [] (ps.map ((fun x : Str × V => ((Sum.inr x.1 : Key), x.2)) ∘ fun y : Str × Int => (y.1, V.int y.2)))) = kvs
    have hkv : ∀ x, valV kvs (.inr x) = (knZ ps x).map V.int := fun x => by
      rw [← hKn]
      exact val_merge ps x
    have lkv : kvs.length ≤ ps.length := by
      have := length_mergeK (ps.map ((fun x : Str × V => ((Sum.inr x.1 : Key), x.2)) ∘ fun y : Str × Int => (y.1, V.int y.2))) []
      rw [List.length_map, List.length_nil] at this
      rw [← hKn]
      omega
    have s7 := same_upd (o := .dK kvs) s6 nd
    intro rr hrr
    have nr : H rr = none := none_sm s7 hrr
    have s8' := same_upd (o := .dK []) s7 nr
    have npr : pa ≠ rr := fun z => by rw [← z, upd_ne npd, upd_same] at hrr; cases hrr
    have ndr : d ≠ rr := fun z => by rw [← z, upd_same] at hrr; cases hrr
    refine ⟨by rw [upd_ne npr, upd_ne npd]; exact upd_same, [(.inr "known", _), (.inr "rows", _)], rfl, (by show 2 ≤ 15; decide), ?_⟩
    rw [merge_room]
    have nqp : qa ≠ pa := ne_of_none eq5 hpa
    have ntp : t ≠ pa := ne_of_none et5 hpa
    have nhp : hh ≠ pa := ne_of_none eh5 hpa
    have nqd : qa ≠ d := fun z => by rw [← z, upd_ne nqp, eq5] at hd6; cases hd6
    have ntd : t ≠ d := fun z => by rw [← z, upd_ne ntp, et5] at hd6; cases hd6
    have nhd : hh ≠ d := fun z => by rw [← z, upd_ne nhp, eh5] at hd6; cases hd6
    have nqr : qa ≠ rr := fun z => by rw [← z, upd_ne nqd, upd_ne nqp, eq5] at hrr; cases hrr
    have ntr : t ≠ rr := fun z => by rw [← z, upd_ne ntd, upd_ne ntp, et5] at hrr; cases hrr
    have nhr : hh ≠ rr := fun z => by rw [← z, upd_ne nhd, upd_ne nhp, eh5] at hrr; cases hrr
    have sH5 : Same H5 (upd (upd (upd (upd H5 pa (.dK [])) d (.dK kvs)) rr (.dK [])) pa (.dK [(.inr "known", .ref d), (.inr "rows", .ref rr)])) := by
      refine same_upd (same_upd (same_upd k6 ?_) ?_) hpa
      · rw [upd_ne npd.symm] at hd6
        exact hd6
      · rw [upd_ne ndr.symm, upd_ne npr.symm] at hrr
        exact hrr
    have s8 : Same H (upd (upd (upd (upd H5 pa (.dK [])) d (.dK kvs)) rr (.dK [])) pa (.dK [(.inr "known", .ref d), (.inr "rows", .ref rr)])) := s5.trans sH5
    have ep8 : (upd (upd (upd (upd H5 pa (.dK [])) d (.dK kvs)) rr (.dK [])) pa (.dK [(.inr "known", .ref d), (.inr "rows", .ref rr)])) pa = some (.dK [(.inr "known", .ref d), (.inr "rows", .ref rr)]) := upd_same
    have ed8 : (upd (upd (upd (upd H5 pa (.dK [])) d (.dK kvs)) rr (.dK [])) pa (.dK [(.inr "known", .ref d), (.inr "rows", .ref rr)])) d = some (.dK kvs) := by rw [upd_ne npd.symm, upd_ne ndr]; exact upd_same
    have er8 : (upd (upd (upd (upd H5 pa (.dK [])) d (.dK kvs)) rr (.dK [])) pa (.dK [(.inr "known", .ref d), (.inr "rows", .ref rr)])) rr = some (.dK []) := by rw [upd_ne npr.symm]; exact upd_same
    generalize hH8 : (upd (upd (upd (upd H5 pa (.dK [])) d (.dK kvs)) rr (.dK [])) pa (.dK [(.inr "known", .ref d), (.inr "rows", .ref rr)])) = H8 at s8 sH5 ep8 ed8 er8 ⊢
    have eq8 := sH5 _ _ eq5
    have et8 := sH5 _ _ et5
    have hk8 := hlp.sm sH5
    have eh8 := sH5 _ _ eh5
    refine ⟨_, rfl, p0, _, 2, _, rfl, rfl, sqT_sm s8 hp, atI_nat (j := 2) rfl, rw2, rfl, ⟨_, sqT_sm s8 hrw2⟩, ?_⟩
    have hrw8 := sqT_sm s8 hrw2
    refine for_tup (K := K) (xs := wxs') (fun j σ' H' => (∃ ra, LRows H8 H' rr (ws.take j) ra) ∧ ∃ x4 x5 x6 x8 x9, σ' = [some (.ref p0), some (.ref b), some (.int most), some (.ref qa), x4, x5, x6, some (.ref pa), x8, x9]) ?_ ?_ ?_ ?_
    · exact ⟨⟨fun _ => 0, Kp.refl, ⟨[], er8, Nat.le_refl _, (fun x hx => by cases hx)⟩, (fun q hq => by cases hq), (fun x hx => by cases hx)⟩, _, _, _, _, _, rfl⟩
    · rintro j σ' H' _ ⟨⟨ra, R⟩, _⟩
      exact sqT_kp R.kp hrw8
    · rintro j y σ' H9 hy ⟨⟨ra, R⟩, y4, y5, y6, y8, y9, rfl⟩
      have jl : j < ws.length := by
        have := (List.getElem?_eq_some_iff.mp hy).1
        omega
      obtain ⟨dy, hdy, ddy⟩ := dpAll_getV dw hy
      rw [List.getElem?_map, List.getElem?_eq_getElem jl] at hdy
      cases hdy
      have ddy2 := dp_kp R.kp _ _ (by simp [rowD, nLd, nLs]) (dp_sm s8 ddy)
      obtain ⟨tp, ts, rfl, htp, dts⟩ := dp_tup ddy2
      obtain ⟨t0, u0, rfl, g0, f0⟩ := dpAll_cons dts
      obtain ⟨t1, u1, rfl, g1, f1⟩ := dpAll_cons f0
      cases dpAll_nil f1
      cases dp_str g0
      cases dp_int g1
      obtain ⟨rvs, er2, lr2, vr2⟩ := R.er
      have w1 := pk.wz ws[j] (List.getElem_mem jl)
      have ep9 := R.kp _ _ ep8 (fun z => absurd z npr)
      refine ⟨tp, _, rfl, htp, rfl, _, _, rfl, _, _, rfl, rfl, (by show 1 ≤ sizeLine; decide), fun z nz => ?_⟩
      refine ⟨_, rfl, z, _, _, rfl, rfl, upd_same, by omega, by omega, ?_, fun l nl => ?_⟩
      · rw [sizeLine_eq, Int.toNat_natCast]
        show 1 * _ ≤ _
        omega
      rw [Int.toNat_natCast, flat_rep]
      have hpz : pa ≠ z := ne_of_none ep9 nz
      have lz : l ≠ z := fun e => by rw [e, upd_same] at nl; cases nl
      have nl1 : H9 l = none := by rw [upd_ne lz] at nl; exact nl
      have hpl : pa ≠ l := ne_of_none ep9 nl1
      have r2z : rr ≠ z := ne_of_none er2 nz
      have r2l : rr ≠ l := ne_of_none er2 nl1
      have nq : (ws[j]).1 ∉ (ws.take j).map (·.1) := fun hm => by
        have hs : ws.take (j + 1) = ws.take j ++ [ws[j]] := by rw [List.take_succ, List.getElem?_eq_getElem jl]; rfl
        have nd' : ((ws.take (j + 1)).map (·.1)).Nodup := pk.wn.sublist ((List.take_sublist _ _).map _)
        rw [hs, List.map_append, List.nodup_append] at nd'
        exact nd'.2.2 _ hm _ (List.mem_singleton.mpr rfl) rfl
      have w100 := pk.w100
      have ep9z : upd (upd H9 z (.lst [.int 0])) l (.lst ((List.replicate (ws[j]).2 (0 : Int)).map V.int)) pa = some (.dK [(.inr "known", .ref d), (.inr "rows", .ref rr)]) := by rw [upd_ne hpl, upd_ne hpz]; exact ep9
      refine ⟨_, rfl, pa, _, rfl, DGet.k (k := .inr "rows") ep9z, _, rfl, rr, _, rfl, .inl ⟨rvs, .inr (ws[j]).1, by rw [upd_ne r2l, upd_ne r2z]; exact er2, rfl, ?_, rfl⟩, ?_⟩
      · rw [sizeLine_eq]
        have : (ws.take j).length ≤ j := List.length_take_le ..
        omega
      · refine ⟨⟨fun y => if y = (ws[j]).1 then l else ra y, ?_⟩, _, _, _, _, _, rfl⟩
        have hs : ws.take (j + 1) = ws.take j ++ [ws[j]] := by rw [List.take_succ, List.getElem?_eq_getElem jl]; rfl
        rw [hs]
        exact R.step er8 nq nz nl er2 lr2 vr2
    rintro σ' H9 ⟨⟨ra, R⟩, y4, y5, y6, y8, y9, rfl⟩
    rw [lw, List.take_length] at R
    obtain ⟨rvs, er2, lr2, vr2⟩ := R.er
    have s9 : Same H H9 := Kp.same s8 R.kp (fun b hb => by cases hb; exact nr)
    have ep9 := R.kp _ _ ep8 (fun z => absurd z npr)
    have ed9 := R.kp _ _ ed8 (fun z => absurd z ndr)
    have eq9 := R.kp _ _ eq8 (fun z => absurd z nqr)
    have et9 := R.kp _ _ et8 (fun z => absurd z ntr)
    have stw : LStd K (hsZ hl) (ws.map (·.1)) ⟨pa, d, qa, t, rr, ra⟩ hh most (most + ps.length) H9 (st0 ps ws most) := by
      refine ⟨⟨ep9, ⟨kvs, ed9, ?_, hkv⟩, ⟨rvs, er2, vr2⟩, fun x hx => ?_⟩, eq9, et9, hk8.kp R.kp nhr, kn32_of pk.i32, rwZ_32 ws, ?_, ?_, by omega, by have := pk.lp; omega, nqp.symm, npd, nqd.symm, ndr.symm, nqr.symm, nhd, nehq.symm, fun x hx e => ?_, R.ri⟩
      · show kvs.length ≤ most + ps.length - most
        omega
      · obtain ⟨y, hy, rfl⟩ := List.mem_map.mp hx
        show H9 (ra y.1) = some (.lst ((rwZ ws y.1).map V.int))
        rw [rwZ_of pk.wn hy]
        exact (R.el y hy).1
      · show 0 + most ≤ most
        omega
      · show most ≤ most + ps.length
        omega
      · obtain ⟨y, hy, rfl⟩ := List.mem_map.mp hx
        have := (R.el y hy).2
        have e : ra y.1 = t := e
        rw [e, et8] at this
        cases this
    have noneSA : ∀ c, SA (ws.map (·.1)) ⟨pa, d, qa, t, rr, ra⟩ c → H c = none := fun c hc => by
      rcases hc with h | h | h | ⟨x, hx, h⟩
      · rw [h]; exact nd
      · rw [h]; exact hqa
      · rw [h]; exact nt
      · rw [h]
        obtain ⟨y, hy, rfl⟩ := List.mem_map.mp hx
        exact none_sm s8 (R.el y hy).2
    refine ⟨_, rfl, p0, _, 3, _, rfl, rfl, sqT_sm s9 hp, atI_nat (j := 3) rfl, _, rfl, _, rfl, hsZ hl, ws.map (·.1), ⟨pa, d, qa, t, rr, ra⟩, hh, most, most + ps.length, _, s', x3, bd, r, F, rfl, stw, dp_sm s9 d3, pk.ok, hd, ?_⟩
    have fin : ∀ {ed : PyData} {xs : List PyData} {H' : Hp} {u : Addr}, ed = .tuple (.str "gave" :: xs) ∨ ed = .tuple (.str "on" :: xs) ∨ ed = .tuple (.str "fault" :: xs) → Dp K H' (.ref u) ed → TruV K (.ref u) H' true := fun {ed xs H' u} he du => by
      have : ∃ y ys, ed = .tuple (y :: ys) := by rcases he with rfl | rfl | rfl <;> exact ⟨_, _, rfl⟩
      obtain ⟨y, ys, rfl⟩ := this
      obtain ⟨u1, xs9, e9, hu9, da9⟩ := dp_tup du
      cases e9
      obtain ⟨z1, r1, rfl, _, _⟩ := dpAll_cons da9
      exact .inr (.inl ⟨_, hu9, rfl⟩)
    cases r with
    | fin =>
      intro H10 k10 st10
      have s10 : Same H H10 := Kp.same s9 k10 noneSA
      refine ⟨false, rfl, ifF rfl ⟨(by show 2 ≤ sizeLine; decide), fun tp htp => ?_⟩⟩
      have eq10 := st10.ob
      have et10 := st10.tl
      have nq : qa ≠ tp := ne_of_none eq10 htp
      have nt' : t ≠ tp := ne_of_none et10 htp
      refine lret_ok (σ := [_, _, _, _, _, _, _, _, _, _]) rfl rfl rfl (by rw [upd_ne nq]; exact eq10) (by rw [upd_ne nt']; exact et10) (pair_dp) (fun H7 u s7 dq => ?_)
      exact q _ u ((same_upd s10 (none_sm s10 htp)).trans s7) dq
    | gave v =>
      intro H10 u9 k10 st10 _ du
      have s10 : Same H H10 := Kp.same s9 k10 noneSA
      refine ⟨true, fin (.inl rfl) du, ifT rfl ?_⟩
      refine lret_ok (σ := [_, _, _, _, _, _, _, _, _, _]) rfl rfl rfl st10.ob st10.tl du (fun H7 u s7 dq => ?_)
      exact q _ u (s10.trans s7) dq
    | on =>
      intro H10 u9 k10 st10 du
      have s10 : Same H H10 := Kp.same s9 k10 noneSA
      refine ⟨true, fin (.inr (.inl rfl)) du, ifT rfl ?_⟩
      refine lret_ok (σ := [_, _, _, _, _, _, _, _, _, _]) rfl rfl rfl st10.ob st10.tl du (fun H7 u s7 dq => ?_)
      exact q _ u (s10.trans s7) dq
    | flt w =>
      intro H10 u9 k10 st10 du
      have s10 : Same H H10 := Kp.same s9 k10 noneSA
      refine ⟨true, fin (.inr (.inr rfl)) du, ifT rfl ?_⟩
      refine lret_ok (σ := [_, _, _, _, _, _, _, _, _, _]) rfl rfl rfl st10.ob st10.tl du (fun H7 u s7 dq => ?_)
      exact q _ u (s10.trans s7) dq
end

section
variable {P : Program} {w : World} {K : PySem.W.Frag} {mg : Str → Option Value} {base : Heap}
/-- data of tuples, texts and ints -/
def alk : Nat → PyData → Prop
  | n + 1, .tuple xs => xs.length ≤ 6000 ∧ ∀ x ∈ xs, alk n x
  | _ + 1, .int _ => True
  | _ + 1, .str x => SeqAt.shaped (.str x) = true
  | _, _ => False
def sp_whole (K : PySem.W.Frag) : Sp := fun vs H Q _ => ∃ n : Int, vs = [.int n] ∧ Q (.bl true) H
theorem ok__law_whole (T : Top K mg) : FnOk P w K mg base CX0 1 (He.ga K "_law_whole") T.fd__law_whole ["_law_found"] (sp_whole K) := by
  refine T.F__law_whole.ok sc__law_whole (fun vs H Q E h => ?_) (fun cdv A outer s H vs Q E hr h => ?_)
  · obtain ⟨n, rfl, _⟩ := h
    rfl
  · obtain ⟨n, rfl, q⟩ := h
    refine ⟨_, PSs.nox (pss_one (ps_ret (pe_and (pe_callB call_isi (by rfl) T.m_isinstance (by decide +kernel) (pa_cons (pv 0) (pa_cons (pe_bltn (v := .ty "int") (by rfl) T.m_int (by decide +kernel) rfl) pa_nil))) (pe_one (pe_not (pe_callB call_isi (by rfl) T.m_isinstance (by decide +kernel) (pa_cons (pv 0) (pa_cons (pe_bltn (v := .ty "bool") (by rfl) T.m_bool (by decide +kernel) rfl) pa_nil)))))))), ?_⟩
    refine ⟨_, rfl, _, _, _, _, true, rfl, .ty _, ty_int n, kit_int (.int n), _, rfl, ifT rfl ?_⟩
    exact ⟨_, rfl, _, _, _, _, false, rfl, .ty _, ty_int n, kit_bool (.int n), _, rfl, q⟩
theorem kit2_tup : PySem.W.kitAny K (.type "tuple") [.type "tuple", .type "list"] = some true := kitAny_cons (kit_ty (r := true) (by decide +kernel)) (fun z => nomatch z) fun _ => rfl
theorem kit2_int : PySem.W.kitAny K (.type "int") [.type "tuple", .type "list"] = some false := kitAny_cons (kit_ty (r := false) (by decide +kernel)) (fun _ => kitAny_cons (kit_ty (r := false) (by decide +kernel)) (fun _ => rfl) (fun z => nomatch z)) (fun z => nomatch z)
theorem kit2_str : PySem.W.kitAny K (.type "str") [.type "tuple", .type "list"] = some false := kitAny_cons (kit_ty (r := false) (by decide +kernel)) (fun _ => kitAny_cons (kit_ty (r := false) (by decide +kernel)) (fun _ => rfl) (fun z => nomatch z)) (fun z => nomatch z)
def sp_alike (K : PySem.W.Frag) (n : Nat) : Sp := fun vs H Q _ => ∃ (u v : V) (d : PyData), vs = [u, v] ∧ Dp K H u d ∧ Dp K H v d ∧ alk n d ∧ ∀ H', Same H H' → Q (.bl true) H'
theorem ok__law_alike (T : Top K mg) : ∀ n : Nat, FnOk P w K mg base CX0 (n + 2) (He.ga K "_law_alike") T.fd__law_alike ["_law_found", "_law_due"] (sp_alike K n)
  | 0 => by
    refine T.F__law_alike.ok sc__law_alike (fun vs H Q E h => ?_) (fun cdv A outer s H vs Q E hr h => ?_)
    · obtain ⟨u, v, d, rfl, _⟩ := h
      rfl
    · obtain ⟨u, v, d, rfl, _, _, h, _⟩ := h
      cases d <;> cases h
  | n + 1 => by
    have G__law_alike := ok__law_alike T n
    have G__law_whole := ok__law_whole (P := P) (w := w) (base := base) T
    refine T.F__law_alike.ok sc__law_alike (fun vs H Q E h => ?_) (fun cdv A outer s H vs Q E hr h => ?_)
    · obtain ⟨u, v, d, rfl, _⟩ := h
      rfl
    · obtain ⟨u, v, d, rfl, du, dv, hk, q⟩ := h
      refine ⟨_, PSs.nox (pss_cons (ps_if (pt_val (pe_callB call_isiT (by rfl) T.m_isinstance (by decide +kernel) (pa_cons (pv 1) (pa_cons (pe_tup (pa_cons (pe_bltn (v := .ty "tuple") (by rfl) T.m_tuple (by decide +kernel) rfl) (pa_cons (pe_bltn (v := .ty "list") (by rfl) T.m_list (by decide +kernel) rfl) pa_nil))) pa_nil)))) (pss_cons (ps_if (PW.pt (pw_or (pt_not (pt_val (pe_callB call_isiT (by rfl) T.m_isinstance (by decide +kernel) (pa_cons (pv 0) (pa_cons (pe_tup (pa_cons (pe_bltn (v := .ty "tuple") (by rfl) T.m_tuple (by decide +kernel) rfl) (pa_cons (pe_bltn (v := .ty "list") (by rfl) T.m_list (by decide +kernel) rfl) pa_nil))) pa_nil))))) (pw_or1 (pt_cmpR op_ne (pe_callB call_isi (by rfl) T.m_isinstance (by decide +kernel) (pa_cons (pv 0) (pa_cons (pe_bltn (v := .ty "tuple") (by rfl) T.m_tuple (by decide +kernel) rfl) pa_nil))) (pe_callB call_isi (by rfl) T.m_isinstance (by decide +kernel) (pa_cons (pv 1) (pa_cons (pe_bltn (v := .ty "tuple") (by rfl) T.m_tuple (by decide +kernel) rfl) pa_nil))) (nomark _))))) (pss_one (ps_ret pe_bl)) pss_nil)
        (pss_one (ps_ret (pe_and (pe_cmpR op_eq (pe_callB call_len_seq (by rfl) T.m_len (by decide +kernel) (pa_cons (pv 0) pa_nil)) (pe_callB call_len_seq (by rfl) T.m_len (by decide +kernel) (pa_cons (pv 1) pa_nil)) (nomark _)) (pe_one (pe_callB (cr_all (by rfl)) (by rfl) T.m_all (by decide +kernel) (pa_cons (pe_lc (own := [("_law_k", 2)]) (by rfl) sc__law_alike.nd (pi_range1 (by rfl) T.m_range (pa_cons (pe_callB call_len_seq (by rfl) T.m_len (by decide +kernel) (pa_cons (pv 1) pa_nil)) pa_nil)) (blkOk_by (own := [("_law_k", 2)]) (N := N__law_alike) (sc := defScope s__law_alike) (by decide +kernel)) (fun _ _ _ _ _ => (pg_name (i := 2) sc__law_alike.nd rfl (Or.inl rfl))) (fun _ _ _ _ _ => pts_nil) (fun _ _ _ _ _ => (pe_call G__law_alike (hr.mono (by omega)) (by rfl) T.g__law_alike T.F__law_alike.kp T.b__law_alike .nil pass0 (pa_cons (pe_ix (ix_tupK (K := K) rfl) (pv 0) (pv 2) (fun _ _ => rfl)) (pa_cons (pe_ix (ix_tupK (K := K) rfl) (pv 1) (pv 2) (fun _ _ => rfl)) pa_nil))))) pa_nil))))))) pss_nil)
        (pss_cons (ps_if (pt_val (pe_callB call_isi (by rfl) T.m_isinstance (by decide +kernel) (pa_cons (pv 1) (pa_cons (pe_bltn (v := .ty "str") (by rfl) T.m_str (by decide +kernel) rfl) pa_nil)))) (pss_one (ps_ret (pe_and (pe_callB call_isi (by rfl) T.m_isinstance (by decide +kernel) (pa_cons (pv 0) (pa_cons (pe_bltn (v := .ty "str") (by rfl) T.m_str (by decide +kernel) rfl) pa_nil))) (pe_one (pe_cmpR (op_eqD hr.units) (pv 0) (pv 1) (nomark _)))))) pss_nil)
        (pss_one (ps_ret (pe_and (pe_call G__law_whole (hr.mono (by omega)) (by rfl) T.g__law_whole T.F__law_whole.kp T.b__law_whole .nil pass0 (pa_cons (pv 0) pa_nil)) (pe_one (pe_cmpR (op_eqD hr.units) (pv 0) (pv 1) (nomark _)))))))), ?_⟩
      refine ⟨_, rfl, (by show 2 ≤ sizeLine; decide), fun tp htp => ?_⟩
      have s1 : Same H (upd H tp (.tup [.ty "tuple", .ty "list"])) := same_new htp
      cases d with
      | int i =>
        cases dp_int du
        cases dp_int dv
        refine ⟨_, tp, _, _, _, false, rfl, upd_same, .cons (.ty _) (.cons (.ty _) .nil), ty_int i, kit2_int, _, rfl, ifF rfl ?_⟩
        refine ⟨_, rfl, _, _, _, _, false, rfl, .ty _, ty_int i, kit_str (.int i), _, rfl, ifF rfl ?_⟩
        refine ⟨_, rfl, i, rfl, _, rfl, ifT rfl ?_⟩
        refine ⟨_, rfl, _, rfl, .int i, .int i, .int _, .int _, rfl, rfl, ?_⟩
        have e : PyData.eqv (.int i) (.int i) = true := by simp [PyData.eqv]
        rw [e]
        exact q _ s1
      | str x =>
        cases dp_str du
        cases dp_str dv
        refine ⟨_, tp, _, _, _, false, rfl, upd_same, .cons (.ty _) (.cons (.ty _) .nil), dp_ty (.str x), kit2_str, _, rfl, ifF rfl ?_⟩
        refine ⟨_, rfl, _, _, _, _, true, rfl, .ty _, dp_ty (.str x), kit_str (.str x), _, rfl, ifT rfl ?_⟩
        refine ⟨_, rfl, _, _, _, _, true, rfl, .ty _, dp_ty (.str x), kit_str (.str x), _, rfl, ifT rfl ?_⟩
        refine ⟨_, rfl, _, rfl, .str x, .str x, .str _, .str _, hk, hk, ?_⟩
        have e : PyData.eqv (.str x) (.str x) = true := by simp [PyData.eqv]
        rw [e]
        exact q _ s1
      | tuple ds =>
        have du0 := du
        have dv0 := dv
        obtain ⟨ua, us, rfl, hu, dau⟩ := dp_tup du
        obtain ⟨va, vs, rfl, hv, dav⟩ := dp_tup dv
        refine ⟨_, tp, _, _, _, true, rfl, upd_same, .cons (.ty _) (.cons (.ty _) .nil), ty_tup (sqT_sm s1 hv), kit2_tup, _, rfl, ifT rfl ?_⟩
        refine ⟨_, rfl, (by show 2 ≤ sizeLine; decide), fun tq htq => ?_⟩
        have s2 : Same H (upd (upd H tp (.tup [.ty "tuple", .ty "list"])) tq (.tup [.ty "tuple", .ty "list"])) := s1.trans (same_new htq)
        have hu2 := sqT_sm s2 hu
        have hv2 := sqT_sm s2 hv
        refine ⟨_, tq, _, _, _, true, rfl, upd_same, .cons (.ty _) (.cons (.ty _) .nil), ty_tup hu2, kit2_tup, _, rfl, ifF rfl ?_⟩
        refine ⟨_, rfl, _, _, _, _, true, rfl, .ty _, ty_tup hu2, kit_tup (.tuple ds), _, rfl, _, _, _, _, true, rfl, .ty _, ty_tup hv2, kit_tup (.tuple ds), rfl, _, rfl, ifNF rfl ?_⟩
        have lu : us.length = ds.length := dpAll_len dau
        have lv : vs.length = ds.length := dpAll_len dav
        refine ⟨_, rfl, ua, _, rfl, .inr hu2, _, rfl, va, _, rfl, .inr hv2, rfl, _, rfl, ?_⟩
        rw [lu, lv]
        refine ifD rfl ?_
        refine ⟨_, rfl, va, _, rfl, .inr hv2, _, rfl, by omega, ?_, ?_⟩
        · have := hk.1
          rw [lv]
          omega
        rw [lv]
        intro D hD
        have nD : H D = none := none_sm s2 hD
        refine lc_range (lo := 0) (n := ((ds.length : Nat) : Int).toNat) (fun j H' => Same H H' ∧ H' D = some (.lst ((List.replicate j true).map V.bl))) ?_ ?_ ?_
        · exact ⟨same_upd s2 nD, upd_same⟩
        · rintro i H1 hi ⟨k1, e1⟩
          have il : i < ds.length := by omega
          have iu : i < us.length := by omega
          have iv : i < vs.length := by omega
          obtain ⟨d, hdd, ddd⟩ := dpAll_getV dau (List.getElem?_eq_getElem iu)
          obtain ⟨d2, hdd2, ddd2⟩ := dpAll_getV dav (List.getElem?_eq_getElem iv)
          rw [hdd] at hdd2
          cases hdd2
          have i0 : (0 : Int) + (i : Int) = (i : Nat) := by omega
          refine ⟨rfl, _, rfl, _, rfl, ua, _, _, _, rfl, rfl, sqT_sm k1 hu, ?_, _, rfl, _, rfl, va, _, _, _, rfl, rfl, sqT_sm k1 hv, ?_, _, _, d, rfl, dp_sm k1 ddd, dp_sm k1 ddd2, hk.2 d (List.mem_of_getElem? hdd), fun H2 s2' => ?_⟩
          · rw [i0]
            exact atI_nat (List.getElem?_eq_getElem iu)
          · rw [i0]
            exact atI_nat (List.getElem?_eq_getElem iv)
          refine ⟨_, s2' _ _ e1, ?_, same_upd (k1.trans s2') nD, ?_⟩
          · rw [List.length_map, List.length_replicate, sizeLine_eq]
            have := hk.1
            omega
          · rw [upd_same, List.replicate_succ', List.map_append]
            rfl
        · rintro H1 ⟨k1, e1⟩
          refine ⟨D, _, rfl, .inl (.inl e1), ?_⟩
          have ea : (List.replicate ((ds.length : Nat) : Int).toNat true).all id = true := by
            rw [List.all_eq_true]
            intro x hx
            rw [List.eq_of_mem_replicate hx]
            rfl
          rw [ea]
          exact q _ k1
      | none => cases hk
      | bool b => cases hk
      | list l => cases hk
      | dict l => cases hk
def sp_isend (K : PySem.W.Frag) (n : Nat) : Sp := fun vs H Q _ => ∃ (u v : V) (d1 d2 : PyData), vs = [u, v] ∧ Dp K H u (.tuple [d1, d2]) ∧ Dp K H v (.tuple [d1, d2]) ∧ alk n d1 ∧ alk n d2 ∧ ∀ H', Same H H' → Q (.bl true) H'
theorem ok__law_is_end (T : Top K mg) (n : Nat) : FnOk P w K mg base CX0 (n + 3) (He.ga K "_law_is_end") T.fd__law_is_end ["_law_found", "_law_due"] (sp_isend K n) := by
  have G__law_alike := ok__law_alike (P := P) (w := w) (base := base) T n
  refine T.F__law_is_end.ok sc__law_is_end (fun vs H Q E h => ?_) (fun cdv A outer s H vs Q E hr h => ?_)
  · obtain ⟨u, v, d1, d2, rfl, _⟩ := h
    rfl
  · obtain ⟨u, v, d1, d2, rfl, du, dv, a1, a2, q⟩ := h
    refine ⟨_, PSs.nox (pss_cons (ps_if (PW.pt (pw_or (pt_not (pt_val (pe_callB call_isi (by rfl) T.m_isinstance (by decide +kernel) (pa_cons (pv 0) (pa_cons (pe_bltn (v := .ty "tuple") (by rfl) T.m_tuple (by decide +kernel) rfl) pa_nil))))) (pw_or (pt_cmpR op_ne (pe_callB call_len_seq (by rfl) T.m_len (by decide +kernel) (pa_cons (pv 0) pa_nil)) pe_int (nomark _)) (pw_or1 (pt_not (pt_val (pe_call G__law_alike (hr.mono (by omega)) (by rfl) T.g__law_alike T.F__law_alike.kp T.b__law_alike .nil pass0 (pa_cons (pe_ix ix_tup (pv 0) pe_int (fun _ _ => rfl)) (pa_cons (pe_ix ix_tup (pv 1) pe_int (fun _ _ => rfl)) pa_nil))))))))) (pss_one (ps_ret pe_bl)) pss_nil)
        (pss_one (ps_ret (pe_call G__law_alike (hr.mono (by omega)) (by rfl) T.g__law_alike T.F__law_alike.kp T.b__law_alike .nil pass0 (pa_cons (pe_ix ix_tup (pv 0) pe_int (fun _ _ => rfl)) (pa_cons (pe_ix ix_tup (pv 1) pe_int (fun _ _ => rfl)) pa_nil)))))), ?_⟩
    obtain ⟨ua, us, rfl, hu, dau⟩ := dp_tup du
    obtain ⟨va, vs, rfl, hv, dav⟩ := dp_tup dv
    obtain ⟨u1, ur, rfl, b1, dau⟩ := dpAll_cons dau
    obtain ⟨u2, ur, rfl, b2, dau⟩ := dpAll_cons dau
    cases dau
    obtain ⟨v1, vr, rfl, c1, dav⟩ := dpAll_cons dav
    obtain ⟨v2, vr, rfl, c2, dav⟩ := dpAll_cons dav
    cases dav
    refine ⟨_, rfl, _, _, _, _, true, rfl, .ty _, ty_tup hu, kit_tup (.tuple []), _, rfl, ifF rfl ?_⟩
    refine ⟨_, rfl, ua, _, rfl, .inr hu, rfl, _, rfl, ifNF rfl ?_⟩
    refine ⟨_, rfl, ua, _, 0, _, rfl, rfl, hu, atI_nat (j := 0) rfl, _, rfl, va, _, 0, _, rfl, rfl, hv, atI_nat (j := 0) rfl, u1, v1, d1, rfl, b1, c1, a1, fun H1 s1 => ?_⟩
    refine ⟨_, rfl, ifF rfl ?_⟩
    exact ⟨_, rfl, ua, _, 1, _, rfl, rfl, sqT_sm s1 hu, atI_nat (j := 1) rfl, _, rfl, va, _, 1, _, rfl, rfl, sqT_sm s1 hv, atI_nat (j := 1) rfl, u2, v2, d2, rfl, dp_sm s1 b2, dp_sm s1 c2, a2, fun H2 s2 => q _ (s1.trans s2)⟩
end
/-! the words of faults -/
def WordOk (w : Str) : Prop := SeqAt.shaped (.str w) = true
theorem word_div : WordOk "division" := by unfold WordOk; decide +kernel
theorem word_place : WordOk "place" := by unfold WordOk; decide +kernel
theorem wx_word {kn : Kn} {rw' : Rw} : ∀ {e : Ex} {f : Str}, wx e kn rw' = .error f → WordOk f
  | .num n, f, h => by cases h
  | .nam x, f, h => by unfold wx at h; cases h
  | .no e, f, h => by
    unfold wx at h
    cases he : wx e kn rw' with
    | error g => rw [he] at h; cases h; exact wx_word he
    | ok u => rw [he] at h; cases h
  | .op w a b, f, h => by
    unfold wx at h
    cases ha : wx a kn rw' with
    | error g => rw [ha] at h; cases h; exact wx_word ha
    | ok u =>
      rw [ha] at h
      dsimp only at h
      cases hb : wx b kn rw' with
      | error g => rw [hb] at h; cases h; exact wx_word hb
      | ok v =>
        rw [hb] at h
        dsimp only at h
        cases hc : rck w u v with
        | none => rw [hc] at h; cases h; exact word_div
        | some z => rw [hc] at h; cases h
  | .at_ r e, f, h => by
    unfold wx at h
    cases he : wx e kn rw' with
    | error g => rw [he] at h; cases h; exact wx_word he
    | ok u =>
      rw [he] at h
      dsimp only at h
      split at h
      · cases h
      · cases h; exact word_place
theorem wxs_word {kn : Kn} {rw' : Rw} : ∀ {es : List Ex} {f : Str}, wxs es kn rw' = .error f → WordOk f
  | [], f, h => by cases h
  | e :: r, f, h => by
    unfold wxs at h
    cases he : wx e kn rw' with
    | error g => rw [he] at h; cases h; exact wx_word he
    | ok u =>
      rw [he] at h
      dsimp only at h
      cases hr : wxs r kn rw' with
      | error g => rw [hr] at h; cases h; exact wxs_word hr
      | ok us => rw [hr] at h; cases h
theorem flt_word (hs : Hs) (F : Nat) : (∀ n rs bd s f s', (∀ m ∈ bd, Sm.ok hs n rs m) → doAll hs F bd s = some (.flt f, s') → WordOk f) ∧ (∀ n rs m s f s', Sm.ok hs n rs m → doOne hs F m s = some (.flt f, s') → WordOk f) ∧ (∀ n rs e b s f s', (∀ m ∈ b, Sm.ok hs n rs m) → again hs F e b s = some (.flt f, s') → WordOk f) := by
  induction F with
  | zero =>
    refine ⟨fun n rs bd s f s' _ h => ?_, fun n rs m s f s' _ h => ?_, fun n rs e b s f s' _ h => ?_⟩
    · simp [doAll] at h
    · simp [doOne] at h
    · simp [again] at h
  | succ F ih =>
    obtain ⟨iA, iO, iW⟩ := ih
    refine ⟨fun n rs bd s f s' ok h => ?_, fun n rs m s f s' ok h => ?_, fun n rs e b s f s' ok h => ?_⟩
    · cases bd with
      | nil => rw [doAll] at h; cases h
      | cons m r =>
        rw [doAll] at h
        by_cases l0 : s.lf = 0
        · rw [if_pos l0] at h; cases h
        · rw [if_neg l0] at h
          cases ho : doOne hs F m { s with lf := s.lf - 1 } with
          | none => rw [ho] at h; cases h
          | some q =>
            obtain ⟨r1, s1⟩ := q
            rw [ho] at h
            cases r1 with
            | fin => exact iA n rs _ _ _ _ (fun m hm => ok m (List.mem_cons_of_mem _ hm)) h
            | gave v => cases h
            | on => cases h
            | flt w => cases h; exact iO n rs _ _ _ _ (ok m (List.mem_cons_self ..)) ho
    · cases n with
      | zero => cases ok
      | succ n =>
      cases m with
      | set x e =>
        rw [doOne] at h
        cases hw : wx e s.kn s.rw with
        | error g => rw [hw] at h; cases h; exact wx_word hw
        | ok v => rw [hw] at h; cases h
      | tell e =>
        rw [doOne] at h
        cases hw : wx e s.kn s.rw with
        | error g => rw [hw] at h; cases h; exact wx_word hw
        | ok v => rw [hw] at h; cases h
      | give e =>
        rw [doOne] at h
        cases hw : wx e s.kn s.rw with
        | error g => rw [hw] at h; cases h; exact wx_word hw
        | ok v => rw [hw] at h; cases h
      | put r e g =>
        rw [doOne] at h
        cases hw : wx e s.kn s.rw with
        | error k => rw [hw] at h; cases h; exact wx_word hw
        | ok p =>
          rw [hw] at h
          dsimp only at h
          cases hv : wx g s.kn s.rw with
          | error k => rw [hv] at h; cases h; exact wx_word hv
          | ok v =>
            rw [hv] at h
            dsimp only at h
            split at h
            · cases h
            · cases h; exact word_place
      | fail k => rw [doOne] at h; cases h; exact ok.2
      | ite e ys ns =>
        rw [doOne] at h
        cases hw : wx e s.kn s.rw with
        | error g => rw [hw] at h; cases h; exact wx_word hw
        | ok v =>
          rw [hw] at h
          refine iA n rs _ _ _ _ (fun m hm => ?_) h
          split at hm
          · exact ok.2.1 m hm
          · exact ok.2.2 m hm
      | loop e b =>
        rw [doOne] at h
        exact iW n rs _ _ _ _ _ ok.2 h
      | call x g es =>
        obtain ⟨_, _, _, ps, body, hg, _, hb⟩ := ok
        rw [doOne, hg] at h
        dsimp only at h
        cases hw : wxs es s.kn s.rw with
        | error k => rw [hw] at h; cases h; exact wxs_word hw
        | ok vs =>
          rw [hw] at h
          dsimp only at h
          cases ho : doAll hs F body { kn := knZ (ps.zip vs), rw := fun _ => [], lf := s.lf, td := s.td } with
          | none => rw [ho] at h; cases h
          | some q =>
            obtain ⟨r1, s1⟩ := q
            rw [ho] at h
            cases r1 with
            | fin => cases h
            | gave v => cases h
            | on => cases h
            | flt w => cases h; exact iA n [] _ _ _ _ hb ho
    · rw [again] at h
      cases hw : wx e s.kn s.rw with
      | error g => rw [hw] at h; cases h; exact wx_word hw
      | ok v =>
        rw [hw] at h
        dsimp only at h
        by_cases hv : v = 0
        · rw [if_pos hv] at h; cases h
        · rw [if_neg hv] at h
          cases ho : doAll hs F b s with
          | none => rw [ho] at h; cases h
          | some q =>
            obtain ⟨r1, s1⟩ := q
            rw [ho] at h
            cases r1 with
            | fin =>
              dsimp only at h
              by_cases l0 : s1.lf = 0
              · rw [if_pos l0] at h; cases h
              · rw [if_neg l0] at h; exact iW n rs _ _ _ _ _ ok h
            | gave v => cases h
            | on => cases h
            | flt w => cases h; exact iA n rs _ _ _ _ ok ho
theorem alk_td {n : Nat} {td : List Int} (h : td.length ≤ 6000) : alk (n + 2) (.tuple (td.map PyData.int)) := by
  refine ⟨by rw [List.length_map]; exact h, fun x hx => ?_⟩
  obtain ⟨i, _, rfl⟩ := List.mem_map.mp hx
  trivial
def Rs.wok : Rs → Prop
  | .flt w => WordOk w
  | _ => True
theorem alk_rs {n : Nat} (r : Rs) (hr : r.wok) : alk (n + 2) r.d := by
  have g : SeqAt.shaped (.str "gave") = true := by decide +kernel
  have o : SeqAt.shaped (.str "on") = true := by decide +kernel
  have f : SeqAt.shaped (.str "fault") = true := by decide +kernel
  cases r with
  | fin =>
    refine ⟨by decide, fun x hx => ?_⟩
    rcases List.mem_cons.mp hx with rfl | hx
    · exact g
    · rw [List.mem_singleton.mp hx]; trivial
  | gave v =>
    refine ⟨by simp, fun x hx => ?_⟩
    rcases List.mem_cons.mp hx with rfl | hx
    · exact g
    · rw [List.mem_singleton.mp hx]; trivial
  | on =>
    refine ⟨by decide, fun x hx => ?_⟩
    rw [List.mem_singleton.mp hx]; exact o
  | flt w =>
    refine ⟨by simp, fun x hx => ?_⟩
    rcases List.mem_cons.mp hx with rfl | hx
    · exact f
    · rw [List.mem_singleton.mp hx]; exact hr
/-- each program that may be played comes to some end -/
theorem ends {n : Nat} {hl : Hl} {ps : List (Str × Int)} {ws : List (Str × Nat)} {bd : List Sm} (pk : PlOk n hl ps ws bd) (most : Nat) (hm : most ≤ 5000) : ∃ F r s', doAll (hsZ hl) F bd (st0 ps ws most) = some (r, s') ∧ s'.td.length ≤ 6000 ∧ r.wok ∧ s'.lf ≤ most := by
  obtain ⟨F, ⟨r, s'⟩, e⟩ := (total (hsZ hl) most).1 n _ bd (st0 ps ws most) pk.ok (Nat.le_refl _)
  have sz := (size1 (hsZ hl) F).1 _ _ _ _ e
  have h1 : (st0 ps ws most).td.length = 0 := rfl
  have h2 : (st0 ps ws most).lf = most := rfl
  refine ⟨F, r, s', e, by omega, ?_, by omega⟩
  cases r with
  | flt w => exact (flt_word (hsZ hl) F).1 n _ bd _ w s' pk.ok e
  | fin => trivial
  | gave v => trivial
  | on => trivial

/-! cells: a number, or a list of digits that are left and of what goes on behind them -/
def CellOk (H : Hp) (v : V) : Prop := (∃ c : Int, v = .int c) ∨ ∃ (a : Addr) (l t : Int), v = .ref a ∧ H a = some (.lst [.int l, .int t]) ∧ 0 ≤ l ∧ 0 ≤ t
def cellS (v : V) : Addr → Prop := fun b => v = .ref b
section
variable {P : Program} {w : World} {K : PySem.W.Frag} {mg : Str → Option Value} {base : Heap}
def cellA (ns : List Int) (k : Int) : Int := ns.getD k.toNat 0
def sp__law_cell_at (K : PySem.W.Frag) : Sp := fun vs H Q _ => ∃ (a : Addr) (ns : List Int) (k : Int), vs = [.ref a, .int k] ∧ 0 ≤ k ∧ SqL K H a (ns.map V.int) ∧ Q (.int (cellA ns k)) H
theorem ok__law_cell_at (T : Top K mg) : FnOk P w K mg base CX0 1 (He.ga K "_law_cell_at") T.fd__law_cell_at ["_law_script", "_law_k"] (sp__law_cell_at K) := by
  refine T.F__law_cell_at.ok sc__law_cell_at (fun vs H Q E h => ?_) (fun cdv A outer s H vs Q E hr h => ?_)
  · obtain ⟨a, ns, k, rfl, _⟩ := h
    rfl
  · obtain ⟨a, ns, k, rfl, h0, hS, q⟩ := h
    refine ⟨_, PSs.nox (pss_cons (ps_if (pt_cmpR op_lt (pv 1) (pe_callB call_len_seq (by rfl) T.m_len (by decide +kernel) (pa_cons (pv 0) pa_nil)) (nomark _)) (pss_one (ps_ret (pe_ix ix_list (pv 0) (pv 1) (fun _ _ => rfl)))) pss_nil)
        (pss_one (ps_ret pe_int))), ?_⟩
    refine ⟨_, rfl, _, rfl, a, _, rfl, .inl hS, _, _, rfl, rfl, _, rfl, ite2 (fun e => ?_) (fun e => ?_)⟩
    · have e1 : k < (ns.map V.int).length := of_decide_eq_true e
      rw [List.length_map] at e1
      exact ⟨_, rfl, _, rfl, a, _, _, _, rfl, rfl, hS, at_ints h0 e1, q⟩
    · have e1 : ¬ k < (ns.map V.int).length := fun z => e (decide_eq_true z)
      rw [List.length_map] at e1
      have e2 : cellA ns k = 0 := by
        unfold cellA
        have : ns.length ≤ k.toNat := by omega
        simp [List.getD, this]
      rw [e2] at q
      exact q
/-- a number or a new list of two -/
def sp__law_held : Sp := fun vs H Q _ => ∃ c : Int, vs = [.int c] ∧ ∀ H' v, Same H H' → CellOk H' v → (∀ p, v = .ref p → H p = none) → Q v H'
theorem ok__law_held (T : Top K mg) : FnOk P w K mg base CX0 1 (He.ga K "_law_held") T.fd__law_held ["_law_cell"] sp__law_held := by
  refine T.F__law_held.ok sc__law_held (fun vs H Q E h => ?_) (fun cdv A outer s H vs Q E hr h => ?_)
  · obtain ⟨c, rfl, _⟩ := h
    rfl
  · obtain ⟨c, rfl, q⟩ := h
    refine ⟨_, PSs.nox (pss_cons (ps_if (pt_cmpR op_ge (pv 0) (pe_op op_pow pe_int pe_int) (nomark _)) (pss_one (ps_ret (pe_lst (pa_cons (pe_op op_fdivW (pv 0) (pe_op op_pow pe_int pe_int)) (pa_cons (pe_op op_mod (pv 0) pe_int) pa_nil))))) pss_nil)
        (pss_one (ps_ret (pv 0)))), ?_⟩
    have p10 : CDivW c (10 ^ (18 : Int).toNat) := wide_div (b := 64) (by decide) (by decide) (by decide) (by decide)
    refine ⟨_, rfl, _, _, rfl, rfl, ⟨by decide, by decide, by decide⟩, _, _, rfl, rfl, _, rfl, ite2 (fun e => ?_) (fun e => ?_)⟩
    · have e1 : (10 : Int) ^ (18 : Int).toNat ≤ c := of_decide_eq_true e
      have e2 : (0 : Int) < 10 ^ (18 : Int).toNat := by decide
      refine ⟨_, rfl, _, _, rfl, rfl, ⟨by decide, by decide, by decide⟩, _, _, rfl, rfl, p10, ?_⟩
      refine ⟨_, rfl, _, _, rfl, rfl, (by show (0 : Int) < 2147483647; decide), (by show 2 ≤ sizeLine; rw [sizeLine_eq]; decide), fun p np => ?_⟩
      refine q _ _ (same_new np) (.inr ⟨p, _, _, rfl, upd_same, Int.ediv_nonneg (by omega) (Int.le_of_lt e2), Int.emod_nonneg _ (by decide)⟩) fun p' e => ?_
      cases e
      exact np
    · exact ⟨_, rfl, q _ _ (Same.refl _) (.inl ⟨_, rfl⟩) fun p e => nomatch e⟩
def mx : List Int := [99991, 99989, 99971, 99961, 99929, 99923, 99907, 99901, 99881, 99877, 99871]
/-- a draw below many; a list of digits is changed -/
def sp__law_mixed : Sp := fun vs H Q _ => ∃ (v : V) (k m : Int), vs = [v, .int k, .int m] ∧ CellOk H v ∧ 0 ≤ k ∧ k < 2 ^ 20 ∧ 0 < m ∧ m < 2 ^ 64 ∧ ∀ H' r, Kp (cellS v) H H' → CellOk H' v → 0 ≤ r → r < m → Q (.int r) H'
theorem ok__law_mixed (T : Top K mg) : FnOk P w K mg base CX0 1 (He.ga K "_law_mixed") T.fd__law_mixed ["_law_cell", "_law_k", "_law_many"] sp__law_mixed := by
  refine T.F__law_mixed.ok sc__law_mixed (fun vs H Q E h => ?_) (fun cdv A outer s H vs Q E hr h => ?_)
  · obtain ⟨v, k, m, rfl, _⟩ := h
    rfl
  · obtain ⟨v, k, m, rfl, hv, h0, h1, hm, hm2, q⟩ := h
    refine ⟨_, PSs.nox (pss_cons (ps_if (pt_val (pe_callB call_isi (by rfl) T.m_isinstance (by decide +kernel) (pa_cons (pv 0) (pa_cons (pe_bltn (v := .ty "list") (by rfl) T.m_list (by decide +kernel) rfl) pa_nil)))) (pss_cons (ps_set (i := 3) sc__law_mixed.nd rfl (Or.inl rfl) (pe_ix ix_list (pv 0) pe_int (fun _ _ => rfl)))
        (pss_cons (ps_asg (pe_op op_fdivW (pv 3) (pv 2)) (pg_sub (pv 0) pe_int set_list))
        (pss_cons (ps_asg (pe_op op_mod (pe_op op_add (pe_op op_mul (pe_ix ix_list (pv 0) pe_int (fun _ _ => rfl)) pe_int) pe_int) pe_int) (pg_sub (pv 0) pe_int set_list))
        (pss_one (ps_ret (pe_op op_mod (pe_ifExp (pt_cmpR op_gt (pv 3) pe_int (nomark _)) (pv 3) (pe_op op_fdivW (pe_ix ix_list (pv 0) pe_int (fun _ _ => rfl)) pe_int)) (pv 2))))))) pss_nil)
        (pss_cons (ps_set (i := 4) sc__law_mixed.nd rfl (Or.inl rfl) (pe_lst (pa_cons pe_int (pa_cons pe_int (pa_cons pe_int (pa_cons pe_int (pa_cons pe_int (pa_cons pe_int (pa_cons pe_int (pa_cons pe_int (pa_cons pe_int (pa_cons pe_int (pa_cons pe_int pa_nil)))))))))))))
        (pss_cons (ps_set (i := 5) sc__law_mixed.nd rfl (Or.inl rfl) (pe_op op_mod (pe_op op_pow (pe_op op_mod (pe_op op_mul (pe_op op_add (pv 0) (pe_op op_mul pe_int (pv 1))) pe_int) pe_int) pe_int) (pe_ix ix_list (pv 4) (pe_op op_mod (pv 1) pe_int) (fun _ _ => rfl))))
        (pss_one (ps_ret (pe_op op_mod (pe_op op_mod (pe_op op_add (pe_op op_add (pe_op op_mul (pe_op op_mul (pv 5) (pv 5)) pe_int) (pv 5)) (pv 1)) pe_int) (pv 2))))))), ?_⟩
    rcases hv with ⟨c, rfl⟩ | ⟨a, l, t, rfl, ha, hl, ht⟩
    · refine ⟨_, rfl, _, _, _, _, false, rfl, .ty _, .base (.int c), kit_ty (by decide +kernel), false, rfl, ?_⟩
      refine ⟨(by show 11 ≤ sizeLine; rw [sizeLine_eq]; decide), fun p np => ?_⟩
      have hL : SqL K (upd H p (.lst (mx.map V.int))) p (mx.map V.int) := .of upd_same
      have r0 : 0 ≤ k % 11 := Int.emod_nonneg _ (by decide)
      have r1 : k % 11 < 11 := Int.emod_lt_of_pos _ (by decide)
      have hy : ∀ i : Nat, i < 11 → 0 < mx.getD i 0 ∧ mx.getD i 0 < 100000 := by decide
      obtain ⟨y0, y1⟩ := hy (k % 11).toNat (by omega)
      generalize hyy : mx.getD (k % 11).toNat 0 = y at y0 y1
      have a0 : 0 ≤ (c + 104729 * k) * 48271 % 2147483647 := Int.emod_nonneg _ (by decide)
      have a1 : (c + 104729 * k) * 48271 % 2147483647 < 2147483647 := Int.emod_lt_of_pos _ (by decide)
      generalize hx : (c + 104729 * k) * 48271 % 2147483647 = x at a0 a1
      have b0 : 0 ≤ x ^ (5 : Int).toNat % y := Int.emod_nonneg _ (by omega)
      have b1 : x ^ (5 : Int).toNat % y < y := Int.emod_lt_of_pos _ y0
      generalize hd : x ^ (5 : Int).toNat % y = d at b0 b1
      have d0 : 0 ≤ d * d := Int.mul_nonneg b0 b0
      have d1 : d * d ≤ 100000 * 100000 := Int.mul_le_mul (by omega) (by omega) b0 (by decide)
      refine ⟨_, rfl, _, rfl, _, _, rfl, rfl, .inl ⟨by decide, by decide⟩, _, _, rfl, rfl, _, _, rfl, rfl, .inr ⟨by decide, by decide⟩, _, _, rfl, rfl, (by show (0 : Int) < 2147483647; decide), _, _, rfl, rfl, ⟨by decide, by decide, ?_⟩, ?_⟩
      · show ((c + 104729 * k) * 48271 % 2147483647).natAbs < 2 ^ 64
        rw [hx]
        omega
      refine ⟨_, rfl, _, rfl, _, _, rfl, rfl, (by show (0 : Int) < 11; decide), p, _, _, _, rfl, rfl, hL, at_ints r0 (by rw [show (mx.length : Int) = 11 from rfl]; exact r1), _, _, rfl, rfl, ?_, ?_⟩
      · show 0 < mx.getD (k % 11).toNat 0
        rw [hyy]
        exact y0
      simp only [hx, hyy, hd]
      refine ⟨_, rfl, _, rfl, _, _, rfl, rfl, .inl ⟨by omega, by omega⟩, _, _, rfl, rfl, .inr ⟨by decide, by decide⟩, _, rfl, _, _, rfl, rfl, _, rfl, _, _, rfl, rfl, _, _, rfl, rfl, (by show (0 : Int) < 1000003; decide), _, rfl, _, _, rfl, rfl, hm, ?_⟩
      exact q _ _ (.of_same (same_new np)) (.inl ⟨_, rfl⟩) (Int.emod_nonneg _ (by omega)) (Int.emod_lt_of_pos _ hm)
    · refine ⟨_, rfl, _, _, _, _, true, rfl, .ty _, .base (.lst ha), kit_ty (by decide +kernel), true, rfl, ?_⟩
      have mw : CDivW l m := wide_div (b := 64) hm (by omega) (by decide) (by decide)
      have l1 : 0 ≤ l / m := Int.ediv_nonneg hl (Int.le_of_lt hm)
      have t1 : 0 ≤ (t * 48271 + 11) % 2147483647 := Int.emod_nonneg _ (by decide)
      refine ⟨_, rfl, a, _, 0, _, rfl, rfl, .of ha, atI_nat (j := 0) rfl, ?_⟩
      refine ⟨_, rfl, _, rfl, _, _, rfl, rfl, mw, _, rfl, a, _, 0, 0, rfl, rfl, ha, rfl, ?_⟩
      refine ⟨_, rfl, a, _, 1, _, rfl, rfl, .of upd_same, atI_nat (j := 1) rfl, _, _, rfl, rfl, .inr ⟨by decide, by decide⟩, _, _, rfl, rfl, _, _, rfl, rfl, (by show (0 : Int) < 2147483647; decide), _, rfl, a, _, 1, 1, rfl, rfl, upd_same, rfl, ?_⟩
      rw [upd_upd]
      have k1 : Kp (cellS (.ref a)) H (upd H a (.lst [.int (l / m), .int ((t * 48271 + 11) % 2147483647)])) := Kp.upd ha trivial rfl
      have c1 : CellOk (upd H a (.lst [.int (l / m), .int ((t * 48271 + 11) % 2147483647)])) (.ref a) := .inr ⟨a, _, _, rfl, upd_same, l1, t1⟩
      have fin : ∀ x : Int, 0 ≤ x % m ∧ x % m < m := fun x => ⟨Int.emod_nonneg _ (by omega), Int.emod_lt_of_pos _ hm⟩
      refine ⟨_, rfl, _, _, rfl, rfl, _, rfl, ite2 (fun e => ?_) (fun e => ?_)⟩
      · exact ⟨_, rfl, _, rfl, _, _, rfl, rfl, hm, q _ _ k1 c1 (fin _).1 (fin _).2⟩
      · exact ⟨_, rfl, a, _, 1, _, rfl, rfl, .of upd_same, atI_nat (j := 1) rfl, _, _, rfl, rfl, ⟨by decide, by decide⟩, _, rfl, _, _, rfl, rfl, hm, q _ _ k1 c1 (fin _).1 (fin _).2⟩
def keptW : List Str := ["number", "not", "at", "add", "sub", "mul", "div", "rem", "less", "same", "set", "put", "tell", "if", "else", "end", "while", "call", "fail", "give", "row", "helper", "main"]
def sp__law_kept : Sp := fun vs H Q _ => vs = [] ∧ ∀ H' p, Same H H' → H p = none → H' p = some (.lst (keptW.map V.str)) → Q (.ref p) H'
theorem ok__law_kept (T : Top K mg) : FnOk P w K mg base CX0 1 (He.ga K "_law_kept") T.fd__law_kept [] sp__law_kept := by
  refine T.F__law_kept.ok sc__law_kept (fun vs H Q E h => ?_) (fun cdv A outer s H vs Q E hr h => ?_)
  · obtain ⟨rfl, _⟩ := h
    rfl
  · obtain ⟨rfl, q⟩ := h
    refine ⟨_, PSs.nox (pss_cons (ps_set (i := 0) sc__law_kept.nd rfl (Or.inl rfl) (pe_lst (pa_cons pe_str (pa_cons pe_str (pa_cons pe_str (pa_cons pe_str (pa_cons pe_str (pa_cons pe_str (pa_cons pe_str (pa_cons pe_str (pa_cons pe_str (pa_cons pe_str (pa_cons pe_str (pa_cons pe_str (pa_cons pe_str (pa_cons pe_str pa_nil))))))))))))))))
        (pss_one (ps_ret (pe_op op_cat (pv 0) (pe_lst (pa_cons pe_str (pa_cons pe_str (pa_cons pe_str (pa_cons pe_str (pa_cons pe_str (pa_cons pe_str (pa_cons pe_str (pa_cons pe_str (pa_cons pe_str pa_nil)))))))))))))), ?_⟩
    refine ⟨(by show 14 ≤ sizeLine; rw [sizeLine_eq]; decide), fun p1 n1 => ?_⟩
    refine ⟨_, rfl, (by show 9 ≤ sizeLine; rw [sizeLine_eq]; decide), fun p2 n2 => ?_⟩
    have e2 : p1 ≠ p2 := fun z => by
      rw [← z, upd_same] at n2
      cases n2
    refine ⟨p1, p2, _, _, rfl, rfl, by rw [upd_ne e2]; exact upd_same, upd_same, (by show 23 ≤ sizeLine; rw [sizeLine_eq]; decide), fun p3 n3 => ?_⟩
    have s1 := same_new (o := .lst ((keptW.take 14).map V.str)) n1
    have s2 := same_new (o := .lst ((keptW.drop 14).map V.str)) n2
    have s3 := same_new (o := .lst (keptW.map V.str)) n3
    exact q _ p3 (s1.trans (s2.trans s3)) ((s1.trans s2).free n3) upd_same
def abc : Str := "abcdefghijklmnopqrstuvwxyz"
def letr (k : Int) : Nat := 97 + (k % 26).toNat
theorem abc_at : ∀ i : Nat, i < 26 → abc.cps.toList[i]? = some (97 + i) := by decide +kernel
def sp__law_letter : Sp := fun vs H Q _ => ∃ k : Int, vs = [.int k] ∧ Q (.str ⟨#[letr k]⟩) H
theorem ok__law_letter (T : Top K mg) : FnOk P w K mg base CX0 1 (He.ga K "_law_letter") T.fd__law_letter ["_law_k"] sp__law_letter := by
  refine T.F__law_letter.ok sc__law_letter (fun vs H Q E h => ?_) (fun cdv A outer s H vs Q E hr h => ?_)
  · obtain ⟨k, rfl, _⟩ := h
    rfl
  · obtain ⟨k, rfl, q⟩ := h
    refine ⟨_, PSs.nox (pss_one (ps_ret (pe_ix ix_str pe_str (pe_op op_mod (pv 0) pe_int) (fun _ _ => rfl)))), ?_⟩
    have r0 : 0 ≤ k % 26 := Int.emod_nonneg _ (by decide)
    have r1 : k % 26 < 26 := Int.emod_lt_of_pos _ (by decide)
    refine ⟨_, rfl, _, _, rfl, rfl, (by show (0 : Int) < 26; decide), abc, k % 26, letr k, rfl, rfl, (by rw [sizeLine_eq]; decide +kernel), ?_, q⟩
    obtain ⟨i, hi⟩ := Int.eq_ofNat_of_zero_le r0
    unfold letr
    rw [hi]
    exact atI_nat (abc_at i (by omega))
end

/-! names, in plain words -/
def toS (l : List Nat) : Str := ⟨l.toArray⟩
theorem toS_list (l : List Nat) : (toS l).cps.toList = l := by simp [toS]
theorem toS_len (l : List Nat) : (toS l).length = l.length := by simp [toS, Str.length]
theorem of_toS (z : Str) : toS z.cps.toList = z := by
  cases z
  simp [toS]
theorem toS_inj {l m : List Nat} (h : toS l = toS m) : l = m := by rw [← toS_list l, h, toS_list]
theorem len_list (z : Str) : z.length = z.cps.toList.length := by simp [Str.length]
def isLet (c : Nat) : Prop := 97 ≤ c ∧ c ≤ 122
instance (c : Nat) : Decidable (isLet c) := inferInstanceAs (Decidable (97 ≤ c ∧ c ≤ 122))
structure IsNm (z : Str) : Prop where
  lo : 1 ≤ z.length
  hi : z.length ≤ 8
  let_ : ∀ c ∈ z.cps.toList, isLet c
  out : z ∉ keptW
theorem letr_let (k : Int) : isLet (letr k) := by
  unfold isLet letr
  have r0 : 0 ≤ k % 26 := Int.emod_nonneg _ (by decide)
  have r1 : k % 26 < 26 := Int.emod_lt_of_pos _ (by decide)
  omega
def nm1 (root : List Nat) (j c : Nat) : Str := toS (root.take j ++ [c] ++ root.drop j)
def nm2 (root : List Nat) (c : Nat) : Str := toS (c :: c :: root)
def nmF (root : List Nat) (j c : Nat) : Str := if nm1 root j c ∈ keptW then nm2 root c else nm1 root j c
theorem kept_two : ∀ x ∈ keptW, ∀ (c : Nat) (r : List Nat), x.cps.toList ≠ c :: c :: r := by
  have h : (keptW.all fun x => match x.cps.toList with | a :: b :: _ => a != b | _ => true) = true := by decide +kernel
  intro x hx c r e
  have := List.all_eq_true.mp h x hx
  rw [e] at this
  simp at this
theorem nm1_len {root : List Nat} {j c : Nat} : (nm1 root j c).length = root.length + 1 := by
  unfold nm1
  rw [toS_len]
  simp only [List.length_append, List.length_take, List.length_drop, List.length_cons, List.length_nil]
  omega
theorem nmF_ok {root : List Nat} {j c : Nat} (hr : ∀ x ∈ root, isLet x) (hl : root.length ≤ 6) (hc : isLet c) : IsNm (nmF root j c) := by
  unfold nmF
  split
  · refine ⟨?_, ?_, ?_, ?_⟩
    · unfold nm2
      rw [toS_len, List.length_cons]
      omega
    · unfold nm2
      rw [toS_len, List.length_cons, List.length_cons]
      omega
    · unfold nm2
      rw [toS_list]
      intro x hx
      rcases List.mem_cons.mp hx with rfl | hx
      · exact hc
      rcases List.mem_cons.mp hx with rfl | hx
      · exact hc
      exact hr x hx
    · intro h
      exact kept_two _ h c root (by unfold nm2; rw [toS_list])
  · rename_i h
    refine ⟨?_, ?_, ?_, h⟩
    · rw [nm1_len]
      omega
    · rw [nm1_len]
      omega
    · unfold nm1
      rw [toS_list]
      intro x hx
      rcases List.mem_append.mp hx with hx | hx
      · rcases List.mem_append.mp hx with hx | hx
        · exact hr x (List.mem_of_mem_take hx)
        · rw [List.mem_singleton.mp hx]
          exact hc
      · exact hr x (List.mem_of_mem_drop hx)
theorem nmF_inj {root : List Nat} {j c d : Nat} (hj : j ≤ root.length) (h : nmF root j c = nmF root j d) : c = d := by
  have l2 : ∀ x, (nm2 root x).length = root.length + 2 := fun x => by
    unfold nm2
    rw [toS_len]
    rfl
  unfold nmF at h
  split at h <;> split at h
  · have := toS_inj h
    injection this
  · have := congrArg Str.length h
    rw [l2, nm1_len] at this
    omega
  · have := congrArg Str.length h
    rw [l2, nm1_len] at this
    omega
  · have e := toS_inj h
    rw [List.append_assoc, List.append_assoc] at e
    have := List.append_cancel_left e
    injection this
def nameL (root : List Nat) (j : Nat) (st : Int) (n : Nat) : List Str := (List.range n).map fun k : Nat => nmF root j (letr (st + 5 * (k : Int)))
theorem letr_inj {st : Int} {k l : Nat} (hk : k < 16) (hl : l < 16) (h : letr (st + 5 * (k : Int)) = letr (st + 5 * (l : Int))) : k = l := by
  unfold letr at h
  omega
/-- sixteen unlike names -/
structure Nms (ns : List Str) : Prop where
  len : ns.length = 16
  nm : ∀ z ∈ ns, IsNm z
  nd : ns.Nodup
theorem nameL_ok {root : List Nat} {j : Nat} {st : Int} (hr : ∀ x ∈ root, isLet x) (hl : root.length ≤ 6) (hj : j ≤ root.length) : Nms (nameL root j st 16) := by
  refine ⟨by simp [nameL], fun z hz => ?_, ?_⟩
  · obtain ⟨k, _, rfl⟩ := List.mem_map.mp hz
    exact nmF_ok hr hl (letr_let _)
  · unfold nameL
    refine List.pairwise_map.mpr ?_
    refine List.Pairwise.imp_of_mem ?_ List.nodup_range
    intro a b ha hb hne e
    exact hne (letr_inj (List.mem_range.mp ha) (List.mem_range.mp hb) (nmF_inj hj e))
def nearW : List Str := ["adds", "en", "nota", "sett", "rows", "mai", "iff", "elses", "calls", "failed", "gives", "tel"]
def nearX : List Str := ["x", "xx", "xxx", "xxxx"]
def nmB (z : Str) : Bool := decide (1 ≤ z.length) && decide (z.length ≤ 8) && z.cps.toList.all (fun c => decide (isLet c)) && !(keptW.any fun x => decide (x = z))
theorem nmB_ok {z : Str} : nmB z = true ↔ IsNm z := by
  unfold nmB
  simp only [Bool.and_eq_true, decide_eq_true_eq, List.all_eq_true, Bool.not_eq_true', List.any_eq_false]
  constructor
  · rintro ⟨⟨⟨a, b⟩, c⟩, d⟩
    exact ⟨a, b, c, fun h => d z h rfl⟩
  · rintro ⟨a, b, c, d⟩
    exact ⟨⟨⟨a, b⟩, c⟩, fun x hx e => d (e ▸ hx)⟩
theorem near_ok : ∀ j : Nat, j < 12 → Nms (nearW.drop j ++ nearW.take j ++ nearX) := by
  have h1 : (List.range 12).all (fun j => decide ((nearW.drop j ++ nearW.take j ++ nearX).length = 16)) = true := by decide +kernel
  have h2 : (List.range 12).all (fun j => (nearW.drop j ++ nearW.take j ++ nearX).all nmB) = true := by decide +kernel
  have h3 : (List.range 12).all (fun j => decide ((nearW.drop j ++ nearW.take j ++ nearX).Nodup)) = true := by decide +kernel
  intro j hj
  refine ⟨of_decide_eq_true (List.all_eq_true.mp h1 j (List.mem_range.mpr hj)), fun z hz => nmB_ok.mp (List.all_eq_true.mp (List.all_eq_true.mp h2 j (List.mem_range.mpr hj)) z hz), of_decide_eq_true (List.all_eq_true.mp h3 j (List.mem_range.mpr hj))⟩
/-! texts cut and put together -/
theorem cutS_to (z : Str) (j : Nat) : cutS z none (some (j : Int)) = toS (z.cps.toList.take j) := by
  unfold cutS toS
  rw [HT.sIx_none, HT.sIx_nat, List.drop_zero, len_list, Nat.sub_zero]
  congr 2
  rw [← List.take_take, List.take_length]
theorem cutS_from (z : Str) (j : Nat) : cutS z (some (j : Int)) none = toS (z.cps.toList.drop j) := by
  unfold cutS toS
  rw [HT.sIx_none, HT.sIx_nat, len_list]
  congr 2
  rcases Nat.le_total j z.cps.toList.length with h | h
  · rw [Nat.min_eq_left h, List.take_of_length_le (by rw [List.length_drop]; omega)]
  · rw [Nat.min_eq_right h, List.drop_length, List.drop_of_length_le h, List.take_nil]
theorem add_toS (l m : List Nat) : toS l ++ toS m = toS (l ++ m) := by
  show (⟨l.toArray ++ m.toArray⟩ : Str) = _
  simp [toS]
theorem flat_strs (ws : List Str) : (ws.map V.str).all flatV = true := by
  rw [List.all_map]
  exact List.all_eq_true.mpr fun _ _ => rfl

theorem CellOk.same {H H' : Hp} {v : V} (h : CellOk H v) (k : Same H H') : CellOk H' v := by
  rcases h with h | ⟨a, l, t, e, ha, h1, h2⟩
  · exact .inl h
  · exact .inr ⟨a, l, t, e, k _ _ ha, h1, h2⟩
theorem CellOk.fresh {H : Hp} {v : V} {p : Addr} (h : CellOk H v) (k : H p = none) : ¬ cellS v p := by
  rcases h with ⟨c, rfl⟩ | ⟨a, l, t, rfl, ha, h1, h2⟩
  · intro z
    cases z
  · intro z
    cases z
    rw [k] at ha
    cases ha
theorem CellOk.upd {H : Hp} {v : V} {p : Addr} {o : HO} (h : CellOk H v) (k : ¬ cellS v p) : CellOk (upd H p o) v := by
  rcases h with h | ⟨a, l, t, rfl, ha, h1, h2⟩
  · exact .inl h
  · refine .inr ⟨a, l, t, rfl, ?_, h1, h2⟩
    rw [upd_ne (fun z => k (by rw [z]; rfl))]
    exact ha
theorem cutV_to (xs : List V) (j : Nat) : cutV xs none (some (j : Int)) = xs.take j := by
  unfold cutV
  rw [HT.sIx_none, HT.sIx_nat, List.drop_zero, Nat.sub_zero, ← List.take_take, List.take_length]
theorem cutV_from (xs : List V) (j : Nat) : cutV xs (some (j : Int)) none = xs.drop j := by
  unfold cutV
  rw [HT.sIx_none, HT.sIx_nat]
  rcases Nat.le_total j xs.length with h | h
  · rw [Nat.min_eq_left h, List.take_of_length_le (by rw [List.length_drop]; omega)]
  · rw [Nat.min_eq_right h, List.drop_length, List.drop_of_length_le h, List.take_nil]
theorem Str_len_append (a b : Str) : (a ++ b).length = a.length + b.length := by
  show (a.cps ++ b.cps).size = _
  rw [Array.size_append]
  rfl
theorem join_ones (ls : List Nat) : Txt.join Str.empty (ls.map fun c => toS [c]) = toS ls := by
  rw [TL.join_eq]
  have h : ∀ l : List Nat, (Str.join Str.empty (l.map fun c => toS [c])).cps.toList = l := by
    intro l
    induction l with
    | nil => rfl
    | cons x r ih =>
      cases r with
      | nil => rfl
      | cons y r =>
        show ((toS [x] ++ Str.empty) ++ Str.join Str.empty ((y :: r).map fun c => toS [c])).cps.toList = _
        show (((toS [x]).cps ++ Str.empty.cps) ++ (Str.join Str.empty ((y :: r).map fun c => toS [c])).cps).toList = _
        rw [Array.toList_append, Array.toList_append, ih]
        rfl
  rw [← of_toS (Str.join _ _), h]
section
variable {P : Program} {w : World} {K : PySem.W.Frag} {mg : Str → Option Value} {base : Heap}
def sp__law_names : Sp := fun vs H Q _ => ∃ c : Int, vs = [.int c] ∧ ∀ H' p ns, Same H H' → H p = none → H' p = some (.lst (ns.map V.str)) → Nms ns → Q (.ref p) H'
theorem ok__law_names (T : Top K mg) : FnOk P w K mg base CX0 2 (He.ga K "_law_names") T.fd__law_names ["_law_cell"] sp__law_names := by
  have G__law_held := ok__law_held (P := P) (w := w) (base := base) T
  have G__law_mixed := ok__law_mixed (P := P) (w := w) (base := base) T
  have G__law_kept := ok__law_kept (P := P) (w := w) (base := base) T
  have G__law_letter := ok__law_letter (P := P) (w := w) (base := base) T
  refine T.F__law_names.ok sc__law_names (fun vs H Q E h => ?_) (fun cdv A outer s H vs Q E hr h => ?_)
  · obtain ⟨c, rfl, _⟩ := h
    rfl
  · obtain ⟨c, rfl, q⟩ := h
    refine ⟨_, PSs.nox (pss_cons (ps_set (i := 0) sc__law_names.nd rfl (Or.inr rfl) (pe_call G__law_held (hr.mono (by omega)) (by rfl) T.g__law_held T.F__law_held.kp T.b__law_held .nil pass0 (pa_cons (pv 0) pa_nil)))
        (pss_cons (ps_if (pt_cmpR op_eq (pe_call G__law_mixed (hr.mono (by omega)) (by rfl) T.g__law_mixed T.F__law_mixed.kp T.b__law_mixed .nil pass0 (pa_cons (pv 0) (pa_cons pe_int (pa_cons pe_int pa_nil)))) pe_int (nomark _)) (pss_cons (ps_set (i := 1) sc__law_names.nd rfl (Or.inl rfl) (pe_lst (pa_cons pe_str (pa_cons pe_str (pa_cons pe_str (pa_cons pe_str (pa_cons pe_str (pa_cons pe_str (pa_cons pe_str (pa_cons pe_str (pa_cons pe_str (pa_cons pe_str (pa_cons pe_str (pa_cons pe_str pa_nil))))))))))))))
        (pss_cons (ps_set (i := 2) sc__law_names.nd rfl (Or.inl rfl) (pe_call G__law_mixed (hr.mono (by omega)) (by rfl) T.g__law_mixed T.F__law_mixed.kp T.b__law_mixed .nil pass0 (pa_cons (pv 0) (pa_cons pe_int (pa_cons pe_int pa_nil)))))
        (pss_one (ps_ret (pe_op op_cat (pe_op op_cat (pe_slice sl_list (pv 1) (po_some (pv 2)) po_none) (pe_slice sl_list (pv 1) po_none (po_some (pv 2)))) (pe_lst (pa_cons pe_str (pa_cons pe_str (pa_cons pe_str (pa_cons pe_str pa_nil)))))))))) pss_nil)
        (pss_cons (ps_set (i := 3) sc__law_names.nd rfl (Or.inl rfl) (pe_join pe_str (pe_lc (own := [("_law_j", 9)]) (by rfl) sc__law_names.nd (pi_range1 (by rfl) T.m_range (pa_cons (pe_call G__law_mixed (hr.mono (by omega)) (by rfl) T.g__law_mixed T.F__law_mixed.kp T.b__law_mixed .nil pass0 (pa_cons (pv 0) (pa_cons pe_int (pa_cons pe_int pa_nil)))) pa_nil)) (blkOk_by (own := [("_law_j", 9)]) (N := N__law_names) (sc := defScope s__law_names) (by decide +kernel)) (fun _ _ _ _ _ => (pg_name (i := 9) sc__law_names.nd rfl (Or.inl rfl))) (fun _ _ _ _ _ => pts_nil) (fun _ _ _ _ _ => (pe_call G__law_letter (hr.mono (by omega)) (by rfl) T.g__law_letter T.F__law_letter.kp T.b__law_letter .nil pass0 (pa_cons (pe_call G__law_mixed (hr.mono (by omega)) (by rfl) T.g__law_mixed T.F__law_mixed.kp T.b__law_mixed .nil pass0 (pa_cons (pv 0) (pa_cons (pe_op op_add pe_int (pv 9)) (pa_cons pe_int pa_nil)))) pa_nil))))))
        (pss_cons (ps_set (i := 2) sc__law_names.nd rfl (Or.inl rfl) (pe_call G__law_mixed (hr.mono (by omega)) (by rfl) T.g__law_mixed T.F__law_mixed.kp T.b__law_mixed .nil pass0 (pa_cons (pv 0) (pa_cons pe_int (pa_cons (pe_op op_add (pe_callB call_len_str (by rfl) T.m_len (by decide +kernel) (pa_cons (pv 3) pa_nil)) pe_int) pa_nil)))))
        (pss_cons (ps_set (i := 4) sc__law_names.nd rfl (Or.inl rfl) (pe_lst pa_nil))
        (pss_cons (ps_set (i := 5) sc__law_names.nd rfl (Or.inl rfl) (pe_call G__law_mixed (hr.mono (by omega)) (by rfl) T.g__law_mixed T.F__law_mixed.kp T.b__law_mixed .nil pass0 (pa_cons (pv 0) (pa_cons pe_int (pa_cons pe_int pa_nil)))))
        (pss_cons (ps_for PassesOwn.never (by rfl) (pi_range1 (by rfl) T.m_range (pa_cons pe_int pa_nil)) (pg_name (i := 6) sc__law_names.nd rfl (Or.inl rfl)) (pss_cons (ps_set (i := 7) sc__law_names.nd rfl (Or.inl rfl) (pe_call G__law_letter (hr.mono (by omega)) (by rfl) T.g__law_letter T.F__law_letter.kp T.b__law_letter .nil pass0 (pa_cons (pe_op op_add (pv 5) (pe_op op_mul pe_int (pv 6))) pa_nil)))
        (pss_cons (ps_set (i := 8) sc__law_names.nd rfl (Or.inl rfl) (pe_op op_add_str (pe_op op_add_str (pe_slice sl_str (pv 3) po_none (po_some (pv 2))) (pv 7)) (pe_slice sl_str (pv 3) (po_some (pv 2)) po_none)))
        (pss_cons (ps_if (pt_cmpR op_in_seq (pv 8) (pe_call0 G__law_kept (hr.mono (by omega)) (by rfl) T.g__law_kept T.F__law_kept.kp T.b__law_kept .nil pass0) (by rfl)) (pss_one (ps_set (i := 8) sc__law_names.nd rfl (Or.inl rfl) (pe_op op_add_str (pe_op op_add_str (pv 7) (pv 7)) (pv 3)))) pss_nil)
        (pss_one (ps_expr (pe_bm PySem.F.plainAttrs_list PySem.F.slot_list_append PySem.F.type_list_append mt_append (pv 4) (pa_cons (pv 8) pa_nil))))))))
        (pss_one (ps_ret (pv 4)))))))))), ?_⟩
    refine ⟨_, rfl, c, rfl, fun H1 v s1 c1 f1 => ?_⟩
    have nS : ∀ b, cellS v b → H b = none := fun b e => f1 b e
    refine ⟨_, rfl, v, 1, 5, rfl, c1, by decide, by decide, by decide, by decide, fun H2 r k2 c2 _ _ => ?_⟩
    have s2 := Kp.same s1 k2 nS
    refine ⟨rfl, _, rfl, ite2 (fun _ => ?_) (fun _ => ?_)⟩
    · refine ⟨(by show 12 ≤ sizeLine; rw [sizeLine_eq]; decide), fun p1 n1 => ?_⟩
      have s3 := s2.trans (same_new (o := .lst (nearW.map V.str)) n1)
      have c3 : CellOk (upd H2 p1 (.lst (nearW.map V.str))) v := c2.same (same_new n1)
      have nc : ¬ cellS v p1 := c2.fresh n1
      refine ⟨_, rfl, v, 2, 12, rfl, c3, by decide, by decide, by decide, by decide, fun H4 j k4 c4 j0 j1 => ?_⟩
      have s4 := Kp.same s3 k4 nS
      have e4 : H4 p1 = some (.lst (nearW.map V.str)) := k4 _ _ upd_same fun z => absurd z nc
      obtain ⟨j, rfl⟩ := Int.eq_ofNat_of_zero_le j0
      refine ⟨_, rfl, _, rfl, _, rfl, p1, _, rfl, .of e4, fun p2 n2 => ?_⟩
      have s5 := same_new (o := .lst (cutV (nearW.map V.str) (some (j : Int)) none)) n2
      refine ⟨_, rfl, _, rfl, _, rfl, p1, _, rfl, .of (s5 _ _ e4), fun p3 n3 => ?_⟩
      have s6 := same_new (o := .lst (cutV (nearW.map V.str) none (some (j : Int)))) n3
      have l1 : ∀ a b, (cutV (nearW.map V.str) a b).length ≤ 12 := fun a b => cutV_length _ _ _
      have b1 := l1 (some (j : Int)) none
      have b2 := l1 none (some (j : Int))
      refine ⟨p2, p3, _, _, rfl, rfl, s6 _ _ upd_same, upd_same, (by rw [sizeLine_eq]; omega), fun p4 n4 => ?_⟩
      have s7 := same_new (o := .lst (cutV (nearW.map V.str) (some (j : Int)) none ++ cutV (nearW.map V.str) none (some (j : Int)))) n4
      refine ⟨(by show 4 ≤ sizeLine; rw [sizeLine_eq]; decide), fun p5 n5 => ?_⟩
      have s8 := same_new (o := .lst (nearX.map V.str)) n5
      refine ⟨p4, p5, _, _, rfl, rfl, s8 _ _ upd_same, upd_same, (by rw [sizeLine_eq, List.length_append]; simp only [List.length_cons, List.length_nil]; omega), fun p6 n6 => ?_⟩
      have s9 := (s4.trans (s5.trans (s6.trans (s7.trans s8))))
      refine q _ p6 (nearW.drop j ++ nearW.take j ++ nearX) (s9.trans (same_new n6)) (s9.free n6) ?_ (near_ok j (by omega))
      rw [upd_same, cutV_from, cutV_to, List.map_append, List.map_append, List.map_drop, List.map_take]
      rfl
    · have s3 : ∀ H3, Kp (cellS v) H2 H3 → Same H H3 := fun H3 k3 => Kp.same s2 k3 nS
      refine ⟨⟨_, rfl⟩, _, rfl, v, 2, 7, rfl, c2, by decide, by decide, by decide, by decide, fun H3 n k3 c3 n0 n1 => ?_⟩
      refine ⟨n, rfl, by omega, by omega, fun D nD => ?_⟩
      have nc : ¬ cellS v D := c3.fresh nD
      have nH : H D = none := (s3 _ k3).free nD
      refine lc_range (lo := 0) (n := n.toNat) (fun i H' => Kp (cellS v) H2 H' ∧ CellOk H' v ∧ ∃ ls : List Nat, ls.length = i ∧ (∀ x ∈ ls, isLet x) ∧ H' D = some (.lst ((ls.map fun c => toS [c]).map V.str))) ?_ ?_ ?_
      · exact ⟨k3.trans (.of_same (same_new nD)), c3.same (same_new nD), [], rfl, by simp, upd_same⟩
      · rintro i H' hi ⟨k4, c4, ls, l1, l2, l3⟩
        refine ⟨rfl, _, rfl, _, rfl, _, _, rfl, rfl, v, 3 + (0 + (i : Int)), 26, rfl, c4, by omega, by omega, by decide, by decide, fun H5 r5 k5 c5 r50 r51 => ?_⟩
        have e5 : H5 D = some (.lst ((ls.map fun c => toS [c]).map V.str)) := k5 _ _ l3 fun z => absurd z nc
        refine ⟨r5, rfl, _, e5, ?_, ?_, ?_, ls ++ [letr r5], ?_, ?_, ?_⟩
        · rw [List.length_map, List.length_map, l1, sizeLine_eq]
          omega
        · refine fun b o hb hk => ?_
          have nb : b ≠ D := fun z => by
            subst z
            have h2 : H3 b = some o := k3 b o hb hk
            rw [nD] at h2
            cases h2
          rw [upd_ne nb]
          exact (k4.trans k5) b o hb hk
        · exact c5.upd nc
        · rw [List.length_append, l1]
          rfl
        · intro x hx
          rcases List.mem_append.mp hx with hx | hx
          · exact l2 x hx
          · rw [List.mem_singleton.mp hx]
            exact letr_let _
        · rw [upd_same, List.map_append, List.map_append]
          rfl
      · rintro H' ⟨k4, c4, root, l1, l2, l3⟩
        have hl : root.length ≤ 6 := by omega
        refine ⟨Str.empty, D, _, rfl, rfl, .inl (.of l3), ?_, ?_⟩
        · rw [List.map_map]
          have e1 : (root.map ((·.length) ∘ fun c => toS [c])) = root.map fun _ => 1 := by
            apply List.map_congr_left
            intro x _
            rw [Function.comp_apply, toS_len]
            rfl
          rw [e1]
          have e2 : ∀ l : List Nat, (l.map fun _ => 1).sum = l.length := by
            intro l
            induction l with
            | nil => rfl
            | cons x r ih => rw [List.map_cons, List.sum_cons, ih, List.length_cons]; omega
          rw [e2]
          have e3 : Str.empty.length = 0 := rfl
          rw [e3]
          omega
        rw [join_ones]
        generalize hz : toS root = z
        have zl : z.length = root.length := by rw [← hz, toS_len]
        have zc : z.cps.toList = root := by rw [← hz, toS_list]
        refine ⟨_, rfl, _, rfl, z, rfl, by rw [zl, sizeLine_eq]; omega, _, _, rfl, rfl, v, 9, (z.length : Int) + 1, rfl, c4, by decide, by decide, by omega, by rw [zl]; omega, fun H5 j k5 c5 j0 j1 => ?_⟩
        obtain ⟨j, rfl⟩ := Int.eq_ofNat_of_zero_le j0
        have hj : j ≤ root.length := by omega
        refine ⟨Nat.zero_le _, fun L nL => ?_⟩
        have k6 : Kp (cellS v) H2 (upd H5 L (.lst [])) := (k4.trans k5).trans (.of_same (same_new nL))
        have c6 : CellOk (upd H5 L (.lst [])) v := c5.same (same_new nL)
        have ncL : ¬ cellS v L := c5.fresh nL
        have nHL : H L = none := (s3 _ (k4.trans k5)).free nL
        refine ⟨_, rfl, v, 10, 26, rfl, c6, by decide, by decide, by decide, by decide, fun H7 st k7 c7 st0 st1 => ?_⟩
        have e7 : H7 L = some (.lst []) := k7 _ _ upd_same fun z => absurd z ncL
        have sm7 := s3 _ (k6.trans k7)
        refine ⟨16, rfl, by decide, by decide, for_range (lo := 0) (n := 16) (fun i σ' H' => Same H H' ∧ H' L = some (.lst ((nameL root j st i).map V.str)) ∧ ∃ x6 x7 x8 x9, σ' = [some v, none, some (.int j), some (.str z), some (.ref L), some (.int st), x6, x7, x8, x9]) ?_ ?_ ?_⟩
        · exact ⟨sm7, e7, none, none, none, none, rfl⟩
        · rintro i σ' H8 hi ⟨s8, e8, x6, x7, x8, x9, rfl⟩
          refine ⟨_, rfl, _, rfl, _, _, rfl, rfl, .inl ⟨by decide, by decide⟩, _, _, rfl, rfl, _, rfl, ?_⟩
          generalize hc : letr (st + 5 * (0 + (i : Int))) = c
          have zb : z.length ≤ sizeLine := by rw [zl, sizeLine_eq]; omega
          have hcs : ∀ a b, (cutS z a b).length ≤ 6 := fun a b => by
            unfold cutS
            show (List.toArray _).size ≤ 6
            rw [List.size_toArray, List.length_take, List.length_drop, ← len_list]
            omega
          have h1 := hcs none (some (j : Int))
          have h2 := hcs (some (j : Int)) none
          have h3 : (⟨#[c]⟩ : Str).length = 1 := rfl
          refine ⟨_, rfl, _, rfl, _, rfl, z, rfl, zb, _, rfl, _, _, rfl, rfl, by rw [h3, sizeLine_eq]; omega, ?_⟩
          refine ⟨_, rfl, _, rfl, _, rfl, z, rfl, zb, _, _, rfl, rfl, ?_, ?_⟩
          · have := Str_len_append (cutS z none (some (j : Int))) ⟨#[c]⟩
            rw [this, h3, sizeLine_eq]
            omega
          rw [show (cutS z none (some (j : Int)) ++ (⟨#[c]⟩ : Str)) ++ cutS z (some (j : Int)) none = nm1 root j c by
            rw [cutS_to, cutS_from, show (⟨#[c]⟩ : Str) = toS [c] from rfl, add_toS, add_toS, zc]
            rfl]
          dsimp only [gName]
          refine ifs_by (fun σ' H' => Same H H' ∧ H' L = some (.lst ((nameL root j st i).map V.str)) ∧ ∃ x6 x7, σ' = [some v, none, some (.int j), some (.str z), some (.ref L), some (.int st), x6, x7, some (.str (nmF root j c)), x9]) ?_ ?_
          · rintro σ' H9 ⟨s9, e9, x6, x7, rfl⟩
            refine ⟨_, rfl, .inl ⟨rfl, _, .of e9⟩, _, rfl, L, _, _, rfl, rfl, e9, ?_, ?_, ?_, ?_⟩
            · unfold nameL
              rw [List.length_map, List.length_map, List.length_range, sizeLine_eq]
              omega
            · intro b o hb
              rw [upd_ne (ne_of_none hb nHL)]
              exact s9 b o hb
            · rw [upd_same]
              unfold nameL
              rw [List.range_succ, List.map_append, List.map_append, ← hc, Int.zero_add]
              rfl
            · exact ⟨_, _, _, _, rfl⟩
          · intro N hN
            refine ⟨_, rfl, rfl, fun H9 pk s9 npk epk => ?_⟩
            have e9 := s9 _ _ e8
            refine ⟨pk, _, rfl, .inl (.of epk), rfl, flat_strs _, _, rfl, ?_⟩
            dsimp only
            rw [if_neg Bool.false_ne_true, in_strs]
            refine ite2 (fun e => ?_) (fun e => ?_)
            · have ek := of_decide_eq_true e
              refine ⟨_, rfl, _, rfl, _, _, rfl, rfl, by rw [h3, sizeLine_eq]; decide, _, rfl, _, _, rfl, rfl, ?_, ?_⟩
              · have := Str_len_append (⟨#[c]⟩ : Str) ⟨#[c]⟩
                rw [this, h3, zl, sizeLine_eq]
                omega
              · refine hN _ _ ⟨s8.trans s9, e9, some (.int (0 + (i : Int))), some (.str ⟨#[c]⟩), ?_⟩
                rw [show nmF root j c = nm2 root c from if_pos ek]
                rw [show ((⟨#[c]⟩ : Str) ++ ⟨#[c]⟩) ++ z = nm2 root c by
                  rw [← hz, show (⟨#[c]⟩ : Str) = toS [c] from rfl, add_toS, add_toS]
                  rfl]
                rfl
            · have ek : ¬ nm1 root j c ∈ keptW := fun z => e (decide_eq_true z)
              refine hN _ _ ⟨s8.trans s9, e9, some (.int (0 + (i : Int))), some (.str ⟨#[c]⟩), ?_⟩
              rw [show nmF root j c = nm1 root j c from if_neg ek]
              rfl
        · rintro σ' H8 ⟨s8, e8, x6, x7, x8, x9, rfl⟩
          exact ⟨_, rfl, q _ L _ s8 nHL e8 (nameL_ok l2 hl hj)⟩
end

def wds7 : List Str := ["add", "sub", "mul", "div", "rem", "less", "same"]
def Ex.Wf (nms rws : List Str) : Nat → Ex → Prop
  | 0, _ => False
  | _ + 1, .num n => In32 n
  | _ + 1, .nam x => x ∈ nms
  | d + 1, .at_ r e => r ∈ rws ∧ e.Wf nms rws d
  | d + 1, .no e => e.Wf nms rws d
  | d + 1, .op w a b => w ∈ wds7 ∧ a.Wf nms rws d ∧ b.Wf nms rws d
theorem Ex.Wf.mono {nms rws : List Str} : ∀ {d k : Nat} {e : Ex}, d ≤ k → e.Wf nms rws d → e.Wf nms rws k
  | 0, _, _, _, h => h.elim
  | d + 1, 0, _, hk, _ => by omega
  | d + 1, k + 1, .num n, _, h => h
  | d + 1, k + 1, .nam x, _, h => h
  | d + 1, k + 1, .at_ r e, hk, h => ⟨h.1, Ex.Wf.mono (d := d) (by omega) h.2⟩
  | d + 1, k + 1, .no e, hk, h => Ex.Wf.mono (d := d) (e := e) (by omega) h
  | d + 1, k + 1, .op w a b, hk, h => ⟨h.1, Ex.Wf.mono (d := d) (by omega) h.2.1, Ex.Wf.mono (d := d) (by omega) h.2.2⟩
/-- names, rows and heads that a drawer is handed -/
structure Info (K : PySem.W.Frag) (H : Hp) (v : V) (nms rws : List Str) (hds : List (Str × Nat)) (a b c : Addr) : Prop where
  tup : ∃ p, v = .ref p ∧ SqT K H p [.ref a, .ref b, .ref c]
  a : H a = some (.lst (nms.map V.str))
  b : H b = some (.lst (rws.map V.str))
  c : ∃ hs, H c = some (.lst hs) ∧ DpAll K H hs (hds.map fun q => .tuple [.str q.1, .int q.2])
theorem heads_noL (hds : List (Str × Nat)) : nLs (hds.map fun q => .tuple [.str q.1, .int q.2]) = true := noLs_all fun x hx => by
  obtain ⟨q, _, rfl⟩ := List.mem_map.mp hx
  rfl
def Off (S : Addr → Prop) (a b c : Addr) : Prop := ¬ S a ∧ ¬ S b ∧ ¬ S c
theorem Info.kp {K : PySem.W.Frag} {H H' : Hp} {v : V} {nms rws : List Str} {hds : List (Str × Nat)} {a b c : Addr} {S : Addr → Prop} (h : Info K H v nms rws hds a b c) (k : Kp S H H') (o : Off S a b c) : Info K H' v nms rws hds a b c := by
  obtain ⟨⟨p, rfl, h1⟩, h2, h3, hs, h4, h5⟩ := h
  exact ⟨⟨p, rfl, sqT_kp k h1⟩, k _ _ h2 fun z => absurd z o.1, k _ _ h3 fun z => absurd z o.2.1, hs, k _ _ h4 fun z => absurd z o.2.2, dpAll_kp k _ _ (heads_noL hds) h5⟩
section
variable {P : Program} {w : World} {K : PySem.W.Frag} {mg : Str → Option Value} {base : Heap}
def sp__law_number_by : Sp := fun vs H Q _ => ∃ (v : V) (k : Int), vs = [v, .int k] ∧ CellOk H v ∧ 0 ≤ k ∧ k < 1000 ∧ ∀ H' n, Kp (cellS v) H H' → CellOk H' v → In32 n → Q (.int n) H'
theorem ok__law_number_by (T : Top K mg) : FnOk P w K mg base CX0 2 (He.ga K "_law_number_by") T.fd__law_number_by ["_law_cell", "_law_k"] sp__law_number_by := by
  have G__law_mixed := ok__law_mixed (P := P) (w := w) (base := base) T
  refine T.F__law_number_by.ok sc__law_number_by (fun vs H Q E h => ?_) (fun cdv A outer s H vs Q E hr h => ?_)
  · obtain ⟨v, k, rfl, _⟩ := h
    rfl
  · obtain ⟨v, k, rfl, hv, h0, h1, q⟩ := h
    refine ⟨_, PSs.nox (pss_cons (ps_set (i := 2) sc__law_number_by.nd rfl (Or.inl rfl) (pe_lst (pa_cons pe_int (pa_cons pe_int (pa_cons (pe_un un_neg pe_int) (pa_cons pe_int (pa_cons pe_int (pa_cons pe_int (pa_cons pe_int (pa_cons (pe_un un_neg pe_int) (pa_cons (pe_op op_sub (pe_call G__law_mixed (hr.mono (by omega)) (by rfl) T.g__law_mixed T.F__law_mixed.kp T.b__law_mixed .nil pass0 (pa_cons (pv 0) (pa_cons (pv 1) (pa_cons pe_int pa_nil)))) pe_int) (pa_cons pe_int (pa_cons (pe_call G__law_mixed (hr.mono (by omega)) (by rfl) T.g__law_mixed T.F__law_mixed.kp T.b__law_mixed .nil pass0 (pa_cons (pv 0) (pa_cons (pv 1) (pa_cons pe_int pa_nil)))) pa_nil)))))))))))))
        (pss_cons (ps_if (pt_val (pe_callB call_isi (by rfl) T.m_isinstance (by decide +kernel) (pa_cons (pv 0) (pa_cons (pe_bltn (v := .ty "list") (by rfl) T.m_list (by decide +kernel) rfl) pa_nil)))) (pss_one (ps_asg (pe_op op_sub (pe_call G__law_mixed (hr.mono (by omega)) (by rfl) T.g__law_mixed T.F__law_mixed.kp T.b__law_mixed .nil pass0 (pa_cons (pv 0) (pa_cons (pv 1) (pa_cons pe_int pa_nil)))) pe_int) (pg_sub (pv 2) pe_int set_list))) pss_nil)
        (pss_one (ps_ret (pe_ix ix_list (pv 2) (pe_call G__law_mixed (hr.mono (by omega)) (by rfl) T.g__law_mixed T.F__law_mixed.kp T.b__law_mixed .nil pass0 (pa_cons (pv 0) (pa_cons (pe_op op_add (pv 1) pe_int) (pa_cons pe_int pa_nil)))) (fun _ _ => rfl)))))), ?_⟩
    refine ⟨_, rfl, _, rfl, _, rfl, _, rfl, v, k, 200, rfl, hv, h0, by omega, by decide, by decide, fun H1 r1 k1 c1 r10 r11 => ?_⟩
    refine ⟨_, _, rfl, rfl, _, rfl, _, rfl, v, k, 10, rfl, c1, h0, by omega, by decide, by decide, fun H2 r2 k2 c2 r20 r21 => ?_⟩
    refine ⟨(by show 11 ≤ sizeLine; rw [sizeLine_eq]; decide), fun L nL => ?_⟩
    have k3 : Kp (cellS v) H (upd H2 L (.lst (([0, 1, -1, 2, 3, 5, 2147483647, -2147483648, r1 - 100, 65536, r2] : List Int).map V.int))) := (k1.trans k2).trans (.of_same (same_new nL))
    have c3 : CellOk (upd H2 L (.lst (([0, 1, -1, 2, 3, 5, 2147483647, -2147483648, r1 - 100, 65536, r2] : List Int).map V.int))) v := c2.same (same_new nL)
    have nc : ¬ cellS v L := c2.fresh nL
    have nH : ∀ H', Kp (cellS v) H H' → H' L = none → H L = none := fun H' k' e => by
      cases z : H L with
      | none => rfl
      | some o =>
        have := k' _ _ z fun y => absurd y nc
        rw [e] at this
        cases this
    have nHL := nH _ (k1.trans k2) nL
    dsimp only [gName]
    refine ifs_by (fun σ' H' => Kp (cellS v) H H' ∧ CellOk H' v ∧ ∃ x : Int, In32 x ∧ H' L = some (.lst (([0, 1, -1, 2, x, 5, 2147483647, -2147483648, r1 - 100, 65536, r2] : List Int).map V.int)) ∧ σ' = [some v, some (.int k), some (.ref L)]) ?_ ?_
    · rintro σ' H4 ⟨k4, c4, x, hx, e4, rfl⟩
      refine ⟨_, rfl, _, rfl, _, rfl, _, _, rfl, rfl, v, k + 1, 11, rfl, c4, by omega, by omega, by decide, by decide, fun H5 j k5 c5 j0 j1 => ?_⟩
      have e5 : H5 L = some (.lst (([0, 1, -1, 2, x, 5, 2147483647, -2147483648, r1 - 100, 65536, r2] : List Int).map V.int)) := k5 _ _ e4 fun z => absurd z nc
      refine ⟨L, _, j, _, rfl, rfl, .of e5, at_ints j0 j1, q _ _ (k4.trans k5) c5 ?_⟩
      refine getD_all (fun y hy => ?_) j0 j1
      simp only [List.mem_cons, List.not_mem_nil, or_false] at hy
      obtain ⟨x1, x2⟩ := hx
      unfold In32
      omega
    · intro N hN
      rcases c3 with ⟨c, rfl⟩ | ⟨a, l, t, rfl, ha, hl, ht⟩
      · refine ⟨_, rfl, _, _, _, _, false, rfl, .ty _, .base (.int c), kit_ty (by decide +kernel), false, rfl, ?_⟩
        exact hN _ _ ⟨k3, .inl ⟨_, rfl⟩, 3, by unfold In32; decide, upd_same, rfl⟩
      · refine ⟨_, rfl, _, _, _, _, true, rfl, .ty _, .base (.lst ha), kit_ty (by decide +kernel), true, rfl, ?_⟩
        refine ⟨_, rfl, _, rfl, .ref a, k, 4294967296, rfl, .inr ⟨a, l, t, rfl, ha, hl, ht⟩, h0, by omega, by decide, by decide, fun H5 r k5 c5 r0 r1 => ?_⟩
        have e5 := k5 _ _ (upd_same (H := H2) (a := L)) fun z => absurd z nc
        refine ⟨_, _, rfl, rfl, _, rfl, L, _, 4, 4, rfl, rfl, e5, rfl, ?_⟩
        refine hN _ _ ⟨?_, c5.upd nc, r - 2147483648, ⟨by omega, by omega⟩, upd_same, rfl⟩
        intro b o hb hk
        have nb : b ≠ L := ne_of_none hb nHL
        rw [upd_ne nb]
        exact (k3.trans k5) b o hb hk
def sp__law_within : Sp := fun vs H Q _ => ∃ (v : V) (k : Int), vs = [v, .int k] ∧ CellOk H v ∧ 0 ≤ k ∧ k < 1000 ∧ ∀ H' v', Kp (cellS v) H H' → CellOk H' v → CellOk H' v' → (v' = v ∨ ∃ c, v' = .int c) → Q v' H'
theorem ok__law_within (T : Top K mg) : FnOk P w K mg base CX0 2 (He.ga K "_law_within") T.fd__law_within ["_law_cell", "_law_k"] sp__law_within := by
  have G__law_mixed := ok__law_mixed (P := P) (w := w) (base := base) T
  refine T.F__law_within.ok sc__law_within (fun vs H Q E h => ?_) (fun cdv A outer s H vs Q E hr h => ?_)
  · obtain ⟨v, k, rfl, _⟩ := h
    rfl
  · obtain ⟨v, k, rfl, hv, h0, h1, q⟩ := h
    refine ⟨_, PSs.nox (pss_cons (ps_if (pt_val (pe_callB call_isi (by rfl) T.m_isinstance (by decide +kernel) (pa_cons (pv 0) (pa_cons (pe_bltn (v := .ty "list") (by rfl) T.m_list (by decide +kernel) rfl) pa_nil)))) (pss_one (ps_ret (pv 0))) pss_nil)
        (pss_one (ps_ret (pe_call G__law_mixed (hr.mono (by omega)) (by rfl) T.g__law_mixed T.F__law_mixed.kp T.b__law_mixed .nil pass0 (pa_cons (pv 0) (pa_cons (pv 1) (pa_cons pe_int pa_nil))))))), ?_⟩
    rcases hv with ⟨c, rfl⟩ | ⟨a, l, t, rfl, ha, hl, ht⟩
    · refine ⟨_, rfl, _, _, _, _, false, rfl, .ty _, .base (.int c), kit_ty (by decide +kernel), false, rfl, ?_⟩
      exact ⟨_, rfl, _, rfl, .int c, k, 1000003, rfl, .inl ⟨_, rfl⟩, h0, by omega, by decide, by decide, fun H1 r k1 c1 _ _ => q _ _ k1 c1 (.inl ⟨_, rfl⟩) (.inr ⟨_, rfl⟩)⟩
    · refine ⟨_, rfl, _, _, _, _, true, rfl, .ty _, .base (.lst ha), kit_ty (by decide +kernel), true, rfl, ?_⟩
      exact ⟨_, rfl, q _ _ Kp.refl (.inr ⟨a, l, t, rfl, ha, hl, ht⟩) (.inr ⟨a, l, t, rfl, ha, hl, ht⟩) (.inl rfl)⟩
theorem cellS_sub {v v' : V} (h : v' = v ∨ ∃ c, v' = .int c) : ∀ b, cellS v' b → cellS v b := by
  rcases h with rfl | ⟨c, rfl⟩
  · exact fun b z => z
  · intro b z
    cases z
end

section
variable {P : Program} {w : World} {K : PySem.W.Frag} {mg : Str → Option Value} {base : Heap}
theorem CellOk.or {H : Hp} {v v' : V} (h : v' = v ∨ ∃ c, v' = .int c) (c : CellOk H v) : CellOk H v' := by
  rcases h with rfl | ⟨c, rfl⟩
  · exact c
  · exact .inl ⟨_, rfl⟩
theorem Off.sub {S S' : Addr → Prop} {a b c : Addr} (o : Off S a b c) (h : ∀ x, S' x → S x) : Off S' a b c := ⟨fun z => o.1 (h _ z), fun z => o.2.1 (h _ z), fun z => o.2.2 (h _ z)⟩
theorem dp_same {H H' : Hp} {v : V} {d : PyData} (h : Dp K H v d) (k : Same H H') (n : nLd d = true) : Dp K H' v d := dp_kp (Kp.of_same (S := fun _ => False) k) d v n h
theorem dpAll_same {H H' : Hp} {v : List V} {d : List PyData} (h : DpAll K H v d) (k : Same H H') (n : nLs d = true) : DpAll K H' v d := dpAll_kp (Kp.of_same (S := fun _ => False) k) d v n h
theorem in_strs_at {zs : List Str} {i : Int} (h0 : 0 ≤ i) (h1 : i < zs.length) : ∃ z ∈ zs, atI (zs.map V.str) i = some (.str z) := by
  obtain ⟨x, hx, e⟩ := at_list (ns := zs.map V.str) h0 (by rw [List.length_map]; exact h1)
  obtain ⟨z, hz, rfl⟩ := List.mem_map.mp hx
  exact ⟨z, hz, e⟩
theorem cell_after {H H' : Hp} {v v1 : V} (h : v1 = v ∨ ∃ c, v1 = .int c) (c : CellOk H v) (k : Kp (cellS v1) H H') (c1 : CellOk H' v1) : CellOk H' v := by
  rcases h with rfl | ⟨n, rfl⟩
  · exact c1
  · exact c.same fun b o e => k b o e fun z => nomatch z
def sp_ex (K : PySem.W.Frag) (D : Nat) : Sp := fun vs H Q _ => ∃ (v vi : V) (d : Int) (nms rws : List Str) (hds : List (Str × Nat)) (a b c : Addr), vs = [v, .int d, vi] ∧ CellOk H v ∧ 1 ≤ d ∧ d ≤ D ∧ Info K H vi nms rws hds a b c ∧
  nms.length ≤ 16 ∧ rws.length ≤ 16 ∧ Off (cellS v) a b c ∧ ∀ H' r (e : Ex), Kp (cellS v) H H' → CellOk H' v → Dp K H' r e.d → e.Wf nms rws d.toNat → Q r H'
theorem ok__law_expression (T : Top K mg) : ∀ D : Nat, FnOk P w K mg base CX0 (D + 3) (He.ga K "_law_expression") T.fd__law_expression ["_law_cell", "_law_deep", "_law_info"] (sp_ex K D)
  | 0 => by
    refine T.F__law_expression.ok sc__law_expression (fun vs H Q E h => ?_) (fun cdv A outer s H vs Q E hr h => ?_)
    · obtain ⟨v, vi, d, nms, rws, hds, a, b, c, rfl, hv, h1, h2, _⟩ := h
      rfl
    · obtain ⟨v, vi, d, nms, rws, hds, a, b, c, rfl, hv, h1, h2, _⟩ := h
      exfalso
      have : d ≤ 0 := h2
      omega
  | D + 1 => by
    have G__law_mixed := ok__law_mixed (P := P) (w := w) (base := base) T
    have G__law_within := ok__law_within (P := P) (w := w) (base := base) T
    have G__law_number_by := ok__law_number_by (P := P) (w := w) (base := base) T
    have G__law_expression := ok__law_expression T D
    refine T.F__law_expression.ok sc__law_expression (fun vs H Q E h => ?_) (fun cdv A outer s H vs Q E hr h => ?_)
    · obtain ⟨v, vi, d, nms, rws, hds, a, b, c, rfl, _⟩ := h
      rfl
    · obtain ⟨v, vi, d, nms, rws, hds, a, b, c, rfl, hv, hd1, hd2, hI, hn, hw, ho, q⟩ := h
      refine ⟨_, PSs.nox (pss_cons (ps_par (i := 3) (j := 4) (by rfl) sc__law_expression.nd rfl rfl (by decide) rfl rfl (pa_cons (pe_ix ix_tup (pv 2) pe_int (fun _ _ => rfl)) (pa_cons (pe_ix ix_tup (pv 2) pe_int (fun _ _ => rfl)) pa_nil)) (by rfl))
        (pss_cons (ps_set (i := 5) sc__law_expression.nd rfl (Or.inl rfl) (pe_call G__law_mixed (hr.mono (by omega)) (by rfl) T.g__law_mixed T.F__law_mixed.kp T.b__law_mixed .nil pass0 (pa_cons (pv 0) (pa_cons pe_int (pa_cons pe_int pa_nil)))))
        (pss_cons (ps_set (i := 6) sc__law_expression.nd rfl (Or.inl rfl) (pe_call G__law_within (hr.mono (by omega)) (by rfl) T.g__law_within T.F__law_within.kp T.b__law_within .nil pass0 (pa_cons (pv 0) (pa_cons pe_int pa_nil))))
        (pss_cons (ps_if (PW.pt (pw_or (pt_cmpR op_lt (pv 1) pe_int (nomark _)) (pw_or1 (pt_cmpR op_lt (pv 5) pe_int (nomark _))))) (pss_cons (ps_if (PW.pt (pw_or (pt_cmpR op_eq (pe_callB call_len_seq (by rfl) T.m_len (by decide +kernel) (pa_cons (pv 3) pa_nil)) pe_int (nomark _)) (pw_or1 (pt_cmpR op_eq (pe_op op_mod (pv 5) pe_int) pe_int (nomark _))))) (pss_one (ps_ret (pe_tup (pa_cons pe_str (pa_cons (pe_call G__law_number_by (hr.mono (by omega)) (by rfl) T.g__law_number_by T.F__law_number_by.kp T.b__law_number_by .nil pass0 (pa_cons (pv 0) (pa_cons pe_int pa_nil))) pa_nil))))) pss_nil)
        (pss_one (ps_ret (pe_tup (pa_cons pe_str (pa_cons (pe_ix ix_list (pv 3) (pe_call G__law_mixed (hr.mono (by omega)) (by rfl) T.g__law_mixed T.F__law_mixed.kp T.b__law_mixed .nil pass0 (pa_cons (pv 0) (pa_cons pe_int (pa_cons (pe_callB call_len_seq (by rfl) T.m_len (by decide +kernel) (pa_cons (pv 3) pa_nil)) pa_nil)))) (fun _ _ => rfl)) pa_nil)))))) pss_nil)
        (pss_cons (ps_if (PW.pt (pw_and (pt_cmpR op_eq (pv 5) pe_int (nomark _)) (pw_and1 (pt_cmpR op_gt (pe_callB call_len_seq (by rfl) T.m_len (by decide +kernel) (pa_cons (pv 4) pa_nil)) pe_int (nomark _))))) (pss_one (ps_ret (pe_tup (pa_cons pe_str (pa_cons (pe_ix ix_list (pv 4) (pe_call G__law_mixed (hr.mono (by omega)) (by rfl) T.g__law_mixed T.F__law_mixed.kp T.b__law_mixed .nil pass0 (pa_cons (pv 0) (pa_cons pe_int (pa_cons (pe_callB call_len_seq (by rfl) T.m_len (by decide +kernel) (pa_cons (pv 4) pa_nil)) pa_nil)))) (fun _ _ => rfl)) (pa_cons (pe_call G__law_expression (hr.mono (by omega)) (by rfl) T.g__law_expression T.F__law_expression.kp T.b__law_expression .nil pass0 (pa_cons (pv 6) (pa_cons (pe_op op_sub (pv 1) pe_int) (pa_cons (pv 2) pa_nil)))) pa_nil)))))) pss_nil)
        (pss_cons (ps_if (pt_cmpR op_eq (pv 5) pe_int (nomark _)) (pss_one (ps_ret (pe_tup (pa_cons pe_str (pa_cons (pe_call G__law_expression (hr.mono (by omega)) (by rfl) T.g__law_expression T.F__law_expression.kp T.b__law_expression .nil pass0 (pa_cons (pv 6) (pa_cons (pe_op op_sub (pv 1) pe_int) (pa_cons (pv 2) pa_nil)))) pa_nil))))) pss_nil)
        (pss_cons (ps_set (i := 7) sc__law_expression.nd rfl (Or.inl rfl) (pe_ix ix_list (pe_lst (pa_cons pe_str (pa_cons pe_str (pa_cons pe_str (pa_cons pe_str (pa_cons pe_str (pa_cons pe_str (pa_cons pe_str pa_nil)))))))) (pe_call G__law_mixed (hr.mono (by omega)) (by rfl) T.g__law_mixed T.F__law_mixed.kp T.b__law_mixed .nil pass0 (pa_cons (pv 0) (pa_cons pe_int (pa_cons pe_int pa_nil)))) (fun _ _ => rfl)))
        (pss_cons (ps_set (i := 8) sc__law_expression.nd rfl (Or.inl rfl) (pe_call G__law_expression (hr.mono (by omega)) (by rfl) T.g__law_expression T.F__law_expression.kp T.b__law_expression .nil pass0 (pa_cons (pe_call G__law_within (hr.mono (by omega)) (by rfl) T.g__law_within T.F__law_within.kp T.b__law_within .nil pass0 (pa_cons (pv 0) (pa_cons pe_int pa_nil))) (pa_cons (pe_op op_sub (pv 1) pe_int) (pa_cons (pv 2) pa_nil)))))
        (pss_one (ps_ret (pe_tup (pa_cons (pv 7) (pa_cons (pe_call G__law_expression (hr.mono (by omega)) (by rfl) T.g__law_expression T.F__law_expression.kp T.b__law_expression .nil pass0 (pa_cons (pv 6) (pa_cons (pe_op op_sub (pv 1) pe_int) (pa_cons (pv 2) pa_nil)))) (pa_cons (pv 8) pa_nil)))))))))))))), ?_⟩
      obtain ⟨pi, rfl, hT⟩ := hI.tup
      refine ⟨_, rfl, pi, _, 0, _, rfl, rfl, hT, atI_nat (j := 0) rfl, _, rfl, pi, _, 1, _, rfl, rfl, hT, atI_nat (j := 1) rfl, _, _, rfl, ?_⟩
      refine ⟨_, rfl, v, 0, 13, rfl, hv, by decide, by decide, by decide, by decide, fun H1 kd k1 c1 kd0 kd1 => ?_⟩
      refine ⟨_, rfl, v, 3, rfl, c1, by decide, by decide, fun H2 v1 k2 c2 c2' w1 => ?_⟩
      have k12 := k1.trans k2
      have I2 := hI.kp k12 ho
      have sub1 := cellS_sub w1
      have o1 := ho.sub sub1
      have d0 : ∃ n : Nat, d.toNat = n + 1 := ⟨d.toNat - 1, by omega⟩
      obtain ⟨n, hn1⟩ := d0
      have mk : ∀ (H' : Hp) (ds : List PyData) (xs : List V) (e : Ex), Kp (cellS v) H H' → CellOk H' v → DpAll K H' xs ds → e.d = .tuple ds → nLs ds = true → e.Wf nms rws d.toNat → xs.length ≤ sizeLine ∧ ∀ p, H' p = none → Q (.ref p) (upd H' p (.tup xs)) := by
        intro H' ds xs e k' c' h' he hno wf
        refine ⟨?_, fun p np => q _ _ e (k'.trans (.of_same (same_new np))) (c'.same (same_new np)) ?_ wf⟩
        · rw [dpAll_len h', sizeLine_eq]
          have : ds.length ≤ 3 := by
            cases e <;> (simp only [Ex.d] at he; injection he with he; subst he; simp)
          omega
        · rw [he]
          exact .tup (.of upd_same) (dpAll_same h' (same_new np) hno)
      dsimp only [gName]
      refine ifs_by (fun σ' H' => H' = H2 ∧ 2 ≤ d ∧ σ' = [some v, some (.int d), some (.ref pi), some (.ref a), some (.ref b), some (.int kd), some v1, none, none]) ?_ ?_
      · rintro σ' H3 ⟨rfl, hd3, rfl⟩
        have wf_n : (d - 1).toNat = n := by omega
        have wf2 : (d - 1).toNat + 1 = d.toNat := by omega
        -- at
        refine ifs_by (fun σ' H' => H' = H3 ∧ σ' = [some v, some (.int d), some (.ref pi), some (.ref a), some (.ref b), some (.int kd), some v1, none, none]) ?_ ?_
        rotate_left
        · intro N hN
          refine ⟨_, rfl, rfl, _, rfl, ite2 (fun e1 => ?_) (fun e1 => hN _ _ ⟨rfl, rfl⟩)⟩
          refine ⟨_, rfl, b, _, rfl, .inl (.of I2.b), _, _, rfl, rfl, _, rfl, ite2 (fun e2 => ?_) (fun e2 => hN _ _ ⟨rfl, rfl⟩)⟩
          have e3 : 0 < rws.length := by
            have := of_decide_eq_true e2
            rw [List.length_map] at this
            omega
          refine ⟨_, rfl, _, rfl, _, rfl, b, _, rfl, .inl (.of I2.b), v, 4, (rws.map V.str).length, rfl, c2, by decide, by decide, by rw [List.length_map]; omega, by rw [List.length_map]; omega, fun H4 j k4 c4 j0 j1 => ?_⟩
          rw [List.length_map] at j1
          have I4 := I2.kp k4 ho
          obtain ⟨z, hz, ez⟩ := in_strs_at j0 j1
          refine ⟨b, _, j, _, rfl, rfl, .of I4.b, ez, ?_⟩
          refine ⟨_, rfl, _, rfl, _, _, rfl, rfl, _, rfl, v1, .ref pi, d - 1, nms, rws, hds, a, b, c, rfl, CellOk.or w1 c4, by omega, by omega, I4, hn, hw, o1, fun H5 r e k5 c5 dp wf => ?_⟩
          have k5' : Kp (cellS v) H4 H5 := k5.mono sub1
          refine mk H5 [.str "at", .str z, e.d] _ (.at_ z e) ((k12.trans k4).trans k5') (cell_after w1 c4 k5 c5) (.cons (.str _) (.cons (.str _) (.cons dp .nil))) rfl (by simp [nLs, nLd, e.noL]) ?_
          rw [← wf2]
          exact ⟨hz, wf⟩
        rintro σ' H4 ⟨rfl, rfl⟩
        -- not
        refine ifs_by (fun σ' H' => H' = H4 ∧ σ' = [some v, some (.int d), some (.ref pi), some (.ref a), some (.ref b), some (.int kd), some v1, none, none]) ?_ ?_
        rotate_left
        · intro N hN
          refine ⟨_, rfl, rfl, _, rfl, ite2 (fun e1 => ?_) (fun e1 => hN _ _ ⟨rfl, rfl⟩)⟩
          refine ⟨_, rfl, _, rfl, _, _, rfl, rfl, _, rfl, v1, .ref pi, d - 1, nms, rws, hds, a, b, c, rfl, CellOk.or w1 c2, by omega, by omega, I2, hn, hw, o1, fun H5 r e k5 c5 dp wf => ?_⟩
          have k5' : Kp (cellS v) H4 H5 := k5.mono sub1
          refine mk H5 [.str "not", e.d] _ (.no e) (k12.trans k5') (cell_after w1 c2 k5 c5) (.cons (.str _) (.cons dp .nil)) rfl (by simp [nLs, nLd, e.noL]) ?_
          rw [← wf2]
          exact wf
        rintro σ' H5 ⟨rfl, rfl⟩
        -- a word of seven
        refine ⟨(by show 7 ≤ sizeLine; rw [sizeLine_eq]; decide), fun L nL => ?_⟩
        have s6 := same_new (o := .lst (wds7.map V.str)) nL
        have c6 : CellOk _ v := c2.same s6
        have nc : ¬ cellS v L := c2.fresh nL
        refine ⟨_, rfl, v, 5, 7, rfl, c6, by decide, by decide, by decide, by decide, fun H7 j k7 c7 j0 j1 => ?_⟩
        obtain ⟨wd, hwd, ew⟩ := in_strs_at (zs := wds7) j0 j1
        have k7' : Kp (cellS v) H5 H7 := (Kp.of_same s6).trans k7
        refine ⟨L, _, j, _, rfl, rfl, .of (k7 _ _ upd_same fun z => absurd z nc), ew, ?_⟩
        have I7 := I2.kp k7' ho
        refine ⟨_, rfl, v, 6, rfl, c7, by decide, by decide, fun H8 v2 k8 c8 c8' w2 => ?_⟩
        have sub2 := cellS_sub w2
        have I8 := I7.kp k8 ho
        refine ⟨_, rfl, _, _, rfl, rfl, _, rfl, v2, .ref pi, d - 1, nms, rws, hds, a, b, c, rfl, c8', by omega, by omega, I8, hn, hw, ho.sub sub2, fun H9 r2 e2 k9 c9 dp2 wf2' => ?_⟩
        have k9' : Kp (cellS v) H8 H9 := k9.mono sub2
        have c9' := cell_after w2 c8 k9 c9
        have I9 := I8.kp k9' ho
        refine ⟨_, rfl, _, rfl, _, rfl, _, _, rfl, rfl, _, rfl, v1, .ref pi, d - 1, nms, rws, hds, a, b, c, rfl, CellOk.or w1 c9', by omega, by omega, I9, hn, hw, o1, fun H10 r1 e1 k10 c10 dp1 wf1 => ?_⟩
        have k10' : Kp (cellS v) H9 H10 := k10.mono sub1
        refine ⟨_, rfl, ?_⟩
        refine mk H10 [.str wd, e1.d, e2.d] _ (.op wd e1 e2) ((((k12.trans k7').trans k8).trans k9').trans k10') (cell_after w1 c9' k10 c10) (.cons (.str _) (.cons dp1 (.cons (dp_kp k10' _ _ e2.noL dp2) .nil))) rfl (by simp [nLs, nLd, e1.noL, e2.noL]) ?_
        rw [← wf2]
        exact ⟨hwd, wf1, wf2'⟩
      · intro N hN
        refine ⟨_, rfl, _, _, rfl, rfl, _, rfl, ite_share ?_ fun e1 leaf => ?_⟩
        · refine ifs_by (fun σ' H' => H' = H2 ∧ 0 < nms.length ∧ σ' = [some v, some (.int d), some (.ref pi), some (.ref a), some (.ref b), some (.int kd), some v1, none, none]) ?_ ?_
          · rintro σ' H3 ⟨rfl, n0, rfl⟩
            refine ⟨_, rfl, _, rfl, _, rfl, a, _, rfl, .inl (.of I2.a), v, 2, (nms.map V.str).length, rfl, c2, by decide, by decide, by rw [List.length_map]; omega, by rw [List.length_map]; omega, fun H4 j k4 c4 j0 j1 => ?_⟩
            rw [List.length_map] at j1
            obtain ⟨z, hz, ez⟩ := in_strs_at j0 j1
            refine ⟨a, _, j, _, rfl, rfl, .of (I2.kp k4 ho).a, ez, ?_⟩
            refine mk H4 [.str "name", .str z] _ (.nam z) (k12.trans k4) c4 (.cons (.str _) (.cons (.str _) .nil)) rfl rfl ?_
            rw [hn1]
            exact hz
          · intro M hM
            refine ⟨_, rfl, a, _, rfl, .inl (.of I2.a), rfl, _, rfl, ite_share ?_ fun e2 leaf2 => ?_⟩
            · refine ⟨_, rfl, v, 1, rfl, c2, by decide, by decide, fun H4 x k4 c4 hx => ?_⟩
              refine mk H4 [.str "number", .int x] _ (.num x) (k12.trans k4) c4 (.cons (.str _) (.cons (.int _) .nil)) rfl rfl ?_
              rw [hn1]
              exact hx
            · refine ⟨_, rfl, _, _, rfl, rfl, (by show (0 : Int) < 3; decide), rfl, _, rfl, ite2 (fun _ => leaf2) fun e3 => ?_⟩
              refine hM _ _ ⟨rfl, ?_, rfl⟩
              rcases Nat.eq_zero_or_pos nms.length with z | z
              · exact absurd (decide_eq_true (congrArg V.int (by rw [List.length_map, z]; rfl))) e2
              · exact z
        · refine ⟨_, rfl, _, _, rfl, rfl, _, rfl, ite2 (fun _ => leaf) fun e2 => ?_⟩
          refine hN _ _ ⟨rfl, ?_, rfl⟩
          have e1' : ¬ d < 2 := fun z => e1 (decide_eq_true z)
          omega

end

/-! an own rule: a tuple some times over, once too -/
theorem tuple_mul1 (l : Addr) (items : Array Value) (n : Nat) (dd : Option Addr) (sl : Array (Option Value)) (u : Tok) :
    Meets (Builtin.«tuple.__mul__» ⟨[.ref l, .int 1 u], []⟩) (fun _ R s => s.heap.get? l = some { cls := .type "tuple", dict := dd, data := .seq items n, slots := sl } ∧ R (.ok (.ret (Value.ref l))) s) :=
  .of_wp fun prog w A R s h => by
    obtain ⟨hp, g, d, tk, os⟩ := s
    obtain ⟨hl, h⟩ := h
    have f1 := AutoSeq1.idx_int
    have c0 : (decide ((1 : Int) < -(2 ^ 63)) || decide ((1 : Int) ≥ 2 ^ 63)) = false := by decide
    have c1 : (items.isEmpty || (1 : Int) == 1) = true := by rw [show ((1 : Int) == 1) = true from rfl, Bool.or_true]
    wp_walk using wpAny_loadPart' hl
    repeat (first
      | (refine wpAny_ite_false (decide_eq_false (by rw [c0]; exact Bool.false_ne_true)) ?_; wp_walk using wpAny_loadPart' hl)
      | (refine wpAny_ite_true (decide_eq_true c1) ?_; wp_walk using wpAny_loadPart' hl))
    all_goals first | exact ⟨_, rfl, h⟩ | skip
def rRepT1 (K : PySem.W.Frag) : R2 := fun x y H Q => ∃ l k xs, x = .ref l ∧ y = .int k ∧ SqT K H l xs ∧ xs ≠ [] ∧ 1 ≤ k ∧ k ≤ 1000 ∧ xs.length ≤ 1000 ∧ (k = 1 → Q (.ref l) H) ∧ (k ≠ 1 → ∀ p, H p = none → Q (.ref p) (upd H p (.tup (List.replicate k.toNat xs).flatten)))
theorem op_repT1 {X : Cx} : OpR X (binaryOp .Mult) (rRepT1 X.K) := by
  intro pins s σ H x y v u Q I rx ry h
  obtain ⟨l, k, xs, rfl, rfl, hT, hne, h1, h2, hz, q1, q2⟩ := h
  by_cases hk : k = 1
  · subst hk
    cases rx
    obtain ⟨t, rfl⟩ := ry
    obtain ⟨its, r, ⟨⟨cls, dd, data, sl⟩, ho, hc, n, hd⟩, hs⟩ := I.tuple hT
    simp only at hc hd
    subst hc hd
    refine wpAny_binaryOp_repeat_ref (T := "tuple") (U := "int") (by decide) ⟨_, ho, rfl⟩ (fun s' => typeIs_int s' 1 t) noFill_tuple_mul F.fills_int_mul F.slot_int_rmul repeat_tuple F.slot_int_index.lookup
      (call_meets F.slot_int_rmul (typeIs_int s 1 t) F.entry_int_rmul (F.args_int_rmul_2 _ _) (int_rmul_tuple 1 t l its.toArray n dd sl)
        ⟨ho, rfl, ⟨_, ho, rfl⟩, call_meets F.slot_tuple_mul ⟨_, ho, rfl⟩ F.entry_tuple_mul (F.args_tuple_mul_2 _ _) (tuple_mul1 l its.toArray n dd sl t) ⟨ho, ?_⟩⟩)
    exact ⟨.ref l, H, I, rfl, q1 rfl⟩
  · exact op_repT pins s σ H _ _ v u Q I rx ry ⟨l, k, xs, rfl, rfl, hT, hne, by omega, h2, hz, q2 hk⟩

/-! what an expression makes: just this data -/
section
variable {K : PySem.W.Frag} {H0 : Hp} {σ : L2.St}
def Md (K : PySem.W.Frag) (H0 : Hp) (σ : L2.St) (d : PyData) (t : TE) : Prop := ∀ (H : Hp) (Q : VK), Same H0 H → (∀ H' x, Same H H' → Dp K H' x d → Q x H') → t σ H Q
def Mds (K : PySem.W.Frag) (H0 : Hp) (σ : L2.St) (ds : List PyData) (t : TA) : Prop := ∀ (H : Hp) (Q : List V → Hp → Prop), Same H0 H → (∀ H' xs, Same H H' → DpAll K H' xs ds → Q xs H') → t σ H Q
theorem mds_nil : Mds K H0 σ [] tNil := fun H Q _ q => q H [] (Same.refl _) .nil
theorem mds_cons {d : PyData} {ds : List PyData} {t : TE} {u : TA} (h : Md K H0 σ d t) (r : Mds K H0 σ ds u) : Mds K H0 σ (d :: ds) (tCons t u) := fun H Q s q =>
  h H _ s fun H1 x s1 d1 => r H1 _ (s.trans s1) fun H2 xs s2 d2 => q H2 (x :: xs) (s1.trans s2) (.cons (dp_sm s2 d1) d2)
theorem md_tup {ds : List PyData} {u : TA} (r : Mds K H0 σ ds u) (hk : ds.length ≤ 1000 := by simp) : Md K H0 σ (.tuple ds) (tTup u) := fun H Q s q =>
  r H _ s fun H1 xs s1 d1 => ⟨by rw [dpAll_len d1, sizeLine_eq]; omega, fun p np => q _ _ (s1.trans (same_new np)) (.tup (.of upd_same) (dpAll_sm (same_new np) d1))⟩
theorem md_int {i : Int} : Md K H0 σ (.int i) (tC (.int i)) := fun H Q _ q => q H _ (Same.refl _) (.int i)
theorem md_str {z : Str} : Md K H0 σ (.str z) (tC (.str z)) := fun H Q _ q => q H _ (Same.refl _) (.str z)
theorem md_var {i : Nat} {v : V} {d : PyData} (h : σ[i]? = some (some v)) (dp : Dp K H0 v d) : Md K H0 σ d (tVar i) := fun H Q s q => ⟨v, h, q H _ (Same.refl _) (dp_sm s dp)⟩
/-- any expression, read by hand -/
theorem md_by {d : PyData} {t : TE} (h : ∀ (H : Hp) (Q : VK), Same H0 H → (∀ H' x, Same H H' → Dp K H' x d → Q x H') → t σ H Q) : Md K H0 σ d t := h
/-- a new list -/
theorem ml_lst {ds : List PyData} {u : TA} (r : Mds K H0 σ ds u) {H : Hp} {Q : VK} (s : Same H0 H) (q : ∀ H' L vs, Same H H' → H L = none → H' L = some (.lst vs) → DpAll K H' vs ds → Q (.ref L) H') (hk : ds.length ≤ 1000 := by simp) : tLst u σ H Q :=
  r H _ s fun H1 xs s1 d1 => ⟨by rw [dpAll_len d1, sizeLine_eq]; omega, fun p np => q _ p xs (s1.trans (same_new np)) (s1.free np) upd_same (dpAll_sm (same_new np) d1)⟩
end
theorem st_asg {te : TE} {i : Nat} {u : TS} {D : Ends} {σ : L2.St} {H : Hp} (h : te σ H fun v H' => u D (σ.set i (some v)) H') : tSeq (tAsg te (gName i)) u D σ H := h
/-! statements, one step opened -/
section
variable {K : PySem.W.Frag} {te : TE} {g : TG} {tb u : TS} {D : Ends} {σ : L2.St} {H : Hp}
def ForW (J : It) (g : TG) (tb : TS) (D : Ends) (σ : L2.St) (H1 : Hp) : Prop := ∃ W : Nat → Nat → L2.St → Hp → Prop, (∃ m, W 0 m σ H1) ∧ ∀ i m σ H, W i m σ H →
  (J.stop i H ∧ D.nx σ H) ∨ (J.go i H ∧ ∃ N : L2.St → Hp → Prop, (∀ σ' H', N σ' H' → ∃ m', m' < m ∧ W (i + 1) m' σ' H') ∧ ∀ x H', J.yld i H x H' → g x σ H' fun σ2 H2 => tb { D with nx := N, ct := N, bk := D.nx } σ2 H2)
theorem st_forT (h : te σ H fun v H1 => ∃ a, v = .ref a ∧ (∃ xs, SqT K H1 a xs) ∧ ForW (Itt K a) g tb { D with nx := u D } σ H1) : tSeq (tFor (iTup K te) g tb) u D σ H := h
theorem st_forL (h : te σ H fun v H1 => ∃ a, v = .ref a ∧ (∃ xs, SqL K H1 a xs) ∧ ForW (Itl K a) g tb { D with nx := u D } σ H1) : tSeq (tFor (iList K te) g tb) u D σ H := h
theorem st_drop (h : te σ H fun _ H' => u D σ H') : tSeq (tDrop te) u D σ H := h
theorem st_ret (h : te σ H D.rt) : tRet te D σ H := h
theorem fw_tup {a : Addr} {xs : List V} (Pv : Nat → L2.St → Hp → Prop) (h0 : Pv 0 σ H) (hl : ∀ i σ H, i ≤ xs.length → Pv i σ H → SqT K H a xs)
    (hs : ∀ i x σ H, xs[i]? = some x → Pv i σ H → g x σ H fun σ2 H2 => tb { D with nx := Pv (i + 1), ct := Pv (i + 1), bk := D.nx } σ2 H2) (hd : ∀ σ H, Pv xs.length σ H → D.nx σ H) : ForW (Itt K a) g tb D σ H := for_tup Pv h0 hl hs hd
theorem fw_list {a : Addr} {xs : List V} (Pv : Nat → L2.St → Hp → Prop) (h0 : Pv 0 σ H) (hl : ∀ i σ H, i ≤ xs.length → Pv i σ H → SqL K H a xs)
    (hs : ∀ i x σ H, xs[i]? = some x → Pv i σ H → g x σ H fun σ2 H2 => tb { D with nx := Pv (i + 1), ct := Pv (i + 1), bk := D.nx } σ2 H2) (hd : ∀ σ H, Pv xs.length σ H → D.nx σ H) : ForW (Itl K a) g tb D σ H := for_list Pv h0 hl hs hd
end
theorem ar_cons {t : TE} {u : TA} {σ : L2.St} {H : Hp} {Q : List V → Hp → Prop} (h : t σ H fun x H1 => u σ H1 fun xs H2 => Q (x :: xs) H2) : tCons t u σ H Q := h
theorem ar_call {sp : Sp} {dvs : List V} {E : XK} {t : TA} {σ : L2.St} {H : Hp} {Q : VK} (h : t σ H fun vs H1 => sp (vs ++ dvs) H1 Q E) : tCall sp dvs E t σ H Q := h
theorem st_if {c : TT} {t e u : TS} {D : Ends} {σ : L2.St} {H : Hp} (h : c σ H fun b H1 => if b = true then t { D with nx := u D } σ H1 else e { D with nx := u D } σ H1) : tSeq (tIfS c t e) u D σ H := h
theorem tt_test {t : TE} {σ : L2.St} {H : Hp} {Q : Bool → Hp → Prop} (h : t σ H fun x H' => ∃ k, x = .bl k ∧ Q k H') : tTest t σ H Q := h
theorem tt_b {t : TE} {σ : L2.St} {H : Hp} {Q : Bool → Hp → Prop} (h : t σ H fun x H' => ∃ k, x = .bl k ∧ Q k H') : tB t σ H Q := h
theorem tt_not {t : TT} {σ : L2.St} {H : Hp} {Q : Bool → Hp → Prop} (h : t σ H fun c H' => Q (!c) H') : tNot t σ H Q := h
theorem tt_or {t u : TT} {σ : L2.St} {H : Hp} {Q : Bool → Hp → Prop} (h : t σ H fun c H1 => if c = true then Q true H1 else u σ H1 Q) : tOr t u σ H Q := h
theorem te_op {r : R2} {ta tb : TE} {σ : L2.St} {H : Hp} {Q : VK} (h : ta σ H fun x H1 => tb σ H1 fun y H2 => r x y H2 Q) : tOp r ta tb σ H Q := h

section
variable {K : PySem.W.Frag} {H0 : Hp} {σ : L2.St}
theorem md_rep {d : PyData} {t tn : TE} {k : Nat} (h : Md K H0 σ (.tuple [d]) t) (hn : Md K H0 σ (.int (k : Int)) tn) (h1 : 1 ≤ k) (h2 : k ≤ 1000) : Md K H0 σ (.tuple (List.replicate k d)) (tOp (rRepT1 K) t tn) := fun H Q s q =>
  h H _ s fun H1 x s1 d1 => hn H1 _ (s.trans s1) fun H2 y s2 d2 => by
    cases dp_int d2
    obtain ⟨p, xs, rfl, hp, da⟩ := dp_tup (dp_sm s2 d1)
    obtain ⟨x0, r0, rfl, d0, e0⟩ := dpAll_cons da
    cases dpAll_nil e0
    refine ⟨p, _, _, rfl, rfl, hp, by simp, by omega, by omega, by simp, fun e => ?_, fun ne u nu => ?_⟩
    · have e1 : k = 1 := by omega
      subst e1
      exact q _ _ (s1.trans s2) (.tup hp da)
    · refine q _ _ ((s1.trans s2).trans (same_new nu)) (.tup (.of upd_same) ?_)
      rw [Int.toNat_natCast]
      have d0' := dp_sm (same_new (o := .tup (List.replicate k [x0]).flatten) nu) d0
      generalize upd H2 u (.tup (List.replicate k [x0]).flatten) = H3 at d0' ⊢
      clear h1 h2 q hn d2 ne
      induction k with
      | zero => exact .nil
      | succ k ih => rw [List.replicate_succ, List.replicate_succ, List.flatten_cons]; exact .cons d0' ih
theorem md_cat {a b : List PyData} {t u : TE} (ha : Md K H0 σ (.tuple a) t) (hb : Md K H0 σ (.tuple b) u) (hl : a.length + b.length ≤ 5000) : Md K H0 σ (.tuple (a ++ b)) (tOp (rCatA K) t u) := fun H Q s q =>
  ha H _ s fun H1 x s1 d1 => hb H1 _ (s.trans s1) fun H2 y s2 d2 => by
    obtain ⟨p, xs, rfl, hp, da⟩ := dp_tup (dp_sm s2 d1)
    obtain ⟨p2, ys, rfl, hp2, db⟩ := dp_tup d2
    have la := dpAll_len da
    have lb := dpAll_len db
    refine ⟨p, p2, xs, ys, rfl, rfl, hp, hp2, by rw [sizeLine_eq]; omega, fun e => ?_, fun _ e => ?_, fun _ _ r nr => ?_⟩
    · subst e
      have : a = [] := List.eq_nil_of_length_eq_zero la.symm
      subst this
      exact q _ _ (s1.trans s2) d2
    · subst e
      have : b = [] := List.eq_nil_of_length_eq_zero lb.symm
      subst this
      rw [List.append_nil] at q
      exact q _ _ (s1.trans s2) (.tup hp da)
    · exact q _ _ ((s1.trans s2).trans (same_new nr)) (.tup (.of upd_same) (dpAll_sm (same_new nr) (dpAll_app da db)))
theorem md_i0 {g : Int → Int → Int} {i j : Int} {t u : TE} (ha : Md K H0 σ (.int i) t) (hb : Md K H0 σ (.int j) u) : Md K H0 σ (.int (g i j)) (tOp (rI0 fun i j => V.int (g i j)) t u) := fun H Q s q =>
  ha H _ s fun H1 x s1 d1 => hb H1 _ (s.trans s1) fun H2 y s2 d2 => by
    cases dp_int d1
    cases dp_int d2
    exact ⟨_, _, rfl, rfl, q _ _ (s1.trans s2) (.int _)⟩
theorem md_iC {C : Int → Int → Prop} {g : Int → Int → Int} {i j : Int} {t u : TE} (ha : Md K H0 σ (.int i) t) (hb : Md K H0 σ (.int j) u) (hc : C i j) : Md K H0 σ (.int (g i j)) (tOp (rI C fun i j => V.int (g i j)) t u) := fun H Q s q =>
  ha H _ s fun H1 x s1 d1 => hb H1 _ (s.trans s1) fun H2 y s2 d2 => by
    cases dp_int d1
    cases dp_int d2
    exact ⟨_, _, rfl, rfl, hc, q _ _ (s1.trans s2) (.int _)⟩
end
section
variable {K : PySem.W.Frag} {H0 : Hp} {σ : L2.St}
theorem md_ixt {ds : List PyData} {d : PyData} {t : TE} {i : Nat} (h : Md K H0 σ (.tuple ds) t) (hi : ds[i]? = some d) : Md K H0 σ d (tOp (rIxT K) t (tC (.int (i : Int)))) := fun H Q s q =>
  h H _ s fun H1 x s1 d1 => by
    obtain ⟨p, xs, rfl, hp, da⟩ := dp_tup d1
    obtain ⟨v, hv, dv⟩ := dpAll_get da hi
    exact ⟨p, xs, _, v, rfl, rfl, hp, atI_nat hv, q _ _ s1 dv⟩
theorem md_cut2 {d1 d2 d3 : PyData} {t : TE} (h : Md K H0 σ (.tuple [d1, d2, d3]) t) : Md K H0 σ (.tuple [d1, d2]) (tSl (rSlA K) t tNoPart (tPart (tC (.int 2)))) := fun H Q s q =>
  h H _ s fun H1 x s1 e1 => by
    obtain ⟨p, xs, rfl, hp, da⟩ := dp_tup e1
    obtain ⟨x0, r0, rfl, g0, h0⟩ := dpAll_cons da
    obtain ⟨x1, r1, rfl, g1, h1⟩ := dpAll_cons h0
    obtain ⟨x2, r2, rfl, g2, h2⟩ := dpAll_cons h1
    cases dpAll_nil h2
    refine ⟨_, rfl, p, _, rfl, hp, fun z => ?_, fun _ u nu => ?_⟩
    · exact absurd z.2 (by show ¬ HT.sIx 3 3 (some 2) = 3; decide)
    · exact q _ _ (s1.trans (same_new nu)) (.tup (.of upd_same) (.cons (dp_sm (same_new nu) g0) (.cons (dp_sm (same_new nu) g1) .nil)))
end

section
variable {K : PySem.W.Frag} {H0 : Hp} {σ : L2.St}
theorem md_ixl {j : Nat} {a : Addr} {vs : List V} {ds : List PyData} {d : PyData} {i : Int} {ti : TE} (h : σ[j]? = some (some (.ref a))) (hs : SqL K H0 a vs) (da : DpAll K H0 vs ds) (hi : Md K H0 σ (.int i) ti) (h0 : 0 ≤ i) (hd : ds[i.toNat]? = some d) : Md K H0 σ d (tOp (rIxL K) (tVar j) ti) := fun H Q s q =>
  ⟨_, h, hi H _ s fun H1 x s1 d1 => by
    cases dp_int d1
    obtain ⟨v, hv, dv⟩ := dpAll_get da hd
    obtain ⟨n, rfl⟩ := Int.eq_ofNat_of_zero_le h0
    exact ⟨a, vs, _, v, rfl, rfl, (s.trans s1).seq hs, atI_nat hv, q _ _ s1 (dp_sm (s.trans s1) dv)⟩⟩
theorem md_len {j : Nat} {a : Addr} {vs : List V} (h : σ[j]? = some (some (.ref a))) (hs : SqL K H0 a vs) : Md K H0 σ (.int (vs.length : Int)) (tCB (fun xs H Q => ∃ p ys, xs = [.ref p] ∧ (SqL K H p ys ∨ SqT K H p ys) ∧ Q (.int ys.length) H) (tCons (tVar j) tNil)) := fun H Q s q =>
  ⟨_, h, a, vs, rfl, .inl (s.seq hs), q _ _ (Same.refl _) (.int _)⟩
theorem md_neg {i : Int} {t : TE} (h : Md K H0 σ (.int i) t) : Md K H0 σ (.int (-i)) (tUn (rU fun i => .int (-i)) t) := fun H Q s q =>
  h H _ s fun H1 x s1 d1 => by
    cases dp_int d1
    exact ⟨i, rfl, q _ _ s1 (.int _)⟩
/-- a test x == i of a number -/
theorem tt_eqi {i j : Int} {t u : TE} (h : Md K H0 σ (.int i) t) (hu : Md K H0 σ (.int j) u) {H : Hp} {Q : Bool → Hp → Prop} (s : Same H0 H) (q : ∀ H', Same H H' → Q (decide (V.int i = V.int j)) H') : tTest (tOp rEq t u) σ H Q :=
  h H _ s fun H1 x s1 d1 => hu H1 _ (s.trans s1) fun H2 y s2 d2 => by
    cases dp_int d1
    cases dp_int d2
    exact ⟨rfl, _, rfl, q _ (s1.trans s2)⟩
end
section
variable {K : PySem.W.Frag} {H0 : Hp} {σ : L2.St}
theorem md_ixll {u : TA} {ds : List PyData} {d : PyData} {i : Int} {ti : TE} (r : Mds K H0 σ ds u) (hi : Md K H0 σ (.int i) ti) (h0 : 0 ≤ i) (hd : ds[i.toNat]? = some d) (hk : ds.length ≤ 1000 := by simp) : Md K H0 σ d (tOp (rIxL K) (tLst u) ti) := fun H Q s q =>
  ml_lst (K := K) r s (fun H1 L vs s1 nL eL dL => hi H1 _ (s.trans s1) fun H2 y s2 d2 => by
    cases dp_int d2
    obtain ⟨v, hv, dv⟩ := dpAll_get dL hd
    obtain ⟨n, rfl⟩ := Int.eq_ofNat_of_zero_le h0
    exact ⟨L, vs, _, v, rfl, rfl, .of (s2 _ _ eL), atI_nat hv, q _ _ (s1.trans s2) (dp_sm s2 dv)⟩) hk
end

section
variable {P : Program} {w : World} {K : PySem.W.Frag} {mg : Str → Option Value} {base : Heap}
theorem atZ {zs : List Str} {i : Nat} {x : Str} (h : zs[i]? = some x) : atI (zs.map V.str) (i : Int) = some (.str x) := atI_nat (by rw [List.getElem?_map, h]; rfl)
theorem sms_nl (ms : List Sm) : nLs (ms.map Sm.d) = true := by rw [← Sm.ds_eq]; exact Sm.noLs ms
/-- an end as it is due -/
theorem is_end {H0 : Hp} {σ : L2.St} {t u : TE} {s' : PSt} {r : Rs} (h1 : Md K H0 σ (enD s' r) t) (h2 : Md K H0 σ (enD s' r) u) (l : s'.td.length ≤ 6000) (hr : r.wok) {H : Hp} {Q : VK} (s : Same H0 H) (q : ∀ H', Same H H' → Q (.bl true) H') : tCall (sp_isend K 3) [] E0 (tCons t (tCons u tNil)) σ H Q :=
  h1 H _ s fun H1 x s1 d1 => h2 H1 _ (s.trans s1) fun H2 y s2 d2 => ⟨x, y, _, _, rfl, dp_sm s2 d1, d2, alk_td l, alk_rs r hr, fun H3 s3 => q _ ((s1.trans s2).trans s3)⟩
theorem md_lplayed {H0 : Hp} {σ : L2.St} {i j n : Nat} {vp : V} {b : Addr} {hl : Hl} {ps : List (Str × Int)} {ws : List (Str × Nat)} {bd : List Sm} {L F : Nat} {r : Rs} {s' : PSt} {tm : TE} (hi : σ[i]? = some (some vp)) (hj : σ[j]? = some (some (.ref b))) (dp : Dp K H0 vp (plD hl ps ws bd)) (hb : SqL K H0 b ((ps.map (·.2)).map V.int)) (pk : PlOk n hl ps ws bd)
    (hm : Md K H0 σ (.int (L : Int)) tm) (l5 : L ≤ 5000) (he : doAll (hsZ hl) F bd (st0 ps ws L) = some (r, s')) : Md K H0 σ (lpD s' r ((L : Int) - s'.lf)) (tCall (sp_lplayed K n) [] E0 (tCons (tVar i) (tCons (tVar j) (tCons tm tNil)))) := fun H Q s q =>
  ⟨vp, hi, _, hj, hm _ _ s fun H2 x s2 dx => by
    cases dp_int dx
    exact ⟨vp, b, L, hl, ps, ws, bd, s', r, F, rfl, dp_sm (s.trans s2) dp, (s.trans s2).seq hb, pk, l5, he, fun H3 u s3 d3 => q _ _ (s2.trans s3) d3⟩⟩
def sp_law (K : PySem.W.Frag) : Sp := fun vs H Q _ => ∃ (a : Addr) (ns : List Int), vs = [.ref a] ∧ Scp K H a ns ∧ ∀ H', Q (.bl true) H'
theorem law_start {K : PySem.W.Frag} {H : Hp} {a : Addr} {ns : List Int} (hl : ns.length ≤ 63) (hb : ∀ z ∈ ns, Builtin.Int.intBits z ≤ 1048576) (hS : SqL K H a (ns.map V.int)) : sp_law K [.ref a] H (fun v _ => v = .bl true) fun _ _ _ => False := ⟨a, ns, rfl, ⟨hl, hb, hS⟩, fun _ => rfl⟩
/-- statements that neither turn back nor turn aside -/
def Sm.flat : Sm → Prop
  | .set _ _ => True
  | .put _ _ _ => True
  | .tell _ => True
  | _ => False
structure SmF (K : PySem.W.Frag) (H : Hp) (L : Addr) (rs : List Str) (ms : List Sm) : Prop where
  ex : ∃ vs, H L = some (.lst vs) ∧ DpAll K H vs (ms.map Sm.d)
  ok : ∀ m ∈ ms, ∀ hs n, m.ok hs (n + 2) rs
  fl : ∀ m ∈ ms, m.flat
theorem SmF.sm {H H' : Hp} {L : Addr} {rs : List Str} {ms : List Sm} (h : SmF K H L rs ms) (s : Same H H') : SmF K H' L rs ms := by
  obtain ⟨vs, e, d⟩ := h.ex
  exact ⟨⟨vs, s _ _ e, dpAll_sm s d⟩, h.ok, h.fl⟩
theorem SmF.add {H : Hp} {L : Addr} {rs : List Str} {ms : List Sm} {v : V} {m : Sm} {vs : List V} (h : SmF K H L rs ms) (e : H L = some (.lst vs)) (d : DpAll K H vs (ms.map Sm.d)) (dv : Dp K H v m.d) (om : ∀ hs n, m.ok hs (n + 2) rs) (fm : m.flat) : SmF K (upd H L (.lst (vs ++ [v]))) L rs (ms ++ [m]) := by
  have k : Kp (fun a => a = L) H (upd H L (.lst (vs ++ [v]))) := Kp.upd e trivial rfl
  refine ⟨⟨_, upd_same, ?_⟩, fun c hc => ?_, fun c hc => ?_⟩
  · rw [List.map_append]
    exact dpAll_app (dpAll_kp k _ _ (sms_nl ms) d) (.cons (dp_kp k _ _ (Sm.noL m) dv) .nil)
  · rcases List.mem_append.mp hc with z | z
    · exact h.ok c z
    · rw [List.mem_singleton.mp z]
      exact om
  · rcases List.mem_append.mp hc with z | z
    · exact h.fl c z
    · rw [List.mem_singleton.mp z]
      exact fm
theorem wf_ok {nms rws : List Str} : ∀ {d : Nat} {e : Ex}, e.Wf nms rws d → e.dep < d ∧ e.wf rws
  | 0, _, h => h.elim
  | d + 1, .num n, h => ⟨Nat.succ_pos _, h⟩
  | d + 1, .nam x, _ => ⟨Nat.succ_pos _, trivial⟩
  | d + 1, .at_ r e, h => by
    obtain ⟨a, b⟩ := wf_ok (d := d) (e := e) h.2
    exact ⟨by show e.dep + 1 < d + 1; omega, h.1, b⟩
  | d + 1, .no e, h => by
    obtain ⟨a, b⟩ := wf_ok (d := d) (e := e) h
    exact ⟨by show e.dep + 1 < d + 1; omega, b⟩
  | d + 1, .op w x y, h => by
    obtain ⟨a, b⟩ := wf_ok (d := d) (e := x) h.2.1
    obtain ⟨a', b'⟩ := wf_ok (d := d) (e := y) h.2.2
    exact ⟨by show max x.dep y.dep + 1 < d + 1; omega, h.1, b, b'⟩
/-- flat statements: how many turns are left counts for nothing -/
theorem flat_one (hs : Hs) {m : Sm} (hm : m.flat) (kn : Kn) (rw : Rw) (td : List Int) : ∃ r kn' rw' td', (r = Rs.fin ∨ ∃ w, r = Rs.flt w) ∧ ∀ F l, doOne hs (F + 1) m { kn := kn, rw := rw, lf := l, td := td } = some (r, { kn := kn', rw := rw', lf := l, td := td' }) := by
  cases m with
  | set x e =>
    cases h : wx e kn rw with
    | error f => exact ⟨.flt f, kn, rw, td, .inr ⟨_, rfl⟩, fun F l => by simp only [doOne, h]⟩
    | ok v => exact ⟨.fin, kput kn x v, rw, td, .inl rfl, fun F l => by simp only [doOne, h]⟩
  | tell e =>
    cases h : wx e kn rw with
    | error f => exact ⟨.flt f, kn, rw, td, .inr ⟨_, rfl⟩, fun F l => by simp only [doOne, h]⟩
    | ok v => exact ⟨.fin, kn, rw, td ++ [v], .inl rfl, fun F l => by simp only [doOne, h]⟩
  | put r e f =>
    cases h : wx e kn rw with
    | error f => exact ⟨.flt f, kn, rw, td, .inr ⟨_, rfl⟩, fun F l => by simp only [doOne, h]⟩
    | ok p =>
      cases h2 : wx f kn rw with
      | error f => exact ⟨.flt f, kn, rw, td, .inr ⟨_, rfl⟩, fun F l => by simp only [doOne, h, h2]⟩
      | ok v =>
        by_cases h3 : 0 ≤ p ∧ p < (rw r).length
        · exact ⟨.fin, kn, rput rw r p.toNat v, td, .inl rfl, fun F l => by simp only [doOne, h, h2]; rw [if_pos h3]⟩
        · exact ⟨.flt "place", kn, rw, td, .inr ⟨_, rfl⟩, fun F l => by simp only [doOne, h, h2]; rw [if_neg h3]⟩
  | give e => exact hm.elim
  | fail n => exact hm.elim
  | ite e ys zs => exact hm.elim
  | loop e b => exact hm.elim
  | call x h es => exact hm.elim
theorem flat_all (hs : Hs) : ∀ bd : List Sm, (∀ m ∈ bd, m.flat) → ∀ (kn : Kn) (rw : Rw) (td : List Int), ∃ r td', ∀ F l, bd.length ≤ l → bd.length + 2 ≤ F → ∃ kn' rw' l', doAll hs F bd { kn := kn, rw := rw, lf := l, td := td } = some (r, { kn := kn', rw := rw', lf := l', td := td' })
  | [], _, kn, rw, td => ⟨.fin, td, fun F l _ hF => by
    obtain ⟨G, rfl⟩ : ∃ G, F = G + 1 := ⟨F - 1, by simp at hF; omega⟩
    exact ⟨kn, rw, l, by simp only [doAll]⟩⟩
  | m :: r, hm, kn, rw, td => by
    obtain ⟨r1, kn1, rw1, td1, hr, h1⟩ := flat_one hs (hm m (List.mem_cons_self ..)) kn rw td
    rcases hr with rfl | ⟨w, rfl⟩
    · obtain ⟨r2, td2, h2⟩ := flat_all hs r (fun x hx => hm x (List.mem_cons_of_mem _ hx)) kn1 rw1 td1
      refine ⟨r2, td2, fun F l hl hF => ?_⟩
      rw [List.length_cons] at hl hF
      obtain ⟨G, rfl⟩ : ∃ G, F = G + 2 := ⟨F - 2, by omega⟩
      obtain ⟨a, b, c, e⟩ := h2 (G + 1) (l - 1) (by omega) (by omega)
      refine ⟨a, b, c, ?_⟩
      rw [doAll, if_neg (show ¬ l = 0 by omega), h1]
      exact e
    · refine ⟨.flt w, td1, fun F l hl hF => ?_⟩
      rw [List.length_cons] at hl hF
      obtain ⟨G, rfl⟩ : ∃ G, F = G + 2 := ⟨F - 2, by omega⟩
      refine ⟨kn1, rw1, l - 1, ?_⟩
      rw [doAll, if_neg (show ¬ l = 0 by omega), h1]
theorem ends2 {n : Nat} {hl : Hl} {ps : List (Str × Int)} {ws : List (Str × Nat)} {bd : List Sm} (pk : PlOk n hl ps ws bd) {most F : Nat} (hm : most ≤ 5000) {r : Rs} {s' : PSt} (e : doAll (hsZ hl) F bd (st0 ps ws most) = some (r, s')) : s'.td.length ≤ 6000 ∧ r.wok := by
  have sz := (size1 (hsZ hl) F).1 _ _ _ _ e
  have h1 : (st0 ps ws most).td.length = 0 := rfl
  have h2 : (st0 ps ws most).lf = most := rfl
  refine ⟨by omega, ?_⟩
  cases r with
  | flt w => exact (flt_word (hsZ hl) F).1 n _ bd _ w s' pk.ok e
  | fin => trivial
  | gave v => trivial
  | on => trivial
theorem md_playedG {H0 : Hp} {σ : L2.St} {i n : Nat} {vp : V} {hl : Hl} {ps : List (Str × Int)} {ws : List (Str × Nat)} {bd : List Sm} {L F : Nat} {r : Rs} {s' : PSt} {tl tm : TE} (hi : σ[i]? = some (some vp)) (dp : Dp K H0 vp (plD hl ps ws bd)) (htl : ∀ (H : Hp) (Q : VK), Same H0 H → (∀ H' b, Same H H' → SqN K H' b (ps.map (·.2)) → Q (.ref b) H') → tl σ H Q) (pk : PlOk n hl ps ws bd)
    (hm : Md K H0 σ (.int (L : Int)) tm) (l5 : L ≤ 5000) (he : doAll (hsZ hl) F bd (st0 ps ws L) = some (r, s')) : Md K H0 σ (enD s' r) (tCall (sp_played K n) [] E0 (tCons (tVar i) (tCons tl (tCons tm tNil)))) := fun H Q s q =>
  ⟨vp, hi, htl _ _ s fun H1 b s1 hb => hm _ _ (s.trans s1) fun H2 x s2 dx => by
    cases dp_int dx
    exact ⟨vp, b, L, hl, ps, ws, bd, s', r, F, rfl, dp_sm ((s.trans s1).trans s2) dp, sqN_sm s2 hb, pk, l5, he, fun H3 u s3 d3 => q _ _ ((s1.trans s2).trans s3) d3⟩⟩
theorem md_playedD {H0 : Hp} {σ : L2.St} {i n : Nat} {vp : V} {hl : Hl} {ps : List (Str × Int)} {ws : List (Str × Nat)} {bd : List Sm} {F : Nat} {r : Rs} {s' : PSt} {tl : TE} (hi : σ[i]? = some (some vp)) (dp : Dp K H0 vp (plD hl ps ws bd)) (htl : ∀ (H : Hp) (Q : VK), Same H0 H → (∀ H' b, Same H H' → SqN K H' b (ps.map (·.2)) → Q (.ref b) H') → tl σ H Q) (pk : PlOk n hl ps ws bd)
    (he : doAll (hsZ hl) F bd (st0 ps ws 1000) = some (r, s')) : Md K H0 σ (enD s' r) (tCall (sp_played K n) [.int 1000] E0 (tCons (tVar i) (tCons tl tNil))) := fun H Q s q =>
  ⟨vp, hi, htl _ _ s fun H1 b s1 hb =>
    ⟨vp, b, 1000, hl, ps, ws, bd, s', r, F, rfl, dp_sm (s.trans s1) dp, hb, pk, by decide, he, fun H3 u s3 d3 => q _ _ (s1.trans s3) d3⟩⟩
theorem md_nm {H0 : Hp} {σ : L2.St} {j i : Nat} {Ln : Addr} {zs : List Str} {z : Str} (h : σ[j]? = some (some (.ref Ln))) (e : H0 Ln = some (.lst (zs.map V.str))) (hz : zs[i]? = some z) : Md K H0 σ (.str z) (tOp (rIxL K) (tVar j) (tC (.int (i : Int)))) := fun H Q s q =>
  ⟨_, h, Ln, _, _, _, rfl, rfl, .of (s _ _ e), atZ hz, q _ _ (Same.refl _) (.str _)⟩
theorem ix_of {l : List Int} {j : Int} (h0 : 0 ≤ j) (h1 : j < l.length) : ∃ x ∈ l, atI (l.map V.int) j = some (.int x) := by
  obtain ⟨x, hx, e⟩ := at_list (ns := l.map V.int) h0 (by rw [List.length_map]; exact h1)
  obtain ⟨z, hz, rfl⟩ := List.mem_map.mp hx
  exact ⟨z, hz, e⟩
theorem strs_dp {H : Hp} : ∀ l : List Str, DpAll K H (l.map V.str) (l.map PyData.str)
  | [] => .nil
  | _ :: r => .cons (.str _) (strs_dp r)
theorem Info.sm {H H' : Hp} {v : V} {nms rws : List Str} {hds : List (Str × Nat)} {a b c : Addr} (h : Info K H v nms rws hds a b c) (s : Same H H') : Info K H' v nms rws hds a b c := h.kp (S := fun _ => False) (Kp.of_same s) ⟨id, id, id⟩
end
theorem st_asg1 {te : TE} {i : Nat} {D : Ends} {σ : L2.St} {H : Hp} (h : te σ H fun v H' => D.nx (σ.set i (some v)) H') : tAsg te (gName i) D σ H := h

/-! programs without while: how many turns they need at most -/
mutual
inductive Nd (hs : Hs) : Sm → Nat → Prop
  | set (x : Str) (e : Ex) : Nd hs (.set x e) 0
  | tell (e : Ex) : Nd hs (.tell e) 0
  | give (e : Ex) : Nd hs (.give e) 0
  | put (r : Str) (e f : Ex) : Nd hs (.put r e f) 0
  | fail (n : Int) : Nd hs (.fail n) 0
  | ite {e : Ex} {ys zs : List Sm} {a : Nat} : NdS hs ys a → NdS hs zs a → Nd hs (.ite e ys zs) a
  | call {x h : Str} {es : List Ex} {ps : List Str} {body : List Sm} {a : Nat} : hs h = some (ps, body) → NdS hs body a → Nd hs (.call x h es) a
inductive NdS (hs : Hs) : List Sm → Nat → Prop
  | nil {a : Nat} : NdS hs [] a
  | cons {m : Sm} {r : List Sm} {a b : Nat} : Nd hs m a → NdS hs r b → NdS hs (m :: r) (a + 1 + b)
end
/-- it ends alike with any turns from c on -/
def Alk1 (hs : Hs) (m : Sm) (c : Nat) : Prop := ∀ (kn : Kn) (rw : Rw) (td : List Int), ∃ (r : Rs) (kn' : Kn) (rw' : Rw) (td' : List Int) (u F0 : Nat), u ≤ c ∧ r ≠ .on ∧ ∀ F l, F0 ≤ F → c ≤ l → doOne hs F m { kn := kn, rw := rw, lf := l, td := td } = some (r, { kn := kn', rw := rw', lf := l - u, td := td' })
def AlkS (hs : Hs) (bd : List Sm) (c : Nat) : Prop := ∀ (kn : Kn) (rw : Rw) (td : List Int), ∃ (r : Rs) (kn' : Kn) (rw' : Rw) (td' : List Int) (u F0 : Nat), u ≤ c ∧ r ≠ .on ∧ ∀ F l, F0 ≤ F → c ≤ l → doAll hs F bd { kn := kn, rw := rw, lf := l, td := td } = some (r, { kn := kn', rw := rw', lf := l - u, td := td' })
theorem alk_plain {hs : Hs} {m : Sm} (h : ∀ (kn : Kn) (rw : Rw) (td : List Int), ∃ (r : Rs) (kn' : Kn) (rw' : Rw) (td' : List Int), r ≠ .on ∧ ∀ F l, doOne hs (F + 1) m { kn := kn, rw := rw, lf := l, td := td } = some (r, { kn := kn', rw := rw', lf := l, td := td' })) : Alk1 hs m 0 := fun kn rw td => by
  obtain ⟨r, kn', rw', td', hr, e⟩ := h kn rw td
  refine ⟨r, kn', rw', td', 0, 1, Nat.le_refl _, hr, fun F l hF _ => ?_⟩
  obtain ⟨G, rfl⟩ : ∃ G, F = G + 1 := ⟨F - 1, by omega⟩
  exact e G l
theorem alk_nil (hs : Hs) (a : Nat) : AlkS hs [] a := fun kn rw td => ⟨.fin, kn, rw, td, 0, 1, Nat.zero_le _, nofun, fun F l hF _ => by
  obtain ⟨G, rfl⟩ : ∃ G, F = G + 1 := ⟨F - 1, by omega⟩
  simp only [doAll, Nat.sub_zero]⟩
theorem alk_cons {hs : Hs} {m : Sm} {r : List Sm} {a b : Nat} (h1 : Alk1 hs m a) (h2 : AlkS hs r b) : AlkS hs (m :: r) (a + 1 + b) := fun kn rw td => by
  obtain ⟨r1, kn1, rw1, td1, u1, F1, l1, n1, e1⟩ := h1 kn rw td
  by_cases hr : r1 = .fin
  · subst hr
    obtain ⟨r2, kn2, rw2, td2, u2, F2, l2, n2, e2⟩ := h2 kn1 rw1 td1
    refine ⟨r2, kn2, rw2, td2, 1 + u1 + u2, F1 + F2 + 1, by omega, n2, fun F l hF hl => ?_⟩
    obtain ⟨G, rfl⟩ : ∃ G, F = G + 1 := ⟨F - 1, by omega⟩
    rw [doAll, if_neg (show ¬ l = 0 by omega)]
    show (match doOne hs G m { kn := kn, rw := rw, lf := l - 1, td := td } with | none => none | some (.fin, s') => doAll hs G r s' | some (.gave v, s') => some (.gave v, s') | some (.on, s') => some (.on, s') | some (.flt w, s') => some (.flt w, s')) = _
    rw [e1 G (l - 1) (by omega) (by omega)]
    dsimp only
    rw [e2 G (l - 1 - u1) (by omega) (by omega)]
    rw [show l - 1 - u1 - u2 = l - (1 + u1 + u2) by omega]
  · refine ⟨r1, kn1, rw1, td1, 1 + u1, F1 + 1, by omega, n1, fun F l hF hl => ?_⟩
    obtain ⟨G, rfl⟩ : ∃ G, F = G + 1 := ⟨F - 1, by omega⟩
    rw [doAll, if_neg (show ¬ l = 0 by omega)]
    show (match doOne hs G m { kn := kn, rw := rw, lf := l - 1, td := td } with | none => none | some (.fin, s') => doAll hs G r s' | some (.gave v, s') => some (.gave v, s') | some (.on, s') => some (.on, s') | some (.flt w, s') => some (.flt w, s')) = _
    rw [e1 G (l - 1) (by omega) (by omega), show l - 1 - u1 = l - (1 + u1) by omega]
    cases r1 with
    | fin => exact absurd rfl hr
    | gave v => rfl
    | on => rfl
    | flt w => rfl
theorem alk_ite {hs : Hs} {e : Ex} {ys zs : List Sm} {a : Nat} (h1 : AlkS hs ys a) (h2 : AlkS hs zs a) : Alk1 hs (.ite e ys zs) a := fun kn rw td => by
  cases h : wx e kn rw with
  | error f =>
    refine ⟨.flt f, kn, rw, td, 0, 1, Nat.zero_le _, nofun, fun F l hF _ => ?_⟩
    obtain ⟨G, rfl⟩ : ∃ G, F = G + 1 := ⟨F - 1, by omega⟩
    simp only [doOne, h, Nat.sub_zero]
  | ok v =>
    have hh : AlkS hs (if v ≠ 0 then ys else zs) a := by
      by_cases hv : v ≠ 0
      · rw [if_pos hv]; exact h1
      · rw [if_neg hv]; exact h2
    obtain ⟨r, kn', rw', td', u, F0, l0, n0, e0⟩ := hh kn rw td
    refine ⟨r, kn', rw', td', u, F0 + 1, l0, n0, fun F l hF hl => ?_⟩
    obtain ⟨G, rfl⟩ : ∃ G, F = G + 1 := ⟨F - 1, by omega⟩
    rw [← e0 G l (by omega) hl]
    simp only [doOne, h]
theorem alk_call {hs : Hs} {x h : Str} {es : List Ex} {ps : List Str} {body : List Sm} {a : Nat} (hh : hs h = some (ps, body)) (hb : AlkS hs body a) : Alk1 hs (.call x h es) a := fun kn rw td => by
  cases hw : wxs es kn rw with
  | error f =>
    refine ⟨.flt f, kn, rw, td, 0, 1, Nat.zero_le _, nofun, fun F l hF _ => ?_⟩
    obtain ⟨G, rfl⟩ : ∃ G, F = G + 1 := ⟨F - 1, by omega⟩
    simp only [doOne, hh, hw, Nat.sub_zero]
  | ok vs =>
    obtain ⟨r, kn', rw', td', u, F0, l0, n0, e0⟩ := hb (knZ (ps.zip vs)) (fun _ => []) td
    cases r with
    | on => exact absurd rfl n0
    | fin =>
      refine ⟨.fin, kput kn x 0, rw, td', u, F0 + 1, l0, nofun, fun F l hF hl => ?_⟩
      obtain ⟨G, rfl⟩ : ∃ G, F = G + 1 := ⟨F - 1, by omega⟩
      simp only [doOne, hh, hw, e0 G l (by omega) hl]
    | gave v =>
      refine ⟨.fin, kput kn x v, rw, td', u, F0 + 1, l0, nofun, fun F l hF hl => ?_⟩
      obtain ⟨G, rfl⟩ : ∃ G, F = G + 1 := ⟨F - 1, by omega⟩
      simp only [doOne, hh, hw, e0 G l (by omega) hl]
    | flt w =>
      refine ⟨.flt w, kn, rw, td', u, F0 + 1, l0, nofun, fun F l hF hl => ?_⟩
      obtain ⟨G, rfl⟩ : ∃ G, F = G + 1 := ⟨F - 1, by omega⟩
      simp only [doOne, hh, hw, e0 G l (by omega) hl]
mutual
theorem Nd.alk {hs : Hs} : ∀ {m : Sm} {c : Nat}, Nd hs m c → Alk1 hs m c
  | _, _, .set x e => alk_plain fun kn rw td => by
    cases h : wx e kn rw with
    | error f => exact ⟨.flt f, kn, rw, td, nofun, fun F l => by simp only [doOne, h]⟩
    | ok v => exact ⟨.fin, kput kn x v, rw, td, nofun, fun F l => by simp only [doOne, h]⟩
  | _, _, .tell e => alk_plain fun kn rw td => by
    cases h : wx e kn rw with
    | error f => exact ⟨.flt f, kn, rw, td, nofun, fun F l => by simp only [doOne, h]⟩
    | ok v => exact ⟨.fin, kn, rw, td ++ [v], nofun, fun F l => by simp only [doOne, h]⟩
  | _, _, .give e => alk_plain fun kn rw td => by
    cases h : wx e kn rw with
    | error f => exact ⟨.flt f, kn, rw, td, nofun, fun F l => by simp only [doOne, h]⟩
    | ok v => exact ⟨.gave v, kn, rw, td, nofun, fun F l => by simp only [doOne, h]⟩
  | _, _, .put r e f => alk_plain fun kn rw td => by
    cases h : wx e kn rw with
    | error f => exact ⟨.flt f, kn, rw, td, nofun, fun F l => by simp only [doOne, h]⟩
    | ok p =>
      cases h2 : wx f kn rw with
      | error f => exact ⟨.flt f, kn, rw, td, nofun, fun F l => by simp only [doOne, h, h2]⟩
      | ok v =>
        by_cases h3 : 0 ≤ p ∧ p < (rw r).length
        · exact ⟨.fin, kn, rput rw r p.toNat v, td, nofun, fun F l => by simp only [doOne, h, h2]; rw [if_pos h3]⟩
        · exact ⟨.flt "place", kn, rw, td, nofun, fun F l => by simp only [doOne, h, h2]; rw [if_neg h3]⟩
  | _, _, .fail n => alk_plain fun kn rw td => ⟨.flt (failW n), kn, rw, td, nofun, fun F l => by simp only [doOne]⟩
  | _, _, .ite h1 h2 => alk_ite h1.alk h2.alk
  | _, _, .call hh hb => alk_call hh hb.alk
theorem NdS.alk {hs : Hs} : ∀ {bd : List Sm} {c : Nat}, NdS hs bd c → AlkS hs bd c
  | _, _, .nil => alk_nil hs _
  | _, _, .cons h1 h2 => alk_cons h1.alk h2.alk
end

theorem Alk1.mono {hs : Hs} {m : Sm} {c d : Nat} (h : Alk1 hs m c) (l : c ≤ d) : Alk1 hs m d := fun kn rw td => by
  obtain ⟨r, a, b, t, u, F, e1, e2, e3⟩ := h kn rw td
  exact ⟨r, a, b, t, u, F, Nat.le_trans e1 l, e2, fun G k hG hk => e3 G k hG (Nat.le_trans l hk)⟩
theorem AlkS.mono {hs : Hs} {m : List Sm} {c d : Nat} (h : AlkS hs m c) (l : c ≤ d) : AlkS hs m d := fun kn rw td => by
  obtain ⟨r, a, b, t, u, F, e1, e2, e3⟩ := h kn rw td
  exact ⟨r, a, b, t, u, F, Nat.le_trans e1 l, e2, fun G k hG hk => e3 G k hG (Nat.le_trans l hk)⟩
theorem alk_list {hs : Hs} {c : Nat} : ∀ {bd : List Sm}, (∀ m ∈ bd, Alk1 hs m c) → AlkS hs bd (bd.length * (c + 1))
  | [], _ => alk_nil hs _
  | m :: r, h => (alk_cons (h m (List.mem_cons_self ..)) (alk_list fun x hx => h x (List.mem_cons_of_mem _ hx))).mono (by rw [List.length_cons, Nat.add_mul, Nat.one_mul]; omega)
/-- a statement of a helper, by the heads of those ahead -/
def HSt (hds : List (Str × Nat)) : Sm → Prop
  | .set _ e => e.ok []
  | .tell e => e.ok []
  | .give e => e.ok []
  | .fail n => 10 ≤ n ∧ n ≤ 13
  | .ite e ys zs => e.ok [] ∧ (∃ n, ys = [.fail n] ∧ 10 ≤ n ∧ n ≤ 13) ∧ zs = []
  | .call _ h es => (h, es.length) ∈ hds ∧ (∀ e ∈ es, e.ok []) ∧ es.length ≤ 100
  | _ => False
theorem fail_shaped : ∀ n : Nat, n < 4 → SeqAt.shaped (.str (failW (10 + (n : Int)))) = true := by decide +kernel
theorem fail_ok {n : Int} (h : 10 ≤ n ∧ n ≤ 13) : In32 n ∧ SeqAt.shaped (.str (failW n)) = true := by
  obtain ⟨j, hj⟩ : ∃ j : Nat, n = 10 + (j : Int) := ⟨(n - 10).toNat, by omega⟩
  refine ⟨⟨by omega, by omega⟩, ?_⟩
  rw [hj]
  exact fail_shaped j (by omega)
theorem hst_ok {hs : Hs} {hds : List (Str × Nat)} {n : Nat} (hh : ∀ h m, (h, m) ∈ hds → ∃ ps body, hs h = some (ps, body) ∧ ps.length = m ∧ ∀ b ∈ body, Sm.ok hs (n + 1) [] b) {m : Sm} (h : HSt hds m) : m.ok hs (n + 2) [] := by
  cases m with
  | set x e => exact h
  | tell e => exact h
  | give e => exact h
  | fail k => exact fail_ok h
  | ite e ys zs =>
    obtain ⟨h1, ⟨k, rfl, h2⟩, rfl⟩ := h
    refine ⟨h1, fun m hm => ?_, fun m hm => by cases hm⟩
    rw [List.mem_singleton.mp hm]
    exact fail_ok h2
  | call x g es =>
    obtain ⟨h1, h2, h3⟩ := h
    obtain ⟨ps, body, e1, e2, e3⟩ := hh _ _ h1
    exact ⟨trivial, h2, h3, ps, body, e1, e2, e3⟩
  | put r e f => exact h.elim
  | loop e b => exact h.elim
theorem hst_alk {hs : Hs} {hds : List (Str × Nat)} {c : Nat} (hh : ∀ h m, (h, m) ∈ hds → ∃ ps body, hs h = some (ps, body) ∧ AlkS hs body c) {m : Sm} (h : HSt hds m) : Alk1 hs m (c + 1) := by
  cases m with
  | set x e => exact (Nd.set x e).alk.mono (Nat.zero_le _)
  | tell e => exact (Nd.tell e).alk.mono (Nat.zero_le _)
  | give e => exact (Nd.give e).alk.mono (Nat.zero_le _)
  | fail k => exact (Nd.fail k).alk.mono (Nat.zero_le _)
  | ite e ys zs =>
    obtain ⟨h1, ⟨k, rfl, h2⟩, rfl⟩ := h
    exact (alk_ite (alk_cons (Nd.fail k).alk (alk_nil hs 0)) (alk_nil hs _)).mono (by omega)
  | call x g es =>
    obtain ⟨h1, _⟩ := h
    obtain ⟨ps, body, e1, e2⟩ := hh _ _ h1
    exact (alk_call e1 e2).mono (Nat.le_succ _)
  | put r e f => exact h.elim
  | loop e b => exact h.elim
mutual
theorem Sm.ok_up {hs : Hs} : ∀ (n : Nat) {rs : List Str} (m : Sm), m.ok hs n rs → m.ok hs (n + 1) rs
  | 0, _, _, h => h.elim
  | _ + 1, _, .set _ _, h => h
  | _ + 1, _, .tell _, h => h
  | _ + 1, _, .give _, h => h
  | _ + 1, _, .put _ _ _, h => h
  | _ + 1, _, .fail _, h => h
  | n + 1, _, .ite e ys zs, h => ⟨h.1, fun m hm => Sm.ok_up n m (h.2.1 m hm), fun m hm => Sm.ok_up n m (h.2.2 m hm)⟩
  | n + 1, _, .loop e b, h => ⟨h.1, fun m hm => Sm.ok_up n m (h.2 m hm)⟩
  | n + 1, _, .call _ _ _, h => by
    obtain ⟨h1, h2, h3, ps, body, h4, h5, h6⟩ := h
    exact ⟨h1, h2, h3, ps, body, h4, h5, fun m hm => Sm.ok_up n m (h6 m hm)⟩
end

/-! helpers: their bounds of turns, and that they may be played -/
theorem sms_cons {m : Sm} {r : List Sm} : Sm.ds (m :: r) = m.d :: Sm.ds r := by rw [Sm.ds_eq, Sm.ds_eq]; rfl
def Sm.nc : Sm → Nat
  | .call _ _ _ => 1
  | _ => 0
def ncs : List Sm → Nat
  | [] => 0
  | m :: r => m.nc + ncs r
theorem ncs_app : ∀ a b : List Sm, ncs (a ++ b) = ncs a + ncs b
  | [], b => by rw [List.nil_append, ncs, Nat.zero_add]
  | m :: r, b => by rw [List.cons_append, ncs, ncs, ncs_app r b, Nat.add_assoc]
theorem hst_alk2 {hs : Hs} {hds : List (Str × Nat)} {c : Nat} (hh : ∀ h m, (h, m) ∈ hds → ∃ ps body, hs h = some (ps, body) ∧ AlkS hs body c) {m : Sm} (h : HSt hds m) : Alk1 hs m (1 + c * m.nc) := by
  cases m with
  | set x e => exact (Nd.set x e).alk.mono (Nat.zero_le _)
  | tell e => exact (Nd.tell e).alk.mono (Nat.zero_le _)
  | give e => exact (Nd.give e).alk.mono (Nat.zero_le _)
  | fail k => exact (Nd.fail k).alk.mono (Nat.zero_le _)
  | ite e ys zs =>
    obtain ⟨h1, ⟨k, rfl, h2⟩, rfl⟩ := h
    exact (alk_ite (alk_cons (Nd.fail k).alk (alk_nil hs 0)) (alk_nil hs _)).mono (Nat.le_add_right 1 _)
  | call x g es =>
    obtain ⟨h1, _⟩ := h
    obtain ⟨ps, body, e1, e2⟩ := hh _ _ h1
    exact (alk_call e1 e2).mono (by show c ≤ 1 + c * 1; omega)
  | put r e f => exact h.elim
  | loop e b => exact h.elim
theorem alk_sum {hs : Hs} {hds : List (Str × Nat)} {c : Nat} (hh : ∀ h m, (h, m) ∈ hds → ∃ ps body, hs h = some (ps, body) ∧ AlkS hs body c) : ∀ {bd : List Sm}, (∀ m ∈ bd, HSt hds m) → AlkS hs bd (2 * bd.length + c * ncs bd)
  | [], _ => alk_nil hs _
  | m :: r, h => (alk_cons (hst_alk2 hh (h m (List.mem_cons_self ..))) (alk_sum hh fun x hx => h x (List.mem_cons_of_mem _ hx))).mono (by
      rw [List.length_cons, ncs, Nat.mul_add c]
      omega)
def hdsOf (hl : Hl) : List (Str × Nat) := hl.map fun q => (q.1, q.2.1.length)
structure HpOk (hds : List (Str × Nat)) (hp : Str × List Str × List Sm) : Prop where
  lp : hp.2.1.length ≤ 4
  lb : hp.2.2.length ≤ 4
  nc : ncs hp.2.2 ≤ 1
  ok : ∀ m ∈ hp.2.2, HSt hds m
inductive HlOk (zs : List Str) : Hl → Prop
  | nil : HlOk zs []
  | snoc {hl : Hl} {hp : Str × List Str × List Sm} : HlOk zs hl → zs[12 + hl.length]? = some hp.1 → HpOk (hdsOf hl) hp → HlOk zs (hl ++ [hp])
theorem HlOk.names {zs : List Str} : ∀ {hl : Hl}, HlOk zs hl → hl.map (·.1) = (zs.drop 12).take hl.length
  | _, .nil => rfl
  | _, .snoc (hl := hl) (hp := hp) h e _ => by
    rw [List.map_append, h.names, List.length_append, List.length_singleton, List.take_succ, List.getElem?_drop, e]
    rfl
theorem HlOk.nodup {zs : List Str} {hl : Hl} (h : HlOk zs hl) (nd : zs.Nodup) : (hl.map (·.1)).Nodup := by
  rw [h.names]
  exact ((nd.sublist (List.drop_sublist _ _)).sublist (List.take_sublist _ _))
theorem hsZ_mem : ∀ {hl : Hl}, (hl.map (·.1)).Nodup → ∀ {q : Str × List Str × List Sm}, q ∈ hl → hsZ hl q.1 = some q.2
  | [], _, _, h => nomatch h
  | p :: r, nd, q, h => by
    rw [List.map_cons, List.nodup_cons] at nd
    unfold hsZ
    rcases List.mem_cons.mp h with rfl | h
    · rw [List.find?_cons_of_pos (by simp)]
      rfl
    · have ne : p.1 ≠ q.1 := fun e => nd.1 (by rw [e]; exact List.mem_map_of_mem (f := (·.1)) h)
      rw [List.find?_cons_of_neg (by simpa using ne)]
      exact hsZ_mem nd.2 h
theorem mem_hdsOf {hl : Hl} {h : Str} {m : Nat} (hm : (h, m) ∈ hdsOf hl) : ∃ q ∈ hl, q.1 = h ∧ q.2.1.length = m := by
  obtain ⟨q, hq, e⟩ := List.mem_map.mp hm
  exact ⟨q, hq, congrArg Prod.fst e, congrArg Prod.snd e⟩
theorem hl_good {HL : Hl} (nd : (HL.map (·.1)).Nodup) {zs : List Str} : ∀ {hl : Hl}, HlOk zs hl → (∀ q ∈ hl, q ∈ HL) → ∀ q ∈ hl, (∀ b ∈ q.2.2, Sm.ok (hsZ HL) (hl.length + 1) [] b) ∧ AlkS (hsZ HL) q.2.2 (8 * hl.length)
  | _, .nil, _, q, hq => nomatch hq
  | _, .snoc (hl := hl) (hp := hp) h e w, sub, q, hq => by
    have ih := hl_good nd h fun q hq => sub q (List.mem_append_left _ hq)
    rw [List.length_append, List.length_singleton]
    rcases List.mem_append.mp hq with hq | hq
    · obtain ⟨h1, h2⟩ := ih q hq
      exact ⟨fun b hb => Sm.ok_up _ b (h1 b hb), h2.mono (by omega)⟩
    · rw [List.mem_singleton.mp hq]
      refine ⟨fun b hb => hst_ok (n := hl.length) (fun x m hm => ?_) (w.ok b hb), (alk_sum (hds := hdsOf hl) (c := 8 * hl.length) (fun x m hm => ?_) w.ok).mono ?_⟩
      · obtain ⟨q, hq, rfl, rfl⟩ := mem_hdsOf hm
        exact ⟨q.2.1, q.2.2, hsZ_mem nd (sub q (List.mem_append_left _ hq)), rfl, (ih q hq).1⟩
      · obtain ⟨q, hq, rfl, rfl⟩ := mem_hdsOf hm
        exact ⟨q.2.1, q.2.2, hsZ_mem nd (sub q (List.mem_append_left _ hq)), (ih q hq).2⟩
      · have h1 := w.lb
        have h2 := Nat.mul_le_mul_left (8 * hl.length) w.nc
        omega
theorem main_good {hl : Hl} {zs : List Str} (nd : zs.Nodup) (h : HlOk zs hl) (l : hl.length ≤ 4) {bd : List Sm} (hb : ∀ m ∈ bd, HSt (hdsOf hl) m) (lb : bd.length ≤ 14) (lc : ncs bd ≤ 4) : (∀ m ∈ bd, Sm.ok (hsZ hl) (hl.length + 2) [] m) ∧ AlkS (hsZ hl) bd 160 := by
  have nd' := h.nodup nd
  have g := hl_good nd' h fun q hq => hq
  refine ⟨fun b hm => hst_ok (n := hl.length) (fun x m hm => ?_) (hb b hm), (alk_sum (hds := hdsOf hl) (c := 8 * hl.length) (fun x m hm => ?_) hb).mono ?_⟩
  · obtain ⟨q, hq, rfl, rfl⟩ := mem_hdsOf hm
    exact ⟨q.2.1, q.2.2, hsZ_mem nd' hq, rfl, (g q hq).1⟩
  · obtain ⟨q, hq, rfl, rfl⟩ := mem_hdsOf hm
    exact ⟨q.2.1, q.2.2, hsZ_mem nd' hq, (g q hq).2⟩
  · have h2 := Nat.mul_le_mul (show 8 * hl.length ≤ 32 by omega) lc
    omega
theorem ok_upto {hs : Hs} {n k : Nat} {rs : List Str} {m : Sm} (h : m.ok hs n rs) (l : n ≤ k) : m.ok hs k rs := by
  induction l with
  | refl => exact h
  | step _ ih => exact Sm.ok_up _ m ih
/-- with 300 turns and with 1000: told and ended alike -/
theorem two_ends {hs : Hs} {bd : List Sm} (h : AlkS hs bd 160) (kn : Kn) (rw : Rw) : ∃ r td F kn' rw' u, u ≤ 160 ∧ doAll hs F bd { kn := kn, rw := rw, lf := 300, td := [] } = some (r, { kn := kn', rw := rw', lf := 300 - u, td := td }) ∧ doAll hs F bd { kn := kn, rw := rw, lf := 1000, td := [] } = some (r, { kn := kn', rw := rw', lf := 1000 - u, td := td }) := by
  obtain ⟨r, kn', rw', td', u, F, lu, _, e⟩ := h kn rw []
  exact ⟨r, td', F, kn', rw', u, lu, e F 300 (Nat.le_refl _) (by omega), e F 1000 (Nat.le_refl _) (by omega)⟩
/-! the drawer of a helper: what it has at hand -/
section
variable {P : Program} {w : World} {K : PySem.W.Frag} {mg : Str → Option Value} {base : Heap}
theorem kp_newB {S : Addr → Prop} {H H' : Hp} {D : Addr} {o : HO} (k : Kp S H H') (h : H D = none) : Kp S H (upd H' D o) := fun b x e z => by
  rw [upd_ne (ne_of_none e h)]
  exact k b x e z
def headD (q : Str × Nat) : PyData := .tuple [.str q.1, .int (q.2 : Int)]
structure HF (H0 : Hp) (v : V) (Ln Lh a b c L : Addr) : Prop where
  n : ¬ cellS v Ln
  h : ¬ cellS v Lh
  o : Off (cellS v) a b c
  l : ¬ cellS v L
  l0 : H0 L = none
  ln : Ln ≠ L
  lh : Lh ≠ L
  la : a ≠ L
  lb : b ≠ L
  lc : c ≠ L
structure HW (K : PySem.W.Frag) (H0 H : Hp) (v : V) (Ln Lh : Addr) (zs : List Str) (hds : List (Str × Nat)) (vi : V) (nms : List Str) (a b c pp : Addr) (ps : List Str) (L : Addr) (ms : List Sm) : Prop where
  k : Kp (cellS v) H0 H
  cell : CellOk H v
  ln : H Ln = some (.lst (zs.map V.str))
  lh : ∃ hs, H Lh = some (.lst hs) ∧ DpAll K H hs (hds.map headD)
  info : Info K H vi nms [] [] a b c
  pp : SqT K H pp (ps.map V.str)
  bd : ∃ vs, H L = some (.lst vs) ∧ DpAll K H vs (ms.map Sm.d)
theorem heads_nl (hds : List (Str × Nat)) : nLs (hds.map headD) = true := noLs_all fun x hx => by
  obtain ⟨q, _, rfl⟩ := List.mem_map.mp hx
  rfl
variable {H0 H H' : Hp} {v : V} {Ln Lh : Addr} {zs : List Str} {hds : List (Str × Nat)} {vi : V} {nms : List Str} {a b c pp : Addr} {ps : List Str} {L : Addr} {ms : List Sm}
theorem HW.kp (h : HW K H0 H v Ln Lh zs hds vi nms a b c pp ps L ms) (f : HF H0 v Ln Lh a b c L) (k : Kp (cellS v) H H') (c' : CellOk H' v) : HW K H0 H' v Ln Lh zs hds vi nms a b c pp ps L ms := by
  obtain ⟨hs, h1, h2⟩ := h.lh
  obtain ⟨vs, b1, b2⟩ := h.bd
  exact ⟨h.k.trans k, c', k _ _ h.ln fun z => absurd z f.n, ⟨hs, k _ _ h1 fun z => absurd z f.h, dpAll_kp k _ _ (heads_nl hds) h2⟩, h.info.kp k f.o, sqT_kp k h.pp, ⟨vs, k _ _ b1 fun z => absurd z f.l, dpAll_kp k _ _ (sms_nl ms) b2⟩⟩
theorem HW.sm (h : HW K H0 H v Ln Lh zs hds vi nms a b c pp ps L ms) (f : HF H0 v Ln Lh a b c L) (s : Same H H') : HW K H0 H' v Ln Lh zs hds vi nms a b c pp ps L ms := h.kp f (.of_same s) (h.cell.same s)
/-- the body is changed -/
theorem HW.put (h : HW K H0 H v Ln Lh zs hds vi nms a b c pp ps L ms) (f : HF H0 v Ln Lh a b c L) {vs : List V} {ms' : List Sm} (d : DpAll K H vs (ms'.map Sm.d)) : HW K H0 (upd H L (.lst vs)) v Ln Lh zs hds vi nms a b c pp ps L ms' := by
  obtain ⟨hs, h1, h2⟩ := h.lh
  obtain ⟨us, b1, b2⟩ := h.bd
  have k : Kp (fun b => b = L) H (upd H L (.lst vs)) := Kp.upd b1 trivial rfl
  exact ⟨kp_newB h.k f.l0, h.cell.upd f.l, k _ _ h.ln fun z => absurd z f.ln, ⟨hs, k _ _ h1 fun z => absurd z f.lh, dpAll_kp k _ _ (heads_nl hds) h2⟩, h.info.kp k ⟨f.la, f.lb, f.lc⟩, sqT_kp k h.pp, ⟨vs, upd_same, dpAll_kp k _ _ (sms_nl ms') d⟩⟩
theorem HW.add (h : HW K H0 H v Ln Lh zs hds vi nms a b c pp ps L ms) (f : HF H0 v Ln Lh a b c L) {vs : List V} {x : V} {m : Sm} (d : DpAll K H vs (ms.map Sm.d)) (dx : Dp K H x m.d) : HW K H0 (upd H L (.lst (vs ++ [x]))) v Ln Lh zs hds vi nms a b c pp ps L (ms ++ [m]) :=
  h.put f (by rw [List.map_append]; exact dpAll_app d (.cons dx .nil))
theorem dpAll_snoc {d : PyData} : ∀ {ds : List PyData} {vs : List V}, DpAll K H vs (ds ++ [d]) → ∃ us x, vs = us ++ [x] ∧ DpAll K H us ds ∧ Dp K H x d
  | [], vs, h => by
    obtain ⟨x, r, rfl, h1, h2⟩ := dpAll_cons h
    cases dpAll_nil h2
    exact ⟨[], x, rfl, .nil, h1⟩
  | e :: ds, vs, h => by
    obtain ⟨y, r, rfl, h1, h2⟩ := dpAll_cons (show DpAll K H vs (e :: (ds ++ [d])) from h)
    obtain ⟨us, x, rfl, g1, g2⟩ := dpAll_snoc h2
    exact ⟨y :: us, x, rfl, .cons h1 g1, g2⟩
structure FD (H0 : Hp) (v : V) (Ln Lh a b c L D : Addr) : Prop where
  v : ¬ cellS v D
  z : H0 D = none
  n : Ln ≠ D
  h : Lh ≠ D
  o : Off (fun x => x = D) a b c
  l : L ≠ D
theorem HW.fd (h : HW K H0 H v Ln Lh zs hds vi nms a b c pp ps L ms) {D : Addr} (nD : H D = none) : FD H0 v Ln Lh a b c L D := by
  obtain ⟨hs, h1, h2⟩ := h.lh
  obtain ⟨us, b1, b2⟩ := h.bd
  obtain ⟨cs, c1, _⟩ := h.info.c
  have nv := h.cell.fresh nD
  refine ⟨nv, ?_, ne_of_none h.ln nD, ne_of_none h1 nD, ⟨ne_of_none h.info.a nD, ne_of_none h.info.b nD, ne_of_none c1 nD⟩, ne_of_none b1 nD⟩
  cases z : H0 D with
  | none => rfl
  | some o =>
    rw [h.k _ _ z fun y => absurd y nv] at nD
    cases nD
/-- another list is changed -/
theorem HW.other (h : HW K H0 H v Ln Lh zs hds vi nms a b c pp ps L ms) {D : Addr} (f : FD H0 v Ln Lh a b c L D) {xs ys : List V} (e : H D = some (.lst xs)) : HW K H0 (upd H D (.lst ys)) v Ln Lh zs hds vi nms a b c pp ps L ms := by
  obtain ⟨hs, h1, h2⟩ := h.lh
  obtain ⟨us, b1, b2⟩ := h.bd
  have k : Kp (fun b => b = D) H (upd H D (.lst ys)) := Kp.upd e trivial rfl
  exact ⟨kp_newB h.k f.z, h.cell.upd f.v, k _ _ h.ln fun z => absurd z f.n, ⟨hs, k _ _ h1 fun z => absurd z f.h, dpAll_kp k _ _ (heads_nl hds) h2⟩, h.info.kp k f.o, sqT_kp k h.pp, ⟨us, k _ _ b1 fun z => absurd z f.l, dpAll_kp k _ _ (sms_nl ms) b2⟩⟩
theorem exs_nlB (es : List Ex) : nLs (es.map Ex.d) = true := noLs_all fun x hx => by
  obtain ⟨e, _, rfl⟩ := List.mem_map.mp hx
  exact e.noL
end

theorem cutV_ft (xs : List V) (i r : Nat) : cutV xs (some (i : Int)) (some ((i : Int) + (r : Int))) = (xs.drop i).take r := by
  unfold cutV
  rw [← Int.natCast_add, HT.sIx_nat, HT.sIx_nat]
  rcases Nat.le_total i xs.length with h | h
  · rw [Nat.min_eq_left h, List.take_eq_take_iff, List.length_drop]
    omega
  · rw [Nat.min_eq_right h, List.drop_length, List.drop_of_length_le h, List.take_nil, List.take_nil]
theorem nm_strB {z : Str} (h : IsNm z) : PyData.strOk z = true := by
  unfold PyData.strOk
  rw [← Array.all_toList]
  refine List.all_eq_true.mpr fun c hc => decide_eq_true ?_
  have := (h.let_ c hc).2
  omega
theorem eqv_heads_nil (hds : List (Str × Nat)) : PyData.eqv (.list (hds.map headD)) (.list []) = hds.isEmpty := by
  cases hds with
  | nil => exact SeqAt.eqv_refl _ rfl
  | cons x r => rfl
theorem heads_shaped (hds : List (Str × Nat)) (hk : ∀ q ∈ hds, q.2 ≤ 4 ∧ PyData.strOk q.1 = true) : SeqAt.shaped (.list (hds.map headD)) = true := by
  have h1 : ∀ l : List (Str × Nat), (∀ q ∈ l, q.2 ≤ 4 ∧ PyData.strOk q.1 = true) → PyData.canLayAll0 (l.map headD) = true := by
    intro l
    induction l with
    | nil => intro _; rfl
    | cons x r ih =>
      intro hl
      show PyData.canLayAll0 (headD x :: r.map headD) = true
      unfold PyData.canLayAll0
      rw [ih fun z hz => hl z (List.mem_cons_of_mem _ hz)]
      unfold headD
      simp only [PyData.canLay0, PyData.canLayAll0, (hl x (List.mem_cons_self ..)).2, Bool.and_true]
  have h2 : ∀ l : List (Str × Nat), PyData.depthAll (l.map headD) ≤ 2 := by
    intro l
    induction l with
    | nil => decide
    | cons x r ih =>
      show PyData.depthAll (headD x :: r.map headD) ≤ 2
      unfold PyData.depthAll
      have : (headD x).depth ≤ 2 := by unfold headD; simp [PyData.depth, PyData.depthAll]
      omega
  unfold SeqAt.shaped
  rw [Bool.and_eq_true]
  refine ⟨?_, decide_eq_true ?_⟩
  · unfold PyData.canLay0
    exact h1 hds hk
  · have := h2 hds
    unfold PyData.depth
    omega
section
variable {P : Program} {w : World} {K : PySem.W.Frag} {mg : Str → Option Value} {base : Heap}
def sp__law_helper (K : PySem.W.Frag) : Sp := fun vs H Q _ => ∃ (v : V) (k : Nat) (Ln Lh : Addr) (zs : List Str) (hds : List (Str × Nat)), vs = [v, .int (k : Int), .ref Ln, .ref Lh] ∧ CellOk H v ∧ k ≤ 3 ∧ H Ln = some (.lst (zs.map V.str)) ∧ Nms zs ∧ (∃ hs, H Lh = some (.lst hs) ∧ DpAll K H hs (hds.map headD)) ∧
  hds.length ≤ 4 ∧ (∀ q ∈ hds, q.2 ≤ 4 ∧ PyData.strOk q.1 = true) ∧ ¬ cellS v Ln ∧ ¬ cellS v Lh ∧
  ∀ H' r (hp : Str × List Str × List Sm), Kp (cellS v) H H' → CellOk H' v → Dp K H' r (hlD hp) → zs[12 + k]? = some hp.1 → HpOk hds hp → Q r H'
theorem ok__law_helper (T : Top K mg) : FnOk P w K mg base CX0 12 (He.ga K "_law_helper") T.fd__law_helper ["_law_cell", "_law_k", "_law_names_here", "_law_heads"] (sp__law_helper K) := by
  have G__law_mixed := ok__law_mixed (P := P) (w := w) (base := base) T
  have G__law_within := ok__law_within (P := P) (w := w) (base := base) T
  have G__law_expression := ok__law_expression (P := P) (w := w) (base := base) T 2
  refine T.F__law_helper.ok sc__law_helper (fun vs H Q E h => ?_) (fun cdv A outer s H vs Q E hr h => ?_)
  · obtain ⟨v, k, Ln, Lh, zs, hds, rfl, _⟩ := h
    rfl
  · obtain ⟨v, k, Ln, Lh, zs, hds, rfl, hv, hk, eLn, nm, ⟨hs, eLh, dLh⟩, lh4, hh4, nLn, nLh, q⟩ := h
    refine ⟨_, PSs.nox (pss_cons (ps_set (i := 4) sc__law_helper.nd rfl (Or.inl rfl) (pe_callTy call_tuple_of (by rfl) T.m_tuple (by decide +kernel) (pa_cons (pe_slice sl_list (pv 2) (po_some (pv 1)) (po_some (pe_op op_add (pv 1) (pe_call G__law_mixed (hr.mono (by omega)) (by rfl) T.g__law_mixed T.F__law_mixed.kp T.b__law_mixed .nil pass0 (pa_cons (pv 0) (pa_cons pe_int (pa_cons pe_int pa_nil))))))) pa_nil)))
        (pss_cons (ps_set (i := 5) sc__law_helper.nd rfl (Or.inr rfl) (pe_tup (pa_cons (pe_op op_cat (pe_callTy call_list_of (by rfl) T.m_list (by decide +kernel) (pa_cons (pv 4) pa_nil)) (pe_lst (pa_cons (pe_ix ix_list (pv 2) pe_int (fun _ _ => rfl)) pa_nil))) (pa_cons (pe_lst pa_nil) (pa_cons (pe_lst pa_nil) pa_nil)))))
        (pss_cons (ps_set (i := 6) sc__law_helper.nd rfl (Or.inl rfl) (pe_lst (pa_cons (pe_tup (pa_cons pe_str (pa_cons (pe_tup (pa_cons pe_str (pa_cons (pe_ix ix_list (pv 2) pe_int (fun _ _ => rfl)) pa_nil))) pa_nil))) (pa_cons (pe_tup (pa_cons pe_str (pa_cons (pe_ix ix_list (pv 2) pe_int (fun _ _ => rfl)) (pa_cons (pe_call G__law_expression (hr.mono (by omega)) (by rfl) T.g__law_expression T.F__law_expression.kp T.b__law_expression .nil pass0 (pa_cons (pv 0) (pa_cons pe_int (pa_cons (pv 5) pa_nil)))) pa_nil)))) pa_nil))))
        (pss_cons (ps_if (pt_cmpR (op_neD hr.units) (pv 3) (pe_lst pa_nil) (nomark _)) (pss_cons (ps_set (i := 7) sc__law_helper.nd rfl (Or.inl rfl) (pe_ix ix_list (pv 3) (pe_call G__law_mixed (hr.mono (by omega)) (by rfl) T.g__law_mixed T.F__law_mixed.kp T.b__law_mixed .nil pass0 (pa_cons (pv 0) (pa_cons pe_int (pa_cons (pe_callB call_len_seq (by rfl) T.m_len (by decide +kernel) (pa_cons (pv 3) pa_nil)) pa_nil)))) (fun _ _ => rfl)))
        (pss_cons (ps_set (i := 8) sc__law_helper.nd rfl (Or.inl rfl) (pe_callTy call_tuple_of (by rfl) T.m_tuple (by decide +kernel) (pa_cons (pe_lc (own := [("_law_j", 11)]) (by rfl) sc__law_helper.nd (pi_range1 (by rfl) T.m_range (pa_cons (pe_ix ix_tup (pv 7) pe_int (fun _ _ => rfl)) pa_nil)) (blkOk_by (own := [("_law_j", 11)]) (N := N__law_helper) (sc := defScope s__law_helper) (by decide +kernel)) (fun _ _ _ _ _ => (pg_name (i := 11) sc__law_helper.nd rfl (Or.inl rfl))) (fun _ _ _ _ _ => pts_nil) (fun _ _ _ _ _ => (pe_call G__law_expression (hr.mono (by omega)) (by rfl) T.g__law_expression T.F__law_expression.kp T.b__law_expression .nil pass0 (pa_cons (pe_call G__law_within (hr.mono (by omega)) (by rfl) T.g__law_within T.F__law_within.kp T.b__law_within .nil pass0 (pa_cons (pv 0) (pa_cons (pe_op op_add pe_int (pv 11)) pa_nil))) (pa_cons pe_int (pa_cons (pv 5) pa_nil)))))) pa_nil)))
        (pss_one (ps_expr (pe_bm PySem.F.plainAttrs_list PySem.F.slot_list_append PySem.F.type_list_append mt_append (pv 6) (pa_cons (pe_tup (pa_cons pe_str (pa_cons (pe_ix ix_list (pv 2) pe_int (fun _ _ => rfl)) (pa_cons (pe_ix ix_tup (pv 7) pe_int (fun _ _ => rfl)) (pa_cons (pv 8) pa_nil))))) pa_nil)))))) pss_nil)
        (pss_cons (ps_set (i := 9) sc__law_helper.nd rfl (Or.inl rfl) (pe_call G__law_mixed (hr.mono (by omega)) (by rfl) T.g__law_mixed T.F__law_mixed.kp T.b__law_mixed .nil pass0 (pa_cons (pv 0) (pa_cons pe_int (pa_cons pe_int pa_nil)))))
        (pss_cons (ps_if (pt_cmpR op_lt (pv 9) pe_int (nomark _)) (pss_cons (ps_set (i := 10) sc__law_helper.nd rfl (Or.inl rfl) (pe_lst (pa_cons (pe_tup (pa_cons pe_str (pa_cons (pe_tup (pa_cons pe_str (pa_cons (pe_ix ix_list (pv 2) pe_int (fun _ _ => rfl)) pa_nil))) pa_nil))) (pa_cons (pe_tup (pa_cons pe_str (pa_cons (pe_tup (pa_cons pe_str (pa_cons (pe_tup (pa_cons pe_str (pa_cons (pe_ix ix_list (pv 2) pe_int (fun _ _ => rfl)) pa_nil))) (pa_cons (pe_tup (pa_cons pe_str (pa_cons (pv 1) pa_nil))) pa_nil)))) pa_nil))) (pa_cons (pe_tup (pa_cons pe_str (pa_cons (pe_op op_add pe_int (pv 1)) pa_nil))) pa_nil)))))
        (pss_one (ps_expr (pe_bm PySem.F.plainAttrs_list PySem.F.slot_list_append PySem.F.type_list_append mt_append (pv 6) (pa_cons (pe_ix ix_list (pe_op op_cat (pv 10) (pe_lst (pa_cons (pe_tup (pa_cons pe_str (pa_cons (pe_tup (pa_cons pe_str (pa_cons (pe_tup (pa_cons pe_str (pa_cons pe_int pa_nil))) (pa_cons (pe_tup (pa_cons pe_str (pa_cons (pe_ix ix_list (pe_ix ix_tup (pv 5) pe_int (fun _ _ => rfl)) pe_int (fun _ _ => rfl)) pa_nil))) pa_nil)))) pa_nil))) pa_nil))) (pv 9) (fun _ _ => rfl)) pa_nil))))) pss_nil)
        (pss_cons (ps_if (PW.pt (pw_and (pt_cmpR op_eq (pv 9) pe_int (nomark _)) (pw_and1 (pt_cmpR op_eq (pe_call G__law_mixed (hr.mono (by omega)) (by rfl) T.g__law_mixed T.F__law_mixed.kp T.b__law_mixed .nil pass0 (pa_cons (pv 0) (pa_cons pe_int (pa_cons pe_int pa_nil)))) pe_int (nomark _))))) (pss_one (ps_asg (pe_tup (pa_cons pe_str (pa_cons (pe_tup (pa_cons pe_str (pa_cons (pe_ix ix_list (pe_ix ix_tup (pv 5) pe_int (fun _ _ => rfl)) pe_int (fun _ _ => rfl)) pa_nil))) (pa_cons (pe_tup (pa_cons (pe_ix ix_list (pv 6) (pe_un un_neg pe_int) (fun _ _ => rfl)) pa_nil)) (pa_cons (pe_tup pa_nil) pa_nil))))) (pg_sub (pv 6) (pe_un un_neg pe_int) set_list))) pss_nil)
        (pss_one (ps_ret (pe_tup (pa_cons (pe_ix ix_list (pv 2) (pe_op op_add pe_int (pv 1)) (fun _ _ => rfl)) (pa_cons (pv 4) (pa_cons (pe_callTy call_tuple_of (by rfl) T.m_tuple (by decide +kernel) (pa_cons (pv 6) pa_nil)) pa_nil))))))))))))), ?_⟩
    have l16 := nm.len
    -- params
    refine ⟨_, rfl, _, rfl, _, rfl, _, rfl, _, rfl, v, 1, 5, rfl, hv, by decide, by decide, by decide, by decide, fun H1 r1 k1 c1 r10 r11 => ?_⟩
    obtain ⟨r, rfl⟩ := Int.eq_ofNat_of_zero_le r10
    have eLn1 := k1 _ _ eLn fun z => absurd z nLn
    refine ⟨_, _, rfl, rfl, _, rfl, Ln, _, rfl, .of eLn1, fun p1 n1 => ⟨p1, _, rfl, .inl ⟨.of upd_same, fun pp npp => ?_⟩⟩⟩
    have hcut : cutV (zs.map V.str) (some (k : Int)) (some ((k : Int) + (r : Int))) = ((zs.drop k).take r).map V.str := by rw [cutV_ft, List.map_take, List.map_drop]
    rw [hcut] at npp ⊢
    have lps : ((zs.drop k).take r).length ≤ 4 := by rw [List.length_take]; omega
    generalize hps : (zs.drop k).take r = ps at npp lps ⊢
    have sP := (same_new (o := .lst (ps.map V.str)) n1).trans (same_new (o := .tup (ps.map V.str)) npp)
    have tP := SqT.of (K := K) (upd_same (H := upd H1 p1 (.lst (ps.map V.str))) (a := pp) (o := .tup (ps.map V.str)))
    dsimp only [gName]
    generalize upd (upd H1 p1 (.lst (ps.map V.str))) pp (.tup (ps.map V.str)) = H2 at sP tP ⊢
    have eLn2 := sP _ _ eLn1
    have c2 := c1.same sP
    obtain ⟨z8, hz8⟩ : ∃ z, zs[8]? = some z := ⟨_, List.getElem?_eq_getElem (by rw [l16]; decide)⟩
    -- info
    refine ⟨_, rfl, pp, _, rfl, .inr tP, fun a0 na0 => ?_⟩
    have sA0 := same_new (o := .lst (ps.map V.str)) na0
    refine ⟨_, rfl, Ln, _, _, _, rfl, rfl, .of (sA0 _ _ eLn2), atZ (i := 8) hz8, (by show 1 ≤ sizeLine; rw [sizeLine_eq]; decide), fun a1 na1 => ?_⟩
    have sA1 := same_new (o := .lst [V.str z8]) na1
    refine ⟨a0, a1, _, _, rfl, rfl, sA1 _ _ upd_same, upd_same, by rw [sizeLine_eq, List.length_map]; show ps.length + 1 ≤ _; omega, fun a na => ⟨Nat.zero_le _, fun b nb => ⟨Nat.zero_le _, fun c nc => ⟨(by show 3 ≤ sizeLine; rw [sizeLine_eq]; decide), fun pi npi => ?_⟩⟩⟩⟩
    have sB := same_new (o := .lst (ps.map V.str ++ [V.str z8])) na
    have sC := same_new (o := .lst []) nb
    have sD := same_new (o := .lst []) nc
    have sE := same_new (o := .tup [.ref a, .ref b, .ref c]) npi
    have hnms : ps.map V.str ++ [V.str z8] = (ps ++ [z8]).map V.str := by rw [List.map_append]; rfl
    have I3 := show Info K _ (.ref pi) (ps ++ [z8]) [] [] a b c from ⟨⟨pi, rfl, .of (upd_same (H := upd (upd (upd (upd (upd H2 a0 (.lst (ps.map V.str))) a1 (.lst [V.str z8])) a (.lst (ps.map V.str ++ [V.str z8]))) b (.lst [])) c (.lst [])) (a := pi) (o := .tup [.ref a, .ref b, .ref c]))⟩, ((sC.trans sD).trans sE) _ _ (by rw [upd_same, hnms]), (sD.trans sE) _ _ upd_same, [], sE _ _ upd_same, .nil⟩
    have s23 := ((sA0.trans sA1).trans sB).trans ((sC.trans sD).trans sE)
    have fa : H2 a = none := (sA0.trans sA1).free na
    have fb : H2 b = none := ((sA0.trans sA1).trans sB).free nb
    have fc : H2 c = none := (((sA0.trans sA1).trans sB).trans sC).free nc
    dsimp only [gName, List.set]
    generalize upd (upd (upd (upd (upd (upd H2 a0 (.lst (ps.map V.str))) a1 (.lst [V.str z8])) a (.lst (ps.map V.str ++ [V.str z8]))) b (.lst [])) c (.lst [])) pi (.tup [.ref a, .ref b, .ref c]) = H3 at I3 s23 ⊢
    clear na0 na1 na nb nc npi sA0 sA1 sB sC sD sE n1 npp
    have k3 : Kp (cellS v) H H3 := k1.trans (.of_same (sP.trans s23))
    have c3 := c2.same s23
    have tP3 := sqT_sm s23 tP
    have eLn3 := s23 _ _ eLn2
    have eLh3 : H3 Lh = some (.lst hs) := k3 _ _ eLh fun z => absurd z nLh
    have dLh3 := dpAll_kp k3 _ _ (heads_nl hds) dLh
    have nofr : ∀ {x : Addr}, H2 x = none → ¬ cellS v x := fun {x} e => c2.fresh e
    have off : Off (cellS v) a b c := ⟨nofr fa, nofr fb, nofr fc⟩
    have lnm : (ps ++ [z8]).length ≤ 16 := by rw [List.length_append]; show ps.length + 1 ≤ 16; omega
    -- the first two statements
    refine ⟨_, rfl, Ln, _, _, _, rfl, rfl, .of eLn3, atZ (i := 8) hz8, (by show 2 ≤ sizeLine; rw [sizeLine_eq]; decide), fun q1 nq1 => ⟨(by show 2 ≤ sizeLine; rw [sizeLine_eq]; decide), fun q2 nq2 => ?_⟩⟩
    have sq1 := same_new (o := .tup [.str "name", .str z8]) nq1
    have sq2 := same_new (o := .tup [.str "tell", .ref q1]) nq2
    have d2 : Dp K _ (.ref q2) (Sm.tell (.nam z8)).d := .tup (.of (upd_same (H := upd H3 q1 (.tup [.str "name", .str z8])) (a := q2) (o := .tup [.str "tell", .ref q1]))) (.cons (.str _) (.cons (dp_sm sq2 (.tup (.of upd_same) (.cons (.str _) (.cons (.str _) .nil)))) .nil))
    have s34 := sq1.trans sq2
    generalize upd (upd H3 q1 (.tup [.str "name", .str z8])) q2 (.tup [.str "tell", .ref q1]) = H4 at d2 s34 ⊢
    refine ⟨_, rfl, Ln, _, _, _, rfl, rfl, .of (s34 _ _ eLn3), atZ (i := 8) hz8, _, rfl, _, rfl, v, .ref pi, 2, ps ++ [z8], [], [], a, b, c, rfl, c3.same s34, by decide, by decide, I3.sm s34, lnm, by decide, off, fun H5 xe e k5 c5 d5 wf5 => ⟨(by show 3 ≤ sizeLine; rw [sizeLine_eq]; decide), fun q3 nq3 => ⟨(by show 2 ≤ sizeLine; rw [sizeLine_eq]; decide), fun L nL => ?_⟩⟩⟩
    have sq3 := same_new (o := .tup [.str "set", .str z8, xe]) nq3
    have d3 : Dp K _ (.ref q3) (Sm.set z8 e).d := .tup (.of (upd_same (H := H5) (a := q3) (o := .tup [.str "set", .str z8, xe]))) (.cons (.str _) (.cons (.str _) (.cons (dp_sm sq3 d5) .nil)))
    have sL := same_new (o := .lst [.ref q2, .ref q3]) nL
    have c6 := (c5.same sq3).same sL
    have k36 : Kp (cellS v) H3 (upd (upd H5 q3 (.tup [.str "set", .str z8, xe])) L (.lst [.ref q2, .ref q3])) := ((Kp.of_same s34).trans k5).trans (.of_same (sq3.trans sL))
    have nofr3 : ∀ {x : Addr}, (upd H5 q3 (.tup [.str "set", .str z8, xe])) x = none → ¬ cellS v x := fun {x} e => (c5.same sq3).fresh e
    have ncL := nofr3 nL
    have ne3 : ∀ {x : Addr} {o : HO}, H3 x = some o → ¬ cellS v x → x ≠ L := fun {x o} e nx => ne_of_none (sq3 _ _ (k5 _ _ (s34 _ _ e) fun z => absurd z nx)) nL
    have hL0 : H L = none := by
      cases z : H L with
      | none => rfl
      | some o => exact absurd rfl (ne3 (k3 _ _ z fun y => absurd y ncL) ncL)
    have f : HF H v Ln Lh a b c L := ⟨nLn, nLh, off, ncL, hL0, ne3 eLn3 nLn, ne3 eLh3 nLh, ne3 I3.a off.1, ne3 I3.b off.2.1, by obtain ⟨cs, hc, _⟩ := I3.c; exact ne3 hc off.2.2⟩
    have w6 : HW K H (upd (upd H5 q3 (.tup [.str "set", .str z8, xe])) L (.lst [.ref q2, .ref q3])) v Ln Lh zs hds (.ref pi) (ps ++ [z8]) a b c pp ps L [.tell (.nam z8), .set z8 e] :=
      ⟨k3.trans k36, c6, k36 _ _ eLn3 fun z => absurd z nLn, ⟨hs, k36 _ _ eLh3 fun z => absurd z nLh, dpAll_kp k36 _ _ (heads_nl hds) dLh3⟩, I3.kp k36 off, sqT_kp k36 tP3, ⟨_, upd_same, .cons (dp_kp (k5.trans (.of_same (sq3.trans sL))) _ _ (Sm.noL _) d2) (.cons (dp_sm sL d3) .nil)⟩⟩
    have eok : ∀ {e : Ex}, e.Wf (ps ++ [z8]) [] 2 → e.ok [] := fun {e} wf => ⟨by have := (wf_ok wf).1; omega, (wf_ok wf).2⟩
    dsimp only [gName, List.set]
    generalize upd (upd H5 q3 (.tup [.str "set", .str z8, xe])) L (.lst [.ref q2, .ref q3]) = H6 at w6 ⊢
    clear d3 sq3 sL c6 k36 nofr3 ne3 hL0 nL nq3 d5 k5 c5 d2 s34 nq1 nq2 sq1 sq2 eLh3 dLh3 eLn3 tP3 k3 c3 s23 I3 fa fb fc nofr eLn2 c2 sP tP eLn1 k1 c1
    refine ifs_by (fun σ' H' => ∃ ms x7 x8, HW K H H' v Ln Lh zs hds (.ref pi) (ps ++ [z8]) a b c pp ps L ms ∧ ms.length ≤ 3 ∧ ncs ms ≤ 1 ∧ (∀ m ∈ ms, HSt hds m) ∧ σ' = [some v, some (.int (k : Int)), some (.ref Ln), some (.ref Lh), some (.ref pp), some (.ref pi), some (.ref L), x7, x8, none, none, none]) ?_ ?_
    · rintro σ' H7 ⟨ms, x7, x8, w7, lms, nms, oms, rfl⟩
      refine ⟨_, rfl, v, 8, 6, rfl, w7.cell, by decide, by decide, by decide, by decide, fun H8 way k8 c8 way0 way1 => ?_⟩
      have w8 := w7.kp f k8 c8
      clear w7 k8 c8
      dsimp only [gName, List.set]
      obtain ⟨z0, hz0⟩ : ∃ z, (ps ++ [z8])[0]? = some z := by
        cases ps with
        | nil => exact ⟨_, rfl⟩
        | cons x r => exact ⟨_, rfl⟩
      have k32 : In32 (k : Int) := ⟨by omega, by omega⟩
      have nx : ∀ (x : Str), (Ex.nam x).ok [] := fun x => ⟨by show 0 < 10; decide, trivial⟩
      refine ifs_by (fun σ' H' => ∃ ms x10, HW K H H' v Ln Lh zs hds (.ref pi) (ps ++ [z8]) a b c pp ps L ms ∧ ms.length ≤ 4 ∧ ncs ms ≤ 1 ∧ (∀ m ∈ ms, HSt hds m) ∧ (way = 2 → ∃ m0, ms = m0 ++ [.fail (10 + (k : Int))]) ∧ σ' = [some v, some (.int (k : Int)), some (.ref Ln), some (.ref Lh), some (.ref pp), some (.ref pi), some (.ref L), x7, x8, some (.int way), x10, none]) ?_ ?_
      · rintro σ' H9 ⟨ms9, x10, w9, lms9, nms9, oms9, last9, rfl⟩
        refine ifs_by (fun σ' H' => ∃ ms x10, HW K H H' v Ln Lh zs hds (.ref pi) (ps ++ [z8]) a b c pp ps L ms ∧ ms.length ≤ 4 ∧ ncs ms ≤ 1 ∧ (∀ m ∈ ms, HSt hds m) ∧ σ' = [some v, some (.int (k : Int)), some (.ref Ln), some (.ref Lh), some (.ref pp), some (.ref pi), some (.ref L), x7, x8, some (.int way), x10, none]) ?_ ?_
        · rintro σ' H10 ⟨ms10, y10, w10, lms10, nms10, oms10, rfl⟩
          obtain ⟨z, hz⟩ : ∃ z, zs[12 + k]? = some z := ⟨_, List.getElem?_eq_getElem (by omega)⟩
          have hzi : atI (zs.map V.str) ((12 : Int) + (k : Int)) = some (.str z) := by
            have := atZ hz
            rwa [Int.natCast_add] at this
          obtain ⟨vs, eb, db⟩ := w10.bd
          refine ⟨_, rfl, _, rfl, _, _, rfl, rfl, Ln, _, _, _, rfl, rfl, .of w10.ln, hzi, _, rfl, _, rfl, L, _, rfl, .inl ⟨.of eb, fun pb npb => ⟨(by show 3 ≤ sizeLine; rw [sizeLine_eq]; decide), fun pr npr => ?_⟩⟩⟩
          have s1 := same_new (o := .tup vs) npb
          have s2 := same_new (o := .tup [.str z, .ref pp, .ref pb]) npr
          have w12 := w10.sm f (s1.trans s2)
          refine q _ _ (z, ps, ms10) w12.k w12.cell (.tup (.of upd_same) (.cons (.str _) (.cons (.tup w12.pp (strs_dp _)) (.cons ?_ .nil)))) hz ⟨lps, lms10, nms10, oms10⟩
          rw [Sm.ds_eq]
          exact dp_sm s2 (.tup (.of upd_same) (dpAll_sm s1 db))
        · intro N hN
          have out : ∀ H', HW K H H' v Ln Lh zs hds (.ref pi) (ps ++ [z8]) a b c pp ps L ms9 → N [some v, some (.int (k : Int)), some (.ref Ln), some (.ref Lh), some (.ref pp), some (.ref pi), some (.ref L), x7, x8, some (.int way), x10, none] H' := fun H' hw => hN _ _ ⟨ms9, x10, hw, lms9, nms9, oms9, rfl⟩
          refine ⟨_, rfl, rfl, _, rfl, ite2 (fun g => ?_) (fun g => out _ w9)⟩
          have way2 : way = 2 := by
            have := of_decide_eq_true g
            cases this
            rfl
          obtain ⟨m0, rfl⟩ := last9 way2
          refine ⟨_, rfl, v, 9, 2, rfl, w9.cell, by decide, by decide, by decide, by decide, fun H10 r k10 c10 _ _ => ⟨rfl, _, rfl, ite2 (fun _ => ?_) (fun _ => out _ (w9.kp f k10 c10))⟩⟩
          have w10 := w9.kp f k10 c10
          obtain ⟨vs, eb, db⟩ := w10.bd
          rw [List.map_append] at db
          obtain ⟨us, x, rfl, dus, dx⟩ := dpAll_snoc db
          obtain ⟨pt, hpt, hT⟩ := w10.info.tup
          cases hpt
          refine ⟨_, rfl, pi, _, 0, _, rfl, rfl, hT, atI_nat (j := 0) rfl, a, _, 0, .str z0, rfl, rfl, .of w10.info.a, atI_nat (j := 0) (by rw [List.getElem?_map, hz0]; rfl), (by show 2 ≤ sizeLine; rw [sizeLine_eq]; decide), fun u1 nu1 => ?_⟩
          have t1 := same_new (o := .tup [.str "name", .str z0]) nu1
          refine ⟨_, rfl, _, rfl, L, _, _, _, rfl, rfl, .of (t1 _ _ eb), atI_last us x, (by show 1 ≤ sizeLine; rw [sizeLine_eq]; decide), fun u2 nu2 => ⟨Nat.zero_le _, fun u3 nu3 => ⟨(by show 4 ≤ sizeLine; rw [sizeLine_eq]; decide), fun u4 nu4 => ?_⟩⟩⟩
          have t2 := same_new (o := .tup [x]) nu2
          have t3 := same_new (o := .tup []) nu3
          have t4 := same_new (o := .tup [.str "if", .ref u1, .ref u2, .ref u3]) nu4
          have t14 := ((t1.trans t2).trans t3).trans t4
          have dif : Dp K _ (.ref u4) (Sm.ite (.nam z0) [.fail (10 + (k : Int))] []).d := .tup (.of (upd_same (H := upd (upd (upd H10 u1 (.tup [.str "name", .str z0])) u2 (.tup [x])) u3 (.tup [])) (a := u4) (o := .tup [.str "if", .ref u1, .ref u2, .ref u3]))) (.cons (.str _) (.cons (dp_sm ((t2.trans t3).trans t4) (.tup (.of upd_same) (.cons (.str _) (.cons (.str _) .nil)))) (.cons (dp_sm (t3.trans t4) (.tup (.of upd_same) (.cons (dp_sm (t1.trans t2) dx) .nil))) (.cons (dp_sm t4 (.tup (.of upd_same) .nil)) .nil))))
          have w11 := w10.sm f t14
          have dus11 := dpAll_sm t14 dus
          have eb11 := t14 _ _ eb
          generalize upd (upd (upd (upd H10 u1 (.tup [.str "name", .str z0])) u2 (.tup [x])) u3 (.tup [])) u4 (.tup [.str "if", .ref u1, .ref u2, .ref u3]) = H11 at w11 dus11 eb11 dif ⊢
          refine ⟨_, rfl, _, rfl, L, _, _, us.length, rfl, rfl, eb11, ?_, ?_⟩
          · unfold ixN
            rw [List.length_append, List.length_singleton, if_neg (by decide), if_pos (by omega)]
            congr 1
            omega
          · have e1 : (us ++ [x]).set us.length (V.ref u4) = us ++ [V.ref u4] := by
              rw [List.set_append_right _ _ (Nat.le_refl _), Nat.sub_self]
              rfl
            rw [e1]
            rw [List.length_append, List.length_singleton] at lms9
            rw [ncs_app] at nms9
            refine hN _ _ ⟨m0 ++ [.ite (.nam z0) [.fail (10 + (k : Int))] []], _, w11.put f (by rw [List.map_append]; exact dpAll_app dus11 (.cons dif .nil)), by rw [List.length_append, List.length_singleton]; exact lms9, by rw [ncs_app]; exact nms9, ?_, rfl⟩
            intro m hm
            rcases List.mem_append.mp hm with hm | hm
            · exact oms9 m (List.mem_append_left _ hm)
            · rw [List.mem_singleton.mp hm]
              exact ⟨nx z0, ⟨_, rfl, by omega, by omega⟩, rfl⟩
      · intro N hN
        refine ⟨_, rfl, _, _, rfl, rfl, _, rfl, ite2 (fun g => ?_) (fun g => hN _ _ ⟨ms, none, w8, by omega, nms, oms, fun e => absurd (decide_eq_true (by rw [e]; decide)) g, rfl⟩)⟩
        have way3 : way < 4 := of_decide_eq_true g
        have σe : ∀ {i : Nat} {t : TE} {H0 : Hp}, True := fun {_ _ _} => trivial
        refine st_asg (ml_lst (K := K) (H0 := H8) (σ := [some v, some (.int (k : Int)), some (.ref Ln), some (.ref Lh), some (.ref pp), some (.ref pi), some (.ref L), x7, x8, some (.int way), none, none]) (ds := [(Sm.give (.nam z8)).d, (Sm.give (.op "add" (.nam z8) (.num (k : Int)))).d, (Sm.fail (10 + (k : Int))).d]) (mds_cons (md_tup (mds_cons md_str (mds_cons (md_tup (mds_cons md_str (mds_cons (md_nm (i := 8) rfl w8.ln hz8) mds_nil))) mds_nil))) (mds_cons (md_tup (mds_cons md_str (mds_cons (md_tup (mds_cons md_str (mds_cons (md_tup (mds_cons md_str (mds_cons (md_nm (i := 8) rfl w8.ln hz8) mds_nil))) (mds_cons (md_tup (mds_cons md_str (mds_cons (md_var rfl (.int _)) mds_nil))) mds_nil)))) mds_nil))) (mds_cons (md_tup (mds_cons md_str (mds_cons (md_i0 (g := fun i j => i + j) md_int (md_var rfl (.int _))) mds_nil))) mds_nil))) (Same.refl _) (fun H9 Ls vs s9 nLs eLs dLs => ?_))
        dsimp only [List.set]
        have w9 := w8.sm f s9
        obtain ⟨vb, eb, db⟩ := w9.bd
        refine ⟨_, rfl, .inl ⟨rfl, _, .of eb⟩, _, rfl, (by show 2 ≤ sizeLine; rw [sizeLine_eq]; decide), fun u1 nu1 => ?_⟩
        have t1 := same_new (o := .tup [.str "number", .int 9]) nu1
        have w10 := w9.sm f t1
        obtain ⟨pt, hpt, hT⟩ := w10.info.tup
        cases hpt
        refine ⟨_, rfl, pi, _, 0, _, rfl, rfl, hT, atI_nat (j := 0) rfl, a, _, 0, .str z0, rfl, rfl, .of w10.info.a, atI_nat (j := 0) (by rw [List.getElem?_map, hz0]; rfl), (by show 2 ≤ sizeLine; rw [sizeLine_eq]; decide), fun u2 nu2 => ⟨(by show 3 ≤ sizeLine; rw [sizeLine_eq]; decide), fun u3 nu3 => ⟨(by show 2 ≤ sizeLine; rw [sizeLine_eq]; decide), fun u4 nu4 => ⟨(by show 1 ≤ sizeLine; rw [sizeLine_eq]; decide), fun u5 nu5 => ?_⟩⟩⟩⟩
        have t2 := same_new (o := .tup [.str "name", .str z0]) nu2
        have t3 := same_new (o := .tup [.str "div", .ref u1, .ref u2]) nu3
        have t4 := same_new (o := .tup [.str "tell", .ref u3]) nu4
        have t5 := same_new (o := .lst [V.ref u4]) nu5
        have dd3 := dp_sm t3 (dp_sm t2 (.tup (.of upd_same) (.cons (.str _) (.cons (.int _) .nil)) : Dp K (upd H9 u1 (.tup [.str "number", .int 9])) (.ref u1) (Ex.num 9).d))
        have dd4 := dp_sm t3 (.tup (.of upd_same) (.cons (.str _) (.cons (.str _) .nil)) : Dp K (upd (upd H9 u1 (.tup [.str "number", .int 9])) u2 (.tup [.str "name", .str z0])) (.ref u2) (Ex.nam z0).d)
        have dd5 : Dp K _ (.ref u3) (Ex.op "div" (.num 9) (.nam z0)).d := .tup (.of (upd_same (H := upd (upd H9 u1 (.tup [.str "number", .int 9])) u2 (.tup [.str "name", .str z0])) (a := u3) (o := .tup [.str "div", .ref u1, .ref u2]))) (.cons (.str _) (.cons dd3 (.cons dd4 .nil)))
        have dd6 : Dp K _ (.ref u4) (Sm.tell (.op "div" (.num 9) (.nam z0))).d := dp_sm t5 (.tup (.of (upd_same (H := upd (upd (upd H9 u1 (.tup [.str "number", .int 9])) u2 (.tup [.str "name", .str z0])) u3 (.tup [.str "div", .ref u1, .ref u2])) (a := u4) (o := .tup [.str "tell", .ref u3]))) (.cons (.str _) (.cons (dp_sm t4 dd5) .nil)))
        have t25 := ((t2.trans t3).trans t4).trans t5
        have w11 := w10.sm f t25
        have dLs11 := dpAll_sm (t1.trans t25) dLs
        have eLs11 := (t1.trans t25) _ _ eLs
        have eu5 := upd_same (H := upd (upd (upd (upd H9 u1 (.tup [.str "number", .int 9])) u2 (.tup [.str "name", .str z0])) u3 (.tup [.str "div", .ref u1, .ref u2])) u4 (.tup [.str "tell", .ref u3])) (a := u5) (o := .lst [V.ref u4])
        generalize upd (upd (upd (upd (upd H9 u1 (.tup [.str "number", .int 9])) u2 (.tup [.str "name", .str z0])) u3 (.tup [.str "div", .ref u1, .ref u2])) u4 (.tup [.str "tell", .ref u3])) u5 (.lst [V.ref u4]) = H11 at w11 dLs11 eLs11 dd6 eu5 ⊢
        clear t1 t2 t3 t4 t5 t25 dd3 dd4 dd5 nu1 nu2 nu3 nu4 nu5 w10 w9 eb db
        refine ⟨Ls, u5, _, _, rfl, rfl, eLs11, eu5, by rw [dpAll_len dLs11, sizeLine_eq]; show 4 ≤ 16777216; decide, fun u6 nu6 => ?_⟩
        have t6 := same_new (o := .lst (vs ++ [V.ref u4])) nu6
        have w12 := w11.sm f t6
        have dall := dpAll_sm t6 (dpAll_app dLs11 (.cons dd6 .nil))
        obtain ⟨way, rfl⟩ := Int.eq_ofNat_of_zero_le way0
        obtain ⟨m, hm, om, nm0, fm⟩ : ∃ m : Sm, ([(Sm.give (.nam z8)).d, (Sm.give (.op "add" (.nam z8) (.num (k : Int)))).d, (Sm.fail (10 + (k : Int))).d] ++ [(Sm.tell (.op "div" (.num 9) (.nam z0))).d])[way]? = some m.d ∧ HSt hds m ∧ m.nc = 0 ∧ (way = 2 → m = .fail (10 + (k : Int))) := by
          have : way = 0 ∨ way = 1 ∨ way = 2 ∨ way = 3 := by omega
          rcases this with rfl | rfl | rfl | rfl
          · exact ⟨_, rfl, nx z8, rfl, fun e => by cases e⟩
          · exact ⟨_, rfl, ⟨by show 1 < 10; decide, by decide, trivial, k32⟩, rfl, fun e => by cases e⟩
          · exact ⟨_, rfl, ⟨by omega, by omega⟩, rfl, fun _ => rfl⟩
          · exact ⟨_, rfl, ⟨by show 1 < 10; decide, by decide, ⟨by decide, by decide⟩, trivial⟩, rfl, fun e => by cases e⟩
        obtain ⟨x, hx, dx⟩ := dpAll_get dall hm
        obtain ⟨vb, eb, db⟩ := w12.bd
        have lvb := dpAll_len db
        rw [List.length_map] at lvb
        refine ⟨_, rfl, u6, _, _, _, rfl, rfl, .of upd_same, atI_nat hx, L, _, _, rfl, rfl, eb, by rw [lvb, sizeLine_eq]; omega, hN _ _ ⟨_, _, w12.add f db dx, ?_, ?_, ?_, fun e => ⟨ms, by rw [fm (by omega)]⟩, rfl⟩⟩
        · rw [List.length_append]
          show ms.length + 1 ≤ 4
          omega
        · rw [ncs_app]
          show ncs ms + (m.nc + 0) ≤ 1
          omega
        · intro y hy
          rcases List.mem_append.mp hy with hy | hy
          · exact oms y hy
          · rw [List.mem_singleton.mp hy]
            exact om
    · intro N hN
      refine ⟨_, rfl, Nat.zero_le _, fun pn npn => ?_⟩
      have w7 := w6.sm f (same_new (o := .lst []) npn)
      obtain ⟨hs7, h7, dh7⟩ := w7.lh
      refine ⟨.list (hds.map headD), .list [], .lst (.of h7) dh7, .lst (.of upd_same) .nil, heads_shaped hds hh4, rfl, _, rfl, ?_⟩
      rw [eqv_heads_nil]
      have oms : ∀ m ∈ [Sm.tell (.nam z8), .set z8 e], HSt hds m := fun m hm => by
        rcases List.mem_cons.mp hm with rfl | hm
        · exact ⟨by show 0 < 10; decide, trivial⟩
        · rw [List.mem_singleton.mp hm]
          exact eok wf5
      refine ite2 (fun g => ?_) (fun g => hN _ _ ⟨_, none, none, w7, by show 2 ≤ 3; decide, by show 0 ≤ 1; decide, oms, rfl⟩)
      have h0 : 0 < hds.length := by
        cases hds with
        | nil => cases g
        | cons x r => exact Nat.succ_pos _
      generalize upd H6 pn (.lst []) = H7 at w7 h7 dh7
      have lh7 : hs7.length = hds.length := by rw [dpAll_len dh7, List.length_map]
      refine ⟨_, rfl, _, rfl, _, rfl, Lh, _, rfl, .inl (.of h7), v, 2, (hs7.length : Int), rfl, w7.cell, by decide, by decide, by omega, by omega, fun H8 j k8 c8 j0 j1 => ?_⟩
      have w8 := w7.kp f k8 c8
      obtain ⟨j, rfl⟩ := Int.eq_ofNat_of_zero_le j0
      have hj : j < hds.length := by omega
      obtain ⟨hs8, h8, dh8⟩ := w8.lh
      obtain ⟨hv', ev', dv'⟩ := dpAll_get (i := j) dh8 (by rw [List.getElem?_map, List.getElem?_eq_getElem hj]; rfl)
      obtain ⟨ph, yh, rfl, sh, dh⟩ := dp_tup dv'
      obtain ⟨y1, yr, rfl, e1, dh⟩ := dpAll_cons dh
      obtain ⟨y2, yr2, rfl, e2, dh⟩ := dpAll_cons dh
      cases dpAll_nil dh
      cases dp_str e1
      cases dp_int e2
      have hm : hds[j] ∈ hds := List.getElem_mem _
      have hq2 := (hh4 _ hm).1
      generalize hds[j] = hd at hm hq2 sh
      refine ⟨Lh, _, _, _, rfl, rfl, .of h8, atI_nat ev', ?_⟩
      dsimp only [gName, List.set]
      refine ⟨_, rfl, ph, _, 1, _, rfl, rfl, sh, atI_nat (j := 1) rfl, (hd.2 : Int), rfl, by omega, by omega, fun D nD => ?_⟩
      have fd := w8.fd nD
      have w8' := w8.sm f (same_new (o := .lst []) nD)
      have sh' := sqT_sm (same_new (o := .lst []) nD) sh
      refine lc_range (lo := 0) (n := (hd.2 : Int).toNat) (fun i H' => HW K H H' v Ln Lh zs hds (.ref pi) (ps ++ [z8]) a b c pp ps L [.tell (.nam z8), .set z8 e] ∧ SqT K H' ph [.str hd.1, .int (hd.2 : Int)] ∧ ∃ (xs : List V) (es : List Ex), H' D = some (.lst xs) ∧ DpAll K H' xs (es.map Ex.d) ∧ es.length = i ∧ ∀ x ∈ es, x.ok []) ?_ ?_ ?_
      · exact ⟨w8', sh', [], [], upd_same, .nil, rfl, fun x hx => nomatch hx⟩
      · rintro i H9 hi ⟨w9, sh9, xs, es, e9, d9, l9, o9⟩
        rw [Int.toNat_natCast] at hi
        refine ⟨rfl, _, rfl, _, rfl, _, _, rfl, rfl, v, 3 + (0 + (i : Int)), rfl, w9.cell, by omega, by omega, fun H10 v2 k10 c10 c10' x2 => ?_⟩
        have w10 := w9.kp f k10 c10
        refine ⟨_, rfl, v2, .ref pi, 2, ps ++ [z8], [], [], a, b, c, rfl, c10', by decide, by decide, w10.info, lnm, by decide, off.sub (cellS_sub x2), fun H11 x ex k11 c11 d11 wf11 => ?_⟩
        have k11' : Kp (cellS v) H10 H11 := k11.mono (cellS_sub x2)
        have w11 := w10.kp f k11' (cell_after x2 c10 k11 c11)
        have k911 := k10.trans k11'
        have e11 := k911 _ _ e9 fun z => absurd z fd.v
        have l11 := dpAll_len d9
        rw [List.length_map] at l11
        have kD : Kp (fun b => b = D) H11 (upd H11 D (.lst (xs ++ [x]))) := Kp.upd e11 trivial rfl
        refine ⟨xs, e11, by rw [l11, l9, sizeLine_eq]; omega, w11.other fd e11, sqT_kp kD (sqT_kp k911 sh9), xs ++ [x], es ++ [ex], upd_same, ?_, by rw [List.length_append, l9]; rfl, ?_⟩
        · rw [List.map_append]
          exact dpAll_app (dpAll_kp kD _ _ (exs_nlB es) (dpAll_kp k911 _ _ (exs_nlB es) d9)) (.cons (dp_kp kD _ _ ex.noL d11) .nil)
        · intro y hy
          rcases List.mem_append.mp hy with hy | hy
          · exact o9 y hy
          · rw [List.mem_singleton.mp hy]
            exact eok wf11
      · rintro H9 ⟨w9, sh9, xs, es, e9, d9, l9, o9⟩
        rw [Int.toNat_natCast] at l9
        refine ⟨D, _, rfl, .inl ⟨.of e9, fun pt npt => ?_⟩⟩
        have st := same_new (o := .tup xs) npt
        have w10 := w9.sm f st
        have dargs : Dp K (upd H9 pt (.tup xs)) (.ref pt) (.tuple (es.map Ex.d)) := .tup (.of upd_same) (dpAll_sm st d9)
        have sh10 := sqT_sm st sh9
        dsimp only [gName, List.set]
        generalize upd H9 pt (.tup xs) = H10 at w10 dargs sh10 ⊢
        obtain ⟨vs, eL, dL⟩ := w10.bd
        refine ⟨_, rfl, .inl ⟨rfl, _, .of eL⟩, _, rfl, Ln, _, _, _, rfl, rfl, .of w10.ln, atZ (i := 8) hz8, _, rfl, ph, _, 0, _, rfl, rfl, sh10, atI_nat (j := 0) rfl, _, rfl, (by show 4 ≤ sizeLine; rw [sizeLine_eq]; decide), fun pc npc => ?_⟩
        have sc := same_new (o := .tup [.str "call", .str z8, .str hd.1, .ref pt]) npc
        have w11 := w10.sm f sc
        have dcall : Dp K (upd H10 pc (.tup [.str "call", .str z8, .str hd.1, .ref pt])) (.ref pc) (Sm.call z8 hd.1 es).d := .tup (.of upd_same) (.cons (.str _) (.cons (.str _) (.cons (.str _) (.cons (dp_sm sc dargs) .nil))))
        have dL' := dpAll_sm sc dL
        have lv := dpAll_len dL
        refine ⟨L, _, _, rfl, rfl, sc _ _ eL, by rw [lv, sizeLine_eq]; show 2 < 16777216; decide, hN _ _ ⟨_, _, _, w11.add f dL' dcall, by show 3 ≤ 3; decide, by show 1 ≤ 1; decide, ?_, rfl⟩⟩
        intro m hm'
        rcases List.mem_append.mp hm' with hm' | hm'
        · exact oms m hm'
        · rw [List.mem_singleton.mp hm']
          exact ⟨by rw [l9]; exact hm, o9, by omega⟩
end

section
variable {P : Program} {w : World} {K : PySem.W.Frag} {mg : Str → Option Value} {base : Heap}
/-- what the law has at hand: names, heads, helpers -/
structure LW (K : PySem.W.Frag) (H : Hp) (Ln Lp Lh : Addr) (zs : List Str) (hl : Hl) : Prop where
  ln : H Ln = some (.lst (zs.map V.str))
  lp : ∃ vs, H Lp = some (.lst vs) ∧ DpAll K H vs (hl.map hlD)
  lh : ∃ vs, H Lh = some (.lst vs) ∧ DpAll K H vs ((hdsOf hl).map headD)
  ok : HlOk zs hl
  n1 : Ln ≠ Lp
  n2 : Ln ≠ Lh
  n3 : Lp ≠ Lh
theorem hl_nl (hl : Hl) : nLs (hl.map hlD) = true := noLs_all fun x hx => by
  obtain ⟨q, _, rfl⟩ := List.mem_map.mp hx
  unfold hlD
  simp only [nLd, nLs, Bool.and_true, Bool.and_eq_true, Bool.true_and]
  refine ⟨noLs_all fun y hy => ?_, Sm.noLs _⟩
  obtain ⟨z, _, rfl⟩ := List.mem_map.mp hy
  rfl
theorem LW.kp {S : Addr → Prop} {H H' : Hp} {Ln Lp Lh : Addr} {zs : List Str} {hl : Hl} (h : LW K H Ln Lp Lh zs hl) (k : Kp S H H') (a : ¬ S Ln) (b : ¬ S Lp) (c : ¬ S Lh) : LW K H' Ln Lp Lh zs hl := by
  obtain ⟨vs, e, d⟩ := h.lp
  obtain ⟨us, e2, d2⟩ := h.lh
  exact ⟨k _ _ h.ln fun z => absurd z a, ⟨vs, k _ _ e fun z => absurd z b, dpAll_kp k _ _ (hl_nl hl) d⟩, ⟨us, k _ _ e2 fun z => absurd z c, dpAll_kp k _ _ (heads_nl _) d2⟩, h.ok, h.n1, h.n2, h.n3⟩
theorem LW.sm {H H' : Hp} {Ln Lp Lh : Addr} {zs : List Str} {hl : Hl} (h : LW K H Ln Lp Lh zs hl) (s : Same H H') : LW K H' Ln Lp Lh zs hl := h.kp (Kp.of_same (S := fun _ => False) s) id id id
/-- one helper more -/
theorem LW.snoc {H : Hp} {Ln Lp Lh : Addr} {zs : List Str} {hl : Hl} (h : LW K H Ln Lp Lh zs hl) {vs us : List V} {x : V} {hp : Str × List Str × List Sm} (e : H Lp = some (.lst vs)) (d : DpAll K H vs (hl.map hlD)) (dx : Dp K H x (hlD hp)) (n : zs[12 + hl.length]? = some hp.1) (o : HpOk (hdsOf hl) hp) (q : Addr)
    (e2 : H Lh = some (.lst us)) (d2 : DpAll K H us ((hdsOf hl).map headD)) (hq : upd H Lp (.lst (vs ++ [x])) q = none) : LW K (upd (upd (upd H Lp (.lst (vs ++ [x]))) q (.tup [.str hp.1, .int (hp.2.1.length : Int)])) Lh (.lst (us ++ [.ref q]))) Ln Lp Lh zs (hl ++ [hp]) := by
  have k1 : Kp (fun b => b = Lp) H (upd H Lp (.lst (vs ++ [x]))) := Kp.upd e trivial rfl
  have s2 := same_new (o := .tup [.str hp.1, .int (hp.2.1.length : Int)]) hq
  have e3 : (upd (upd H Lp (.lst (vs ++ [x]))) q (.tup [.str hp.1, .int (hp.2.1.length : Int)])) Lh = some (.lst us) := s2 _ _ (k1 _ _ e2 fun z => absurd z h.n3.symm)
  have k3 : Kp (fun b => b = Lh) _ (upd (upd (upd H Lp (.lst (vs ++ [x]))) q (.tup [.str hp.1, .int (hp.2.1.length : Int)])) Lh (.lst (us ++ [.ref q]))) := Kp.upd e3 trivial rfl
  have dnew : DpAll K H (vs ++ [x]) ((hl ++ [hp]).map hlD) := by
    rw [List.map_append]
    exact dpAll_app d (.cons dx .nil)
  have hnew : nLs ((hl ++ [hp]).map hlD) = true := hl_nl _
  refine ⟨k3 _ _ (s2 _ _ (k1 _ _ h.ln fun z => absurd z h.n1)) fun z => absurd z h.n2, ⟨vs ++ [x], k3 _ _ (s2 _ _ upd_same) fun z => absurd z h.n3, dpAll_kp k3 _ _ hnew (dpAll_sm s2 (dpAll_kp k1 _ _ hnew dnew))⟩, ⟨us ++ [.ref q], upd_same, ?_⟩, .snoc h.ok n o, h.n1, h.n2, h.n3⟩
  have e4 : (hdsOf (hl ++ [hp])).map headD = (hdsOf hl).map headD ++ [headD (hp.1, hp.2.1.length)] := by
    unfold hdsOf
    rw [List.map_append, List.map_append]
    rfl
  rw [e4]
  refine dpAll_app (dpAll_kp k3 _ _ (heads_nl _) (dpAll_sm s2 (dpAll_kp k1 _ _ (heads_nl _) d2))) (.cons (dp_kp k3 _ _ rfl (.tup (.of upd_same) (.cons (.str _) (.cons (.int _) .nil)))) .nil)
theorem kp_backB {H0 H H' : Hp} {S : Addr → Prop} (s : Same H0 H) (k : Kp S H H') (h0 : ∀ b, S b → H0 b = none) : Same H0 H' := fun b o e => k b o (s b o e) fun z => by
  rw [h0 b z] at e
  cases e
theorem st_if1 {c : TT} {t e : TS} {D : Ends} {σ : L2.St} {H : Hp} (h : c σ H fun b H1 => if b = true then t D σ H1 else e D σ H1) : tIfS c t e D σ H := h
theorem kp_intB {H H' : Hp} {c : Int} (k : Kp (cellS (.int c)) H H') : Same H H' := fun b o e => k b o e fun z => nomatch z
def MA (S : Addr → Prop) (xs : List Addr) : Prop := ∀ x ∈ xs, ¬ S x
/-- what a turn of main's body has at hand -/
structure MW (K : PySem.W.Frag) (H : Hp) (Ln Lp Lh : Addr) (zs : List Str) (hl : Hl) (vi : V) (nms : List Str) (a b c L : Addr) (ms : List Sm) : Prop where
  lw : LW K H Ln Lp Lh zs hl
  info : Info K H vi nms [] [] a b c
  bd : ∃ vs, H L = some (.lst vs) ∧ DpAll K H vs (ms.map Sm.d)
section
variable {H H' : Hp} {Ln Lp Lh : Addr} {zs : List Str} {hl : Hl} {vi : V} {nms : List Str} {a b c L : Addr} {ms : List Sm} {S : Addr → Prop}
theorem MW.av (h : MW K H Ln Lp Lh zs hl vi nms a b c L ms) (f : ∀ b, S b → H b = none) : MA S [Ln, Lp, Lh, a, b, c, L] := by
  have n : ∀ {x : Addr} {o : HO}, H x = some o → ¬ S x := fun {x o} e z => by rw [f x z] at e; cases e
  obtain ⟨_, e1, _⟩ := h.lw.lp
  obtain ⟨_, e2, _⟩ := h.lw.lh
  obtain ⟨_, e3, _⟩ := h.info.c
  obtain ⟨_, e4, _⟩ := h.bd
  intro x hx
  simp only [List.mem_cons, List.not_mem_nil, or_false] at hx
  rcases hx with rfl | rfl | rfl | rfl | rfl | rfl | rfl
  · exact n h.lw.ln
  · exact n e1
  · exact n e2
  · exact n h.info.a
  · exact n h.info.b
  · exact n e3
  · exact n e4
theorem MW.kp (h : MW K H Ln Lp Lh zs hl vi nms a b c L ms) (k : Kp S H H') (m : MA S [Ln, Lp, Lh, a, b, c, L]) : MW K H' Ln Lp Lh zs hl vi nms a b c L ms := by
  obtain ⟨us, b1, b2⟩ := h.bd
  exact ⟨h.lw.kp k (m _ (by simp)) (m _ (by simp)) (m _ (by simp)), h.info.kp k ⟨m _ (by simp), m _ (by simp), m _ (by simp)⟩, ⟨us, k _ _ b1 fun z => absurd z (m _ (by simp)), dpAll_kp k _ _ (sms_nl ms) b2⟩⟩
theorem MW.sm (h : MW K H Ln Lp Lh zs hl vi nms a b c L ms) (s : Same H H') : MW K H' Ln Lp Lh zs hl vi nms a b c L ms := h.kp (Kp.of_same (S := fun _ => False) s) fun _ _ z => z
theorem MW.add (h : MW K H Ln Lp Lh zs hl vi nms a b c L ms) (n : MA (fun x => x = L) [Ln, Lp, Lh, a, b, c]) {vs : List V} {x : V} {m : Sm} (e : H L = some (.lst vs)) (d : DpAll K H vs (ms.map Sm.d)) (dx : Dp K H x m.d) : MW K (upd H L (.lst (vs ++ [x]))) Ln Lp Lh zs hl vi nms a b c L (ms ++ [m]) := by
  have k : Kp (fun b => b = L) H (upd H L (.lst (vs ++ [x]))) := Kp.upd e trivial rfl
  exact ⟨h.lw.kp k (n _ (by simp)) (n _ (by simp)) (n _ (by simp)), h.info.kp k ⟨n _ (by simp), n _ (by simp), n _ (by simp)⟩, ⟨_, upd_same, dpAll_kp k _ _ (sms_nl _) (by rw [List.map_append]; exact dpAll_app d (.cons dx .nil))⟩⟩
end
theorem LW.head {H : Hp} {Ln Lp Lh : Addr} {zs : List Str} {hl : Hl} (h : LW K H Ln Lp Lh zs hl) {i : Nat} {hd : Str × Nat} (hi : (hdsOf hl)[i]? = some hd) : ∃ hsv ph, H Lh = some (.lst hsv) ∧ hsv[i]? = some (.ref ph) ∧ SqT K H ph [.str hd.1, .int (hd.2 : Int)] := by
  obtain ⟨hsv, e, d⟩ := h.lh
  obtain ⟨hv', ev', dv'⟩ := dpAll_get (i := i) (d := headD hd) d (by rw [List.getElem?_map, hi]; rfl)
  obtain ⟨ph, yh, rfl, sh, dh⟩ := dp_tup dv'
  obtain ⟨y1, yr, rfl, e1, dh⟩ := dpAll_cons dh
  obtain ⟨y2, yr2, rfl, e2, dh⟩ := dpAll_cons dh
  cases dpAll_nil dh
  cases dp_str e1
  cases dp_int e2
  exact ⟨hsv, ph, e, ev', sh⟩
theorem HlOk.heads4 {zs : List Str} (nm : ∀ z ∈ zs, IsNm z) : ∀ {hl : Hl}, HlOk zs hl → ∀ q ∈ hdsOf hl, q.2 ≤ 4 ∧ PyData.strOk q.1 = true
  | _, .nil, q, hq => nomatch hq
  | _, .snoc (hl := hl) (hp := hp) h e o, q, hq => by
    unfold hdsOf at hq
    rw [List.map_append] at hq
    rcases List.mem_append.mp hq with hq | hq
    · exact h.heads4 nm q hq
    · rw [List.mem_singleton.mp hq]
      exact ⟨o.lp, nm_strB (nm _ (List.mem_of_getElem? e))⟩
theorem ok_law (T : Top K mg) : FnOk P w K mg base CX0 60 (He.ga K "law") T.fd_law ["_law_script"] (sp_law K) := by
  have G__law_cell_at := ok__law_cell_at (P := P) (w := w) (base := base) T
  have G__law_held := ok__law_held (P := P) (w := w) (base := base) T
  have G__law_mixed := ok__law_mixed (P := P) (w := w) (base := base) T
  have G__law_names := ok__law_names (P := P) (w := w) (base := base) T
  have G__law_number_by := ok__law_number_by (P := P) (w := w) (base := base) T
  have G__law_within := ok__law_within (P := P) (w := w) (base := base) T
  have G__law_helper := ok__law_helper (P := P) (w := w) (base := base) T
  have G__law_expression := ok__law_expression (P := P) (w := w) (base := base) T 3
  have G_played := ok_played (P := P) (w := w) (base := base) T 6
  have G__law_played := ok__law_played (P := P) (w := w) (base := base) T 6
  have G__law_is_end := ok__law_is_end (P := P) (w := w) (base := base) T 3
  refine T.F_law.ok sc_law (fun vs H Q E h => ?_) (fun cdv A outer s H vs Q E hr h => ?_)
  · obtain ⟨a, ns, rfl, _⟩ := h
    rfl
  · obtain ⟨a, ns, rfl, sc, q⟩ := h
    refine ⟨_, PSs.nox (pss_cons (ps_set (i := 1) sc_law.nd rfl (Or.inl rfl) (pe_call G__law_cell_at (hr.mono (by omega)) (by rfl) T.g__law_cell_at T.F__law_cell_at.kp T.b__law_cell_at .nil pass0 (pa_cons (pv 0) (pa_cons pe_int pa_nil))))
        (pss_cons (ps_set (i := 2) sc_law.nd rfl (Or.inl rfl) (pe_call G__law_names (hr.mono (by omega)) (by rfl) T.g__law_names T.F__law_names.kp T.b__law_names .nil pass0 (pa_cons (pe_op op_fdivW (pv 1) pe_int) pa_nil)))
        (pss_cons (ps_set (i := 3) sc_law.nd rfl (Or.inl rfl) (pe_lst pa_nil))
        (pss_cons (ps_set (i := 4) sc_law.nd rfl (Or.inl rfl) (pe_lst pa_nil))
        (pss_cons (ps_for PassesOwn.never (by rfl) (pi_range1 (by rfl) T.m_range (pa_cons (pe_op op_add pe_int (pe_op op_mod (pv 1) pe_int)) pa_nil)) (pg_name (i := 5) sc_law.nd rfl (Or.inl rfl)) (pss_cons (ps_expr (pe_bm PySem.F.plainAttrs_list PySem.F.slot_list_append PySem.F.type_list_append mt_append (pv 3) (pa_cons (pe_call G__law_helper (hr.mono (by omega)) (by rfl) T.g__law_helper T.F__law_helper.kp T.b__law_helper .nil pass0 (pa_cons (pe_call G__law_held (hr.mono (by omega)) (by rfl) T.g__law_held T.F__law_held.kp T.b__law_held .nil pass0 (pa_cons (pe_op op_add (pe_call G__law_cell_at (hr.mono (by omega)) (by rfl) T.g__law_cell_at T.F__law_cell_at.kp T.b__law_cell_at .nil pass0 (pa_cons (pv 0) (pa_cons (pe_op op_add pe_int (pv 5)) pa_nil))) (pe_op op_mul pe_int (pv 5))) pa_nil)) (pa_cons (pv 5) (pa_cons (pv 2) (pa_cons (pe_callTy call_list_of (by rfl) T.m_list (by decide +kernel) (pa_cons (pv 4) pa_nil)) pa_nil))))) pa_nil)))
        (pss_one (ps_expr (pe_bm PySem.F.plainAttrs_list PySem.F.slot_list_append PySem.F.type_list_append mt_append (pv 4) (pa_cons (pe_tup (pa_cons (pe_ix ix_tup (pe_ix ix_list (pv 3) (pe_un un_neg pe_int) (fun _ _ => rfl)) pe_int (fun _ _ => rfl)) (pa_cons (pe_callB call_len_seq (by rfl) T.m_len (by decide +kernel) (pa_cons (pe_ix ix_tup (pe_ix ix_list (pv 3) (pe_un un_neg pe_int) (fun _ _ => rfl)) pe_int (fun _ _ => rfl)) pa_nil)) pa_nil))) pa_nil))))))
        (pss_cons (ps_set (i := 6) sc_law.nd rfl (Or.inr rfl) (pe_tup (pa_cons (pe_lst (pa_cons (pe_ix ix_list (pv 2) pe_int (fun _ _ => rfl)) (pa_cons (pe_ix ix_list (pv 2) pe_int (fun _ _ => rfl)) (pa_cons (pe_ix ix_list (pv 2) pe_int (fun _ _ => rfl)) pa_nil)))) (pa_cons (pe_lst pa_nil) (pa_cons (pe_lst pa_nil) pa_nil)))))
        (pss_cons (ps_set (i := 7) sc_law.nd rfl (Or.inl rfl) (pe_lst (pa_cons (pe_tup (pa_cons pe_str (pa_cons (pe_ix ix_list (pv 2) pe_int (fun _ _ => rfl)) (pa_cons (pe_tup (pa_cons pe_str (pa_cons pe_int pa_nil))) pa_nil)))) (pa_cons (pe_tup (pa_cons pe_str (pa_cons (pe_ix ix_list (pv 2) pe_int (fun _ _ => rfl)) (pa_cons (pe_tup (pa_cons pe_str (pa_cons pe_int pa_nil))) pa_nil)))) pa_nil))))
        (pss_cons (ps_for PassesOwn.never (by rfl) (pi_range1 (by rfl) T.m_range (pa_cons (pe_callB call_len_seq (by rfl) T.m_len (by decide +kernel) (pa_cons (pv 4) pa_nil)) pa_nil)) (pg_name (i := 5) sc_law.nd rfl (Or.inl rfl)) (pss_cons (ps_set (i := 8) sc_law.nd rfl (Or.inr rfl) (pe_call G__law_held (hr.mono (by omega)) (by rfl) T.g__law_held T.F__law_held.kp T.b__law_held .nil pass0 (pa_cons (pe_call G__law_cell_at (hr.mono (by omega)) (by rfl) T.g__law_cell_at T.F__law_cell_at.kp T.b__law_cell_at .nil pass0 (pa_cons (pv 0) (pa_cons (pe_op op_add pe_int (pv 5)) pa_nil))) pa_nil)))
        (pss_cons (ps_setLc (i := 9) (own := [("_law_j", 15)]) (by rfl) sc_law.nd rfl rfl (sw_true rfl rfl rfl (by decide +kernel)) (pi_range1 (by rfl) T.m_range (pa_cons (pe_ix ix_tup (pe_ix ix_list (pv 4) (pv 5) (fun _ _ => rfl)) pe_int (fun _ _ => rfl)) pa_nil)) (blkOk_by (own := [("_law_j", 15)]) (N := N_law) (sc := defScope s_law) (by decide +kernel)) (fun _ _ _ _ _ => (pg_name (i := 15) sc_law.nd rfl (Or.inl rfl))) (fun _ _ _ _ _ => pts_nil) (fun _ _ _ _ _ => (pe_call G__law_expression (hr.mono (by omega)) (by rfl) T.g__law_expression T.F__law_expression.kp T.b__law_expression .nil pass0 (pa_cons (pe_call G__law_within (hr.mono (by omega)) (by rfl) T.g__law_within T.F__law_within.kp T.b__law_within .nil pass0 (pa_cons (pv 8) (pa_cons (pv 15) pa_nil))) (pa_cons pe_int (pa_cons (pv 6) pa_nil))))))
        (pss_cons (ps_expr (pe_bm PySem.F.plainAttrs_list PySem.F.slot_list_append PySem.F.type_list_append mt_append (pv 7) (pa_cons (pe_tup (pa_cons pe_str (pa_cons (pe_ix ix_list (pe_ix ix_tup (pv 6) pe_int (fun _ _ => rfl)) (pe_call G__law_mixed (hr.mono (by omega)) (by rfl) T.g__law_mixed T.F__law_mixed.kp T.b__law_mixed .nil pass0 (pa_cons (pv 8) (pa_cons pe_int (pa_cons pe_int pa_nil)))) (fun _ _ => rfl)) (pa_cons (pe_ix ix_tup (pe_ix ix_list (pv 4) (pv 5) (fun _ _ => rfl)) pe_int (fun _ _ => rfl)) (pa_cons (pe_callTy call_tuple_of (by rfl) T.m_tuple (by decide +kernel) (pa_cons (pv 9) pa_nil)) pa_nil))))) pa_nil)))
        (pss_one (ps_set (i := 7) sc_law.nd rfl (Or.inl rfl) (pe_op op_cat (pv 7) (pe_lst (pa_cons (pe_tup (pa_cons pe_str (pa_cons (pe_tup (pa_cons pe_str (pa_cons (pe_ix ix_list (pv 2) pe_int (fun _ _ => rfl)) pa_nil))) pa_nil))) (pa_cons (pe_tup (pa_cons pe_str (pa_cons (pe_tup (pa_cons pe_str (pa_cons (pe_ix ix_list (pv 2) pe_int (fun _ _ => rfl)) pa_nil))) pa_nil))) pa_nil))))))))))
        (pss_cons (ps_set (i := 10) sc_law.nd rfl (Or.inl rfl) (pe_tup (pa_cons (pe_callTy call_tuple_of (by rfl) T.m_tuple (by decide +kernel) (pa_cons (pv 3) pa_nil)) (pa_cons (pe_tup (pa_cons (pe_ix ix_list (pv 2) pe_int (fun _ _ => rfl)) pa_nil)) (pa_cons (pe_tup pa_nil) (pa_cons (pe_callTy call_tuple_of (by rfl) T.m_tuple (by decide +kernel) (pa_cons (pv 7) pa_nil)) pa_nil))))))
        (pss_cons (ps_set (i := 11) sc_law.nd rfl (Or.inl rfl) (pe_lst (pa_cons (pe_call G__law_number_by (hr.mono (by omega)) (by rfl) T.g__law_number_by T.F__law_number_by.kp T.b__law_number_by .nil pass0 (pa_cons (pe_call G__law_held (hr.mono (by omega)) (by rfl) T.g__law_held T.F__law_held.kp T.b__law_held .nil pass0 (pa_cons (pe_call G__law_cell_at (hr.mono (by omega)) (by rfl) T.g__law_cell_at T.F__law_cell_at.kp T.b__law_cell_at .nil pass0 (pa_cons (pv 0) (pa_cons pe_int pa_nil))) pa_nil)) (pa_cons pe_int pa_nil))) pa_nil)))
        (pss_cons (ps_set (i := 12) sc_law.nd rfl (Or.inl rfl) (pe_call G__law_played (hr.mono (by omega)) (by rfl) T.g__law_played T.F__law_played.kp T.b__law_played .nil pass0 (pa_cons (pv 10) (pa_cons (pv 11) (pa_cons pe_int pa_nil)))))
        (pss_cons (ps_if (pt_not (pt_val (pe_call G__law_is_end (hr.mono (by omega)) (by rfl) T.g__law_is_end T.F__law_is_end.kp T.b__law_is_end .nil pass0 (pa_cons (pe_call G_played (hr.mono (by omega)) (by rfl) T.g_played T.F_played.kp T.b2_played.choose_spec.2 T.b2_played.choose_spec.1 pass0 (pa_cons (pv 10) (pa_cons (pv 11) pa_nil))) (pa_cons (pe_slice sl_tupA (pv 12) po_none (po_some pe_int)) pa_nil))))) (pss_one (ps_ret pe_bl)) pss_nil)
        (pss_cons (ps_set (i := 13) sc_law.nd rfl (Or.inl rfl) (pe_call G__law_mixed (hr.mono (by omega)) (by rfl) T.g__law_mixed T.F__law_mixed.kp T.b__law_mixed .nil pass0 (pa_cons (pe_call G__law_cell_at (hr.mono (by omega)) (by rfl) T.g__law_cell_at T.F__law_cell_at.kp T.b__law_cell_at .nil pass0 (pa_cons (pv 0) (pa_cons pe_int pa_nil))) (pa_cons pe_int (pa_cons (pe_callB (call_max2 rfl) (by rfl) T.m_max (by decide +kernel) (pa_cons pe_int (pa_cons (pe_ix ix_tup (pv 12) pe_int (fun _ _ => rfl)) pa_nil))) pa_nil)))))
        (pss_cons (ps_for PassesOwn.never (by rfl) (pi_list (pe_lst (pa_cons (pe_ix ix_tup (pv 12) pe_int (fun _ _ => rfl)) (pa_cons (pv 13) pa_nil)))) (pg_name (i := 14) sc_law.nd rfl (Or.inl rfl)) (pss_one (ps_if (pt_not (pt_val (pe_call G__law_is_end (hr.mono (by omega)) (by rfl) T.g__law_is_end T.F__law_is_end.kp T.b__law_is_end .nil pass0 (pa_cons (pe_call G_played (hr.mono (by omega)) (by rfl) T.g_played T.F_played.kp T.b_played.choose_spec.2 T.b_played.choose_spec.1 pass0 (pa_cons (pv 10) (pa_cons (pv 11) (pa_cons (pv 14) pa_nil)))) (pa_cons (pe_slice sl_tupA (pe_call G__law_played (hr.mono (by omega)) (by rfl) T.g__law_played T.F__law_played.kp T.b__law_played .nil pass0 (pa_cons (pv 10) (pa_cons (pv 11) (pa_cons (pv 14) pa_nil)))) po_none (po_some pe_int)) pa_nil))))) (pss_one (ps_ret pe_bl)) pss_nil)))
        (pss_one (ps_ret pe_bl)))))))))))))))), ?_⟩
    refine ⟨_, rfl, a, ns, 0, rfl, by decide, sc.2.2, ?_⟩
    dsimp only [gName]
    generalize cellA ns 0 = c0
    refine ⟨_, rfl, _, _, rfl, rfl, wide_div (b := 64) (by decide) (by decide) (by decide) (by decide), _, rfl, fun H1 Ln zs s1 nLn eLn nm => ?_⟩
    dsimp only [gName]
    refine ⟨Nat.zero_le _, fun Lp nLp => ?_⟩
    refine ⟨Nat.zero_le _, fun Lh nLh => ?_⟩
    have sp := same_new (o := .lst []) nLp
    have sh := same_new (o := .lst []) nLh
    have lw : LW K (upd (upd H1 Lp (.lst [])) Lh (.lst [])) Ln Lp Lh zs [] := ⟨(sp.trans sh) _ _ eLn, ⟨[], sh _ _ upd_same, .nil⟩, ⟨[], upd_same, .nil⟩, .nil, ne_of_none eLn nLp, ne_of_none (sp _ _ eLn) nLh, ne_of_none upd_same nLh⟩
    have s02 := (s1.trans sp).trans sh
    dsimp only [gName, List.set]
    have c40 : 0 ≤ c0 % 4 := Int.emod_nonneg _ (by decide)
    have c41 : c0 % 4 < 4 := Int.emod_lt_of_pos _ (by decide)
    refine ⟨_, rfl, _, _, rfl, rfl, (by show (0 : Int) < 4; decide), _, _, rfl, rfl, _, rfl, by omega, by omega, ?_⟩
    obtain ⟨nh, enh⟩ : ∃ n : Nat, 1 + c0 % 4 = n := ⟨(1 + c0 % 4).toNat, by omega⟩
    rw [enh, Int.toNat_natCast]
    have nh1 : 1 ≤ nh := by omega
    have nh4 : nh ≤ 4 := by omega
    have l16 := nm.len
    have hLp : H Lp = none := s1.free nLp
    have hLh : H Lh = none := (s1.trans sp).free nLh
    refine for_range (lo := 0) (n := nh) (fun i σ' H' => Same H H' ∧ ∃ hl x5, LW K H' Ln Lp Lh zs hl ∧ hl.length = i ∧ σ' = [some (.ref a), some (.int c0), some (.ref Ln), some (.ref Lp), some (.ref Lh), x5, none, none, none, none, none, none, none, none, none, none]) ?_ ?_ ?_
    · exact ⟨s02, [], none, lw, rfl, rfl⟩
    · rintro i σ' H2 hi ⟨s2, hl, x5, w2, lhl, rfl⟩
      rw [Int.zero_add]
      dsimp only [gName, List.set]
      obtain ⟨vs, eLp, dLp⟩ := w2.lp
      obtain ⟨us, eLh, dLh⟩ := w2.lh
      refine ⟨_, rfl, .inl ⟨rfl, _, .of eLp⟩, _, rfl, _, rfl, _, _, rfl, rfl, a, ns, 1 + (i : Int), rfl, by omega, (sc.sm s2).2.2, _, rfl, _, _, rfl, rfl, .inl ⟨by decide, by decide⟩, _, _, rfl, rfl, ?_⟩
      refine ⟨_, rfl, fun H3 v s3 c3 f3 => ⟨_, rfl, _, rfl, _, rfl, Lh, _, rfl, .inl (.of (s3 _ _ eLh)), fun Lc nLc => ?_⟩⟩
      have sc3 := same_new (o := .lst us) nLc
      have s23 := s3.trans sc3
      have fr : ∀ b, cellS v b → H2 b = none := fun b z => f3 b z
      have nv : ∀ {b : Addr} {o : HO}, H2 b = some o → ¬ cellS v b := fun {b o} e z => by rw [fr b z] at e; cases e
      refine ⟨v, i, Ln, Lc, zs, hdsOf hl, rfl, c3.same sc3, by omega, s23 _ _ w2.ln, nm, ⟨us, upd_same, dpAll_sm s23 dLh⟩, by unfold hdsOf; rw [List.length_map]; omega, w2.ok.heads4 nm.nm, nv w2.ln, c3.fresh nLc, fun H4 x hp k4 c4 d4 n4 o4 => ?_⟩
      have s4 : Same H2 H4 := kp_backB s23 k4 fr
      have w4 := w2.sm s4
      have e4 := s4 _ _ eLp
      have lvs : vs.length = hl.length := by rw [dpAll_len dLp, List.length_map]
      have lus : us.length = hl.length := by rw [dpAll_len dLh, List.length_map]; unfold hdsOf; rw [List.length_map]
      refine ⟨Lp, _, _, rfl, rfl, e4, by rw [lvs, sizeLine_eq]; omega, ?_⟩
      have kU : Kp (fun b => b = Lp) H4 (upd H4 Lp (.lst (vs ++ [x]))) := Kp.upd e4 trivial rfl
      obtain ⟨pt, xs, rfl, hT, dxs⟩ := dp_tup d4
      obtain ⟨x0, r0, rfl, g0, dxs⟩ := dpAll_cons dxs
      obtain ⟨x1, r1, rfl, g1, dxs⟩ := dpAll_cons dxs
      cases dp_str g0
      obtain ⟨pps, ys, rfl, hpps, dys⟩ := dp_tup g1
      have lys : ys.length = hp.2.1.length := by rw [dpAll_len dys, List.length_map]
      have hT5 := sqT_kp kU hT
      have hpps5 := sqT_kp kU hpps
      have eLh5 := kU _ _ (s4 _ _ eLh) fun z => absurd z w2.n3.symm
      refine ⟨_, rfl, .inl ⟨rfl, _, .of eLh5⟩, _, rfl, _, rfl, Lp, _, _, _, rfl, rfl, .of upd_same, atI_last vs _, pt, _, 0, _, rfl, rfl, hT5, atI_nat (j := 0) rfl, _, rfl, _, rfl, Lp, _, _, _, rfl, rfl, .of upd_same, atI_last vs _, pt, _, 1, _, rfl, rfl, hT5, atI_nat (j := 1) rfl, pps, _, rfl, .inr hpps5, (by show 2 ≤ sizeLine; rw [sizeLine_eq]; decide), fun qn nqn => ?_⟩
      rw [lys]
      have s6 := same_new (o := .tup [.str hp.1, .int (hp.2.1.length : Int)]) nqn
      refine ⟨Lh, _, _, rfl, rfl, s6 _ _ eLh5, by rw [lus, sizeLine_eq]; omega, ?_, hl ++ [hp], _, w4.snoc e4 (dpAll_sm s4 dLp) d4 (by rw [lhl]; exact n4) o4 qn (s4 _ _ eLh) (dpAll_sm s4 dLh) nqn, by rw [List.length_append, lhl]; rfl, rfl⟩
      exact same_upd ((same_upd (s2.trans s4) hLp).trans s6) hLh
    rintro σ' H2 ⟨s2, hl, x5, w2, lhl, rfl⟩
    clear lw s02 sp sh nLh nLp
    obtain ⟨z8, hz8⟩ : ∃ z, zs[8]? = some z := ⟨_, List.getElem?_eq_getElem (by rw [l16]; decide)⟩
    obtain ⟨z9, hz9⟩ : ∃ z, zs[9]? = some z := ⟨_, List.getElem?_eq_getElem (by rw [l16]; decide)⟩
    obtain ⟨z0, hz0⟩ : ∃ z, zs[0]? = some z := ⟨_, List.getElem?_eq_getElem (by rw [l16]; decide)⟩
    refine ⟨_, rfl, Ln, _, _, _, rfl, rfl, .of w2.ln, atZ (i := 8) hz8, _, rfl, Ln, _, _, _, rfl, rfl, .of w2.ln, atZ (i := 9) hz9, _, rfl, Ln, _, _, _, rfl, rfl, .of w2.ln, atZ (i := 0) hz0, (by show 3 ≤ sizeLine; rw [sizeLine_eq]; decide), fun p5 n5 => ⟨Nat.zero_le _, fun p6 n6 => ⟨Nat.zero_le _, fun p7 n7 => ⟨(by show 3 ≤ sizeLine; rw [sizeLine_eq]; decide), fun pi npi => ?_⟩⟩⟩⟩
    have kA := same_new (o := .lst [.str z8, .str z9, .str z0]) n5
    have kB := same_new (o := .lst []) n6
    have kC := same_new (o := .lst []) n7
    have kD := same_new (o := .tup [.ref p5, .ref p6, .ref p7]) npi
    have I3 := show Info K _ (.ref pi) [z8, z9, z0] [] [] p5 p6 p7 from ⟨⟨pi, rfl, .of (upd_same (H := upd (upd (upd H2 p5 (.lst [.str z8, .str z9, .str z0])) p6 (.lst [])) p7 (.lst [])) (a := pi) (o := .tup [.ref p5, .ref p6, .ref p7]))⟩, ((kB.trans kC).trans kD) _ _ upd_same, (kC.trans kD) _ _ upd_same, [], kD _ _ upd_same, .nil⟩
    have s23 := ((kA.trans kB).trans kC).trans kD
    dsimp only [gName, List.set]
    generalize upd (upd (upd (upd H2 p5 (.lst [.str z8, .str z9, .str z0])) p6 (.lst [])) p7 (.lst [])) pi (.tup [.ref p5, .ref p6, .ref p7]) = H3 at I3 s23 ⊢
    clear kA kB kC kD n5 n6 n7 npi
    have w3 := w2.sm s23
    have s3 := s2.trans s23
    refine st_asg (ml_lst (K := K) (H0 := H3) (σ := [some (.ref a), some (.int c0), some (.ref Ln), some (.ref Lp), some (.ref Lh), x5, some (.ref pi), none, none, none, none, none, none, none, none, none]) (ds := [(Sm.set z9 (.num 4)).d, (Sm.set z8 (.num 2)).d]) (mds_cons (md_tup (mds_cons md_str (mds_cons (md_nm (i := 9) rfl w3.ln hz9) (mds_cons (md_tup (mds_cons md_str (mds_cons md_int mds_nil))) mds_nil)))) (mds_cons (md_tup (mds_cons md_str (mds_cons (md_nm (i := 8) rfl w3.ln hz8) (mds_cons (md_tup (mds_cons md_str (mds_cons md_int mds_nil))) mds_nil)))) mds_nil)) (Same.refl _) (fun H4 L0 vs4 s34 nL0 eL0 dL0 => ?_))
    dsimp only [List.set]
    have w4 : MW K H4 Ln Lp Lh zs hl (.ref pi) [z8, z9, z0] p5 p6 p7 L0 [.set z9 (.num 4), .set z8 (.num 2)] := ⟨w3.sm s34, I3.sm s34, vs4, eL0, dL0⟩
    have ma0 : MA (fun x => x = L0) [Ln, Lp, Lh, p5, p6, p7] := by
      have m3 : MW K H3 Ln Lp Lh zs hl (.ref pi) [z8, z9, z0] p5 p6 p7 Lp [] ∨ True := .inr trivial
      obtain ⟨_, e1, _⟩ := w3.lp
      obtain ⟨_, e2, _⟩ := w3.lh
      obtain ⟨_, e3, _⟩ := I3.c
      intro x hx e
      have e' : x = L0 := e
      subst e'
      simp only [List.mem_cons, List.not_mem_nil, or_false] at hx
      rcases hx with rfl | rfl | rfl | rfl | rfl | rfl
      · rw [w3.ln] at nL0; cases nL0
      · rw [e1] at nL0; cases nL0
      · rw [e2] at nL0; cases nL0
      · rw [I3.a] at nL0; cases nL0
      · rw [I3.b] at nL0; cases nL0
      · rw [e3] at nL0; cases nL0
    have s4 := s3.trans s34
    have hL0 := s3.free nL0
    obtain ⟨hsv, eLh, dLh⟩ := w4.lw.lh
    have lhs : hsv.length = nh := by rw [dpAll_len dLh, List.length_map]; unfold hdsOf; rw [List.length_map, lhl]
    refine ⟨_, rfl, Lh, _, rfl, .inl (.of eLh), (hsv.length : Int), rfl, by omega, by omega, ?_⟩
    rw [lhs, Int.toNat_natCast]
    clear lhs eLh dLh hsv
    have ev : ∀ {e : Ex} {rs : List Str} {d : Nat}, d ≤ 9 → e.Wf [z8, z9, z0] rs d → e.ok rs := fun {e rs d} hd wf => ⟨by have := (wf_ok wf).1; omega, (wf_ok wf).2⟩
    refine for_range (lo := 0) (n := nh) (fun i σ' H' => Same H H' ∧ ∃ L ms x5 x8 x9, MW K H' Ln Lp Lh zs hl (.ref pi) [z8, z9, z0] p5 p6 p7 L ms ∧ H L = none ∧ MA (fun x => x = L) [Ln, Lp, Lh, p5, p6, p7] ∧ ms.length = 2 + 3 * i ∧ ncs ms ≤ i ∧ (∀ m ∈ ms, HSt (hdsOf hl) m) ∧ σ' = [some (.ref a), some (.int c0), some (.ref Ln), some (.ref Lp), some (.ref Lh), x5, some (.ref pi), some (.ref L), x8, x9, none, none, none, none, none, none]) ?_ ?_ ?_
    · refine ⟨s4, L0, _, _, _, _, w4, hL0, ma0, rfl, Nat.zero_le _, fun m hm => ?_, rfl⟩
      rcases List.mem_cons.mp hm with rfl | hm
      · exact ⟨by show 0 < 10; decide, by decide, by decide⟩
      · rw [List.mem_singleton.mp hm]
        exact ⟨by show 0 < 10; decide, by decide, by decide⟩
    · rintro i σ' H5 hi ⟨s5, L, ms, y5, x8, x9, w5, hL, ma, lms, nms, oms, rfl⟩
      rw [Int.zero_add]
      dsimp only [gName, List.set]
      refine ⟨_, rfl, _, rfl, _, _, rfl, rfl, a, ns, 5 + (i : Int), rfl, by omega, (sc.sm s5).2.2, _, rfl, fun H6 v s6 c6 f6 => ?_⟩
      dsimp only [gName, List.set]
      have fr : ∀ b, cellS v b → H5 b = none := fun b z => f6 b z
      have av := w5.av fr
      have w6 := w5.sm s6
      obtain ⟨hd, hhd⟩ : ∃ hd, (hdsOf hl)[i]? = some hd := ⟨_, List.getElem?_eq_getElem (by unfold hdsOf; rw [List.length_map, lhl]; exact hi)⟩
      have hm : hd ∈ hdsOf hl := List.mem_of_getElem? hhd
      have hq2 := (w6.lw.ok.heads4 nm.nm _ hm).1
      obtain ⟨hsv, ph, eLh, ev', sh⟩ := w6.lw.head hhd
      refine ⟨_, rfl, _, rfl, Lh, _, _, _, rfl, rfl, .of eLh, atI_nat ev', ph, _, 1, _, rfl, rfl, sh, atI_nat (j := 1) rfl, (hd.2 : Int), rfl, by omega, by omega, fun D nD => ?_⟩
      rw [Int.toNat_natCast]
      have avD := w6.av (S := fun x => x = D) (fun b e => e ▸ nD)
      have nvD := c6.fresh nD
      refine lc_range (lo := 0) (n := hd.2) (fun j H' => Kp (cellS v) H6 H' ∧ CellOk H' v ∧ MW K H' Ln Lp Lh zs hl (.ref pi) [z8, z9, z0] p5 p6 p7 L ms ∧ ∃ (xs : List V) (es : List Ex), H' D = some (.lst xs) ∧ DpAll K H' xs (es.map Ex.d) ∧ es.length = j ∧ ∀ x ∈ es, x.ok []) ?_ ?_ ?_
      · exact ⟨.of_same (same_new nD), c6.same (same_new nD), w6.sm (same_new nD), [], [], upd_same, .nil, rfl, fun x hx => nomatch hx⟩
      · rintro j H7 hj ⟨k7, c7, w7, xs, es, e7, d7, l7, o7⟩
        refine ⟨rfl, _, rfl, _, rfl, v, 0 + (j : Int), rfl, c7, by omega, by omega, fun H8 v2 k8 c8 c8' x2 => ?_⟩
        have w8 := w7.kp k8 av
        refine ⟨_, rfl, v2, .ref pi, 3, [z8, z9, z0], [], [], p5, p6, p7, rfl, c8', by decide, by decide, w8.info, (by show 3 ≤ 16; decide), by decide, ?_, fun H9 x ex k9 c9 d9 wf9 => ?_⟩
        · exact (show Off (cellS v) p5 p6 p7 from ⟨av _ (by simp), av _ (by simp), av _ (by simp)⟩).sub (cellS_sub x2)
        have k9' : Kp (cellS v) H8 H9 := k9.mono (cellS_sub x2)
        have k79 := k8.trans k9'
        have w9 := w8.kp k9' av
        have e9 := k79 _ _ e7 fun z => absurd z nvD
        have l9 := dpAll_len d7
        rw [List.length_map] at l9
        have kD : Kp (fun b => b = D) H9 (upd H9 D (.lst (xs ++ [x]))) := Kp.upd e9 trivial rfl
        refine ⟨xs, e9, by rw [l9, l7, sizeLine_eq]; omega, kp_newB (k7.trans k79) nD, (cell_after x2 c8 k9 c9).upd nvD, w9.kp kD avD, xs ++ [x], es ++ [ex], upd_same, ?_, by rw [List.length_append, l7]; rfl, ?_⟩
        · rw [List.map_append]
          exact dpAll_app (dpAll_kp kD _ _ (exs_nlB es) (dpAll_kp k79 _ _ (exs_nlB es) d7)) (.cons (dp_kp kD _ _ ex.noL d9) .nil)
        · intro y hy
          rcases List.mem_append.mp hy with hy | hy
          · exact o7 y hy
          · rw [List.mem_singleton.mp hy]
            exact ev (by decide) wf9
      · rintro H7 ⟨k7, c7, w7, xs, es, e7, d7, l7, o7⟩
        dsimp only [gName, List.set]
        obtain ⟨vs, eL, dL⟩ := w7.bd
        obtain ⟨pt, hpt, hT⟩ := w7.info.tup
        cases hpt
        refine ⟨_, rfl, .inl ⟨rfl, _, .of eL⟩, _, rfl, pi, _, 0, _, rfl, rfl, hT, atI_nat (j := 0) rfl, _, rfl, v, 6, 3, rfl, c7, by decide, by decide, by decide, by decide, fun H8 j k8 c8 j0 j1 => ?_⟩
        have w8 := w7.kp k8 av
        obtain ⟨x, hx, ex⟩ := in_strs_at (zs := [z8, z9, z0]) j0 j1
        obtain ⟨hsv8, ph8, eLh8, ev8, sh8⟩ := w8.lw.head hhd
        have e8 := k8 _ _ e7 fun z => absurd z nvD
        have d8 := dpAll_kp k8 _ _ (exs_nlB es) d7
        refine ⟨p5, _, j, _, rfl, rfl, .of w8.info.a, ex, _, rfl, _, rfl, Lh, _, _, _, rfl, rfl, .of eLh8, atI_nat ev8, ph8, _, 0, _, rfl, rfl, sh8, atI_nat (j := 0) rfl, _, rfl, D, _, rfl, .inl ⟨.of e8, fun pt npt => ⟨(by show 4 ≤ sizeLine; rw [sizeLine_eq]; decide), fun pc npc => ?_⟩⟩⟩
        have st := same_new (o := .tup xs) npt
        have sc' := same_new (o := .tup [.str "call", .str x, .str hd.1, .ref pt]) npc
        have w9 := w8.sm (st.trans sc')
        have k9 : Kp (cellS v) H6 _ := (k7.trans k8).trans (.of_same (st.trans sc'))
        have dcall : Dp K _ (.ref pc) (Sm.call x hd.1 es).d := .tup (.of (upd_same (H := upd H8 pt (.tup xs)) (a := pc) (o := .tup [.str "call", .str x, .str hd.1, .ref pt]))) (.cons (.str _) (.cons (.str _) (.cons (.str _) (.cons (dp_sm sc' (.tup (.of upd_same) (dpAll_sm st d8))) .nil))))
        have s9 : Same H5 _ := kp_backB s6 k9 fr
        generalize upd (upd H8 pt (.tup xs)) pc (.tup [.str "call", .str x, .str hd.1, .ref pt]) = H9 at w9 k9 dcall s9 ⊢
        obtain ⟨vs, eL, dL⟩ := w9.bd
        have lv := dpAll_len dL
        rw [List.length_map] at lv
        refine ⟨L, _, _, rfl, rfl, eL, by rw [lv, lms, sizeLine_eq]; omega, ?_⟩
        have w10 := w9.add ma eL dL dcall
        have s10 : Same H (upd H9 L (.lst (vs ++ [.ref pc]))) := same_upd (s5.trans s9) hL
        generalize upd H9 L (.lst (vs ++ [.ref pc])) = H10 at w10 s10 ⊢
        clear eL dL vs lv
        obtain ⟨vs, eL, dL⟩ := w10.bd
        have lv := dpAll_len dL
        rw [List.length_map, List.length_append, List.length_singleton] at lv
        refine ⟨_, rfl, _, rfl, Ln, _, _, _, rfl, rfl, .of w10.lw.ln, atZ (i := 8) hz8, (by show 2 ≤ sizeLine; rw [sizeLine_eq]; decide), fun u1 nu1 => ⟨(by show 2 ≤ sizeLine; rw [sizeLine_eq]; decide), fun u2 nu2 => ?_⟩⟩
        have t1 := same_new (o := .tup [.str "name", .str z8]) nu1
        have t2 := same_new (o := .tup [.str "tell", .ref u1]) nu2
        have t12 := t1.trans t2
        have dt1 : Dp K _ (.ref u2) (Sm.tell (.nam z8)).d := .tup (.of (upd_same (H := upd H10 u1 (.tup [.str "name", .str z8])) (a := u2) (o := .tup [.str "tell", .ref u1]))) (.cons (.str _) (.cons (dp_sm t2 (.tup (.of upd_same) (.cons (.str _) (.cons (.str _) .nil)))) .nil))
        have w11 := w10.sm t12
        generalize upd (upd H10 u1 (.tup [.str "name", .str z8])) u2 (.tup [.str "tell", .ref u1]) = H11 at w11 t12 dt1 ⊢
        refine ⟨_, rfl, Ln, _, _, _, rfl, rfl, .of w11.lw.ln, atZ (i := 0) hz0, (by show 2 ≤ sizeLine; rw [sizeLine_eq]; decide), fun u3 nu3 => ⟨(by show 2 ≤ sizeLine; rw [sizeLine_eq]; decide), fun u4 nu4 => ⟨(by show 2 ≤ sizeLine; rw [sizeLine_eq]; decide), fun u5 nu5 => ?_⟩⟩⟩
        have t3 := same_new (o := .tup [.str "name", .str z0]) nu3
        have t4 := same_new (o := .tup [.str "tell", .ref u3]) nu4
        have t5 := same_new (o := .lst [V.ref u2, .ref u4]) nu5
        have dt2 : Dp K _ (.ref u4) (Sm.tell (.nam z0)).d := .tup (.of (upd_same (H := upd H11 u3 (.tup [.str "name", .str z0])) (a := u4) (o := .tup [.str "tell", .ref u3]))) (.cons (.str _) (.cons (dp_sm t4 (.tup (.of upd_same) (.cons (.str _) (.cons (.str _) .nil)))) .nil))
        have t35 := (t3.trans t4).trans t5
        refine ⟨L, u5, _, _, rfl, rfl, (t12.trans t35) _ _ eL, upd_same, by rw [lv, lms, sizeLine_eq]; show _ + 2 ≤ _; omega, fun L2 nL2 => ?_⟩
        have t6 := same_new (o := .lst (vs ++ [V.ref u2, .ref u4])) nL2
        have tall := (t12.trans t35).trans t6
        have w12 := w10.sm tall
        refine ⟨s10.trans tall, L2, ms ++ [.call x hd.1 es] ++ [.tell (.nam z8), .tell (.nam z0)], _, _, _, ⟨w12.lw, w12.info, _, upd_same, ?_⟩, (s10.trans (t12.trans t35)).free nL2, ?_, ?_, ?_, ?_, rfl⟩
        · rw [List.map_append]
          exact dpAll_app (dpAll_sm tall dL) (.cons (dp_sm (t35.trans t6) dt1) (.cons (dp_sm (t5.trans t6) dt2) .nil))
        · have w12' := w10.sm (t12.trans t35)
          have := w12'.av (S := fun x => x = L2) (fun b e => e ▸ nL2)
          exact fun x hx => this x (by simp only [List.mem_cons, List.not_mem_nil, or_false] at hx ⊢; rcases hx with h | h | h | h | h | h <;> simp [h])
        · rw [List.length_append, List.length_append, lms]
          show 2 + 3 * i + 1 + 2 = 2 + 3 * (i + 1)
          omega
        · rw [ncs_app, ncs_app]
          show ncs ms + 1 + 0 ≤ i + 1
          omega
        · intro m hm'
          rcases List.mem_append.mp hm' with hm' | hm'
          · rcases List.mem_append.mp hm' with hm' | hm'
            · exact oms m hm'
            · rw [List.mem_singleton.mp hm']
              exact ⟨by rw [l7]; exact hm, o7, by omega⟩
          · simp only [List.mem_cons, List.not_mem_nil, or_false] at hm'
            rcases hm' with rfl | rfl <;> exact ⟨by show 0 < 10; decide, trivial⟩
    rintro σ' H5 ⟨s5, L, ms, y5, x8, x9, w5, hL, ma, lms, nms, oms, rfl⟩
    obtain ⟨vLp, eLp, dLp⟩ := w5.lw.lp
    obtain ⟨vL, eL, dL⟩ := w5.bd
    dsimp only
    refine st_asg ((md_tup (K := K) (H0 := H5) (σ := [some (.ref a), some (.int c0), some (.ref Ln), some (.ref Lp), some (.ref Lh), y5, some (.ref pi), some (.ref L), x8, x9, none, none, none, none, none, none]) (ds := [.tuple (hl.map hlD), .tuple [.str z9], .tuple [], .tuple (ms.map Sm.d)]) (mds_cons (md_by fun H' Q s' q' => ⟨_, rfl, Lp, _, rfl, .inl ⟨.of (s' _ _ eLp), fun l nl => q' _ _ (same_new nl) (.tup (.of upd_same) (dpAll_sm (s'.trans (same_new nl)) dLp))⟩⟩) (mds_cons (md_tup (mds_cons (md_nm (i := 9) rfl w5.lw.ln hz9) mds_nil)) (mds_cons (md_tup mds_nil) (mds_cons (md_by fun H' Q s' q' => ⟨_, rfl, L, _, rfl, .inl ⟨.of (s' _ _ eL), fun l nl => q' _ _ (same_new nl) (.tup (.of upd_same) (dpAll_sm (s'.trans (same_new nl)) dL))⟩⟩) mds_nil))))) H5 _ (Same.refl _) (fun H6 vp s6 dp => ?_))
    dsimp only [List.set]
    refine ⟨_, rfl, a, ns, 9, rfl, by decide, (sc.sm (s5.trans s6)).2.2, _, rfl, fun H7 v s7 c7 f7 => ⟨v, 1, rfl, c7, by decide, by decide, fun H8 n k8 c8 n32 => ⟨(by show 1 ≤ sizeLine; rw [sizeLine_eq]; decide), fun B nB => ?_⟩⟩⟩
    have s68 : Same H6 H8 := kp_backB s7 k8 (fun b z => f7 b z)
    have s69 := s68.trans (same_new (o := .lst [.int n]) nB)
    have eB := upd_same (H := H8) (a := B) (o := .lst [.int n])
    dsimp only [gName, List.set]
    generalize upd H8 B (.lst [.int n]) = H9 at s69 eB ⊢
    have s9 := (s5.trans s6).trans s69
    have hok := w5.lw.ok
    obtain ⟨okM, alkM⟩ := main_good nm.nd hok (by omega) oms (by omega) (by omega)
    have pk : PlOk 6 hl [(z9, n)] [] ms := ⟨fun x hx => by rw [List.mem_singleton.mp hx]; exact n32, by show 1 ≤ 100; decide, hok.nodup nm.nd, by omega, by simp, by simp, by simp, fun m hm => ok_upto (okM m hm) (by omega)⟩
    have dp9 : Dp K H9 vp (plD hl [(z9, n)] [] ms) := by
      have : plD hl [(z9, n)] [] ms = .tuple [.tuple (hl.map hlD), .tuple [.str z9], .tuple [], .tuple (ms.map Sm.d)] := by
        unfold plD
        rw [Sm.ds_eq]
        rfl
      rw [this]
      exact dp_sm s69 dp
    have eB' : H9 B = some (.lst (([(z9, n)].map (·.2)).map V.int)) := eB
    obtain ⟨r, td, F, kn', rw', u, lu, he1, he2⟩ := two_ends alkM (knZ [(z9, n)]) (rwZ [])
    have he1' : doAll (hsZ hl) F ms (st0 [(z9, n)] [] 300) = _ := he1
    have he2' : doAll (hsZ hl) F ms (st0 [(z9, n)] [] 1000) = _ := he2
    have ltd := ends2 pk (most := 300) (by decide) he1'
    refine st_asg ((md_lplayed (K := K) (H0 := H9) (σ := [some (.ref a), some (.int c0), some (.ref Ln), some (.ref Lp), some (.ref Lh), y5, some (.ref pi), some (.ref L), x8, x9, some vp, some (.ref B), none, none, none, none]) (L := 300) rfl rfl dp9 (.of eB') pk md_int (by decide) he1') H9 _ (Same.refl _) (fun H10 u10 s10 d10 => ?_))
    dsimp only [List.set]
    have m10 : Md K H10 [some (.ref a), some (.int c0), some (.ref Ln), some (.ref Lp), some (.ref Lh), y5, some (.ref pi), some (.ref L), x8, x9, some vp, some (.ref B), some u10, none, none, none] _ (tVar 12) := md_var rfl d10
    have eB10 := s10 _ _ eB'
    refine st_if (tt_not (tt_b (is_end (K := K) (H0 := H10) (s' := { kn := kn', rw := rw', lf := 1000 - u, td := td }) (r := r) (md_playedD rfl (dp_sm s10 dp9) (fun H' Q s' q' => ⟨_, rfl, q' _ _ (Same.refl _) (.inl (.of (s' _ _ eB10)))⟩) pk he2') (md_cut2 m10) ltd.1 ltd.2 (Same.refl _) (fun H11 s11 => ?_))))
    refine ⟨_, rfl, ifF rfl ?_⟩
    obtain ⟨p12, ts, rfl, hT12, dts⟩ := dp_tup (dp_sm s11 d10)
    obtain ⟨t0, q0, rfl, _, dts⟩ := dpAll_cons dts
    obtain ⟨t1, q1, rfl, _, dts⟩ := dpAll_cons dts
    obtain ⟨t2, q2, rfl, g2, dts⟩ := dpAll_cons dts
    cases dpAll_nil dts
    have eu : ((300 : Nat) : Int) - ((300 - u : Nat) : Int) = (u : Int) := by omega
    rw [eu] at g2
    cases dp_int g2
    have s11' := s9.trans (s10.trans s11)
    have mx : (if (u : Int) > 1 then (u : Int) else 1) > 0 ∧ (if (u : Int) > 1 then (u : Int) else 1) < 2 ^ 64 ∧ (if (u : Int) > 1 then (u : Int) else 1) ≤ 300 := by split <;> omega
    refine ⟨_, rfl, a, ns, 10, rfl, by decide, (sc.sm s11').2.2, _, rfl, p12, _, 2, _, rfl, rfl, hT12, atI_nat (j := 2) rfl, _, _, rfl, .int (cellA ns 10), 1, _, rfl, .inl ⟨_, rfl⟩, by decide, by decide, mx.1, mx.2.1, fun H12 j k12 c12 j0 j1 => ?_⟩
    have s12 := kp_intB k12
    obtain ⟨j, rfl⟩ := Int.eq_ofNat_of_zero_le j0
    have j300 : j ≤ 300 := by have := mx.2.2; omega
    dsimp only [gName, List.set]
    refine ⟨_, rfl, p12, _, 2, _, rfl, rfl, sqT_sm s12 hT12, atI_nat (j := 2) rfl, _, rfl, (by show 2 ≤ sizeLine; rw [sizeLine_eq]; decide), fun Lm nLm => ⟨Lm, rfl, ⟨_, .of upd_same⟩, ?_⟩⟩
    have sM := same_new (o := .lst [.int (u : Int), .int (j : Int)]) nLm
    have eM := upd_same (H := H12) (a := Lm) (o := .lst [.int (u : Int), .int (j : Int)])
    generalize upd H12 Lm (.lst [.int (u : Int), .int (j : Int)]) = H13 at sM eM ⊢
    have s913 := (s10.trans s11).trans (s12.trans sM)
    refine for_list (a := Lm) (xs := [.int (u : Int), .int (j : Int)]) (fun i σ' H' => Same H13 H' ∧ ∃ x14, σ' = [some (.ref a), some (.int c0), some (.ref Ln), some (.ref Lp), some (.ref Lh), y5, some (.ref pi), some (.ref L), x8, x9, some vp, some (.ref B), some (.ref p12), some (.int (j : Int)), x14, none]) ?_ ?_ ?_ ?_
    · exact ⟨Same.refl _, none, rfl⟩
    · rintro i σ' H' _ ⟨s14, _⟩
      exact .of (s14 _ _ eM)
    · rintro i x σ' H14 hx ⟨s14, x14, rfl⟩
      obtain ⟨m, m300, rfl⟩ : ∃ m : Nat, m ≤ 300 ∧ x = .int (m : Int) := by
        have : x = .int (u : Int) ∨ x = .int (j : Int) := by simpa using List.mem_of_getElem? hx
        rcases this with rfl | rfl
        · exact ⟨u, by omega, rfl⟩
        · exact ⟨j, j300, rfl⟩
      dsimp only [gName, List.set]
      obtain ⟨F, r, s', he, l1, l2, l3⟩ := ends pk m (by omega)
      have s914 := s913.trans s14
      have eB14 := s914 _ _ eB'
      refine st_if1 (tt_not (tt_b (is_end (K := K) (H0 := H14) (σ := [some (.ref a), some (.int c0), some (.ref Ln), some (.ref Lp), some (.ref Lh), y5, some (.ref pi), some (.ref L), x8, x9, some vp, some (.ref B), some (.ref p12), some (.int (j : Int)), some (.int (m : Int)), none]) (s' := s') (r := r) (md_playedG (L := m) rfl (dp_sm s914 dp9) (fun H' Q s' q' => ⟨_, rfl, q' _ _ (Same.refl _) (.inl (.of (s' _ _ eB14)))⟩) pk (md_var rfl (.int _)) (by omega) he) (md_cut2 (md_lplayed (L := m) rfl rfl (dp_sm s914 dp9) (.of eB14) pk (md_var rfl (.int _)) (by omega) he)) l1 l2 (Same.refl _) (fun H15 s15 => ?_))))
      refine ⟨_, rfl, ifF rfl ?_⟩
      exact ⟨s14.trans s15, _, rfl⟩
    · rintro σ' H' ⟨_, x14, rfl⟩
      exact q _
end

def d_wrapped : He.DefD := ⟨("wrapped", none), "wrapped", "wrapped", defArgs s_wrapped, defBody s_wrapped, defScope s_wrapped, [], []⟩
def d_divided : He.DefD := ⟨("divided", none), "divided", "divided", defArgs s_divided, defBody s_divided, defScope s_divided, [], []⟩
def d_reckoned : He.DefD := ⟨("reckoned", none), "reckoned", "reckoned", defArgs s_reckoned, defBody s_reckoned, defScope s_reckoned, [], []⟩
def d_denied : He.DefD := ⟨("denied", none), "denied", "denied", defArgs s_denied, defBody s_denied, defScope s_denied, [], []⟩
def d_Faulted___init__ : He.DefD := ⟨("Faulted", some "__init__"), "__init__", "Faulted.__init__", defArgs s_Faulted___init__, defBody s_Faulted___init__, defScope s_Faulted___init__, [], []⟩
def d_Room___init__ : He.DefD := ⟨("Room", some "__init__"), "__init__", "Room.__init__", defArgs s_Room___init__, defBody s_Room___init__, defScope s_Room___init__, [], []⟩
def d_Room_row_with : He.DefD := ⟨("Room", some "row_with"), "row_with", "Room.row_with", defArgs s_Room_row_with, defBody s_Room_row_with, defScope s_Room_row_with, [], []⟩
def d_Room_worth : He.DefD := ⟨("Room", some "worth"), "worth", "Room.worth", defArgs s_Room_worth, defBody s_Room_worth, defScope s_Room_worth, [], []⟩
def d_Play___init__ : He.DefD := ⟨("Play", some "__init__"), "__init__", "Play.__init__", defArgs s_Play___init__, defBody s_Play___init__, defScope s_Play___init__, [], []⟩
def d_Play_take_turn : He.DefD := ⟨("Play", some "take_turn"), "take_turn", "Play.take_turn", defArgs s_Play_take_turn, defBody s_Play_take_turn, defScope s_Play_take_turn, [], []⟩
def d_Play_play_body : He.DefD := ⟨("Play", some "play_body"), "play_body", "Play.play_body", defArgs s_Play_play_body, defBody s_Play_play_body, defScope s_Play_play_body, [], []⟩
def d_Play_do_all : He.DefD := ⟨("Play", some "do_all"), "do_all", "Play.do_all", defArgs s_Play_do_all, defBody s_Play_do_all, defScope s_Play_do_all, [], []⟩
def d_Play_do_one : He.DefD := ⟨("Play", some "do_one"), "do_one", "Play.do_one", defArgs s_Play_do_one, defBody s_Play_do_one, defScope s_Play_do_one, [], []⟩
def d_Play_again : He.DefD := ⟨("Play", some "again"), "again", "Play.again", defArgs s_Play_again, defBody s_Play_again, defScope s_Play_again, [], []⟩
def d_is_input : He.DefD := ⟨("is_input", none), "is_input", "is_input", defArgs s_is_input, defBody s_is_input, defScope s_is_input, [], []⟩
def d_need_inputs : He.DefD := ⟨("need_inputs", none), "need_inputs", "need_inputs", defArgs s_need_inputs, defBody s_need_inputs, defScope s_need_inputs, [], []⟩
def d_played : He.DefD := ⟨("played", none), "played", "played", defArgs s_played, defBody s_played, defScope s_played, [.int 1000], []⟩
def d__law_cell_at : He.DefD := ⟨("_law_cell_at", none), "_law_cell_at", "_law_cell_at", defArgs s__law_cell_at, defBody s__law_cell_at, defScope s__law_cell_at, [], []⟩
def d__law_whole : He.DefD := ⟨("_law_whole", none), "_law_whole", "_law_whole", defArgs s__law_whole, defBody s__law_whole, defScope s__law_whole, [], []⟩
def d__law_held : He.DefD := ⟨("_law_held", none), "_law_held", "_law_held", defArgs s__law_held, defBody s__law_held, defScope s__law_held, [], []⟩
def d__law_mixed : He.DefD := ⟨("_law_mixed", none), "_law_mixed", "_law_mixed", defArgs s__law_mixed, defBody s__law_mixed, defScope s__law_mixed, [], []⟩
def d__law_kept : He.DefD := ⟨("_law_kept", none), "_law_kept", "_law_kept", defArgs s__law_kept, defBody s__law_kept, defScope s__law_kept, [], []⟩
def d__law_letter : He.DefD := ⟨("_law_letter", none), "_law_letter", "_law_letter", defArgs s__law_letter, defBody s__law_letter, defScope s__law_letter, [], []⟩
def d__law_names : He.DefD := ⟨("_law_names", none), "_law_names", "_law_names", defArgs s__law_names, defBody s__law_names, defScope s__law_names, [], []⟩
def d__law_number_by : He.DefD := ⟨("_law_number_by", none), "_law_number_by", "_law_number_by", defArgs s__law_number_by, defBody s__law_number_by, defScope s__law_number_by, [], []⟩
def d__law_within : He.DefD := ⟨("_law_within", none), "_law_within", "_law_within", defArgs s__law_within, defBody s__law_within, defScope s__law_within, [], []⟩
def d__law_expression : He.DefD := ⟨("_law_expression", none), "_law_expression", "_law_expression", defArgs s__law_expression, defBody s__law_expression, defScope s__law_expression, [], []⟩
def d__law_alike : He.DefD := ⟨("_law_alike", none), "_law_alike", "_law_alike", defArgs s__law_alike, defBody s__law_alike, defScope s__law_alike, [], []⟩
def d__law_worth : He.DefD := ⟨("_law_worth", none), "_law_worth", "_law_worth", defArgs s__law_worth, defBody s__law_worth, defScope s__law_worth, [], []⟩
def d__law_done : He.DefD := ⟨("_law_done", none), "_law_done", "_law_done", defArgs s__law_done, defBody s__law_done, defScope s__law_done, [], []⟩
def d__law_again : He.DefD := ⟨("_law_again", none), "_law_again", "_law_again", defArgs s__law_again, defBody s__law_again, defScope s__law_again, [], []⟩
def d__law_one : He.DefD := ⟨("_law_one", none), "_law_one", "_law_one", defArgs s__law_one, defBody s__law_one, defScope s__law_one, [], []⟩
def d__law_called : He.DefD := ⟨("_law_called", none), "_law_called", "_law_called", defArgs s__law_called, defBody s__law_called, defScope s__law_called, [], []⟩
def d__law_played : He.DefD := ⟨("_law_played", none), "_law_played", "_law_played", defArgs s__law_played, defBody s__law_played, defScope s__law_played, [], []⟩
def d__law_is_end : He.DefD := ⟨("_law_is_end", none), "_law_is_end", "_law_is_end", defArgs s__law_is_end, defBody s__law_is_end, defScope s__law_is_end, [], []⟩
def d__law_helper : He.DefD := ⟨("_law_helper", none), "_law_helper", "_law_helper", defArgs s__law_helper, defBody s__law_helper, defScope s__law_helper, [], []⟩
def d_law : He.DefD := ⟨("law", none), "law", "law", defArgs s_law, defBody s_law, defScope s_law, [], []⟩
def fn0 : List He.DefD := [d_wrapped, d_divided, d_reckoned, d_denied, d_Faulted___init__, d_Room___init__, d_Room_row_with, d_Room_worth, d_Play___init__, d_Play_take_turn, d_Play_play_body, d_Play_do_all, d_Play_do_one, d_Play_again, d_is_input, d_need_inputs, d_played, d__law_cell_at, d__law_whole, d__law_held, d__law_mixed, d__law_kept, d__law_letter, d__law_names, d__law_number_by, d__law_within, d__law_expression, d__law_alike, d__law_worth, d__law_done]
def fn1 : List He.DefD := [d__law_again, d__law_one, d__law_called, d__law_played, d__law_is_end, d__law_helper, d_law]
def fn : List He.DefD := fn0 ++ fn1
def fa0 : List He.Fa := [.glo "wrapped", .glo "divided", .glo "reckoned", .glo "denied", .meth "Room" "__init__", .meth "Room" "row_with", .meth "Room" "worth", .meth "Play" "__init__", .meth "Play" "take_turn", .meth "Play" "play_body", .meth "Play" "do_all", .meth "Play" "do_one", .meth "Play" "again", .glo "is_input", .glo "need_inputs", .glo "played", .glo "_law_cell_at", .glo "_law_whole", .glo "_law_held", .glo "_law_mixed", .glo "_law_kept", .glo "_law_letter", .glo "_law_names", .glo "_law_number_by", .glo "_law_within", .glo "_law_expression", .glo "_law_alike", .glo "_law_worth", .glo "_law_done", .glo "_law_again"]
def fa1 : List He.Fa := [.glo "_law_one", .glo "_law_called", .glo "_law_played", .glo "_law_is_end", .glo "_law_helper", .glo "law", .glo "WorkError", .exc "WorkError", .glo "NoInputs", .exc "NoInputs", .glo "Faulted", .glo "Unended", .exc "Unended", .glo "Room", .cls "Room", .noat "Room" "known", .noat "Room" "rows", .mkr "Room", .glo "Play", .cls "Play", .noat "Play" "helpers", .noat "Play" "left", .noat "Play" "told", .mkr "Play", .exm "Unended" "Unended" true, .exm "Unended" "Faulted" false, .exm "Faulted" "Faulted" true, .free "all", .free "bool", .free "dict"]
def fa2 : List He.Fa := [.free "divmod", .free "int", .free "isinstance", .free "len", .free "list", .free "max", .free "range", .free "str", .free "tuple", .free "zip", .int "HALF" (2147483648), .int "ROUND" (4294967296)]
def fa : List He.Fa := fa0 ++ fa1 ++ fa2
def exB (K : PySem.W.Frag) : Bool := weB K (He.ga K "WorkError") && (oexB K (He.ga K "Faulted") && (oinB K (He.ga K "Faulted") (He.ma K (He.ga K "Faulted") "__init__") && (xfB K (He.ga K "Faulted") && (nofB K (He.ga K "Faulted") "word"))))
abbrev hk : PySem.W.Hook := hookE 4 fa fn exB
def ob (s : PySem.W.SharedT) : He.AlD × Bool := obsE 4 fa fn exB (HandSHeadRun.getT s)
theorem ob_eq (s : PySem.W.SharedT) : ob s = hk.obs s.abs := obsE_eq (HandSHeadRun.getT_eq s)
abbrev R : PySem.W.OpenRow := PySem.W.OpenLaw.row PySem.Challenge.rw_passworks_k13_helpers
def lo0 : List PySem.Str := ["WorkError", "NoInputs", "HALF", "ROUND", "wrapped", "divided", "reckoned", "denied", "Faulted", "Unended", "Room", "Play", "is_input", "need_inputs", "played", "_law_cell_at", "_law_whole", "_law_held", "_law_mixed", "_law_kept", "_law_letter", "_law_names", "_law_number_by", "_law_within", "_law_expression", "_law_alike", "_law_worth", "_law_done", "_law_again", "_law_one"]
def lo1 : List PySem.Str := ["_law_called", "_law_played", "_law_is_end", "_law_helper"]
def lo : List PySem.Str := lo0 ++ lo1
theorem run (w : World) : HandSHeadRun.RunEq R (PySem.W.view R.prog [38]) hk ob 4000 lo w := by
  intro os
  kernel_rfl
theorem top_of {K : PySem.W.Frag} {h : Heap} {mg : Str → Option Value} (X : K.In h) (G : h.Ns mainGlobals mg) (c : SaysE fa fn exB K) : Nonempty (Top K mg) := by
  obtain ⟨fd0, F0⟩ := c.1.def_ 0 (d := d_wrapped) rfl
  obtain ⟨fd1, F1⟩ := c.1.def_ 1 (d := d_divided) rfl
  obtain ⟨fd2, F2⟩ := c.1.def_ 2 (d := d_reckoned) rfl
  obtain ⟨fd3, F3⟩ := c.1.def_ 3 (d := d_denied) rfl
  obtain ⟨fd4, F4⟩ := c.1.def_ 4 (d := d_Faulted___init__) rfl
  obtain ⟨fd5, F5⟩ := c.1.def_ 5 (d := d_Room___init__) rfl
  obtain ⟨fd6, F6⟩ := c.1.def_ 6 (d := d_Room_row_with) rfl
  obtain ⟨fd7, F7⟩ := c.1.def_ 7 (d := d_Room_worth) rfl
  obtain ⟨fd8, F8⟩ := c.1.def_ 8 (d := d_Play___init__) rfl
  obtain ⟨fd9, F9⟩ := c.1.def_ 9 (d := d_Play_take_turn) rfl
  obtain ⟨fd10, F10⟩ := c.1.def_ 10 (d := d_Play_play_body) rfl
  obtain ⟨fd11, F11⟩ := c.1.def_ 11 (d := d_Play_do_all) rfl
  obtain ⟨fd12, F12⟩ := c.1.def_ 12 (d := d_Play_do_one) rfl
  obtain ⟨fd13, F13⟩ := c.1.def_ 13 (d := d_Play_again) rfl
  obtain ⟨fd14, F14⟩ := c.1.def_ 14 (d := d_is_input) rfl
  obtain ⟨fd15, F15⟩ := c.1.def_ 15 (d := d_need_inputs) rfl
  obtain ⟨fd16, F16⟩ := c.1.def_ 16 (d := d_played) rfl
  obtain ⟨fd17, F17⟩ := c.1.def_ 17 (d := d__law_cell_at) rfl
  obtain ⟨fd18, F18⟩ := c.1.def_ 18 (d := d__law_whole) rfl
  obtain ⟨fd19, F19⟩ := c.1.def_ 19 (d := d__law_held) rfl
  obtain ⟨fd20, F20⟩ := c.1.def_ 20 (d := d__law_mixed) rfl
  obtain ⟨fd21, F21⟩ := c.1.def_ 21 (d := d__law_kept) rfl
  obtain ⟨fd22, F22⟩ := c.1.def_ 22 (d := d__law_letter) rfl
  obtain ⟨fd23, F23⟩ := c.1.def_ 23 (d := d__law_names) rfl
  obtain ⟨fd24, F24⟩ := c.1.def_ 24 (d := d__law_number_by) rfl
  obtain ⟨fd25, F25⟩ := c.1.def_ 25 (d := d__law_within) rfl
  obtain ⟨fd26, F26⟩ := c.1.def_ 26 (d := d__law_expression) rfl
  obtain ⟨fd27, F27⟩ := c.1.def_ 27 (d := d__law_alike) rfl
  obtain ⟨fd28, F28⟩ := c.1.def_ 28 (d := d__law_worth) rfl
  obtain ⟨fd29, F29⟩ := c.1.def_ 29 (d := d__law_done) rfl
  obtain ⟨fd30, F30⟩ := c.1.def_ 30 (d := d__law_again) rfl
  obtain ⟨fd31, F31⟩ := c.1.def_ 31 (d := d__law_one) rfl
  obtain ⟨fd32, F32⟩ := c.1.def_ 32 (d := d__law_called) rfl
  obtain ⟨fd33, F33⟩ := c.1.def_ 33 (d := d__law_played) rfl
  obtain ⟨fd34, F34⟩ := c.1.def_ 34 (d := d__law_is_end) rfl
  obtain ⟨fd35, F35⟩ := c.1.def_ 35 (d := d__law_helper) rfl
  obtain ⟨fd36, F36⟩ := c.1.def_ 36 (d := d_law) rfl
  obtain ⟨tk_HALF, ck_HALF⟩ := He.int_ok X G (c.1.fact 70 (f := .int "HALF" (2147483648)) rfl)
  obtain ⟨tk_ROUND, ck_ROUND⟩ := He.int_ok X G (c.1.fact 71 (f := .int "ROUND" (4294967296)) rfl)
  have hx := c.2
  obtain ⟨hx0, hy0⟩ := He.ba (show (weB K (He.ga K "WorkError") && _) = true from hx)
  obtain ⟨hx1, hy1⟩ := He.ba (show (oexB K (He.ga K "Faulted") && _) = true from hy0)
  obtain ⟨hx2, hy2⟩ := He.ba (show (oinB K (He.ga K "Faulted") (He.ma K (He.ga K "Faulted") "__init__") && _) = true from hy1)
  obtain ⟨hx3, hy3⟩ := He.ba (show (xfB K (He.ga K "Faulted") && _) = true from hy2)
  have hx4 : (nofB K (He.ga K "Faulted") "word") = true := hy3
  exact ⟨{ fd_wrapped := fd0, F_wrapped := F0, b_wrapped := FunD.bindsN F0 fun _ _ _ _ _ _ us hl => (match us, hl with | [_], _ => rfl), g_wrapped := He.glo_ok X G (c.1.fact 0 (f := .glo "wrapped") rfl), fd_divided := fd1, F_divided := F1, b_divided := FunD.bindsN F1 fun _ _ _ _ _ _ us hl => (match us, hl with | [_, _, _], _ => rfl), g_divided := He.glo_ok X G (c.1.fact 1 (f := .glo "divided") rfl), fd_reckoned := fd2, F_reckoned := F2, b_reckoned := FunD.bindsN F2 fun _ _ _ _ _ _ us hl => (match us, hl with | [_, _, _], _ => rfl), g_reckoned := He.glo_ok X G (c.1.fact 2 (f := .glo "reckoned") rfl), fd_denied := fd3, F_denied := F3, b_denied := FunD.bindsN F3 fun _ _ _ _ _ _ us hl => (match us, hl with | [_], _ => rfl), g_denied := He.glo_ok X G (c.1.fact 3 (f := .glo "denied") rfl), fd_Faulted___init__ := fd4, F_Faulted___init__ := F4, b_Faulted___init__ := FunD.bindsN F4 fun _ _ _ _ _ _ us hl => (match us, hl with | [_, _], _ => rfl), fd_Room___init__ := fd5, F_Room___init__ := F5, b_Room___init__ := FunD.bindsN F5 fun _ _ _ _ _ _ us hl => (match us, hl with | [_, _, _, _], _ => rfl), me_Room___init__ := He.meth_ok (c.1.fact 4 (f := .meth "Room" "__init__") rfl), fd_Room_row_with := fd6, F_Room_row_with := F6, b_Room_row_with := FunD.bindsN F6 fun _ _ _ _ _ _ us hl => (match us, hl with | [_, _, _], _ => rfl), me_Room_row_with := He.meth_ok (c.1.fact 5 (f := .meth "Room" "row_with") rfl), fd_Room_worth := fd7, F_Room_worth := F7, b_Room_worth := FunD.bindsN F7 fun _ _ _ _ _ _ us hl => (match us, hl with | [_, _], _ => rfl), me_Room_worth := He.meth_ok (c.1.fact 6 (f := .meth "Room" "worth") rfl), fd_Play___init__ := fd8, F_Play___init__ := F8, b_Play___init__ := FunD.bindsN F8 fun _ _ _ _ _ _ us hl => (match us, hl with | [_, _, _], _ => rfl), me_Play___init__ := He.meth_ok (c.1.fact 7 (f := .meth "Play" "__init__") rfl), fd_Play_take_turn := fd9, F_Play_take_turn := F9, b_Play_take_turn := FunD.bindsN F9 fun _ _ _ _ _ _ us hl => (match us, hl with | [_], _ => rfl), me_Play_take_turn := He.meth_ok (c.1.fact 8 (f := .meth "Play" "take_turn") rfl), fd_Play_play_body := fd10, F_Play_play_body := F10, b_Play_play_body := FunD.bindsN F10 fun _ _ _ _ _ _ us hl => (match us, hl with | [_, _, _], _ => rfl), me_Play_play_body := He.meth_ok (c.1.fact 9 (f := .meth "Play" "play_body") rfl), fd_Play_do_all := fd11, F_Play_do_all := F11, b_Play_do_all := FunD.bindsN F11 fun _ _ _ _ _ _ us hl => (match us, hl with | [_, _, _], _ => rfl), me_Play_do_all := He.meth_ok (c.1.fact 10 (f := .meth "Play" "do_all") rfl), fd_Play_do_one := fd12, F_Play_do_one := F12, b_Play_do_one := FunD.bindsN F12 fun _ _ _ _ _ _ us hl => (match us, hl with | [_, _, _], _ => rfl), me_Play_do_one := He.meth_ok (c.1.fact 11 (f := .meth "Play" "do_one") rfl), fd_Play_again := fd13, F_Play_again := F13, b_Play_again := FunD.bindsN F13 fun _ _ _ _ _ _ us hl => (match us, hl with | [_, _, _], _ => rfl), me_Play_again := He.meth_ok (c.1.fact 12 (f := .meth "Play" "again") rfl), fd_is_input := fd14, F_is_input := F14, b_is_input := FunD.bindsN F14 fun _ _ _ _ _ _ us hl => (match us, hl with | [_], _ => rfl), g_is_input := He.glo_ok X G (c.1.fact 13 (f := .glo "is_input") rfl), fd_need_inputs := fd15, F_need_inputs := F15, b_need_inputs := FunD.bindsN F15 fun _ _ _ _ _ _ us hl => (match us, hl with | [_, _], _ => rfl), g_need_inputs := He.glo_ok X G (c.1.fact 14 (f := .glo "need_inputs") rfl), fd_played := fd16, F_played := F16, b2_played := FunD.binds1 F16 2 0 (by simp [He.DefD.dvs, d_played]) rfl fun _ _ _ _ _ _ _ us its hu hi => (match us, hu, its, hi with | [_, _], _, [_], _ => ⟨_, rfl, rfl⟩), b_played := FunD.binds1 F16 3 1 (by simp [He.DefD.dvs, d_played]) rfl fun _ _ _ _ _ _ _ us its hu hi => (match us, hu, its, hi with | [_, _, _], _, [_], _ => ⟨_, rfl, rfl⟩), g_played := He.glo_ok X G (c.1.fact 15 (f := .glo "played") rfl), fd__law_cell_at := fd17, F__law_cell_at := F17, b__law_cell_at := FunD.bindsN F17 fun _ _ _ _ _ _ us hl => (match us, hl with | [_, _], _ => rfl), g__law_cell_at := He.glo_ok X G (c.1.fact 16 (f := .glo "_law_cell_at") rfl), fd__law_whole := fd18, F__law_whole := F18, b__law_whole := FunD.bindsN F18 fun _ _ _ _ _ _ us hl => (match us, hl with | [_], _ => rfl), g__law_whole := He.glo_ok X G (c.1.fact 17 (f := .glo "_law_whole") rfl), fd__law_held := fd19, F__law_held := F19, b__law_held := FunD.bindsN F19 fun _ _ _ _ _ _ us hl => (match us, hl with | [_], _ => rfl), g__law_held := He.glo_ok X G (c.1.fact 18 (f := .glo "_law_held") rfl), fd__law_mixed := fd20, F__law_mixed := F20, b__law_mixed := FunD.bindsN F20 fun _ _ _ _ _ _ us hl => (match us, hl with | [_, _, _], _ => rfl), g__law_mixed := He.glo_ok X G (c.1.fact 19 (f := .glo "_law_mixed") rfl), fd__law_kept := fd21, F__law_kept := F21, b__law_kept := FunD.bindsN F21 fun _ _ _ _ _ _ us hl => (match us, hl with | [], _ => rfl), g__law_kept := He.glo_ok X G (c.1.fact 20 (f := .glo "_law_kept") rfl), fd__law_letter := fd22, F__law_letter := F22, b__law_letter := FunD.bindsN F22 fun _ _ _ _ _ _ us hl => (match us, hl with | [_], _ => rfl), g__law_letter := He.glo_ok X G (c.1.fact 21 (f := .glo "_law_letter") rfl), fd__law_names := fd23, F__law_names := F23, b__law_names := FunD.bindsN F23 fun _ _ _ _ _ _ us hl => (match us, hl with | [_], _ => rfl), g__law_names := He.glo_ok X G (c.1.fact 22 (f := .glo "_law_names") rfl), fd__law_number_by := fd24, F__law_number_by := F24, b__law_number_by := FunD.bindsN F24 fun _ _ _ _ _ _ us hl => (match us, hl with | [_, _], _ => rfl), g__law_number_by := He.glo_ok X G (c.1.fact 23 (f := .glo "_law_number_by") rfl), fd__law_within := fd25, F__law_within := F25, b__law_within := FunD.bindsN F25 fun _ _ _ _ _ _ us hl => (match us, hl with | [_, _], _ => rfl), g__law_within := He.glo_ok X G (c.1.fact 24 (f := .glo "_law_within") rfl), fd__law_expression := fd26, F__law_expression := F26, b__law_expression := FunD.bindsN F26 fun _ _ _ _ _ _ us hl => (match us, hl with | [_, _, _], _ => rfl), g__law_expression := He.glo_ok X G (c.1.fact 25 (f := .glo "_law_expression") rfl), fd__law_alike := fd27, F__law_alike := F27, b__law_alike := FunD.bindsN F27 fun _ _ _ _ _ _ us hl => (match us, hl with | [_, _], _ => rfl), g__law_alike := He.glo_ok X G (c.1.fact 26 (f := .glo "_law_alike") rfl), fd__law_worth := fd28, F__law_worth := F28, b__law_worth := FunD.bindsN F28 fun _ _ _ _ _ _ us hl => (match us, hl with | [_, _], _ => rfl), g__law_worth := He.glo_ok X G (c.1.fact 27 (f := .glo "_law_worth") rfl), fd__law_done := fd29, F__law_done := F29, b__law_done := FunD.bindsN F29 fun _ _ _ _ _ _ us hl => (match us, hl with | [_, _, _], _ => rfl), g__law_done := He.glo_ok X G (c.1.fact 28 (f := .glo "_law_done") rfl), fd__law_again := fd30, F__law_again := F30, b__law_again := FunD.bindsN F30 fun _ _ _ _ _ _ us hl => (match us, hl with | [_, _, _], _ => rfl), g__law_again := He.glo_ok X G (c.1.fact 29 (f := .glo "_law_again") rfl), fd__law_one := fd31, F__law_one := F31, b__law_one := FunD.bindsN F31 fun _ _ _ _ _ _ us hl => (match us, hl with | [_, _, _], _ => rfl), g__law_one := He.glo_ok X G (c.1.fact 30 (f := .glo "_law_one") rfl), fd__law_called := fd32, F__law_called := F32, b__law_called := FunD.bindsN F32 fun _ _ _ _ _ _ us hl => (match us, hl with | [_, _, _, _], _ => rfl), g__law_called := He.glo_ok X G (c.1.fact 31 (f := .glo "_law_called") rfl), fd__law_played := fd33, F__law_played := F33, b__law_played := FunD.bindsN F33 fun _ _ _ _ _ _ us hl => (match us, hl with | [_, _, _], _ => rfl), g__law_played := He.glo_ok X G (c.1.fact 32 (f := .glo "_law_played") rfl), fd__law_is_end := fd34, F__law_is_end := F34, b__law_is_end := FunD.bindsN F34 fun _ _ _ _ _ _ us hl => (match us, hl with | [_, _], _ => rfl), g__law_is_end := He.glo_ok X G (c.1.fact 33 (f := .glo "_law_is_end") rfl), fd__law_helper := fd35, F__law_helper := F35, b__law_helper := FunD.bindsN F35 fun _ _ _ _ _ _ us hl => (match us, hl with | [_, _, _, _], _ => rfl), g__law_helper := He.glo_ok X G (c.1.fact 34 (f := .glo "_law_helper") rfl), fd_law := fd36, F_law := F36, b_law := FunD.bindsN F36 fun _ _ _ _ _ _ us hl => (match us, hl with | [_], _ => rfl), g_law := He.glo_ok X G (c.1.fact 35 (f := .glo "law") rfl), g_WorkError := He.glo_ok X G (c.1.fact 36 (f := .glo "WorkError") rfl), we_WorkError := weB_ok hx0, x_WorkError := He.exc_ok (c.1.fact 37 (f := .exc "WorkError") rfl), g_NoInputs := He.glo_ok X G (c.1.fact 38 (f := .glo "NoInputs") rfl), x_NoInputs := He.exc_ok (c.1.fact 39 (f := .exc "NoInputs") rfl), g_Faulted := He.glo_ok X G (c.1.fact 40 (f := .glo "Faulted") rfl), o_Faulted := oexB_ok hx1, in_Faulted := oinB_ok hx2, xf_Faulted := xfB_ok hx3, nf_Faulted_word := nofB_ok hx4, g_Unended := He.glo_ok X G (c.1.fact 41 (f := .glo "Unended") rfl), x_Unended := He.exc_ok (c.1.fact 42 (f := .exc "Unended") rfl), g_Room := He.glo_ok X G (c.1.fact 43 (f := .glo "Room") rfl), cl_Room := He.cls_ok (c.1.fact 44 (f := .cls "Room") rfl), no_Room_known := He.noat_ok (c.1.fact 45 (f := .noat "Room" "known") rfl), no_Room_rows := He.noat_ok (c.1.fact 46 (f := .noat "Room" "rows") rfl), mk_Room := He.mkr_ok (c.1.fact 47 (f := .mkr "Room") rfl), g_Play := He.glo_ok X G (c.1.fact 48 (f := .glo "Play") rfl), cl_Play := He.cls_ok (c.1.fact 49 (f := .cls "Play") rfl), no_Play_helpers := He.noat_ok (c.1.fact 50 (f := .noat "Play" "helpers") rfl), no_Play_left := He.noat_ok (c.1.fact 51 (f := .noat "Play" "left") rfl), no_Play_told := He.noat_ok (c.1.fact 52 (f := .noat "Play" "told") rfl), mk_Play := He.mkr_ok (c.1.fact 53 (f := .mkr "Play") rfl), em_Unended_Unended := He.exm_ok (c.1.fact 54 (f := .exm "Unended" "Unended" true) rfl), em_Unended_Faulted := He.exm_ok (c.1.fact 55 (f := .exm "Unended" "Faulted" false) rfl), em_Faulted_Faulted := He.exm_ok (c.1.fact 56 (f := .exm "Faulted" "Faulted" true) rfl), m_all := He.free_ok X G (c.1.fact 57 (f := .free "all") rfl), m_bool := He.free_ok X G (c.1.fact 58 (f := .free "bool") rfl), m_dict := He.free_ok X G (c.1.fact 59 (f := .free "dict") rfl), m_divmod := He.free_ok X G (c.1.fact 60 (f := .free "divmod") rfl), m_int := He.free_ok X G (c.1.fact 61 (f := .free "int") rfl), m_isinstance := He.free_ok X G (c.1.fact 62 (f := .free "isinstance") rfl), m_len := He.free_ok X G (c.1.fact 63 (f := .free "len") rfl), m_list := He.free_ok X G (c.1.fact 64 (f := .free "list") rfl), m_max := He.free_ok X G (c.1.fact 65 (f := .free "max") rfl), m_range := He.free_ok X G (c.1.fact 66 (f := .free "range") rfl), m_str := He.free_ok X G (c.1.fact 67 (f := .free "str") rfl), m_tuple := He.free_ok X G (c.1.fact 68 (f := .free "tuple") rfl), m_zip := He.free_ok X G (c.1.fact 69 (f := .free "zip") rfl), t_HALF := tk_HALF, c_HALF := ck_HALF, t_ROUND := tk_ROUND, c_ROUND := ck_ROUND }⟩
theorem law_binds {K : PySem.W.Frag} {mg : Str → Option Value} (T : Top K mg) (s : Shared) (u : Value) : BindsTo s T.fd_law ⟨[u], []⟩ [("_law_script", u)] :=
  FunD.bindsA (ps := ["_law_script"]) T.F_law (fun _ _ _ _ _ _ us hl => (match us, hl with | [_], _ => rfl)) s [u] rfl
end K13
namespace K13
open PySem PySem.Spec PyProof.Rows L2
theorem law_F (w : World) (mg : Str → Option Value) (fa : Addr) (h : Heap) (Y : hk.says w h) (G : h.Ns mainGlobals mg) (hmg : mg "law" = some (.ref fa)) :
    ∃ (K : PySem.W.Frag) (fd : FuncData) (sp : Sp), K.In h ∧ (∀ (s : Shared) (u : Value), BindsTo s fd ⟨[u], []⟩ [("_law_script", u)]) ∧
        (∀ (H : Hp) (a : Addr) (ns : List Int), ns.length ≤ 63 → (∀ z ∈ ns, Builtin.Int.intBits z ≤ 1048576) → Only H → SqL K H a (ns.map V.int) → sp [.ref a] H (fun v _ => v = .bl true) fun _ _ _ => False) ∧
        ∀ base : Heap, K.In base → base.Ns mainGlobals mg → FnOk (PySem.Challenge.rw_passworks_k13_helpers).prog w K mg base L2.CX0 60 fa fd ["_law_script"] sp := by
  obtain ⟨K, KX, c⟩ := Y
  obtain ⟨T⟩ := top_of KX G c
  obtain rfl : He.ga K "law" = fa := by
    have e := T.g_law.symm.trans hmg
    injection e with e
    injection e
  exact ⟨K, T.fd_law, sp_law K, KX, law_binds T, fun H a ns hl hb _ hS => law_start hl hb hS, fun base _ _ => ok_law T⟩
end K13
open PySem PySem.W PySem.Calls PyProof.Rows
theorem K13.law_nm : (HandSHeadRun.topDef (OpenLaw.row PySem.Challenge.rw_passworks_k13_helpers).prog 38).name = ("law" : PySem.Str) := by kernel_rfl
theorem K13.law_walk : PySem.W.WalkO (view (OpenLaw.row PySem.Challenge.rw_passworks_k13_helpers).prog [38]) K13.lo (XL (view (OpenLaw.row PySem.Challenge.rw_passworks_k13_helpers).prog [38]) []) K13.hk.says (OpenLaw.row PySem.Challenge.rw_passworks_k13_helpers).toRowW (HandSHeadRun.topDef (OpenLaw.row PySem.Challenge.rw_passworks_k13_helpers).prog 38) [] (fun f vs => PySem.call f vs) :=
  K13.walk_bits (l := PySem.Challenge.rw_passworks_k13_helpers) (n := 63) (k := 60) (x := "_law_script") (CX := L2.CX0) rfl (by decide) (by kernel_rfl) ⟨rfl, by decide, by decide⟩ (fun w mg fa h Y G hmg0 => K13.law_F w mg fa h Y G (K13.law_nm ▸ hmg0)) (fun _ _ _ _ z => z)
theorem PySem.Challenge.cw_passworks_k13_helpers_holds : PySem.Challenge.rw_passworks_k13_helpers.Holds := by
  w_on; o_law
  refine HandSHeadRun.head_any (r := OpenLaw.row PySem.Challenge.rw_passworks_k13_helpers) (q := view (OpenLaw.row PySem.Challenge.rw_passworks_k13_helpers).prog [38]) (H := K13.hk) (ob := K13.ob) (M := 4000) (loose := K13.lo) (d := HandSHeadRun.topDef (OpenLaw.row PySem.Challenge.rw_passworks_k13_helpers).prog 38) (kwd := []) K13.ob_eq
    (by kernel_rfl) (fun s => by kernel_rfl) K13.run (by kernel_rfl) (by kernel_rfl) (by kernel_rfl) (by rfl) (by first | assumption | decide +kernel) (by decide +kernel) ⟨rfl, rfl, rfl, rfl, rfl, by decide +kernel⟩ ?hw K13.law_walk
  case hw => w_witness2

