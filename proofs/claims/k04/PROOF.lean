import PyProof.Rows.All
import Wide.All
import OpenK.AllK
import Wide.FinOn
import KE.KStateDown
import KE.KRevSl
import Lean
import HandS.ForMost
import HandS.Wide
import KE.GoesEnum
import HandS.Iter
import HandS.Walk
import HandS.WideBits
import HandS.IsInst
import HandS.Flow
import HandS.Style
import HandS.Exc
import HandS.ExcOwn
import HandS.TryMany
import HandS.TryOnly
import HandS.WordsExc
import HandS.ForExc
import HandS.FStr
import HandS.RaiseMore
import HandS.TupAny
import HandS.Defaults
import HandS.Zip
import HandS.CallSlots
import HandS.TupMul
import HandS.More
import HandS.ExcInit
import HandS.ExcField
import KE.GoesNew
import KE.GoesMore
import KE.KDictZip
import HandS.ExcIs
import HandS.ExcValue
import HandS.EndBits
import HandS.Head0
import HandS.Head1
import HandS.Head2
import HandS.HeadEnd
import HandS.HeadHook1
import HandS.HeadHook2
import HandS.StrMore
import HandS.WordsDict
import PySem.Challenge.RW_passworks_k04_programs
set_option Elab.async false
set_option linter.all false
set_option maxRecDepth 100000
set_option maxHeartbeats 4000000
namespace K04
/-! what the head shows: defs, facts by names, one more Bool -/
open PySem PySem.Spec PyProof.Rows L2
def obsE (n : Nat) (fa : List He.Fa) (fn : List He.DefD) (ex : PySem.W.Frag → Bool) (g : Addr → Option Obj) : He.AlD × Bool :=
  (He.obsD fa fn (He.frG g (List.range n)), ex (He.frG g (List.range n)))
theorem map3 {α β γ δ : Type} {E : Option α} {f : α → β} {g : α → γ} {h : α → δ} {x : β} {y : γ} {z : δ} (h1 : E.map f = some x) (h2 : E.map g = some y) (h3 : E.map h = some z) : E.map (fun s => (f s, g s, h s)) = some (x, y, z) := by
  cases E with
  | none => cases h1
  | some s =>
    injection h1 with h1
    injection h2 with h2
    injection h3 with h3
    show some (f s, g s, h s) = _
    rw [h1, h2, h3]
def SaysE (fa : List He.Fa) (fn : List He.DefD) (ex : PySem.W.Frag → Bool) (K : PySem.W.Frag) : Prop := He.SaysD fa fn K ∧ ex K = true
def hookE (n : Nat) (fa : List He.Fa) (fn : List He.DefD) (ex : PySem.W.Frag → Bool) : PySem.W.Hook where
  α := He.AlD × Bool
  obs := fun s => obsE n fa fn ex s.heap.get?
  val := fun _ => (He.valD fn, true)
  says := fun _ h => ∃ K : PySem.W.Frag, K.In h ∧ SaysE fa fn ex K
  of := fun _ _ z => ⟨_, He.frG_in, congrArg Prod.fst z, congrArg Prod.snd z⟩
  keeps := fun _ _ _ ⟨K, a, c⟩ k => ⟨K, a.keeps k, c⟩
theorem obsE_eq {n : Nat} {fa : List He.Fa} {fn : List He.DefD} {ex : PySem.W.Frag → Bool} {g : Addr → Option Obj} {s : Shared} (z : ∀ a, g a = s.heap.get? a) :
    obsE n fa fn ex g = (hookE n fa fn ex).obs s := by
  obtain rfl : g = s.heap.get? := funext z
  rfl
/-- a law's end, the bits of the script's numbers told -/
theorem walk_bits {l : PySem.W.OpenLaw} {n k : Nat} {q : Program} {loose : List Str} {XP : (Str → Option Value) → Heap → Prop} {YP : World → Heap → Prop} {d : DefRec} {CX : CXT} {x : Str}
    (hn : l.most = some n) (hn2 : n ≤ sizeLine) (hdf : d.params.defaults = []) (hr : Room k callerA)
    (F : ∀ (w : World) (mg : Str → Option Value) (fa : Addr) (h : Heap), YP w h → h.Ns mainGlobals mg → mg d.name = some (.ref fa) →
      ∃ (K : PySem.W.Frag) (fd : FuncData) (sp : Sp), K.In h ∧ (∀ (s : Shared) (u : Value), BindsTo s fd ⟨[u], []⟩ [(x, u)]) ∧
        (∀ (H : Hp) (a : Addr) (ns : List Int), ns.length ≤ n → (∀ z ∈ ns, Builtin.Int.intBits z ≤ 1048576) → Only H → SqL K H a (ns.map V.int) →
          sp [.ref a] H (fun v _ => v = .bl true) fun _ _ _ => False) ∧
        ∀ base : Heap, K.In base → base.Ns mainGlobals mg → FnOk l.prog w K mg base CX k fa fd [x] sp)
    (hCX : ∀ (H : Hp) (s : Shared) (e : Value) (s' : Shared), CX [] H s (fun _ _ _ => False) e s' → False) :
    PySem.W.WalkO q loose XP YP l.row.toRowW d [] (fun f vs => PySem.call f vs) := by
  apply Att.attach_callB hn hdf
  intro w s0 s1 mg mb fa o pm cd doc a vs ns G Y ho hd hcd hmg hobj hints hlen hbits hg
  obtain ⟨K, fd, sp, KX, hb, hsp, hF⟩ := F w mg fa _ Y G.T.g hmg
  exact law_call KX G.T.g G.T.b G.T.builtins G.T.nolimit hg hobj hints (Nat.le_trans hlen hn2) hr hF hb (fun H z1 z2 => hsp H a ns hlen hbits z1 z2)
    (fun H e s' => hCX H s1 e s')
/-! heaps -/
theorem same_new {H : Hp} {p : Addr} {o : HO} (z : H p = none) : Same H (upd H p o) := by
  intro b x e
  rw [upd_ne (ne_of_none e z)]
  exact e
theorem at_ints {ns : List Int} {i : Int} (h0 : 0 ≤ i) (h1 : i < ns.length) : atI (ns.map V.int) i = some (.int (ns.getD i.toNat 0)) := by
  obtain ⟨j, rfl⟩ := Int.eq_ofNat_of_zero_le h0
  have hj : j < ns.length := by omega
  refine atI_nat ?_
  rw [List.getElem?_map, List.getElem?_eq_getElem hj]
  simp [List.getD, hj]
/-- what stands behind a statement, once for all its ways -/
theorem seq_by {t u : TS} {D : Ends} {σ : L2.St} {H : Hp} (Pv : L2.St → Hp → Prop) (fin : ∀ σ' H', Pv σ' H' → u D σ' H')
    (first : ∀ N : L2.St → Hp → Prop, (∀ σ' H', Pv σ' H' → N σ' H') → t { D with nx := N } σ H) : tSeq t u D σ H := first _ fin
theorem ifs_by {c : TT} {t1 t2 u : TS} {D : Ends} {σ : L2.St} {H : Hp} (Pv : L2.St → Hp → Prop) (fin : ∀ σ' H', Pv σ' H' → u D σ' H')
    (first : ∀ N : L2.St → Hp → Prop, (∀ σ' H', Pv σ' H' → N σ' H') → tIfS c t1 t2 { D with nx := N } σ H) : tSeq (tIfS c t1 t2) u D σ H := first _ fin
theorem ifD {c A B : Prop} [Decidable c] (hc : c) (h : A) : if decide c = true then A else B := by
  rw [if_pos (decide_eq_true hc)]
  exact h
theorem ifN {c A B : Prop} [Decidable c] (hc : ¬ c) (h : B) : if decide c = true then A else B := by
  rw [if_neg (by rw [decide_eq_true_eq]; exact hc)]
  exact h
theorem blD {c : Prop} [Decidable c] {Q : VK} {H : Hp} (hc : c) (h : Q (.bl true) H) : Q (.bl (decide c)) H := by
  rw [decide_eq_true hc]
  exact h
theorem blN {c : Prop} [Decidable c] {Q : VK} {H : Hp} (hc : ¬ c) (h : Q (.bl false) H) : Q (.bl (decide c)) H := by
  rw [decide_eq_false hc]
  exact h
theorem getD_all {α : Type} {Pr : α → Prop} {ns : List α} {d : α} (h : ∀ x ∈ ns, Pr x) {j : Int} (h0 : 0 ≤ j) (h1 : j < ns.length) : Pr (ns.getD j.toNat d) := by
  have hi : j.toNat < ns.length := by omega
  have e : ns.getD j.toNat d = ns[j.toNat]'hi := by simp [List.getD, hi]
  rw [e]
  exact h _ (List.getElem_mem _)
theorem ifNF {c A B : Prop} [Decidable c] (hc : c) (h : B) : if (!decide c) = true then A else B := by
  rw [decide_eq_true hc]
  exact h
theorem ifNT {c A B : Prop} [Decidable c] (hc : ¬ c) (h : A) : if (!decide c) = true then A else B := by
  rw [decide_eq_false hc]
  exact h
theorem at_list {α : Type} {ns : List α} {i : Int} (h0 : 0 ≤ i) (h1 : i < ns.length) : ∃ x ∈ ns, atI ns i = some x := by
  obtain ⟨j, rfl⟩ := Int.eq_ofNat_of_zero_le h0
  have hj : j < ns.length := by omega
  exact ⟨ns[j], List.getElem_mem _, atI_nat (List.getElem?_eq_getElem hj)⟩
theorem ite_share {c A R : Prop} [Decidable c] (leaf : A) (rest : ¬ c → A → R) : if c then A else R := by
  split
  · exact leaf
  · exact rest (by assumption) leaf
theorem ite_else {c A R : Prop} [Decidable c] (leaf : R) (rest : c → R → A) : if c then A else R := by
  split
  · exact rest (by assumption) leaf
  · exact leaf

/-! own rules: // and divmod by any divisor of few bits, a list turned about -/
section
variable {X : Cx}
theorem op_fdivG : OpR X (binaryOp .FloorDiv) (rI (fun _ j => j ≠ 0 ∧ j.natAbs.log2 < 9000) fun i j => .int (i.fdiv j)) :=
  opI fun _ _ _ _ _ _ _ hc q => floordiv_int hc.1 q (.inl (PyProof.noPylong_of_log2 hc.2))
theorem call_divmodG : CallR X (.builtin "divmod") (fun xs H Q => ∃ i j, xs = [.int i, .int j] ∧ (j ≠ 0 ∧ j.natAbs.log2 < 9000) ∧ ∀ p, H p = none → Q (.ref p) (upd H p (.tup [.int (i.fdiv j), .int (i.fmod j)]))) := by
  intro pins s σ H xs us Q I r h
  obtain ⟨i, j, rfl, hc, q⟩ := h
  obtain ⟨u1, u2, rfl, ⟨t1, rfl⟩, ⟨t2, rfl⟩⟩ := vals2 r
  refine divmod_int hc.1 ?_ (.inl (PyProof.noPylong_of_log2 hc.2))
  refine ⟨.ref s.heap.objs.size, _, ?_, rfl, q _ (I.hok.fresh (Nat.le_refl _))⟩
  refine I.laid (fun b o e => Heap.get?_push_of_some _ e) (Nat.le_refl _) ⟨by show 2 ≤ sizeLine; rw [sizeLine_eq]; decide, [.int (i.fdiv j) s.toks, .int (i.fmod j) (s.toks + 1)], .cons ⟨_, rfl⟩ (.cons ⟨_, rfl⟩ .nil), ?_⟩
  exact ⟨_, Heap.get?_push_size s.heap rfl, rfl, 0, rfl⟩
def tRevL (K : PySem.W.Frag) (te tk : TE) : TE := fun σ H Q => te σ H fun x H1 => tk σ H1 fun y H2 => y = .int (-1) ∧ ∃ a xs, x = .ref a ∧ SqL K H2 a xs ∧ ∀ p, H2 p = none → Q (.ref p) (upd H2 p (.lst xs.reverse))
theorem vals_rev : ∀ {xs : List V} {us : List Value}, Vals xs us → Vals xs.reverse us.reverse
  | _, _, .nil => .nil
  | _, _, .cons r t => by
    rw [List.reverse_cons, List.reverse_cons]
    exact (vals_rev t).append (.cons r .nil)
theorem pe_revL {e k : Expr} {te tk : TE} {p2 pos : Pos} (he : PE X e te) (hk : PE X k tk) : PE X (.Subscript e (.Slice none none (some k) p2) pos) (tRevL X.K te tk) := by
  refine ⟨fun pins s σ H Q I h => ?_⟩
  refine Subscript_ (thn (he.run pins s σ H _ I h) fun v s1 ⟨x, H1, I1, r1, q1⟩ => ?_)
  refine wpAny_Slice ?_
  rw [evalPart_none]
  refine wpAny_pure (wpAny_pure ?_)
  rw [evalPart_some]
  refine thn (hk.run pins s1 σ H1 _ I1 q1) fun vk s2 ⟨y, H2, I2, r2, ey, a, xs, ex, hx, q⟩ => ?_
  subst ey ex
  obtain ⟨t, rfl⟩ := r2
  cases r1
  have I4 : Inv X pins σ H2 { s2 with heap := s2.heap.push { cls := .type "slice", data := .fields #[.none, .none, .int (-1) t] } } := I2.kept (t' := s2.toks) fun b ob q => Heap.get?_push_of_some _ q
  obtain ⟨its, r, ht, hz⟩ := I4.list hx
  have hlen := r.length
  refine tail_any (ops := [.ref a, .ref s2.heap.objs.size]) ht.isList.typeIs slot_list_getitem.lookup ?_ (by with_unfolding_all rfl)
  refine wpAny_getItem_list_slice ht.isList (Heap.IsSliceOf.new ..) .none .none (.int (-1) t) (by decide) ?_ (by rw [List.size_toArray]; omega)
  rw [PySem.W.krv_pick]
  refine ⟨.ref _, _, I4.laid (t' := s2.toks) (o := .lst xs.reverse) (fun b ob q => Heap.get?_push_of_some _ q) (Nat.le_refl _) ?_, rfl, q _ (I4.hok.fresh (Nat.le_refl _))⟩
  exact ⟨by rw [List.length_reverse]; exact hz, its.reverse, 0, vals_rev r, Heap.get?_push_size _ rfl⟩
end

/-! what is kept: all but the mutable things of a set -/
def Kp (S : Addr → Prop) (H H' : Hp) : Prop := ∀ b o, H b = some o → (S b → ¬ Mut (some o)) → H' b = some o
theorem Kp.refl {S : Addr → Prop} {H : Hp} : Kp S H H := fun _ _ h _ => h
theorem Kp.trans {S : Addr → Prop} {H H1 H2 : Hp} (a : Kp S H H1) (b : Kp S H1 H2) : Kp S H H2 := fun c o h k => b c o (a c o h k) k
theorem Kp.mono {S S' : Addr → Prop} {H H' : Hp} (a : Kp S H H') (h : ∀ b, S b → S' b) : Kp S' H H' := fun c o e k => a c o e fun z => k (h c z)
theorem Kp.of_same {S : Addr → Prop} {H H' : Hp} (a : Same H H') : Kp S H H' := fun c o e _ => a c o e
theorem Kp.same {S : Addr → Prop} {H H1 H2 : Hp} (a : Same H H1) (b : Kp S H1 H2) (h : ∀ b, S b → H b = none) : Same H H2 := fun c o e => b c o (a c o e) fun z => by
  rw [h c z] at e
  cases e
theorem Kp.upd {S : Addr → Prop} {H : Hp} {p : Addr} {o u : HO} (h : H p = some o) (m : Mut (some o)) (hp : S p) : Kp S H (upd H p u) := fun c x e k => by
  by_cases z : c = p
  · subst z
    rw [h] at e
    cases e
    exact absurd m (k hp)
  · rw [upd_ne z]
    exact e
/-- the script: read, never written -/
def Scr (K : PySem.W.Frag) (H : Hp) (a : Addr) (xs : List V) : Prop := SqL K H a xs ∧ ¬ Mut (H a)
theorem Scr.kp {K : PySem.W.Frag} {S : Addr → Prop} {H H' : Hp} {a : Addr} {xs : List V} (h : Scr K H a xs) (k : Kp S H H') : SqL K H' a xs := by
  obtain ⟨h1, h2⟩ := h
  rcases h1 with (e | ⟨o, e⟩) | e
  · rw [e] at h2
    exact absurd trivial h2
  · exact .inl (.inr ⟨o, k _ _ e fun _ => by rw [← e]; exact h2⟩)
  · exact .inr e
/-! an own rule: a text some times over -/
section
variable {X : Cx}
theorem op_rep_str : OpR X (binaryOp .Mult) (fun x y H Q => ∃ (z : Str) (n : Int), x = .str z ∧ y = .int n ∧ 0 < z.length ∧ z.length ≤ 1000 ∧ 2 ≤ n ∧ n ≤ 1000 ∧ ∀ u : Str, u.length = n.toNat * z.length → Q (.str u) H) := by
  intro pins s σ H x y v u Q I rx ry h
  obtain ⟨z, n, rfl, rfl, z0, z1, n0, n1, q⟩ := h
  obtain ⟨t, rfl⟩ := rx
  obtain ⟨t', rfl⟩ := ry
  have hn : ¬ n < 1 := by omega
  have hq : (n == 1 || z.length == 0) = false := by
    rw [Bool.or_eq_false_iff]
    exact ⟨beq_eq_false_iff_ne.mpr (by omega), beq_eq_false_iff_ne.mpr (by omega)⟩
  have le : ∀ (k : Nat) (acc : Array Nat), ((List.replicate k z.cps).foldl (· ++ ·) acc).size = acc.size + k * z.length := by
    intro k
    induction k with
    | zero => intro acc; simp
    | succ k ih =>
      intro acc
      rw [List.replicate_succ, List.foldl_cons, ih, Array.size_append]
      show acc.size + z.length + k * z.length = acc.size + (k + 1) * z.length
      rw [Nat.add_mul]
      omega
  have l2 : (⟨(List.replicate n.toNat z.cps).foldl (· ++ ·) #[]⟩ : Str).length = n.toNat * z.length := by
    show ((List.replicate n.toNat z.cps).foldl (· ++ ·) #[]).size = _
    rw [le]
    simp
  have mm : z.length * n.toNat ≤ 1000 * 1000 := Nat.mul_le_mul z1 (by omega)
  have tl : Builtin.Str.tooLong (z.length * n.toNat) = false := by
    unfold Builtin.Str.tooLong
    rw [sizeLine_eq]
    exact decide_eq_false (by omega)
  refine PySem.P.mul_str ?_ (fun _ _ => ?_) (fun _ _ => tl) ?_
  · rw [decide_eq_false (by omega), decide_eq_false (by omega)]
    rfl
  · have : (1000 : Int) * n ≤ 2 ^ 63 - 1 := by omega
    have h3 : (1000 : Int) ≤ (2 ^ 63 - 1) / n := (Int.le_ediv_iff_mul_le (by omega)).mpr this
    omega
  · rw [if_neg hn, hq]
    exact ⟨by rw [l2, Nat.mul_comm, sizeLine_eq]; omega, .str _, H, I.tok _, ⟨_, rfl⟩, q _ l2⟩
end
/-- a comprehension over a text's signs -/
theorem lc_str {x : Str} {g : TG} {tt : TT} {te : TE} {vs : List Nat} {σ : L2.St} {H1 : Hp} {D : Addr} {Qd : Hp → Prop} (Pv : Nat → Hp → Prop) (h0 : Pv 0 (upd H1 D (.lst [])))
    (hs : ∀ i c H, x.cps.toList[i]? = some c → Pv i H → g (.str ⟨#[c]⟩) (wipe σ vs) H fun σ2 H2 => wipe σ2 vs = wipe σ vs ∧ tt σ2 H2 fun b H3 =>
      if b = true then te σ2 H3 fun y H4 => ∃ acc, H4 D = some (.lst acc) ∧ acc.length < sizeLine ∧ Pv (i + 1) (upd H4 D (.lst (acc ++ [y]))) else Pv (i + 1) H3) (hd : ∀ H, Pv x.cps.toList.length H → Qd H) :
    ∃ W : Nat → Nat → Hp → Prop, (∃ m, W 0 m (upd H1 D (.lst []))) ∧ ∀ i m H, W i m H →
      ((Its x).stop i H ∧ Qd H) ∨ ((Its x).go i H ∧ ∃ Nx : Hp → Prop, (∀ H', Nx H' → ∃ m', m' < m ∧ W (i + 1) m' H') ∧ ∀ y H', (Its x).yld i H y H' → g y (wipe σ vs) H' fun σ2 H2 => wipe σ2 vs = wipe σ vs ∧ tt σ2 H2 fun b H3 =>
        if b = true then te σ2 H3 fun y H4 => ∃ acc, H4 D = some (.lst acc) ∧ acc.length < sizeLine ∧ Nx (upd H4 D (.lst (acc ++ [y]))) else Nx H3) := by
  have hl : x.cps.toList.length = x.cps.size := by simp
  refine ⟨fun i m H => m = x.cps.size - i ∧ i ≤ x.cps.size ∧ Pv i H, ⟨x.cps.size, by simp, Nat.zero_le _, h0⟩, ?_⟩
  rintro i m H ⟨rfl, hi, p⟩
  by_cases hlt : i < x.cps.size
  · refine .inr ⟨hlt, Pv (i + 1), fun H' p' => ⟨x.cps.size - (i + 1), by omega, rfl, hlt, p'⟩, fun y H' hy => ?_⟩
    obtain ⟨rfl, c, hc, rfl⟩ := hy
    exact hs i c H' (by rw [Array.getElem?_toList]; exact hc) p
  · refine .inl ⟨Nat.le_of_not_lt hlt, hd H ?_⟩
    rw [hl, show x.cps.size = i by omega]
    exact p
section
variable {X : Cx}
theorem call_str_any : CallR X (.type "str") (fun xs H Q => (∃ i : Int, xs = [.int i] ∧ i.natAbs.log2 < 1920 ∧ Q (.str (toString i)) H) ∨ ∃ a : Str, xs = [.str a] ∧ Q (.str a) H) := by
  intro pins s σ H xs us Q I r h
  rcases h with h | h
  · exact call_str_int pins s σ H xs us Q I r h
  · exact SkE.call_str_str pins s σ H xs us Q I r h
end

/-! rules for use within a comprehension: the written part named -/
section
variable {X : Cx} {K : PySem.W.Frag}
theorem ix_listK (h : X.K = K) : IxR X (rIxL K) := by subst h; exact ix_list
theorem ix_tupK (h : X.K = K) : IxR X (rIxT K) := by subst h; exact ix_tup
theorem op_in_seqK (h : X.K = K) : OpR X (compareOp .In) (rIn K false) := by subst h; exact op_in_seq
theorem op_notIn_seqK (h : X.K = K) : OpR X (compareOp .NotIn) (rIn K true) := by subst h; exact op_notIn_seq
theorem call_isiK (h : X.K = K) : CallR X (.builtin "isinstance") (rIsi K) := by subst h; exact call_isi
theorem call_len_seqK (h : X.K = K) : CallR X (.builtin "len") (fun xs H Q => ∃ p ys, xs = [.ref p] ∧ (SqL K H p ys ∨ SqT K H p ys) ∧ Q (.int ys.length) H) := by subst h; exact call_len_seq
end

/-! an own exception class over an own one: what the head shows of it; Base.__init__(self, ..) -/
section
open PySem.W
def oexB (K : PySem.W.Frag) (C : Addr) : Bool := (match K.lookup C with
  | some ⟨.type "type", _, .cls cd, sl⟩ => (match cd.mro, sl.toList with
    | .ref C' :: bm, [_, _, _, _, some (.builtin n), _] => C' == C && n == "ValueError.__new__" && !cd.hasDel && cd.hasDict && PySem.HandSPX.refsVE bm
    | _, _ => false)
  | _ => false) && (decide (PySem.W.findIn K (.ref C) "__setattr__" = some (some (.builtin "object.__setattr__"))) && (decide (PySem.W.subIn K (.ref C) (.type "BaseException") = some true) && (decide (PySem.W.typeIn K (.ref C) = some (.type "type")) && PySem.W.keepIn K (.ref C))))
theorem oexB_ok {K : PySem.W.Frag} {C : Addr} (h : oexB K C = true) : OexC K C := by
  obtain ⟨h1, h⟩ := Bool.and_eq_true_iff.mp h
  obtain ⟨h2, h⟩ := Bool.and_eq_true_iff.mp h
  obtain ⟨h3, h⟩ := Bool.and_eq_true_iff.mp h
  obtain ⟨h4, h5⟩ := Bool.and_eq_true_iff.mp h
  refine ⟨?_, of_decide_eq_true h2, of_decide_eq_true h3, of_decide_eq_true h4, h5⟩
  split at h1
  · rename_i dd cd sl ho
    split at h1
    · rename_i C' bm k0 k1 k2 k3 n k5 hm hs
      simp only [Bool.and_eq_true, beq_iff_eq, Bool.not_eq_true'] at h1
      obtain ⟨⟨⟨⟨rfl, rfl⟩, hdl⟩, hdc⟩, hb⟩ := h1
      obtain ⟨nm, bs, mro, ns, qn, hd, sn, sb, ab, col, del⟩ := cd
      dsimp only at hm hdl hdc
      subst hm hdl hdc
      obtain ⟨sl⟩ := sl
      dsimp only at hs
      subst hs
      exact ⟨nm, qn, ns, bs, bm, sn, sb, ab, col, dd, k0, k1, k2, k3, k5, ho, hb⟩
    · cases h1
  · cases h1
/-- W.__init__ is ValueError's -/
structure WeI (K : PySem.W.Frag) (W : Addr) : Prop where
  rd : PySem.W.readsIn K W (.type "type") = true
  ga : PySem.W.specialIn K (.ref W) "__getattribute__" = some (some (.builtin "type.__getattribute__"))
  at_ : PySem.W.findCls K (.ref W) (.type "type") "__init__" = some (.val (.builtin "ValueError.__init__"))
def weB (K : PySem.W.Frag) (W : Addr) : Bool := PySem.W.readsIn K W (.type "type") && (decide (PySem.W.specialIn K (.ref W) "__getattribute__" = some (some (.builtin "type.__getattribute__"))) && (match PySem.W.findCls K (.ref W) (.type "type") "__init__" with
  | some (.val v) => decide (v = .builtin "ValueError.__init__")
  | _ => false))
theorem weB_ok {K : PySem.W.Frag} {W : Addr} (h : weB K W = true) : WeI K W := by
  obtain ⟨h1, h⟩ := Bool.and_eq_true_iff.mp h
  obtain ⟨h2, h3⟩ := Bool.and_eq_true_iff.mp h
  refine ⟨h1, of_decide_eq_true h2, ?_⟩
  split at h3
  · rename_i v e
    rw [e, of_decide_eq_true h3]
  · cases h3
/-- __init__ of C is the def at f -/
structure OIn (K : PySem.W.Frag) (C f : Addr) : Prop where
  iC : PySem.W.findIn K (.ref C) "__init__" = some (some (.ref f))
  tI : PySem.W.typeIn K (.ref f) = some (.type "function")
def oinB (K : PySem.W.Frag) (C f : Addr) : Bool := decide (PySem.W.findIn K (.ref C) "__init__" = some (some (.ref f))) && decide (PySem.W.typeIn K (.ref f) = some (.type "function"))
theorem oinB_ok {K : PySem.W.Frag} {C f : Addr} (h : oinB K C f = true) : OIn K C f := by
  obtain ⟨h1, h2⟩ := Bool.and_eq_true_iff.mp h
  exact ⟨of_decide_eq_true h1, of_decide_eq_true h2⟩
def nofB (K : PySem.W.Frag) (C : Addr) (f : Str) : Bool := decide (PySem.W.findIn K (.ref C) f = some none)
theorem nofB_ok {K : PySem.W.Frag} {C : Addr} {f : Str} (h : nofB K C f = true) : PySem.W.findIn K (.ref C) f = some none := of_decide_eq_true h
end
section
variable {X : Cx} {e : Expr} {es : List Expr} {ta : TA} {x : Str} {W : Addr} {p1 p2 pos : Pos}
theorem pe_weinit {pl : Sem Bool} (hg : Gl X x) (hm : X.mg x = some (.ref W)) (T : WeI X.K W) (ha : PA X (e :: es) ta) (hdb : (x == ("__debug__" : Str)) = false := by decide)
    (hc : eval (.Call (.Attribute (.Name x p1) "__init__" p2) (e :: es) [] pos) X.env = (do
      let ov ← eval (.Name x p1) X.env
      standAt p2.atName
      let (f, first) ← holding [ov] (getMethod ov "__init__" pl)
      callWith pos f first (backTo pos (starEach (e :: es) X.env)) (backToKw pos (keywordEach [] X.env))) := by rfl)
    (he : starEach (e :: es) X.env = (false, eval e X.env) :: starEach es X.env := by rfl) (hpl : (backTo pos (starEach es X.env)).any (·.1) = false := by rfl) :
    PE X (.Call (.Attribute (.Name x p1) "__init__" p2) (e :: es) [] pos) (tVeI X.K ta) := by
  refine ⟨fun pins s σ H Q I h => ?_⟩
  refine PySem.W.methodCall_KW (ld_glob I hg hm ?_ hdb) hc
  refine PySem.W.method_cls I.kIn T.ga (PySem.W.cls_value I.kIn T.rd T.at_ (by decide +kernel) ?_)
  show wpAny _ _ (callWith pos (Value.builtin "ValueError.__init__") [] (backTo pos (starEach (e :: es) X.env)) []) _ _ _
  refine PyProof.Rows.callWith_method1 (thn (ha.run pos pins _ σ H _ (I.tok _) h) fun us s1 ⟨vs, H1, I1, r1, a, C, ws, ev, hl, T, ea, q⟩ => ?_) he hpl
  subst ev
  cases r1 with
  | @cons _ u0 _ ur ra rw' =>
    obtain rfl : u0 = Value.ref a := ra
    have hlen : ur.length ≤ sizeLine := by
      rw [← Paired.length rw', sizeLine_eq]
      omega
    exact oinit_ok T I1 ea hlen fun s' J => ⟨.non, H1, J, rfl, q⟩
end

def topS (i : Nat) : Stmt := PySem.Challenge.pw_passworks_k04_programs.main.body.getD i (.Pass ⟨0, 0, 0, 0⟩)
abbrev s_is_number : Stmt := topS 3
abbrev N_is_number : List Str := ["thing"]
theorem sc_is_number : FnScope N_is_number ["thing"] (defScope s_is_number) := ⟨rfl, rfl, rfl, by decide +kernel, rfl, by decide +kernel, by decide +kernel⟩
abbrev s_is_name : Stmt := topS 16
abbrev N_is_name : List Str := ["thing", "sign"]
theorem sc_is_name : FnScope N_is_name ["thing"] (defScope s_is_name) := ⟨rfl, rfl, rfl, by decide +kernel, rfl, by decide +kernel, by decide +kernel⟩
abbrev s_ends_there : Stmt := topS 17
abbrev N_ends_there : List Str := ["statement"]
theorem sc_ends_there : FnScope N_ends_there ["statement"] (defScope s_ends_there) := ⟨rfl, rfl, rfl, by decide +kernel, rfl, by decide +kernel, by decide +kernel⟩
abbrev s_Scope___init__ : Stmt := inClass (topS 18) 0
abbrev N_Scope___init__ : List Str := ["self", "params", "rows", "heads", "name"]
theorem sc_Scope___init__ : FnScope N_Scope___init__ ["self", "params", "rows", "heads"] (defScope s_Scope___init__) := ⟨rfl, rfl, rfl, by decide +kernel, rfl, by decide +kernel, by decide +kernel⟩
abbrev s_Scope_is_variable : Stmt := inClass (topS 18) 1
abbrev N_Scope_is_variable : List Str := ["self", "thing"]
theorem sc_Scope_is_variable : FnScope N_Scope_is_variable ["self", "thing"] (defScope s_Scope_is_variable) := ⟨rfl, rfl, rfl, by decide +kernel, rfl, by decide +kernel, by decide +kernel⟩
abbrev s_Scope_is_row : Stmt := inClass (topS 18) 2
abbrev N_Scope_is_row : List Str := ["self", "thing"]
theorem sc_Scope_is_row : FnScope N_Scope_is_row ["self", "thing"] (defScope s_Scope_is_row) := ⟨rfl, rfl, rfl, by decide +kernel, rfl, by decide +kernel, by decide +kernel⟩
abbrev s_Scope_is_expression : Stmt := inClass (topS 18) 3
abbrev N_Scope_is_expression : List Str := ["self", "thing", "deep", "word"]
theorem sc_Scope_is_expression : FnScope N_Scope_is_expression ["self", "thing", "deep"] (defScope s_Scope_is_expression) := ⟨rfl, rfl, rfl, by decide +kernel, rfl, by decide +kernel, by decide +kernel⟩
abbrev s_Scope_is_call : Stmt := inClass (topS 18) 4
abbrev N_Scope_is_call : List Str := ["self", "thing", "one"]
theorem sc_Scope_is_call : FnScope N_Scope_is_call ["self", "thing"] (defScope s_Scope_is_call) := ⟨rfl, rfl, rfl, by decide +kernel, rfl, by decide +kernel, by decide +kernel⟩
abbrev s_Scope_is_plain : Stmt := inClass (topS 18) 5
abbrev N_Scope_is_plain : List Str := ["self", "thing", "word"]
theorem sc_Scope_is_plain : FnScope N_Scope_is_plain ["self", "thing"] (defScope s_Scope_is_plain) := ⟨rfl, rfl, rfl, by decide +kernel, rfl, by decide +kernel, by decide +kernel⟩
abbrev s_Scope_takes_one : Stmt := inClass (topS 18) 6
abbrev N_Scope_takes_one : List Str := ["self"]
theorem sc_Scope_takes_one : FnScope N_Scope_takes_one ["self"] (defScope s_Scope_takes_one) := ⟨rfl, rfl, rfl, by decide +kernel, rfl, by decide +kernel, by decide +kernel⟩
abbrev s_Scope_is_statement : Stmt := inClass (topS 18) 7
abbrev N_Scope_is_statement : List Str := ["self", "thing", "deep", "parts", "body"]
theorem sc_Scope_is_statement : FnScope N_Scope_is_statement ["self", "thing", "deep"] (defScope s_Scope_is_statement) := ⟨rfl, rfl, rfl, by decide +kernel, rfl, by decide +kernel, by decide +kernel⟩
abbrev s_Scope_is_body : Stmt := inClass (topS 18) 8
abbrev N_Scope_is_body : List Str := ["self", "thing", "deep", "place", "one"]
theorem sc_Scope_is_body : FnScope N_Scope_is_body ["self", "thing", "deep"] (defScope s_Scope_is_body) := ⟨rfl, rfl, rfl, by decide +kernel, rfl, by decide +kernel, by decide +kernel⟩
abbrev s_are_params : Stmt := topS 19
abbrev N_are_params : List Str := ["thing", "one"]
theorem sc_are_params : FnScope N_are_params ["thing"] (defScope s_are_params) := ⟨rfl, rfl, rfl, by decide +kernel, rfl, by decide +kernel, by decide +kernel⟩
abbrev s_is_size : Stmt := topS 20
abbrev N_is_size : List Str := ["thing"]
theorem sc_is_size : FnScope N_is_size ["thing"] (defScope s_is_size) := ⟨rfl, rfl, rfl, by decide +kernel, rfl, by decide +kernel, by decide +kernel⟩
abbrev s_are_rows : Stmt := topS 21
abbrev N_are_rows : List Str := ["thing", "params", "names", "one"]
theorem sc_are_rows : FnScope N_are_rows ["thing", "params"] (defScope s_are_rows) := ⟨rfl, rfl, rfl, by decide +kernel, rfl, by decide +kernel, by decide +kernel⟩
abbrev s_heads_of : Stmt := topS 22
abbrev N_heads_of : List Str := ["thing", "heads", "one"]
theorem sc_heads_of : FnScope N_heads_of ["thing"] (defScope s_heads_of) := ⟨rfl, rfl, rfl, by decide +kernel, rfl, by decide +kernel, by decide +kernel⟩
abbrev s_is_program : Stmt := topS 23
abbrev N_is_program : List Str := ["thing", "heads", "row"]
theorem sc_is_program : FnScope N_is_program ["thing"] (defScope s_is_program) := ⟨rfl, rfl, rfl, by decide +kernel, rfl, by decide +kernel, by decide +kernel⟩
abbrev s__law_cell_at : Stmt := topS 25
abbrev N__law_cell_at : List Str := ["_law_script", "_law_k"]
theorem sc__law_cell_at : FnScope N__law_cell_at ["_law_script", "_law_k"] (defScope s__law_cell_at) := ⟨rfl, rfl, rfl, by decide +kernel, rfl, by decide +kernel, by decide +kernel⟩
abbrev s__law_whole : Stmt := topS 26
abbrev N__law_whole : List Str := ["_law_found"]
theorem sc__law_whole : FnScope N__law_whole ["_law_found"] (defScope s__law_whole) := ⟨rfl, rfl, rfl, by decide +kernel, rfl, by decide +kernel, by decide +kernel⟩
abbrev s__law_held : Stmt := topS 27
abbrev N__law_held : List Str := ["_law_cell"]
theorem sc__law_held : FnScope N__law_held ["_law_cell"] (defScope s__law_held) := ⟨rfl, rfl, rfl, by decide +kernel, rfl, by decide +kernel, by decide +kernel⟩
abbrev s__law_mixed : Stmt := topS 28
abbrev N__law_mixed : List Str := ["_law_cell", "_law_k", "_law_many", "_law_left", "_law_some", "_law_made"]
theorem sc__law_mixed : FnScope N__law_mixed ["_law_cell", "_law_k", "_law_many"] (defScope s__law_mixed) := ⟨rfl, rfl, rfl, by decide +kernel, rfl, by decide +kernel, by decide +kernel⟩
abbrev s__law_kept : Stmt := topS 29
abbrev N__law_kept : List Str := ["_law_words"]
theorem sc__law_kept : FnScope N__law_kept [] (defScope s__law_kept) := ⟨rfl, rfl, rfl, by decide +kernel, rfl, by decide +kernel, by decide +kernel⟩
abbrev s__law_letter : Stmt := topS 30
abbrev N__law_letter : List Str := ["_law_k"]
theorem sc__law_letter : FnScope N__law_letter ["_law_k"] (defScope s__law_letter) := ⟨rfl, rfl, rfl, by decide +kernel, rfl, by decide +kernel, by decide +kernel⟩
abbrev s__law_names : Stmt := topS 31
abbrev N__law_names : List Str := ["_law_cell", "_law_near", "_law_at", "_law_root", "_law_names_here", "_law_start", "_law_k", "_law_letter_here", "_law_name", "_law_j"]
theorem sc__law_names : FnScope N__law_names ["_law_cell"] (defScope s__law_names) := ⟨rfl, rfl, rfl, by decide +kernel, rfl, by decide +kernel, by decide +kernel⟩
abbrev s__law_number_by : Stmt := topS 32
abbrev N__law_number_by : List Str := ["_law_cell", "_law_k", "_law_some"]
theorem sc__law_number_by : FnScope N__law_number_by ["_law_cell", "_law_k"] (defScope s__law_number_by) := ⟨rfl, rfl, rfl, by decide +kernel, rfl, by decide +kernel, by decide +kernel⟩
abbrev s__law_within : Stmt := topS 33
abbrev N__law_within : List Str := ["_law_cell", "_law_k"]
theorem sc__law_within : FnScope N__law_within ["_law_cell", "_law_k"] (defScope s__law_within) := ⟨rfl, rfl, rfl, by decide +kernel, rfl, by decide +kernel, by decide +kernel⟩
abbrev s__law_expression : Stmt := topS 34
abbrev N__law_expression : List Str := ["_law_cell", "_law_deep", "_law_info", "_law_names_here", "_law_rows", "_law_kind", "_law_one", "_law_word", "_law_other"]
theorem sc__law_expression : FnScope N__law_expression ["_law_cell", "_law_deep", "_law_info"] (defScope s__law_expression) := ⟨rfl, rfl, rfl, by decide +kernel, rfl, by decide +kernel, by decide +kernel⟩
abbrev s__law_expressions : Stmt := topS 35
abbrev N__law_expressions : List Str := ["_law_cell", "_law_many", "_law_info", "_law_k"]
theorem sc__law_expressions : FnScope N__law_expressions ["_law_cell", "_law_many", "_law_info"] (defScope s__law_expressions) := ⟨rfl, rfl, rfl, by decide +kernel, rfl, by decide +kernel, by decide +kernel⟩
abbrev s__law_plain : Stmt := topS 36
abbrev N__law_plain : List Str := ["_law_cell", "_law_info", "_law_names_here", "_law_rows", "_law_heads", "_law_word", "_law_es", "_law_x", "_law_place", "_law_head"]
theorem sc__law_plain : FnScope N__law_plain ["_law_cell", "_law_info"] (defScope s__law_plain) := ⟨rfl, rfl, rfl, by decide +kernel, rfl, by decide +kernel, by decide +kernel⟩
abbrev s__law_nest : Stmt := topS 37
abbrev N__law_nest : List Str := ["_law_cell", "_law_way", "_law_cells", "_law_deep", "_law_info", "_law_asked", "_law_yes", "_law_no", "_law_first", "_law_x"]
theorem sc__law_nest : FnScope N__law_nest ["_law_cell", "_law_way", "_law_cells", "_law_deep", "_law_info"] (defScope s__law_nest) := ⟨rfl, rfl, rfl, by decide +kernel, rfl, by decide +kernel, by decide +kernel⟩
abbrev s__law_body : Stmt := topS 38
abbrev N__law_body : List Str := ["_law_cells", "_law_deep", "_law_info", "_law_found", "_law_cell", "_law_way"]
theorem sc__law_body : FnScope N__law_body ["_law_cells", "_law_deep", "_law_info"] (defScope s__law_body) := ⟨rfl, rfl, rfl, by decide +kernel, rfl, by decide +kernel, by decide +kernel⟩
abbrev s__law_inner_cell : Stmt := topS 39
abbrev N__law_inner_cell : List Str := ["_law_script", "_law_first", "_law_k", "_law_j", "_law_late"]
theorem sc__law_inner_cell : FnScope N__law_inner_cell ["_law_script", "_law_first", "_law_k", "_law_j"] (defScope s__law_inner_cell) := ⟨rfl, rfl, rfl, by decide +kernel, rfl, by decide +kernel, by decide +kernel⟩
abbrev s__law_program : Stmt := topS 40
abbrev N__law_program : List Str := ["_law_script", "_law_first", "_law_cell", "_law_names_here", "_law_head", "_law_most", "_law_rows", "_law_helpers", "_law_heads", "_law_k", "_law_own", "_law_params", "_law_cells", "_law_variables", "_law_name", "_law_info", "_law_j", "_law_row"]
theorem sc__law_program : FnScope N__law_program ["_law_script", "_law_first"] (defScope s__law_program) := ⟨rfl, rfl, rfl, by decide +kernel, rfl, by decide +kernel, by decide +kernel⟩
abbrev s__law_is_name : Stmt := topS 41
abbrev N__law_is_name : List Str := ["_law_thing", "_law_sign"]
theorem sc__law_is_name : FnScope N__law_is_name ["_law_thing"] (defScope s__law_is_name) := ⟨rfl, rfl, rfl, by decide +kernel, rfl, by decide +kernel, by decide +kernel⟩
abbrev s__law_is_number : Stmt := topS 42
abbrev N__law_is_number : List Str := ["_law_thing", "_law_low", "_law_high"]
theorem sc__law_is_number : FnScope N__law_is_number ["_law_thing", "_law_low", "_law_high"] (defScope s__law_is_number) := ⟨rfl, rfl, rfl, by decide +kernel, rfl, by decide +kernel, by decide +kernel⟩
abbrev s__law_fits_name : Stmt := topS 43
abbrev N__law_fits_name : List Str := ["_law_thing", "_law_state"]
theorem sc__law_fits_name : FnScope N__law_fits_name ["_law_thing", "_law_state"] (defScope s__law_fits_name) := ⟨rfl, rfl, rfl, by decide +kernel, rfl, by decide +kernel, by decide +kernel⟩
abbrev s__law_fits_e : Stmt := topS 44
abbrev N__law_fits_e : List Str := ["_law_e", "_law_deep", "_law_state"]
theorem sc__law_fits_e : FnScope N__law_fits_e ["_law_e", "_law_deep", "_law_state"] (defScope s__law_fits_e) := ⟨rfl, rfl, rfl, by decide +kernel, rfl, by decide +kernel, by decide +kernel⟩
abbrev s__law_fits_plain : Stmt := topS 45
abbrev N__law_fits_plain : List Str := ["_law_s", "_law_state", "_law_e"]
theorem sc__law_fits_plain : FnScope N__law_fits_plain ["_law_s", "_law_state"] (defScope s__law_fits_plain) := ⟨rfl, rfl, rfl, by decide +kernel, rfl, by decide +kernel, by decide +kernel⟩
abbrev s__law_fits_body : Stmt := topS 46
abbrev N__law_fits_body : List Str := ["_law_body_here", "_law_deep", "_law_state", "_law_k", "_law_s", "_law_part"]
theorem sc__law_fits_body : FnScope N__law_fits_body ["_law_body_here", "_law_deep", "_law_state"] (defScope s__law_fits_body) := ⟨rfl, rfl, rfl, by decide +kernel, rfl, by decide +kernel, by decide +kernel⟩
abbrev s__law_are_params : Stmt := topS 47
abbrev N__law_are_params : List Str := ["_law_thing", "_law_one"]
theorem sc__law_are_params : FnScope N__law_are_params ["_law_thing"] (defScope s__law_are_params) := ⟨rfl, rfl, rfl, by decide +kernel, rfl, by decide +kernel, by decide +kernel⟩
abbrev s__law_is_program : Stmt := topS 48
abbrev N__law_is_program : List Str := ["_law_thing", "_law_heads", "_law_one", "_law_rows"]
theorem sc__law_is_program : FnScope N__law_is_program ["_law_thing"] (defScope s__law_is_program) := ⟨rfl, rfl, rfl, by decide +kernel, rfl, by decide +kernel, by decide +kernel⟩
abbrev s__law_odd : Stmt := topS 49
abbrev N__law_odd : List Str := ["_law_part", "_law_names_here", "_law_cell", "_law_some"]
theorem sc__law_odd : FnScope N__law_odd ["_law_part", "_law_names_here", "_law_cell"] (defScope s__law_odd) := ⟨rfl, rfl, rfl, by decide +kernel, rfl, by decide +kernel, by decide +kernel⟩
abbrev s__law_edited : Stmt := topS 50
abbrev N__law_edited : List Str := ["_law_thing", "_law_names_here", "_law_cell", "_law_deep", "_law_at", "_law_inner"]
theorem sc__law_edited : FnScope N__law_edited ["_law_thing", "_law_names_here", "_law_cell", "_law_deep"] (defScope s__law_edited) := ⟨rfl, rfl, rfl, by decide +kernel, rfl, by decide +kernel, by decide +kernel⟩
abbrev s__law_great : Stmt := topS 51
abbrev N__law_great : List Str := ["_law_cell", "_law_many", "_law_names_here", "_law_way", "_law_body_here", "_law_k", "_law_e", "_law_turn", "_law_es", "_law_call"]
theorem sc__law_great : FnScope N__law_great ["_law_cell"] (defScope s__law_great) := ⟨rfl, rfl, rfl, by decide +kernel, rfl, by decide +kernel, by decide +kernel⟩
abbrev s_law : Stmt := topS 52
abbrev N_law : List Str := ["_law_script", "_law_program_here", "_law_cell", "_law_names_here", "_law_thing", "_law_two", "_law_one", "_law_found", "_law_name"]
theorem sc_law : FnScope N_law ["_law_script"] (defScope s_law) := ⟨rfl, rfl, rfl, by decide +kernel, rfl, by decide +kernel, by decide +kernel⟩
abbrev FnP (K : PySem.W.Frag) (x : Str) (st : Stmt) (f : Addr) (fd : FuncData) : Prop := FunD K x x (defArgs st) (defBody st) (defScope st) [] [] f fd
abbrev FnM (K : PySem.W.Frag) (x q : Str) (st : Stmt) (f : Addr) (fd : FuncData) : Prop := FunD K x q (defArgs st) (defBody st) (defScope st) [] [] f fd
structure Top (K : PySem.W.Frag) (mg : Str → Option Value) where
  fd_is_number : FuncData
  F_is_number : FnP K "is_number" s_is_number (He.ga K "is_number") fd_is_number
  b_is_number : Binds K fd_is_number ["thing"] []
  g_is_number : mg "is_number" = some (.ref (He.ga K "is_number"))
  fd_is_name : FuncData
  F_is_name : FnP K "is_name" s_is_name (He.ga K "is_name") fd_is_name
  b_is_name : Binds K fd_is_name ["thing"] []
  g_is_name : mg "is_name" = some (.ref (He.ga K "is_name"))
  fd_ends_there : FuncData
  F_ends_there : FnP K "ends_there" s_ends_there (He.ga K "ends_there") fd_ends_there
  b_ends_there : Binds K fd_ends_there ["statement"] []
  g_ends_there : mg "ends_there" = some (.ref (He.ga K "ends_there"))
  fd_Scope___init__ : FuncData
  F_Scope___init__ : FnM K "__init__" "Scope.__init__" s_Scope___init__ (He.ma K (He.ga K "Scope") "__init__") fd_Scope___init__
  me_Scope___init__ : Meth K (He.ga K "Scope") "__init__" (He.ma K (He.ga K "Scope") "__init__")
  b_Scope___init__ : Binds K fd_Scope___init__ ["self", "params", "rows", "heads"] []
  fd_Scope_is_variable : FuncData
  F_Scope_is_variable : FnM K "is_variable" "Scope.is_variable" s_Scope_is_variable (He.ma K (He.ga K "Scope") "is_variable") fd_Scope_is_variable
  me_Scope_is_variable : Meth K (He.ga K "Scope") "is_variable" (He.ma K (He.ga K "Scope") "is_variable")
  b_Scope_is_variable : Binds K fd_Scope_is_variable ["self", "thing"] []
  fd_Scope_is_row : FuncData
  F_Scope_is_row : FnM K "is_row" "Scope.is_row" s_Scope_is_row (He.ma K (He.ga K "Scope") "is_row") fd_Scope_is_row
  me_Scope_is_row : Meth K (He.ga K "Scope") "is_row" (He.ma K (He.ga K "Scope") "is_row")
  b_Scope_is_row : Binds K fd_Scope_is_row ["self", "thing"] []
  fd_Scope_is_expression : FuncData
  F_Scope_is_expression : FunD K "is_expression" "Scope.is_expression" (defArgs s_Scope_is_expression) (defBody s_Scope_is_expression) (defScope s_Scope_is_expression) [.int 1] [] (He.ma K (He.ga K "Scope") "is_expression") fd_Scope_is_expression
  me_Scope_is_expression : Meth K (He.ga K "Scope") "is_expression" (He.ma K (He.ga K "Scope") "is_expression")
  b2_Scope_is_expression : ∃ ds, Vals [.int 1] ds ∧ Binds K fd_Scope_is_expression ["self", "thing", "deep"] ds
  b_Scope_is_expression : ∃ ds, Vals [] ds ∧ Binds K fd_Scope_is_expression ["self", "thing", "deep"] ds
  fd_Scope_is_call : FuncData
  F_Scope_is_call : FnM K "is_call" "Scope.is_call" s_Scope_is_call (He.ma K (He.ga K "Scope") "is_call") fd_Scope_is_call
  me_Scope_is_call : Meth K (He.ga K "Scope") "is_call" (He.ma K (He.ga K "Scope") "is_call")
  b_Scope_is_call : Binds K fd_Scope_is_call ["self", "thing"] []
  fd_Scope_is_plain : FuncData
  F_Scope_is_plain : FnM K "is_plain" "Scope.is_plain" s_Scope_is_plain (He.ma K (He.ga K "Scope") "is_plain") fd_Scope_is_plain
  me_Scope_is_plain : Meth K (He.ga K "Scope") "is_plain" (He.ma K (He.ga K "Scope") "is_plain")
  b_Scope_is_plain : Binds K fd_Scope_is_plain ["self", "thing"] []
  fd_Scope_takes_one : FuncData
  F_Scope_takes_one : FnM K "takes_one" "Scope.takes_one" s_Scope_takes_one (He.ma K (He.ga K "Scope") "takes_one") fd_Scope_takes_one
  me_Scope_takes_one : Meth K (He.ga K "Scope") "takes_one" (He.ma K (He.ga K "Scope") "takes_one")
  b_Scope_takes_one : Binds K fd_Scope_takes_one ["self"] []
  fd_Scope_is_statement : FuncData
  F_Scope_is_statement : FnM K "is_statement" "Scope.is_statement" s_Scope_is_statement (He.ma K (He.ga K "Scope") "is_statement") fd_Scope_is_statement
  me_Scope_is_statement : Meth K (He.ga K "Scope") "is_statement" (He.ma K (He.ga K "Scope") "is_statement")
  b_Scope_is_statement : Binds K fd_Scope_is_statement ["self", "thing", "deep"] []
  fd_Scope_is_body : FuncData
  F_Scope_is_body : FunD K "is_body" "Scope.is_body" (defArgs s_Scope_is_body) (defBody s_Scope_is_body) (defScope s_Scope_is_body) [.int 0] [] (He.ma K (He.ga K "Scope") "is_body") fd_Scope_is_body
  me_Scope_is_body : Meth K (He.ga K "Scope") "is_body" (He.ma K (He.ga K "Scope") "is_body")
  b2_Scope_is_body : ∃ ds, Vals [.int 0] ds ∧ Binds K fd_Scope_is_body ["self", "thing", "deep"] ds
  b_Scope_is_body : ∃ ds, Vals [] ds ∧ Binds K fd_Scope_is_body ["self", "thing", "deep"] ds
  fd_are_params : FuncData
  F_are_params : FnP K "are_params" s_are_params (He.ga K "are_params") fd_are_params
  b_are_params : Binds K fd_are_params ["thing"] []
  g_are_params : mg "are_params" = some (.ref (He.ga K "are_params"))
  fd_is_size : FuncData
  F_is_size : FnP K "is_size" s_is_size (He.ga K "is_size") fd_is_size
  b_is_size : Binds K fd_is_size ["thing"] []
  g_is_size : mg "is_size" = some (.ref (He.ga K "is_size"))
  fd_are_rows : FuncData
  F_are_rows : FnP K "are_rows" s_are_rows (He.ga K "are_rows") fd_are_rows
  b_are_rows : Binds K fd_are_rows ["thing", "params"] []
  g_are_rows : mg "are_rows" = some (.ref (He.ga K "are_rows"))
  fd_heads_of : FuncData
  F_heads_of : FnP K "heads_of" s_heads_of (He.ga K "heads_of") fd_heads_of
  b_heads_of : Binds K fd_heads_of ["thing"] []
  g_heads_of : mg "heads_of" = some (.ref (He.ga K "heads_of"))
  fd_is_program : FuncData
  F_is_program : FnP K "is_program" s_is_program (He.ga K "is_program") fd_is_program
  b_is_program : Binds K fd_is_program ["thing"] []
  g_is_program : mg "is_program" = some (.ref (He.ga K "is_program"))
  fd__law_cell_at : FuncData
  F__law_cell_at : FnP K "_law_cell_at" s__law_cell_at (He.ga K "_law_cell_at") fd__law_cell_at
  b__law_cell_at : Binds K fd__law_cell_at ["_law_script", "_law_k"] []
  g__law_cell_at : mg "_law_cell_at" = some (.ref (He.ga K "_law_cell_at"))
  fd__law_whole : FuncData
  F__law_whole : FnP K "_law_whole" s__law_whole (He.ga K "_law_whole") fd__law_whole
  b__law_whole : Binds K fd__law_whole ["_law_found"] []
  g__law_whole : mg "_law_whole" = some (.ref (He.ga K "_law_whole"))
  fd__law_held : FuncData
  F__law_held : FnP K "_law_held" s__law_held (He.ga K "_law_held") fd__law_held
  b__law_held : Binds K fd__law_held ["_law_cell"] []
  g__law_held : mg "_law_held" = some (.ref (He.ga K "_law_held"))
  fd__law_mixed : FuncData
  F__law_mixed : FnP K "_law_mixed" s__law_mixed (He.ga K "_law_mixed") fd__law_mixed
  b__law_mixed : Binds K fd__law_mixed ["_law_cell", "_law_k", "_law_many"] []
  g__law_mixed : mg "_law_mixed" = some (.ref (He.ga K "_law_mixed"))
  fd__law_kept : FuncData
  F__law_kept : FnP K "_law_kept" s__law_kept (He.ga K "_law_kept") fd__law_kept
  b__law_kept : Binds K fd__law_kept [] []
  g__law_kept : mg "_law_kept" = some (.ref (He.ga K "_law_kept"))
  fd__law_letter : FuncData
  F__law_letter : FnP K "_law_letter" s__law_letter (He.ga K "_law_letter") fd__law_letter
  b__law_letter : Binds K fd__law_letter ["_law_k"] []
  g__law_letter : mg "_law_letter" = some (.ref (He.ga K "_law_letter"))
  fd__law_names : FuncData
  F__law_names : FnP K "_law_names" s__law_names (He.ga K "_law_names") fd__law_names
  b__law_names : Binds K fd__law_names ["_law_cell"] []
  g__law_names : mg "_law_names" = some (.ref (He.ga K "_law_names"))
  fd__law_number_by : FuncData
  F__law_number_by : FnP K "_law_number_by" s__law_number_by (He.ga K "_law_number_by") fd__law_number_by
  b__law_number_by : Binds K fd__law_number_by ["_law_cell", "_law_k"] []
  g__law_number_by : mg "_law_number_by" = some (.ref (He.ga K "_law_number_by"))
  fd__law_within : FuncData
  F__law_within : FnP K "_law_within" s__law_within (He.ga K "_law_within") fd__law_within
  b__law_within : Binds K fd__law_within ["_law_cell", "_law_k"] []
  g__law_within : mg "_law_within" = some (.ref (He.ga K "_law_within"))
  fd__law_expression : FuncData
  F__law_expression : FnP K "_law_expression" s__law_expression (He.ga K "_law_expression") fd__law_expression
  b__law_expression : Binds K fd__law_expression ["_law_cell", "_law_deep", "_law_info"] []
  g__law_expression : mg "_law_expression" = some (.ref (He.ga K "_law_expression"))
  fd__law_expressions : FuncData
  F__law_expressions : FnP K "_law_expressions" s__law_expressions (He.ga K "_law_expressions") fd__law_expressions
  b__law_expressions : Binds K fd__law_expressions ["_law_cell", "_law_many", "_law_info"] []
  g__law_expressions : mg "_law_expressions" = some (.ref (He.ga K "_law_expressions"))
  fd__law_plain : FuncData
  F__law_plain : FnP K "_law_plain" s__law_plain (He.ga K "_law_plain") fd__law_plain
  b__law_plain : Binds K fd__law_plain ["_law_cell", "_law_info"] []
  g__law_plain : mg "_law_plain" = some (.ref (He.ga K "_law_plain"))
  fd__law_nest : FuncData
  F__law_nest : FnP K "_law_nest" s__law_nest (He.ga K "_law_nest") fd__law_nest
  b__law_nest : Binds K fd__law_nest ["_law_cell", "_law_way", "_law_cells", "_law_deep", "_law_info"] []
  g__law_nest : mg "_law_nest" = some (.ref (He.ga K "_law_nest"))
  fd__law_body : FuncData
  F__law_body : FnP K "_law_body" s__law_body (He.ga K "_law_body") fd__law_body
  b__law_body : Binds K fd__law_body ["_law_cells", "_law_deep", "_law_info"] []
  g__law_body : mg "_law_body" = some (.ref (He.ga K "_law_body"))
  fd__law_inner_cell : FuncData
  F__law_inner_cell : FnP K "_law_inner_cell" s__law_inner_cell (He.ga K "_law_inner_cell") fd__law_inner_cell
  b__law_inner_cell : Binds K fd__law_inner_cell ["_law_script", "_law_first", "_law_k", "_law_j"] []
  g__law_inner_cell : mg "_law_inner_cell" = some (.ref (He.ga K "_law_inner_cell"))
  fd__law_program : FuncData
  F__law_program : FnP K "_law_program" s__law_program (He.ga K "_law_program") fd__law_program
  b__law_program : Binds K fd__law_program ["_law_script", "_law_first"] []
  g__law_program : mg "_law_program" = some (.ref (He.ga K "_law_program"))
  fd__law_is_name : FuncData
  F__law_is_name : FnP K "_law_is_name" s__law_is_name (He.ga K "_law_is_name") fd__law_is_name
  b__law_is_name : Binds K fd__law_is_name ["_law_thing"] []
  g__law_is_name : mg "_law_is_name" = some (.ref (He.ga K "_law_is_name"))
  fd__law_is_number : FuncData
  F__law_is_number : FnP K "_law_is_number" s__law_is_number (He.ga K "_law_is_number") fd__law_is_number
  b__law_is_number : Binds K fd__law_is_number ["_law_thing", "_law_low", "_law_high"] []
  g__law_is_number : mg "_law_is_number" = some (.ref (He.ga K "_law_is_number"))
  fd__law_fits_name : FuncData
  F__law_fits_name : FnP K "_law_fits_name" s__law_fits_name (He.ga K "_law_fits_name") fd__law_fits_name
  b__law_fits_name : Binds K fd__law_fits_name ["_law_thing", "_law_state"] []
  g__law_fits_name : mg "_law_fits_name" = some (.ref (He.ga K "_law_fits_name"))
  fd__law_fits_e : FuncData
  F__law_fits_e : FnP K "_law_fits_e" s__law_fits_e (He.ga K "_law_fits_e") fd__law_fits_e
  b__law_fits_e : Binds K fd__law_fits_e ["_law_e", "_law_deep", "_law_state"] []
  g__law_fits_e : mg "_law_fits_e" = some (.ref (He.ga K "_law_fits_e"))
  fd__law_fits_plain : FuncData
  F__law_fits_plain : FnP K "_law_fits_plain" s__law_fits_plain (He.ga K "_law_fits_plain") fd__law_fits_plain
  b__law_fits_plain : Binds K fd__law_fits_plain ["_law_s", "_law_state"] []
  g__law_fits_plain : mg "_law_fits_plain" = some (.ref (He.ga K "_law_fits_plain"))
  fd__law_fits_body : FuncData
  F__law_fits_body : FnP K "_law_fits_body" s__law_fits_body (He.ga K "_law_fits_body") fd__law_fits_body
  b__law_fits_body : Binds K fd__law_fits_body ["_law_body_here", "_law_deep", "_law_state"] []
  g__law_fits_body : mg "_law_fits_body" = some (.ref (He.ga K "_law_fits_body"))
  fd__law_are_params : FuncData
  F__law_are_params : FnP K "_law_are_params" s__law_are_params (He.ga K "_law_are_params") fd__law_are_params
  b__law_are_params : Binds K fd__law_are_params ["_law_thing"] []
  g__law_are_params : mg "_law_are_params" = some (.ref (He.ga K "_law_are_params"))
  fd__law_is_program : FuncData
  F__law_is_program : FnP K "_law_is_program" s__law_is_program (He.ga K "_law_is_program") fd__law_is_program
  b__law_is_program : Binds K fd__law_is_program ["_law_thing"] []
  g__law_is_program : mg "_law_is_program" = some (.ref (He.ga K "_law_is_program"))
  fd__law_odd : FuncData
  F__law_odd : FnP K "_law_odd" s__law_odd (He.ga K "_law_odd") fd__law_odd
  b__law_odd : Binds K fd__law_odd ["_law_part", "_law_names_here", "_law_cell"] []
  g__law_odd : mg "_law_odd" = some (.ref (He.ga K "_law_odd"))
  fd__law_edited : FuncData
  F__law_edited : FnP K "_law_edited" s__law_edited (He.ga K "_law_edited") fd__law_edited
  b__law_edited : Binds K fd__law_edited ["_law_thing", "_law_names_here", "_law_cell", "_law_deep"] []
  g__law_edited : mg "_law_edited" = some (.ref (He.ga K "_law_edited"))
  fd__law_great : FuncData
  F__law_great : FnP K "_law_great" s__law_great (He.ga K "_law_great") fd__law_great
  b__law_great : Binds K fd__law_great ["_law_cell"] []
  g__law_great : mg "_law_great" = some (.ref (He.ga K "_law_great"))
  fd_law : FuncData
  F_law : FnP K "law" s_law (He.ga K "law") fd_law
  b_law : Binds K fd_law ["_law_script"] []
  g_law : mg "law" = some (.ref (He.ga K "law"))
  g_Scope : mg "Scope" = some (.ref (He.ga K "Scope"))
  cl_Scope : Cls K (He.ga K "Scope")
  no_Scope_rows : NoAttr K (He.ga K "Scope") "rows"
  no_Scope_heads : NoAttr K (He.ga K "Scope") "heads"
  no_Scope_known : NoAttr K (He.ga K "Scope") "known"
  no_Scope_many : NoAttr K (He.ga K "Scope") "many"
  mk_Scope : Mk K (He.ga K "Scope") (He.ma K (He.ga K "Scope") "__init__")
  m_all : mg "all" = none
  m_bool : mg "bool" = none
  m_dict : mg "dict" = none
  m_enumerate : mg "enumerate" = none
  m_int : mg "int" = none
  m_isinstance : mg "isinstance" = none
  m_len : mg "len" = none
  m_list : mg "list" = none
  m_max : mg "max" = none
  m_min : mg "min" = none
  m_range : mg "range" = none
  m_set : mg "set" = none
  m_str : mg "str" = none
  m_tuple : mg "tuple" = none
  t_HALF : Tok
  c_HALF : mg "HALF" = some (.int 2147483648 t_HALF)
  c_WORDS : mg "WORDS" = some (.ref (He.ga K "WORDS"))
  q_WORDS : ∀ H : Hp, SqT K H (He.ga K "WORDS") [.str "add", .str "sub", .str "mul", .str "div", .str "rem", .str "less", .str "same"]
  t_LETTERS : Tok
  c_LETTERS : mg "LETTERS" = some (.str "abcdefghijklmnopqrstuvwxyz" t_LETTERS)
  t_MOST_LETTERS : Tok
  c_MOST_LETTERS : mg "MOST_LETTERS" = some (.int 8 t_MOST_LETTERS)
  t_MOST_DEEP : Tok
  c_MOST_DEEP : mg "MOST_DEEP" = some (.int 4 t_MOST_DEEP)
  t_MOST_STATEMENTS : Tok
  c_MOST_STATEMENTS : mg "MOST_STATEMENTS" = some (.int 25 t_MOST_STATEMENTS)
  t_MOST_VARIABLES : Tok
  c_MOST_VARIABLES : mg "MOST_VARIABLES" = some (.int 12 t_MOST_VARIABLES)
  t_MOST_FAIL : Tok
  c_MOST_FAIL : mg "MOST_FAIL" = some (.int 99 t_MOST_FAIL)
  t_MOST_HELPERS : Tok
  c_MOST_HELPERS : mg "MOST_HELPERS" = some (.int 4 t_MOST_HELPERS)
  t_MOST_PARAMS : Tok
  c_MOST_PARAMS : mg "MOST_PARAMS" = some (.int 4 t_MOST_PARAMS)
  t_MOST_ROWS : Tok
  c_MOST_ROWS : mg "MOST_ROWS" = some (.int 3 t_MOST_ROWS)
  t_MOST_SIZE : Tok
  c_MOST_SIZE : mg "MOST_SIZE" = some (.int 8 t_MOST_SIZE)
  c_KEPT : mg "KEPT" = some (.ref (He.ga K "KEPT"))
  q_KEPT : ∀ H : Hp, SqT K H (He.ga K "KEPT") [.str "number", .str "not", .str "at", .str "add", .str "sub", .str "mul", .str "div", .str "rem", .str "less", .str "same", .str "set", .str "put", .str "tell", .str "if", .str "else", .str "end", .str "while", .str "call", .str "fail", .str "give", .str "row", .str "helper", .str "main"]
def d_is_number : He.DefD := ⟨("is_number", none), "is_number", "is_number", defArgs s_is_number, defBody s_is_number, defScope s_is_number, [], []⟩
def d_is_name : He.DefD := ⟨("is_name", none), "is_name", "is_name", defArgs s_is_name, defBody s_is_name, defScope s_is_name, [], []⟩
def d_ends_there : He.DefD := ⟨("ends_there", none), "ends_there", "ends_there", defArgs s_ends_there, defBody s_ends_there, defScope s_ends_there, [], []⟩
def d_Scope___init__ : He.DefD := ⟨("Scope", some "__init__"), "__init__", "Scope.__init__", defArgs s_Scope___init__, defBody s_Scope___init__, defScope s_Scope___init__, [], []⟩
def d_Scope_is_variable : He.DefD := ⟨("Scope", some "is_variable"), "is_variable", "Scope.is_variable", defArgs s_Scope_is_variable, defBody s_Scope_is_variable, defScope s_Scope_is_variable, [], []⟩
def d_Scope_is_row : He.DefD := ⟨("Scope", some "is_row"), "is_row", "Scope.is_row", defArgs s_Scope_is_row, defBody s_Scope_is_row, defScope s_Scope_is_row, [], []⟩
def d_Scope_is_expression : He.DefD := ⟨("Scope", some "is_expression"), "is_expression", "Scope.is_expression", defArgs s_Scope_is_expression, defBody s_Scope_is_expression, defScope s_Scope_is_expression, [.int 1], []⟩
def d_Scope_is_call : He.DefD := ⟨("Scope", some "is_call"), "is_call", "Scope.is_call", defArgs s_Scope_is_call, defBody s_Scope_is_call, defScope s_Scope_is_call, [], []⟩
def d_Scope_is_plain : He.DefD := ⟨("Scope", some "is_plain"), "is_plain", "Scope.is_plain", defArgs s_Scope_is_plain, defBody s_Scope_is_plain, defScope s_Scope_is_plain, [], []⟩
def d_Scope_takes_one : He.DefD := ⟨("Scope", some "takes_one"), "takes_one", "Scope.takes_one", defArgs s_Scope_takes_one, defBody s_Scope_takes_one, defScope s_Scope_takes_one, [], []⟩
def d_Scope_is_statement : He.DefD := ⟨("Scope", some "is_statement"), "is_statement", "Scope.is_statement", defArgs s_Scope_is_statement, defBody s_Scope_is_statement, defScope s_Scope_is_statement, [], []⟩
def d_Scope_is_body : He.DefD := ⟨("Scope", some "is_body"), "is_body", "Scope.is_body", defArgs s_Scope_is_body, defBody s_Scope_is_body, defScope s_Scope_is_body, [.int 0], []⟩
def d_are_params : He.DefD := ⟨("are_params", none), "are_params", "are_params", defArgs s_are_params, defBody s_are_params, defScope s_are_params, [], []⟩
def d_is_size : He.DefD := ⟨("is_size", none), "is_size", "is_size", defArgs s_is_size, defBody s_is_size, defScope s_is_size, [], []⟩
def d_are_rows : He.DefD := ⟨("are_rows", none), "are_rows", "are_rows", defArgs s_are_rows, defBody s_are_rows, defScope s_are_rows, [], []⟩
def d_heads_of : He.DefD := ⟨("heads_of", none), "heads_of", "heads_of", defArgs s_heads_of, defBody s_heads_of, defScope s_heads_of, [], []⟩
def d_is_program : He.DefD := ⟨("is_program", none), "is_program", "is_program", defArgs s_is_program, defBody s_is_program, defScope s_is_program, [], []⟩
def d__law_cell_at : He.DefD := ⟨("_law_cell_at", none), "_law_cell_at", "_law_cell_at", defArgs s__law_cell_at, defBody s__law_cell_at, defScope s__law_cell_at, [], []⟩
def d__law_whole : He.DefD := ⟨("_law_whole", none), "_law_whole", "_law_whole", defArgs s__law_whole, defBody s__law_whole, defScope s__law_whole, [], []⟩
def d__law_held : He.DefD := ⟨("_law_held", none), "_law_held", "_law_held", defArgs s__law_held, defBody s__law_held, defScope s__law_held, [], []⟩
def d__law_mixed : He.DefD := ⟨("_law_mixed", none), "_law_mixed", "_law_mixed", defArgs s__law_mixed, defBody s__law_mixed, defScope s__law_mixed, [], []⟩
def d__law_kept : He.DefD := ⟨("_law_kept", none), "_law_kept", "_law_kept", defArgs s__law_kept, defBody s__law_kept, defScope s__law_kept, [], []⟩
def d__law_letter : He.DefD := ⟨("_law_letter", none), "_law_letter", "_law_letter", defArgs s__law_letter, defBody s__law_letter, defScope s__law_letter, [], []⟩
def d__law_names : He.DefD := ⟨("_law_names", none), "_law_names", "_law_names", defArgs s__law_names, defBody s__law_names, defScope s__law_names, [], []⟩
def d__law_number_by : He.DefD := ⟨("_law_number_by", none), "_law_number_by", "_law_number_by", defArgs s__law_number_by, defBody s__law_number_by, defScope s__law_number_by, [], []⟩
def d__law_within : He.DefD := ⟨("_law_within", none), "_law_within", "_law_within", defArgs s__law_within, defBody s__law_within, defScope s__law_within, [], []⟩
def d__law_expression : He.DefD := ⟨("_law_expression", none), "_law_expression", "_law_expression", defArgs s__law_expression, defBody s__law_expression, defScope s__law_expression, [], []⟩
def d__law_expressions : He.DefD := ⟨("_law_expressions", none), "_law_expressions", "_law_expressions", defArgs s__law_expressions, defBody s__law_expressions, defScope s__law_expressions, [], []⟩
def d__law_plain : He.DefD := ⟨("_law_plain", none), "_law_plain", "_law_plain", defArgs s__law_plain, defBody s__law_plain, defScope s__law_plain, [], []⟩
def d__law_nest : He.DefD := ⟨("_law_nest", none), "_law_nest", "_law_nest", defArgs s__law_nest, defBody s__law_nest, defScope s__law_nest, [], []⟩
def d__law_body : He.DefD := ⟨("_law_body", none), "_law_body", "_law_body", defArgs s__law_body, defBody s__law_body, defScope s__law_body, [], []⟩
def d__law_inner_cell : He.DefD := ⟨("_law_inner_cell", none), "_law_inner_cell", "_law_inner_cell", defArgs s__law_inner_cell, defBody s__law_inner_cell, defScope s__law_inner_cell, [], []⟩
def d__law_program : He.DefD := ⟨("_law_program", none), "_law_program", "_law_program", defArgs s__law_program, defBody s__law_program, defScope s__law_program, [], []⟩
def d__law_is_name : He.DefD := ⟨("_law_is_name", none), "_law_is_name", "_law_is_name", defArgs s__law_is_name, defBody s__law_is_name, defScope s__law_is_name, [], []⟩
def d__law_is_number : He.DefD := ⟨("_law_is_number", none), "_law_is_number", "_law_is_number", defArgs s__law_is_number, defBody s__law_is_number, defScope s__law_is_number, [], []⟩
def d__law_fits_name : He.DefD := ⟨("_law_fits_name", none), "_law_fits_name", "_law_fits_name", defArgs s__law_fits_name, defBody s__law_fits_name, defScope s__law_fits_name, [], []⟩
def d__law_fits_e : He.DefD := ⟨("_law_fits_e", none), "_law_fits_e", "_law_fits_e", defArgs s__law_fits_e, defBody s__law_fits_e, defScope s__law_fits_e, [], []⟩
def d__law_fits_plain : He.DefD := ⟨("_law_fits_plain", none), "_law_fits_plain", "_law_fits_plain", defArgs s__law_fits_plain, defBody s__law_fits_plain, defScope s__law_fits_plain, [], []⟩
def d__law_fits_body : He.DefD := ⟨("_law_fits_body", none), "_law_fits_body", "_law_fits_body", defArgs s__law_fits_body, defBody s__law_fits_body, defScope s__law_fits_body, [], []⟩
def d__law_are_params : He.DefD := ⟨("_law_are_params", none), "_law_are_params", "_law_are_params", defArgs s__law_are_params, defBody s__law_are_params, defScope s__law_are_params, [], []⟩
def d__law_is_program : He.DefD := ⟨("_law_is_program", none), "_law_is_program", "_law_is_program", defArgs s__law_is_program, defBody s__law_is_program, defScope s__law_is_program, [], []⟩
def d__law_odd : He.DefD := ⟨("_law_odd", none), "_law_odd", "_law_odd", defArgs s__law_odd, defBody s__law_odd, defScope s__law_odd, [], []⟩
def d__law_edited : He.DefD := ⟨("_law_edited", none), "_law_edited", "_law_edited", defArgs s__law_edited, defBody s__law_edited, defScope s__law_edited, [], []⟩
def d__law_great : He.DefD := ⟨("_law_great", none), "_law_great", "_law_great", defArgs s__law_great, defBody s__law_great, defScope s__law_great, [], []⟩
def d_law : He.DefD := ⟨("law", none), "law", "law", defArgs s_law, defBody s_law, defScope s_law, [], []⟩
def fn0 : List He.DefD := [d_is_number, d_is_name, d_ends_there, d_Scope___init__, d_Scope_is_variable, d_Scope_is_row, d_Scope_is_expression, d_Scope_is_call, d_Scope_is_plain, d_Scope_takes_one, d_Scope_is_statement, d_Scope_is_body, d_are_params, d_is_size, d_are_rows, d_heads_of, d_is_program, d__law_cell_at, d__law_whole, d__law_held, d__law_mixed, d__law_kept, d__law_letter, d__law_names, d__law_number_by, d__law_within, d__law_expression, d__law_expressions, d__law_plain, d__law_nest]
def fn1 : List He.DefD := [d__law_body, d__law_inner_cell, d__law_program, d__law_is_name, d__law_is_number, d__law_fits_name, d__law_fits_e, d__law_fits_plain, d__law_fits_body, d__law_are_params, d__law_is_program, d__law_odd, d__law_edited, d__law_great, d_law]
def fn : List He.DefD := fn0 ++ fn1
def fa0 : List He.Fa := [.glo "is_number", .glo "is_name", .glo "ends_there", .meth "Scope" "__init__", .meth "Scope" "is_variable", .meth "Scope" "is_row", .meth "Scope" "is_expression", .meth "Scope" "is_call", .meth "Scope" "is_plain", .meth "Scope" "takes_one", .meth "Scope" "is_statement", .meth "Scope" "is_body", .glo "are_params", .glo "is_size", .glo "are_rows", .glo "heads_of", .glo "is_program", .glo "_law_cell_at", .glo "_law_whole", .glo "_law_held", .glo "_law_mixed", .glo "_law_kept", .glo "_law_letter", .glo "_law_names", .glo "_law_number_by", .glo "_law_within", .glo "_law_expression", .glo "_law_expressions", .glo "_law_plain", .glo "_law_nest"]
def fa1 : List He.Fa := [.glo "_law_body", .glo "_law_inner_cell", .glo "_law_program", .glo "_law_is_name", .glo "_law_is_number", .glo "_law_fits_name", .glo "_law_fits_e", .glo "_law_fits_plain", .glo "_law_fits_body", .glo "_law_are_params", .glo "_law_is_program", .glo "_law_odd", .glo "_law_edited", .glo "_law_great", .glo "law", .glo "Scope", .cls "Scope", .noat "Scope" "rows", .noat "Scope" "heads", .noat "Scope" "known", .noat "Scope" "many", .mkr "Scope", .free "all", .free "bool", .free "dict", .free "enumerate", .free "int", .free "isinstance", .free "len", .free "list"]
def fa2 : List He.Fa := [.free "max", .free "min", .free "range", .free "set", .free "str", .free "tuple", .int "HALF" (2147483648), .glo "WORDS", .str "LETTERS" ("abcdefghijklmnopqrstuvwxyz"), .int "MOST_LETTERS" (8), .int "MOST_DEEP" (4), .int "MOST_STATEMENTS" (25), .int "MOST_VARIABLES" (12), .int "MOST_FAIL" (99), .int "MOST_HELPERS" (4), .int "MOST_PARAMS" (4), .int "MOST_ROWS" (3), .int "MOST_SIZE" (8), .glo "KEPT"]
def fa : List He.Fa := fa0 ++ fa1 ++ fa2
def exB (K : PySem.W.Frag) : Bool := He.tupB K "WORDS" [.str "add", .str "sub", .str "mul", .str "div", .str "rem", .str "less", .str "same"] && (He.tupB K "KEPT" [.str "number", .str "not", .str "at", .str "add", .str "sub", .str "mul", .str "div", .str "rem", .str "less", .str "same", .str "set", .str "put", .str "tell", .str "if", .str "else", .str "end", .str "while", .str "call", .str "fail", .str "give", .str "row", .str "helper", .str "main"])
abbrev hk : PySem.W.Hook := hookE 2000 fa fn exB
def ob (s : PySem.W.SharedT) : He.AlD × Bool := obsE 2000 fa fn exB (HandSHeadRun.getT s)
theorem ob_eq (s : PySem.W.SharedT) : ob s = hk.obs s.abs := obsE_eq (HandSHeadRun.getT_eq s)
abbrev R : PySem.W.OpenRow := PySem.W.OpenLaw.row PySem.Challenge.rw_passworks_k04_programs
def lo0 : List PySem.Str := ["HALF", "WORDS", "is_number", "LETTERS", "MOST_LETTERS", "MOST_DEEP", "MOST_STATEMENTS", "MOST_VARIABLES", "MOST_FAIL", "MOST_HELPERS", "MOST_PARAMS", "MOST_ROWS", "MOST_SIZE", "KEPT", "is_name", "ends_there", "Scope", "are_params", "is_size", "are_rows", "heads_of", "is_program", "_law_cell_at", "_law_whole", "_law_held", "_law_mixed", "_law_kept", "_law_letter", "_law_names", "_law_number_by"]
def lo1 : List PySem.Str := ["_law_within", "_law_expression", "_law_expressions", "_law_plain", "_law_nest", "_law_body", "_law_inner_cell", "_law_program", "_law_is_name", "_law_is_number", "_law_fits_name", "_law_fits_e", "_law_fits_plain", "_law_fits_body", "_law_are_params", "_law_is_program", "_law_odd", "_law_edited", "_law_great"]
def lo : List PySem.Str := lo0 ++ lo1
theorem run1 (w : World) (os : PySem.OsState) : (HandSHeadRun.endF (HandSHeadRun.stepQ (HandSHeadRun.denQ HandSHeadRun.tabQ) R.prog w) 4000 R.prog w os).map (fun s => HandSHeadRun.looksF R.prog (PySem.W.boot_heap w.params) s.abs) = some true := by kernel_rfl
theorem run2 (w : World) (os : PySem.OsState) : (HandSHeadRun.endF (HandSHeadRun.stepQ (HandSHeadRun.denQ HandSHeadRun.tabQ) R.prog w) 4000 R.prog w os).map (fun s => HandSHeadRun.seenQ (PySem.W.view R.prog [52]) lo (PySem.importedModules R.prog.main.body) (fun s => PySem.W.xlAt (PySem.W.view R.prog [52]) [] s && PySem.W.recOk R.toRowW.records s) s.abs) = some (PySem.W.openGood (PySem.W.view R.prog [52]) lo) := by kernel_rfl
theorem run3 (w : World) (os : PySem.OsState) : (HandSHeadRun.endF (HandSHeadRun.stepQ (HandSHeadRun.denQ HandSHeadRun.tabQ) R.prog w) 4000 R.prog w os).map ob = some (hk.val w) := by kernel_rfl
theorem run (w : World) : HandSHeadRun.RunEq R (PySem.W.view R.prog [52]) hk ob 4000 lo w := fun os => map3 (run1 w os) (run2 w os) (run3 w os)
theorem top_of {K : PySem.W.Frag} {h : Heap} {mg : Str → Option Value} (X : K.In h) (G : h.Ns mainGlobals mg) (c : SaysE fa fn exB K) : Nonempty (Top K mg) := by
  obtain ⟨fd0, F0⟩ := c.1.def_ 0 (d := d_is_number) rfl
  obtain ⟨fd1, F1⟩ := c.1.def_ 1 (d := d_is_name) rfl
  obtain ⟨fd2, F2⟩ := c.1.def_ 2 (d := d_ends_there) rfl
  obtain ⟨fd3, F3⟩ := c.1.def_ 3 (d := d_Scope___init__) rfl
  obtain ⟨fd4, F4⟩ := c.1.def_ 4 (d := d_Scope_is_variable) rfl
  obtain ⟨fd5, F5⟩ := c.1.def_ 5 (d := d_Scope_is_row) rfl
  obtain ⟨fd6, F6⟩ := c.1.def_ 6 (d := d_Scope_is_expression) rfl
  obtain ⟨fd7, F7⟩ := c.1.def_ 7 (d := d_Scope_is_call) rfl
  obtain ⟨fd8, F8⟩ := c.1.def_ 8 (d := d_Scope_is_plain) rfl
  obtain ⟨fd9, F9⟩ := c.1.def_ 9 (d := d_Scope_takes_one) rfl
  obtain ⟨fd10, F10⟩ := c.1.def_ 10 (d := d_Scope_is_statement) rfl
  obtain ⟨fd11, F11⟩ := c.1.def_ 11 (d := d_Scope_is_body) rfl
  obtain ⟨fd12, F12⟩ := c.1.def_ 12 (d := d_are_params) rfl
  obtain ⟨fd13, F13⟩ := c.1.def_ 13 (d := d_is_size) rfl
  obtain ⟨fd14, F14⟩ := c.1.def_ 14 (d := d_are_rows) rfl
  obtain ⟨fd15, F15⟩ := c.1.def_ 15 (d := d_heads_of) rfl
  obtain ⟨fd16, F16⟩ := c.1.def_ 16 (d := d_is_program) rfl
  obtain ⟨fd17, F17⟩ := c.1.def_ 17 (d := d__law_cell_at) rfl
  obtain ⟨fd18, F18⟩ := c.1.def_ 18 (d := d__law_whole) rfl
  obtain ⟨fd19, F19⟩ := c.1.def_ 19 (d := d__law_held) rfl
  obtain ⟨fd20, F20⟩ := c.1.def_ 20 (d := d__law_mixed) rfl
  obtain ⟨fd21, F21⟩ := c.1.def_ 21 (d := d__law_kept) rfl
  obtain ⟨fd22, F22⟩ := c.1.def_ 22 (d := d__law_letter) rfl
  obtain ⟨fd23, F23⟩ := c.1.def_ 23 (d := d__law_names) rfl
  obtain ⟨fd24, F24⟩ := c.1.def_ 24 (d := d__law_number_by) rfl
  obtain ⟨fd25, F25⟩ := c.1.def_ 25 (d := d__law_within) rfl
  obtain ⟨fd26, F26⟩ := c.1.def_ 26 (d := d__law_expression) rfl
  obtain ⟨fd27, F27⟩ := c.1.def_ 27 (d := d__law_expressions) rfl
  obtain ⟨fd28, F28⟩ := c.1.def_ 28 (d := d__law_plain) rfl
  obtain ⟨fd29, F29⟩ := c.1.def_ 29 (d := d__law_nest) rfl
  obtain ⟨fd30, F30⟩ := c.1.def_ 30 (d := d__law_body) rfl
  obtain ⟨fd31, F31⟩ := c.1.def_ 31 (d := d__law_inner_cell) rfl
  obtain ⟨fd32, F32⟩ := c.1.def_ 32 (d := d__law_program) rfl
  obtain ⟨fd33, F33⟩ := c.1.def_ 33 (d := d__law_is_name) rfl
  obtain ⟨fd34, F34⟩ := c.1.def_ 34 (d := d__law_is_number) rfl
  obtain ⟨fd35, F35⟩ := c.1.def_ 35 (d := d__law_fits_name) rfl
  obtain ⟨fd36, F36⟩ := c.1.def_ 36 (d := d__law_fits_e) rfl
  obtain ⟨fd37, F37⟩ := c.1.def_ 37 (d := d__law_fits_plain) rfl
  obtain ⟨fd38, F38⟩ := c.1.def_ 38 (d := d__law_fits_body) rfl
  obtain ⟨fd39, F39⟩ := c.1.def_ 39 (d := d__law_are_params) rfl
  obtain ⟨fd40, F40⟩ := c.1.def_ 40 (d := d__law_is_program) rfl
  obtain ⟨fd41, F41⟩ := c.1.def_ 41 (d := d__law_odd) rfl
  obtain ⟨fd42, F42⟩ := c.1.def_ 42 (d := d__law_edited) rfl
  obtain ⟨fd43, F43⟩ := c.1.def_ 43 (d := d__law_great) rfl
  obtain ⟨fd44, F44⟩ := c.1.def_ 44 (d := d_law) rfl
  obtain ⟨tk_HALF, ck_HALF⟩ := He.int_ok X G (c.1.fact 66 (f := .int "HALF" (2147483648)) rfl)
  obtain ⟨tk_LETTERS, ck_LETTERS⟩ := He.str_ok X G (c.1.fact 68 (f := .str "LETTERS" ("abcdefghijklmnopqrstuvwxyz")) rfl)
  obtain ⟨tk_MOST_LETTERS, ck_MOST_LETTERS⟩ := He.int_ok X G (c.1.fact 69 (f := .int "MOST_LETTERS" (8)) rfl)
  obtain ⟨tk_MOST_DEEP, ck_MOST_DEEP⟩ := He.int_ok X G (c.1.fact 70 (f := .int "MOST_DEEP" (4)) rfl)
  obtain ⟨tk_MOST_STATEMENTS, ck_MOST_STATEMENTS⟩ := He.int_ok X G (c.1.fact 71 (f := .int "MOST_STATEMENTS" (25)) rfl)
  obtain ⟨tk_MOST_VARIABLES, ck_MOST_VARIABLES⟩ := He.int_ok X G (c.1.fact 72 (f := .int "MOST_VARIABLES" (12)) rfl)
  obtain ⟨tk_MOST_FAIL, ck_MOST_FAIL⟩ := He.int_ok X G (c.1.fact 73 (f := .int "MOST_FAIL" (99)) rfl)
  obtain ⟨tk_MOST_HELPERS, ck_MOST_HELPERS⟩ := He.int_ok X G (c.1.fact 74 (f := .int "MOST_HELPERS" (4)) rfl)
  obtain ⟨tk_MOST_PARAMS, ck_MOST_PARAMS⟩ := He.int_ok X G (c.1.fact 75 (f := .int "MOST_PARAMS" (4)) rfl)
  obtain ⟨tk_MOST_ROWS, ck_MOST_ROWS⟩ := He.int_ok X G (c.1.fact 76 (f := .int "MOST_ROWS" (3)) rfl)
  obtain ⟨tk_MOST_SIZE, ck_MOST_SIZE⟩ := He.int_ok X G (c.1.fact 77 (f := .int "MOST_SIZE" (8)) rfl)
  have hx := c.2
  obtain ⟨hx0, hy0⟩ := He.ba (show (He.tupB K "WORDS" [.str "add", .str "sub", .str "mul", .str "div", .str "rem", .str "less", .str "same"] && _) = true from hx)
  have hx1 : (He.tupB K "KEPT" [.str "number", .str "not", .str "at", .str "add", .str "sub", .str "mul", .str "div", .str "rem", .str "less", .str "same", .str "set", .str "put", .str "tell", .str "if", .str "else", .str "end", .str "while", .str "call", .str "fail", .str "give", .str "row", .str "helper", .str "main"]) = true := hy0
  exact ⟨{ fd_is_number := fd0, F_is_number := F0, b_is_number := FunD.bindsN F0 fun _ _ _ _ _ _ us hl => (match us, hl with | [_], _ => rfl), g_is_number := He.glo_ok X G (c.1.fact 0 (f := .glo "is_number") rfl), fd_is_name := fd1, F_is_name := F1, b_is_name := FunD.bindsN F1 fun _ _ _ _ _ _ us hl => (match us, hl with | [_], _ => rfl), g_is_name := He.glo_ok X G (c.1.fact 1 (f := .glo "is_name") rfl), fd_ends_there := fd2, F_ends_there := F2, b_ends_there := FunD.bindsN F2 fun _ _ _ _ _ _ us hl => (match us, hl with | [_], _ => rfl), g_ends_there := He.glo_ok X G (c.1.fact 2 (f := .glo "ends_there") rfl), fd_Scope___init__ := fd3, F_Scope___init__ := F3, b_Scope___init__ := FunD.bindsN F3 fun _ _ _ _ _ _ us hl => (match us, hl with | [_, _, _, _], _ => rfl), me_Scope___init__ := He.meth_ok (c.1.fact 3 (f := .meth "Scope" "__init__") rfl), fd_Scope_is_variable := fd4, F_Scope_is_variable := F4, b_Scope_is_variable := FunD.bindsN F4 fun _ _ _ _ _ _ us hl => (match us, hl with | [_, _], _ => rfl), me_Scope_is_variable := He.meth_ok (c.1.fact 4 (f := .meth "Scope" "is_variable") rfl), fd_Scope_is_row := fd5, F_Scope_is_row := F5, b_Scope_is_row := FunD.bindsN F5 fun _ _ _ _ _ _ us hl => (match us, hl with | [_, _], _ => rfl), me_Scope_is_row := He.meth_ok (c.1.fact 5 (f := .meth "Scope" "is_row") rfl), fd_Scope_is_expression := fd6, F_Scope_is_expression := F6, b2_Scope_is_expression := FunD.binds1 F6 2 0 (by simp [He.DefD.dvs, d_Scope_is_expression]) rfl fun _ _ _ _ _ _ _ us its hu hi => (match us, hu, its, hi with | [_, _], _, [_], _ => ⟨_, rfl, rfl⟩), b_Scope_is_expression := FunD.binds1 F6 3 1 (by simp [He.DefD.dvs, d_Scope_is_expression]) rfl fun _ _ _ _ _ _ _ us its hu hi => (match us, hu, its, hi with | [_, _, _], _, [_], _ => ⟨_, rfl, rfl⟩), me_Scope_is_expression := He.meth_ok (c.1.fact 6 (f := .meth "Scope" "is_expression") rfl), fd_Scope_is_call := fd7, F_Scope_is_call := F7, b_Scope_is_call := FunD.bindsN F7 fun _ _ _ _ _ _ us hl => (match us, hl with | [_, _], _ => rfl), me_Scope_is_call := He.meth_ok (c.1.fact 7 (f := .meth "Scope" "is_call") rfl), fd_Scope_is_plain := fd8, F_Scope_is_plain := F8, b_Scope_is_plain := FunD.bindsN F8 fun _ _ _ _ _ _ us hl => (match us, hl with | [_, _], _ => rfl), me_Scope_is_plain := He.meth_ok (c.1.fact 8 (f := .meth "Scope" "is_plain") rfl), fd_Scope_takes_one := fd9, F_Scope_takes_one := F9, b_Scope_takes_one := FunD.bindsN F9 fun _ _ _ _ _ _ us hl => (match us, hl with | [_], _ => rfl), me_Scope_takes_one := He.meth_ok (c.1.fact 9 (f := .meth "Scope" "takes_one") rfl), fd_Scope_is_statement := fd10, F_Scope_is_statement := F10, b_Scope_is_statement := FunD.bindsN F10 fun _ _ _ _ _ _ us hl => (match us, hl with | [_, _, _], _ => rfl), me_Scope_is_statement := He.meth_ok (c.1.fact 10 (f := .meth "Scope" "is_statement") rfl), fd_Scope_is_body := fd11, F_Scope_is_body := F11, b2_Scope_is_body := FunD.binds1 F11 2 0 (by simp [He.DefD.dvs, d_Scope_is_body]) rfl fun _ _ _ _ _ _ _ us its hu hi => (match us, hu, its, hi with | [_, _], _, [_], _ => ⟨_, rfl, rfl⟩), b_Scope_is_body := FunD.binds1 F11 3 1 (by simp [He.DefD.dvs, d_Scope_is_body]) rfl fun _ _ _ _ _ _ _ us its hu hi => (match us, hu, its, hi with | [_, _, _], _, [_], _ => ⟨_, rfl, rfl⟩), me_Scope_is_body := He.meth_ok (c.1.fact 11 (f := .meth "Scope" "is_body") rfl), fd_are_params := fd12, F_are_params := F12, b_are_params := FunD.bindsN F12 fun _ _ _ _ _ _ us hl => (match us, hl with | [_], _ => rfl), g_are_params := He.glo_ok X G (c.1.fact 12 (f := .glo "are_params") rfl), fd_is_size := fd13, F_is_size := F13, b_is_size := FunD.bindsN F13 fun _ _ _ _ _ _ us hl => (match us, hl with | [_], _ => rfl), g_is_size := He.glo_ok X G (c.1.fact 13 (f := .glo "is_size") rfl), fd_are_rows := fd14, F_are_rows := F14, b_are_rows := FunD.bindsN F14 fun _ _ _ _ _ _ us hl => (match us, hl with | [_, _], _ => rfl), g_are_rows := He.glo_ok X G (c.1.fact 14 (f := .glo "are_rows") rfl), fd_heads_of := fd15, F_heads_of := F15, b_heads_of := FunD.bindsN F15 fun _ _ _ _ _ _ us hl => (match us, hl with | [_], _ => rfl), g_heads_of := He.glo_ok X G (c.1.fact 15 (f := .glo "heads_of") rfl), fd_is_program := fd16, F_is_program := F16, b_is_program := FunD.bindsN F16 fun _ _ _ _ _ _ us hl => (match us, hl with | [_], _ => rfl), g_is_program := He.glo_ok X G (c.1.fact 16 (f := .glo "is_program") rfl), fd__law_cell_at := fd17, F__law_cell_at := F17, b__law_cell_at := FunD.bindsN F17 fun _ _ _ _ _ _ us hl => (match us, hl with | [_, _], _ => rfl), g__law_cell_at := He.glo_ok X G (c.1.fact 17 (f := .glo "_law_cell_at") rfl), fd__law_whole := fd18, F__law_whole := F18, b__law_whole := FunD.bindsN F18 fun _ _ _ _ _ _ us hl => (match us, hl with | [_], _ => rfl), g__law_whole := He.glo_ok X G (c.1.fact 18 (f := .glo "_law_whole") rfl), fd__law_held := fd19, F__law_held := F19, b__law_held := FunD.bindsN F19 fun _ _ _ _ _ _ us hl => (match us, hl with | [_], _ => rfl), g__law_held := He.glo_ok X G (c.1.fact 19 (f := .glo "_law_held") rfl), fd__law_mixed := fd20, F__law_mixed := F20, b__law_mixed := FunD.bindsN F20 fun _ _ _ _ _ _ us hl => (match us, hl with | [_, _, _], _ => rfl), g__law_mixed := He.glo_ok X G (c.1.fact 20 (f := .glo "_law_mixed") rfl), fd__law_kept := fd21, F__law_kept := F21, b__law_kept := FunD.bindsN F21 fun _ _ _ _ _ _ us hl => (match us, hl with | [], _ => rfl), g__law_kept := He.glo_ok X G (c.1.fact 21 (f := .glo "_law_kept") rfl), fd__law_letter := fd22, F__law_letter := F22, b__law_letter := FunD.bindsN F22 fun _ _ _ _ _ _ us hl => (match us, hl with | [_], _ => rfl), g__law_letter := He.glo_ok X G (c.1.fact 22 (f := .glo "_law_letter") rfl), fd__law_names := fd23, F__law_names := F23, b__law_names := FunD.bindsN F23 fun _ _ _ _ _ _ us hl => (match us, hl with | [_], _ => rfl), g__law_names := He.glo_ok X G (c.1.fact 23 (f := .glo "_law_names") rfl), fd__law_number_by := fd24, F__law_number_by := F24, b__law_number_by := FunD.bindsN F24 fun _ _ _ _ _ _ us hl => (match us, hl with | [_, _], _ => rfl), g__law_number_by := He.glo_ok X G (c.1.fact 24 (f := .glo "_law_number_by") rfl), fd__law_within := fd25, F__law_within := F25, b__law_within := FunD.bindsN F25 fun _ _ _ _ _ _ us hl => (match us, hl with | [_, _], _ => rfl), g__law_within := He.glo_ok X G (c.1.fact 25 (f := .glo "_law_within") rfl), fd__law_expression := fd26, F__law_expression := F26, b__law_expression := FunD.bindsN F26 fun _ _ _ _ _ _ us hl => (match us, hl with | [_, _, _], _ => rfl), g__law_expression := He.glo_ok X G (c.1.fact 26 (f := .glo "_law_expression") rfl), fd__law_expressions := fd27, F__law_expressions := F27, b__law_expressions := FunD.bindsN F27 fun _ _ _ _ _ _ us hl => (match us, hl with | [_, _, _], _ => rfl), g__law_expressions := He.glo_ok X G (c.1.fact 27 (f := .glo "_law_expressions") rfl), fd__law_plain := fd28, F__law_plain := F28, b__law_plain := FunD.bindsN F28 fun _ _ _ _ _ _ us hl => (match us, hl with | [_, _], _ => rfl), g__law_plain := He.glo_ok X G (c.1.fact 28 (f := .glo "_law_plain") rfl), fd__law_nest := fd29, F__law_nest := F29, b__law_nest := FunD.bindsN F29 fun _ _ _ _ _ _ us hl => (match us, hl with | [_, _, _, _, _], _ => rfl), g__law_nest := He.glo_ok X G (c.1.fact 29 (f := .glo "_law_nest") rfl), fd__law_body := fd30, F__law_body := F30, b__law_body := FunD.bindsN F30 fun _ _ _ _ _ _ us hl => (match us, hl with | [_, _, _], _ => rfl), g__law_body := He.glo_ok X G (c.1.fact 30 (f := .glo "_law_body") rfl), fd__law_inner_cell := fd31, F__law_inner_cell := F31, b__law_inner_cell := FunD.bindsN F31 fun _ _ _ _ _ _ us hl => (match us, hl with | [_, _, _, _], _ => rfl), g__law_inner_cell := He.glo_ok X G (c.1.fact 31 (f := .glo "_law_inner_cell") rfl), fd__law_program := fd32, F__law_program := F32, b__law_program := FunD.bindsN F32 fun _ _ _ _ _ _ us hl => (match us, hl with | [_, _], _ => rfl), g__law_program := He.glo_ok X G (c.1.fact 32 (f := .glo "_law_program") rfl), fd__law_is_name := fd33, F__law_is_name := F33, b__law_is_name := FunD.bindsN F33 fun _ _ _ _ _ _ us hl => (match us, hl with | [_], _ => rfl), g__law_is_name := He.glo_ok X G (c.1.fact 33 (f := .glo "_law_is_name") rfl), fd__law_is_number := fd34, F__law_is_number := F34, b__law_is_number := FunD.bindsN F34 fun _ _ _ _ _ _ us hl => (match us, hl with | [_, _, _], _ => rfl), g__law_is_number := He.glo_ok X G (c.1.fact 34 (f := .glo "_law_is_number") rfl), fd__law_fits_name := fd35, F__law_fits_name := F35, b__law_fits_name := FunD.bindsN F35 fun _ _ _ _ _ _ us hl => (match us, hl with | [_, _], _ => rfl), g__law_fits_name := He.glo_ok X G (c.1.fact 35 (f := .glo "_law_fits_name") rfl), fd__law_fits_e := fd36, F__law_fits_e := F36, b__law_fits_e := FunD.bindsN F36 fun _ _ _ _ _ _ us hl => (match us, hl with | [_, _, _], _ => rfl), g__law_fits_e := He.glo_ok X G (c.1.fact 36 (f := .glo "_law_fits_e") rfl), fd__law_fits_plain := fd37, F__law_fits_plain := F37, b__law_fits_plain := FunD.bindsN F37 fun _ _ _ _ _ _ us hl => (match us, hl with | [_, _], _ => rfl), g__law_fits_plain := He.glo_ok X G (c.1.fact 37 (f := .glo "_law_fits_plain") rfl), fd__law_fits_body := fd38, F__law_fits_body := F38, b__law_fits_body := FunD.bindsN F38 fun _ _ _ _ _ _ us hl => (match us, hl with | [_, _, _], _ => rfl), g__law_fits_body := He.glo_ok X G (c.1.fact 38 (f := .glo "_law_fits_body") rfl), fd__law_are_params := fd39, F__law_are_params := F39, b__law_are_params := FunD.bindsN F39 fun _ _ _ _ _ _ us hl => (match us, hl with | [_], _ => rfl), g__law_are_params := He.glo_ok X G (c.1.fact 39 (f := .glo "_law_are_params") rfl), fd__law_is_program := fd40, F__law_is_program := F40, b__law_is_program := FunD.bindsN F40 fun _ _ _ _ _ _ us hl => (match us, hl with | [_], _ => rfl), g__law_is_program := He.glo_ok X G (c.1.fact 40 (f := .glo "_law_is_program") rfl), fd__law_odd := fd41, F__law_odd := F41, b__law_odd := FunD.bindsN F41 fun _ _ _ _ _ _ us hl => (match us, hl with | [_, _, _], _ => rfl), g__law_odd := He.glo_ok X G (c.1.fact 41 (f := .glo "_law_odd") rfl), fd__law_edited := fd42, F__law_edited := F42, b__law_edited := FunD.bindsN F42 fun _ _ _ _ _ _ us hl => (match us, hl with | [_, _, _, _], _ => rfl), g__law_edited := He.glo_ok X G (c.1.fact 42 (f := .glo "_law_edited") rfl), fd__law_great := fd43, F__law_great := F43, b__law_great := FunD.bindsN F43 fun _ _ _ _ _ _ us hl => (match us, hl with | [_], _ => rfl), g__law_great := He.glo_ok X G (c.1.fact 43 (f := .glo "_law_great") rfl), fd_law := fd44, F_law := F44, b_law := FunD.bindsN F44 fun _ _ _ _ _ _ us hl => (match us, hl with | [_], _ => rfl), g_law := He.glo_ok X G (c.1.fact 44 (f := .glo "law") rfl), g_Scope := He.glo_ok X G (c.1.fact 45 (f := .glo "Scope") rfl), cl_Scope := He.cls_ok (c.1.fact 46 (f := .cls "Scope") rfl), no_Scope_rows := He.noat_ok (c.1.fact 47 (f := .noat "Scope" "rows") rfl), no_Scope_heads := He.noat_ok (c.1.fact 48 (f := .noat "Scope" "heads") rfl), no_Scope_known := He.noat_ok (c.1.fact 49 (f := .noat "Scope" "known") rfl), no_Scope_many := He.noat_ok (c.1.fact 50 (f := .noat "Scope" "many") rfl), mk_Scope := He.mkr_ok (c.1.fact 51 (f := .mkr "Scope") rfl), m_all := He.free_ok X G (c.1.fact 52 (f := .free "all") rfl), m_bool := He.free_ok X G (c.1.fact 53 (f := .free "bool") rfl), m_dict := He.free_ok X G (c.1.fact 54 (f := .free "dict") rfl), m_enumerate := He.free_ok X G (c.1.fact 55 (f := .free "enumerate") rfl), m_int := He.free_ok X G (c.1.fact 56 (f := .free "int") rfl), m_isinstance := He.free_ok X G (c.1.fact 57 (f := .free "isinstance") rfl), m_len := He.free_ok X G (c.1.fact 58 (f := .free "len") rfl), m_list := He.free_ok X G (c.1.fact 59 (f := .free "list") rfl), m_max := He.free_ok X G (c.1.fact 60 (f := .free "max") rfl), m_min := He.free_ok X G (c.1.fact 61 (f := .free "min") rfl), m_range := He.free_ok X G (c.1.fact 62 (f := .free "range") rfl), m_set := He.free_ok X G (c.1.fact 63 (f := .free "set") rfl), m_str := He.free_ok X G (c.1.fact 64 (f := .free "str") rfl), m_tuple := He.free_ok X G (c.1.fact 65 (f := .free "tuple") rfl), t_HALF := tk_HALF, c_HALF := ck_HALF, c_WORDS := He.glo_ok X G (c.1.fact 67 (f := .glo "WORDS") rfl), q_WORDS := He.tupB_ok hx0, t_LETTERS := tk_LETTERS, c_LETTERS := ck_LETTERS, t_MOST_LETTERS := tk_MOST_LETTERS, c_MOST_LETTERS := ck_MOST_LETTERS, t_MOST_DEEP := tk_MOST_DEEP, c_MOST_DEEP := ck_MOST_DEEP, t_MOST_STATEMENTS := tk_MOST_STATEMENTS, c_MOST_STATEMENTS := ck_MOST_STATEMENTS, t_MOST_VARIABLES := tk_MOST_VARIABLES, c_MOST_VARIABLES := ck_MOST_VARIABLES, t_MOST_FAIL := tk_MOST_FAIL, c_MOST_FAIL := ck_MOST_FAIL, t_MOST_HELPERS := tk_MOST_HELPERS, c_MOST_HELPERS := ck_MOST_HELPERS, t_MOST_PARAMS := tk_MOST_PARAMS, c_MOST_PARAMS := ck_MOST_PARAMS, t_MOST_ROWS := tk_MOST_ROWS, c_MOST_ROWS := ck_MOST_ROWS, t_MOST_SIZE := tk_MOST_SIZE, c_MOST_SIZE := ck_MOST_SIZE, c_KEPT := He.glo_ok X G (c.1.fact 78 (f := .glo "KEPT") rfl), q_KEPT := He.tupB_ok hx1 }⟩
theorem law_binds {K : PySem.W.Frag} {mg : Str → Option Value} (T : Top K mg) (s : Shared) (u : Value) : BindsTo s T.fd_law ⟨[u], []⟩ [("_law_script", u)] :=
  FunD.bindsA (ps := ["_law_script"]) T.F_law (fun _ _ _ _ _ _ us hl => (match us, hl with | [_], _ => rfl)) s [u] rfl
/-! data without lists stays -/
mutual
def nLd : PyData → Bool
  | .list _ => false
  | .dict _ => false
  | .tuple xs => nLs xs
  | .none => true
  | .bool _ => true
  | .int _ => true
  | .str _ => true
def nLs : List PyData → Bool
  | [] => true
  | x :: r => nLd x && nLs r
end
theorem sqT_kp {K : PySem.W.Frag} {S : Addr → Prop} {H H' : Hp} {a : Addr} {xs : List V} (k : Kp S H H') (h : SqT K H a xs) : SqT K H' a xs := by
  rcases h with (e | ⟨o, e⟩) | e
  · exact .inl (.inl (k _ _ e fun _ z => z))
  · exact .inl (.inr ⟨o, k _ _ e fun _ z => z⟩)
  · exact .inr e
mutual
theorem dp_kp {K : PySem.W.Frag} {S : Addr → Prop} {H H' : Hp} (k : Kp S H H') : ∀ (d : PyData) (v : V), nLd d = true → Dp K H v d → Dp K H' v d
  | .none, _, _, h => by cases h; exact .non
  | .bool b, _, _, h => by cases h; exact .bl b
  | .int i, _, _, h => by cases h; exact .int i
  | .str x, _, _, h => by cases h; exact .str x
  | .list _, _, n, _ => by cases n
  | .dict _, _, n, _ => by cases n
  | .tuple ds, _, n, h => by
    cases h with
    | tup hs ha => exact .tup (sqT_kp k hs) (dpAll_kp k ds _ n ha)
theorem dpAll_kp {K : PySem.W.Frag} {S : Addr → Prop} {H H' : Hp} (k : Kp S H H') : ∀ (ds : List PyData) (vs : List V), nLs ds = true → DpAll K H vs ds → DpAll K H' vs ds
  | [], _, _, h => by cases h; exact .nil
  | d :: ds, _, n, h => by
    have n2 : nLd d = true ∧ nLs ds = true := by
      unfold nLs at n
      exact Bool.and_eq_true_iff.mp n
    cases h with
    | cons h1 h2 => exact .cons (dp_kp k d _ n2.1 h1) (dpAll_kp k ds _ n2.2 h2)
end
section
variable {K : PySem.W.Frag} {H : Hp}
theorem dp_tup {v : V} {ds : List PyData} (h : Dp K H v (.tuple ds)) : ∃ a xs, v = .ref a ∧ SqT K H a xs ∧ DpAll K H xs ds := by
  cases h with
  | tup h1 h2 => exact ⟨_, _, rfl, h1, h2⟩
theorem dp_str {v : V} {z : Str} (h : Dp K H v (.str z)) : v = .str z := by cases h; rfl
theorem dp_int {v : V} {z : Int} (h : Dp K H v (.int z)) : v = .int z := by cases h; rfl
theorem dpAll_cons {vs : List V} {d : PyData} {ds : List PyData} (h : DpAll K H vs (d :: ds)) : ∃ v r, vs = v :: r ∧ Dp K H v d ∧ DpAll K H r ds := by
  cases h with
  | cons h1 h2 => exact ⟨_, _, rfl, h1, h2⟩
theorem dpAll_nil {vs : List V} (h : DpAll K H vs []) : vs = [] := by cases h; rfl
theorem dpAll_len : ∀ {vs : List V} {ds : List PyData}, DpAll K H vs ds → vs.length = ds.length
  | _, _, .nil => rfl
  | _, _, .cons _ t => by rw [List.length_cons, List.length_cons, dpAll_len t]
theorem dpAll_get : ∀ {vs : List V} {ds : List PyData} {i : Nat} {d : PyData}, DpAll K H vs ds → ds[i]? = some d → ∃ v, vs[i]? = some v ∧ Dp K H v d
  | _, _, _, _, .nil, e => by simp at e
  | _, _, 0, _, .cons h _, e => ⟨_, rfl, (Option.some.inj e) ▸ h⟩
  | _, _, i + 1, _, .cons _ t, e => dpAll_get (i := i) t e
theorem dpAll_getV : ∀ {vs : List V} {ds : List PyData} {i : Nat} {v : V}, DpAll K H vs ds → vs[i]? = some v → ∃ d, ds[i]? = some d ∧ Dp K H v d
  | _, _, _, _, .nil, e => by simp at e
  | _, _, 0, _, .cons h _, e => ⟨_, rfl, (Option.some.inj e) ▸ h⟩
  | _, _, i + 1, _, .cons _ t, e => dpAll_getV (i := i) t e
theorem dpAll_app : ∀ {vs ws : List V} {ds es : List PyData}, DpAll K H vs ds → DpAll K H ws es → DpAll K H (vs ++ ws) (ds ++ es)
  | _, _, _, _, .nil, s => s
  | _, _, _, _, .cons h t, s => .cons h (dpAll_app t s)
theorem dpAll_take : ∀ {vs : List V} {ds : List PyData} (n : Nat), DpAll K H vs ds → DpAll K H (vs.take n) (ds.take n)
  | _, _, 0, _ => .nil
  | _, _, _ + 1, .nil => .nil
  | _, _, n + 1, .cons h t => .cons h (dpAll_take n t)
theorem dpAll_drop : ∀ {vs : List V} {ds : List PyData} (n : Nat), DpAll K H vs ds → DpAll K H (vs.drop n) (ds.drop n)
  | _, _, 0, h => h
  | _, _, _ + 1, .nil => .nil
  | _, _, n + 1, .cons _ t => dpAll_drop n t
theorem dpAll_strs : ∀ {vs : List V} {zs : List Str}, DpAll K H vs (zs.map PyData.str) → vs = zs.map V.str
  | _, [], h => dpAll_nil h
  | _, z :: zs, h => by
    obtain ⟨v, r, rfl, h1, h2⟩ := dpAll_cons h
    rw [dp_str h1, dpAll_strs h2]
    rfl
theorem strs_dpAll : ∀ (zs : List Str), DpAll K H (zs.map V.str) (zs.map PyData.str)
  | [] => .nil
  | z :: zs => .cons (.str z) (strs_dpAll zs)
end

section
variable {P : Program} {w : World} {K : PySem.W.Frag} {mg : Str → Option Value} {base : Heap}
def isB : PyData → Bool
  | .bool _ => true
  | _ => false
def tyS : PyData → String
  | .none => "NoneType"
  | .bool _ => "bool"
  | .int _ => "int"
  | .str _ => "str"
  | .list _ => "list"
  | .tuple _ => "tuple"
  | .dict _ => "dict"
theorem ty_lst {H : Hp} {a : Addr} {xs : List V} (h : SqL K H a xs) : TyX K H (.ref a) (.type "list") := by
  rcases h with (h | ⟨ob, h⟩) | ⟨o, its, n, hk, hc, _⟩
  · exact .base (.lst h)
  · exact .base (.frz h)
  · exact .kList hk hc
theorem ty_tup {H : Hp} {a : Addr} {xs : List V} (h : SqT K H a xs) : TyX K H (.ref a) (.type "tuple") := by
  rcases h with (h | ⟨ob, h⟩) | ⟨o, its, n, hk, hc, _⟩
  · exact .base (.tup h)
  · exact .fTuple h
  · exact .kTuple hk hc
theorem dp_ty {H : Hp} {v : V} {d : PyData} (h : Dp K H v d) : TyX K H v (.type (tyS d)) := by
  cases h with
  | non => exact .base .non
  | bl b => exact .base (.bl b)
  | int i => exact .base (.int i)
  | str x => exact .base (.str x)
  | lst h _ => exact ty_lst h
  | tup h _ => exact ty_tup h
def isI : PyData → Bool
  | .int _ => true
  | .bool _ => true
  | _ => false
def isT : PyData → Bool
  | .tuple _ => true
  | _ => false
def isS : PyData → Bool
  | .str _ => true
  | _ => false
theorem kit_int : ∀ d : PyData, PySem.W.kitOne K (.type (tyS d)) (.type "int") = some (isI d)
  | .none => kit_ty (a := "NoneType") (b := "int") (r := false) (by decide +kernel)
  | .bool _ => kit_ty (a := "bool") (b := "int") (r := true) (by decide +kernel)
  | .int _ => kit_ty (a := "int") (b := "int") (r := true) (by decide +kernel)
  | .str _ => kit_ty (a := "str") (b := "int") (r := false) (by decide +kernel)
  | .list _ => kit_ty (a := "list") (b := "int") (r := false) (by decide +kernel)
  | .tuple _ => kit_ty (a := "tuple") (b := "int") (r := false) (by decide +kernel)
  | .dict _ => kit_ty (a := "dict") (b := "int") (r := false) (by decide +kernel)
theorem kit_bool : ∀ d : PyData, PySem.W.kitOne K (.type (tyS d)) (.type "bool") = some (isB d)
  | .none => kit_ty (a := "NoneType") (b := "bool") (r := false) (by decide +kernel)
  | .bool _ => kit_ty (a := "bool") (b := "bool") (r := true) (by decide +kernel)
  | .int _ => kit_ty (a := "int") (b := "bool") (r := false) (by decide +kernel)
  | .str _ => kit_ty (a := "str") (b := "bool") (r := false) (by decide +kernel)
  | .list _ => kit_ty (a := "list") (b := "bool") (r := false) (by decide +kernel)
  | .tuple _ => kit_ty (a := "tuple") (b := "bool") (r := false) (by decide +kernel)
  | .dict _ => kit_ty (a := "dict") (b := "bool") (r := false) (by decide +kernel)
theorem kit_tup : ∀ d : PyData, PySem.W.kitOne K (.type (tyS d)) (.type "tuple") = some (isT d)
  | .none => kit_ty (a := "NoneType") (b := "tuple") (r := false) (by decide +kernel)
  | .bool _ => kit_ty (a := "bool") (b := "tuple") (r := false) (by decide +kernel)
  | .int _ => kit_ty (a := "int") (b := "tuple") (r := false) (by decide +kernel)
  | .str _ => kit_ty (a := "str") (b := "tuple") (r := false) (by decide +kernel)
  | .list _ => kit_ty (a := "list") (b := "tuple") (r := false) (by decide +kernel)
  | .tuple _ => kit_ty (a := "tuple") (b := "tuple") (r := true) (by decide +kernel)
  | .dict _ => kit_ty (a := "dict") (b := "tuple") (r := false) (by decide +kernel)
theorem kit_str : ∀ d : PyData, PySem.W.kitOne K (.type (tyS d)) (.type "str") = some (isS d)
  | .none => kit_ty (a := "NoneType") (b := "str") (r := false) (by decide +kernel)
  | .bool _ => kit_ty (a := "bool") (b := "str") (r := false) (by decide +kernel)
  | .int _ => kit_ty (a := "int") (b := "str") (r := false) (by decide +kernel)
  | .str _ => kit_ty (a := "str") (b := "str") (r := true) (by decide +kernel)
  | .list _ => kit_ty (a := "list") (b := "str") (r := false) (by decide +kernel)
  | .tuple _ => kit_ty (a := "tuple") (b := "str") (r := false) (by decide +kernel)
  | .dict _ => kit_ty (a := "dict") (b := "str") (r := false) (by decide +kernel)
mutual
theorem dp_sm {H H' : Hp} (k : Same H H') : ∀ {v : V} {d : PyData}, Dp K H v d → Dp K H' v d
  | _, _, .non => .non
  | _, _, .bl b => .bl b
  | _, _, .int i => .int i
  | _, _, .str x => .str x
  | _, _, .lst h da => .lst (k.seq h) (dpAll_sm k da)
  | _, _, .tup h da => .tup (sqT_kp (Kp.of_same (S := fun _ => False) k) h) (dpAll_sm k da)
theorem dpAll_sm {H H' : Hp} (k : Same H H') : ∀ {vs : List V} {ds : List PyData}, DpAll K H vs ds → DpAll K H' vs ds
  | _, _, .nil => .nil
  | _, _, .cons h r => .cons (dp_sm k h) (dpAll_sm k r)
end
/-- a value != a shallow one -/
def rNeE (K : PySem.W.Frag) : R2 := fun x y H Q => ∃ d e, Dp K H x d ∧ Dp K H y e ∧ d.canLay0 = true ∧ e.canLay0 = true ∧ e.depth ≤ 64 ∧ Q (.bl (!PyData.eqv d e)) H
theorem op_neE {X : Cx} (hu : X.A.units + 64 < cLine) : OpR X (compareOp .NotEq) (rNeE X.K) := by
  intro pins s σ H x y v u Q I rx ry h
  obtain ⟨d, e, hd, he, sd, se, de, q⟩ := h
  obtain ⟨as, r1⟩ := Dp.reads I d x v hd rx
  obtain ⟨bs, r2⟩ := Dp.reads I e y u he ry
  refine SeqAt.compareNe_reads r1 r2 sd se ?_ ⟨.bl _, H, I, rfl, q⟩
  have : min d.depth e.depth ≤ e.depth := Nat.min_le_right _ _
  omega
theorem in_strs {z : Str} {ws : List Str} : inV (.str z) (ws.map V.str) = decide (z ∈ ws) := by
  unfold inV
  rw [List.any_map]
  by_cases h : z ∈ ws
  · rw [decide_eq_true h]
    refine List.any_eq_true.mpr ⟨z, h, ?_⟩
    show (z == z) = true
    exact beq_self_eq_true z
  · rw [decide_eq_false h]
    refine List.any_eq_false.mpr fun x hx e => h ?_
    have e2 : (x == z) = true := e
    rw [← eq_of_beq e2]
    exact hx
theorem ifT {c : Bool} {A B : Prop} (hc : c = true) (h : A) : if c = true then A else B := by rw [if_pos hc]; exact h
theorem ifF {c : Bool} {A B : Prop} (hc : c = false) (h : B) : if c = true then A else B := by rw [if_neg (by rw [hc]; exact Bool.false_ne_true)]; exact h
theorem cd {i j : Int} (h0 : 0 < j) (h1 : j < 2 ^ 64) : CDivW i j := wide_div (b := 64) h0 (by omega) (by decide) (by decide)
theorem at_ints2 {ns : List Int} {i : Int} (h0 : 0 ≤ i) (h1 : i < ns.length) : ∃ z, atI (ns.map V.int) i = some (.int z) := ⟨_, at_ints h0 h1⟩
theorem strs_at {zs : List Str} {i : Int} (h0 : 0 ≤ i) (h1 : i < zs.length) : ∃ z ∈ zs, atI (zs.map V.str) i = some (.str z) := by
  obtain ⟨x, hx, e⟩ := at_list (ns := zs.map V.str) h0 (by rw [List.length_map]; exact h1)
  obtain ⟨z, hz, rfl⟩ := List.mem_map.mp hx
  exact ⟨z, hz, e⟩
def Scp (K : PySem.W.Frag) (H : Hp) (a : Addr) (ns : List Int) : Prop := ns.length ≤ 63 ∧ (∀ z ∈ ns, Builtin.Int.intBits z ≤ 1048576) ∧ SqL K H a (ns.map V.int)
theorem Scp.sm {H H' : Hp} {a : Addr} {ns : List Int} (h : Scp K H a ns) (k : Same H H') : Scp K H' a ns := ⟨h.1, h.2.1, k.seq h.2.2⟩
theorem same_upd {H H' : Hp} {D : Addr} {o : HO} (s : Same H H') (n : H D = none) : Same H (upd H' D o) := fun b x hb => by
  rw [upd_ne (ne_of_none hb n)]
  exact s _ _ hb
theorem tail_no {x : V} {zs : List V} : ¬ (HT.sIx (x :: zs).length 0 (some 1) = 0 ∧ HT.sIx (x :: zs).length (x :: zs).length none = (x :: zs).length) := by
  have e1 : HT.sIx (x :: zs).length 0 (some 1) = 1 := by
    show min 1 (zs.length + 1) = 1
    omega
  rw [e1]
  exact fun z => absurd z.1 (by decide)
theorem cut_tail {x : V} {zs : List V} : cutV (x :: zs) (some 1) none = zs := by
  have e1 : HT.sIx (x :: zs).length 0 (some 1) = 1 := by
    show min 1 (zs.length + 1) = 1
    omega
  have e2 : HT.sIx (x :: zs).length (x :: zs).length none = zs.length + 1 := rfl
  unfold cutV
  rw [e1, e2]
  simp
theorem sqT_sm {H H' : Hp} {a : Addr} {xs : List V} (s : Same H H') (h : SqT K H a xs) : SqT K H' a xs := sqT_kp (Kp.of_same (S := fun _ => False) s) h
end

/-! programs, in plain words -/
inductive Ex where
  | num (n : Int)
  | nam (x : Str)
  | at_ (r : Str) (e : Ex)
  | no (e : Ex)
  | op (w : Str) (a b : Ex)
inductive Sm where
  | set (x : Str) (e : Ex)
  | put (r : Str) (e f : Ex)
  | tell (e : Ex)
  | ite (e : Ex) (ys ns : List Sm)
  | loop (e : Ex) (b : List Sm)
  | call (x h : Str) (es : List Ex)
  | fail (n : Int)
  | give (e : Ex)
def Ex.d : Ex → PyData
  | .num n => .tuple [.str "number", .int n]
  | .nam x => .tuple [.str "name", .str x]
  | .at_ r e => .tuple [.str "at", .str r, e.d]
  | .no e => .tuple [.str "not", e.d]
  | .op w a b => .tuple [.str w, a.d, b.d]
mutual
def Sm.d : Sm → PyData
  | .set x e => .tuple [.str "set", .str x, e.d]
  | .put r e f => .tuple [.str "put", .str r, e.d, f.d]
  | .tell e => .tuple [.str "tell", e.d]
  | .ite e ys ns => .tuple [.str "if", e.d, .tuple (Sm.ds ys), .tuple (Sm.ds ns)]
  | .loop e b => .tuple [.str "while", e.d, .tuple (Sm.ds b)]
  | .call x h es => .tuple [.str "call", .str x, .str h, .tuple (es.map Ex.d)]
  | .fail n => .tuple [.str "fail", .int n]
  | .give e => .tuple [.str "give", e.d]
def Sm.ds : List Sm → List PyData
  | [] => []
  | s :: r => s.d :: Sm.ds r
end
theorem Sm.ds_eq : ∀ l : List Sm, Sm.ds l = l.map Sm.d
  | [] => by simp [Sm.ds]
  | s :: r => by rw [Sm.ds, Sm.ds_eq r]; rfl
theorem noLs_all {l : List PyData} (h : ∀ x ∈ l, nLd x = true) : nLs l = true := by
  induction l with
  | nil => rfl
  | cons x r ih =>
    unfold nLs
    rw [h x (List.mem_cons_self ..), ih fun y hy => h y (List.mem_cons_of_mem _ hy)]
    rfl
theorem Ex.noL : ∀ e : Ex, nLd e.d = true
  | .num _ => rfl
  | .nam _ => rfl
  | .at_ r e => by simp [Ex.d, nLd, nLs, Ex.noL e]
  | .no e => by simp [Ex.d, nLd, nLs, Ex.noL e]
  | .op w a b => by simp [Ex.d, nLd, nLs, Ex.noL a, Ex.noL b]
mutual
theorem Sm.noL : ∀ s : Sm, nLd s.d = true
  | .set x e => by simp [Sm.d, nLd, nLs, Ex.noL e]
  | .put r e f => by simp [Sm.d, nLd, nLs, Ex.noL e, Ex.noL f]
  | .tell e => by simp [Sm.d, nLd, nLs, Ex.noL e]
  | .ite e ys ns => by simp [Sm.d, nLd, nLs, Ex.noL e, Sm.noLs ys, Sm.noLs ns]
  | .loop e b => by simp [Sm.d, nLd, nLs, Ex.noL e, Sm.noLs b]
  | .call x h es => by
    have : nLs (es.map Ex.d) = true := noLs_all fun x hx => by
      obtain ⟨e, _, rfl⟩ := List.mem_map.mp hx
      exact Ex.noL e
    simp [Sm.d, nLd, nLs, this]
  | .fail n => rfl
  | .give e => by simp [Sm.d, nLd, nLs, Ex.noL e]
theorem Sm.noLs : ∀ l : List Sm, nLs (Sm.ds l) = true
  | [] => by simp [Sm.ds, nLs]
  | s :: r => by simp [Sm.ds, nLs, Sm.noL s, Sm.noLs r]
end

/-- a number of 32 bits -/
def In32 (a : Int) : Prop := -2147483648 ≤ a ∧ a ≤ 2147483647

/-! cells: a number, or a list of digits that are left and of what goes on behind them -/
def CellOk (H : Hp) (v : V) : Prop := (∃ c : Int, v = .int c) ∨ ∃ (a : Addr) (l t : Int), v = .ref a ∧ H a = some (.lst [.int l, .int t]) ∧ 0 ≤ l ∧ 0 ≤ t
def cellS (v : V) : Addr → Prop := fun b => v = .ref b
section
variable {P : Program} {w : World} {K : PySem.W.Frag} {mg : Str → Option Value} {base : Heap}
def cellA (ns : List Int) (k : Int) : Int := ns.getD k.toNat 0
def sp__law_cell_at (K : PySem.W.Frag) : Sp := fun vs H Q _ => ∃ (a : Addr) (ns : List Int) (k : Int), vs = [.ref a, .int k] ∧ 0 ≤ k ∧ SqL K H a (ns.map V.int) ∧ Q (.int (cellA ns k)) H
theorem ok__law_cell_at (T : Top K mg) : FnOk P w K mg base CX0 1 (He.ga K "_law_cell_at") T.fd__law_cell_at ["_law_script", "_law_k"] (sp__law_cell_at K) := by
  refine T.F__law_cell_at.ok sc__law_cell_at (fun vs H Q E h => ?_) (fun cdv A outer s H vs Q E hr h => ?_)
  · obtain ⟨a, ns, k, rfl, _⟩ := h
    rfl
  · obtain ⟨a, ns, k, rfl, h0, hS, q⟩ := h
    refine ⟨_, PSs.nox (pss_cons (ps_if (pt_cmpR op_lt (pv 1) (pe_callB call_len_seq (by rfl) T.m_len (by decide +kernel) (pa_cons (pv 0) pa_nil)) (nomark _)) (pss_one (ps_ret (pe_ix ix_list (pv 0) (pv 1) (fun _ _ => rfl)))) pss_nil)
        (pss_one (ps_ret pe_int))), ?_⟩
    refine ⟨_, rfl, _, rfl, a, _, rfl, .inl hS, _, _, rfl, rfl, _, rfl, ite2 (fun e => ?_) (fun e => ?_)⟩
    · have e1 : k < (ns.map V.int).length := of_decide_eq_true e
      rw [List.length_map] at e1
      exact ⟨_, rfl, _, rfl, a, _, _, _, rfl, rfl, hS, at_ints h0 e1, q⟩
    · have e1 : ¬ k < (ns.map V.int).length := fun z => e (decide_eq_true z)
      rw [List.length_map] at e1
      have e2 : cellA ns k = 0 := by
        unfold cellA
        have : ns.length ≤ k.toNat := by omega
        simp [List.getD, this]
      rw [e2] at q
      exact q
/-- a number or a new list of two -/
def sp__law_held : Sp := fun vs H Q _ => ∃ c : Int, vs = [.int c] ∧ ∀ H' v, Same H H' → CellOk H' v → (∀ p, v = .ref p → H p = none) → Q v H'
theorem ok__law_held (T : Top K mg) : FnOk P w K mg base CX0 1 (He.ga K "_law_held") T.fd__law_held ["_law_cell"] sp__law_held := by
  refine T.F__law_held.ok sc__law_held (fun vs H Q E h => ?_) (fun cdv A outer s H vs Q E hr h => ?_)
  · obtain ⟨c, rfl, _⟩ := h
    rfl
  · obtain ⟨c, rfl, q⟩ := h
    refine ⟨_, PSs.nox (pss_cons (ps_if (pt_cmpR op_ge (pv 0) (pe_op op_pow pe_int pe_int) (nomark _)) (pss_one (ps_ret (pe_lst (pa_cons (pe_op op_fdivW (pv 0) (pe_op op_pow pe_int pe_int)) (pa_cons (pe_op op_mod (pv 0) pe_int) pa_nil))))) pss_nil)
        (pss_one (ps_ret (pv 0)))), ?_⟩
    have p10 : CDivW c (10 ^ (18 : Int).toNat) := wide_div (b := 64) (by decide) (by decide) (by decide) (by decide)
    refine ⟨_, rfl, _, _, rfl, rfl, ⟨by decide, by decide, by decide⟩, _, _, rfl, rfl, _, rfl, ite2 (fun e => ?_) (fun e => ?_)⟩
    · have e1 : (10 : Int) ^ (18 : Int).toNat ≤ c := of_decide_eq_true e
      have e2 : (0 : Int) < 10 ^ (18 : Int).toNat := by decide
      refine ⟨_, rfl, _, _, rfl, rfl, ⟨by decide, by decide, by decide⟩, _, _, rfl, rfl, p10, ?_⟩
      refine ⟨_, rfl, _, _, rfl, rfl, (by show (0 : Int) < 2147483647; decide), (by show 2 ≤ sizeLine; rw [sizeLine_eq]; decide), fun p np => ?_⟩
      refine q _ _ (same_new np) (.inr ⟨p, _, _, rfl, upd_same, Int.ediv_nonneg (by omega) (Int.le_of_lt e2), Int.emod_nonneg _ (by decide)⟩) fun p' e => ?_
      cases e
      exact np
    · exact ⟨_, rfl, q _ _ (Same.refl _) (.inl ⟨_, rfl⟩) fun p e => nomatch e⟩
def mx : List Int := [99991, 99989, 99971, 99961, 99929, 99923, 99907, 99901, 99881, 99877, 99871]
/-- a draw below many; a list of digits is changed -/
def sp__law_mixed : Sp := fun vs H Q _ => ∃ (v : V) (k m : Int), vs = [v, .int k, .int m] ∧ CellOk H v ∧ 0 ≤ k ∧ k < 2 ^ 20 ∧ 0 < m ∧ m < 2 ^ 64 ∧ ∀ H' r, Kp (cellS v) H H' → CellOk H' v → 0 ≤ r → r < m → Q (.int r) H'
theorem ok__law_mixed (T : Top K mg) : FnOk P w K mg base CX0 1 (He.ga K "_law_mixed") T.fd__law_mixed ["_law_cell", "_law_k", "_law_many"] sp__law_mixed := by
  refine T.F__law_mixed.ok sc__law_mixed (fun vs H Q E h => ?_) (fun cdv A outer s H vs Q E hr h => ?_)
  · obtain ⟨v, k, m, rfl, _⟩ := h
    rfl
  · obtain ⟨v, k, m, rfl, hv, h0, h1, hm, hm2, q⟩ := h
    refine ⟨_, PSs.nox (pss_cons (ps_if (pt_val (pe_callB call_isi (by rfl) T.m_isinstance (by decide +kernel) (pa_cons (pv 0) (pa_cons (pe_bltn (v := .ty "list") (by rfl) T.m_list (by decide +kernel) rfl) pa_nil)))) (pss_cons (ps_set (i := 3) sc__law_mixed.nd rfl (Or.inl rfl) (pe_ix ix_list (pv 0) pe_int (fun _ _ => rfl)))
        (pss_cons (ps_asg (pe_op op_fdivW (pv 3) (pv 2)) (pg_sub (pv 0) pe_int set_list))
        (pss_cons (ps_asg (pe_op op_mod (pe_op op_add (pe_op op_mul (pe_ix ix_list (pv 0) pe_int (fun _ _ => rfl)) pe_int) pe_int) pe_int) (pg_sub (pv 0) pe_int set_list))
        (pss_one (ps_ret (pe_op op_mod (pe_ifExp (pt_cmpR op_gt (pv 3) pe_int (nomark _)) (pv 3) (pe_op op_fdivW (pe_ix ix_list (pv 0) pe_int (fun _ _ => rfl)) pe_int)) (pv 2))))))) pss_nil)
        (pss_cons (ps_set (i := 4) sc__law_mixed.nd rfl (Or.inl rfl) (pe_lst (pa_cons pe_int (pa_cons pe_int (pa_cons pe_int (pa_cons pe_int (pa_cons pe_int (pa_cons pe_int (pa_cons pe_int (pa_cons pe_int (pa_cons pe_int (pa_cons pe_int (pa_cons pe_int pa_nil)))))))))))))
        (pss_cons (ps_set (i := 5) sc__law_mixed.nd rfl (Or.inl rfl) (pe_op op_mod (pe_op op_pow (pe_op op_mod (pe_op op_mul (pe_op op_add (pv 0) (pe_op op_mul pe_int (pv 1))) pe_int) pe_int) pe_int) (pe_ix ix_list (pv 4) (pe_op op_mod (pv 1) pe_int) (fun _ _ => rfl))))
        (pss_one (ps_ret (pe_op op_mod (pe_op op_mod (pe_op op_add (pe_op op_add (pe_op op_mul (pe_op op_mul (pv 5) (pv 5)) pe_int) (pv 5)) (pv 1)) pe_int) (pv 2))))))), ?_⟩
    rcases hv with ⟨c, rfl⟩ | ⟨a, l, t, rfl, ha, hl, ht⟩
    · refine ⟨_, rfl, _, _, _, _, false, rfl, .ty _, .base (.int c), kit_ty (by decide +kernel), false, rfl, ?_⟩
      refine ⟨(by show 11 ≤ sizeLine; rw [sizeLine_eq]; decide), fun p np => ?_⟩
      have hL : SqL K (upd H p (.lst (mx.map V.int))) p (mx.map V.int) := .of upd_same
      have r0 : 0 ≤ k % 11 := Int.emod_nonneg _ (by decide)
      have r1 : k % 11 < 11 := Int.emod_lt_of_pos _ (by decide)
      have hy : ∀ i : Nat, i < 11 → 0 < mx.getD i 0 ∧ mx.getD i 0 < 100000 := by decide
      obtain ⟨y0, y1⟩ := hy (k % 11).toNat (by omega)
      generalize hyy : mx.getD (k % 11).toNat 0 = y at y0 y1
      have a0 : 0 ≤ (c + 104729 * k) * 48271 % 2147483647 := Int.emod_nonneg _ (by decide)
      have a1 : (c + 104729 * k) * 48271 % 2147483647 < 2147483647 := Int.emod_lt_of_pos _ (by decide)
      generalize hx : (c + 104729 * k) * 48271 % 2147483647 = x at a0 a1
      have b0 : 0 ≤ x ^ (5 : Int).toNat % y := Int.emod_nonneg _ (by omega)
      have b1 : x ^ (5 : Int).toNat % y < y := Int.emod_lt_of_pos _ y0
      generalize hd : x ^ (5 : Int).toNat % y = d at b0 b1
      have d0 : 0 ≤ d * d := Int.mul_nonneg b0 b0
      have d1 : d * d ≤ 100000 * 100000 := Int.mul_le_mul (by omega) (by omega) b0 (by decide)
      refine ⟨_, rfl, _, rfl, _, _, rfl, rfl, .inl ⟨by decide, by decide⟩, _, _, rfl, rfl, _, _, rfl, rfl, .inr ⟨by decide, by decide⟩, _, _, rfl, rfl, (by show (0 : Int) < 2147483647; decide), _, _, rfl, rfl, ⟨by decide, by decide, ?_⟩, ?_⟩
      · show ((c + 104729 * k) * 48271 % 2147483647).natAbs < 2 ^ 64
        rw [hx]
        omega
      refine ⟨_, rfl, _, rfl, _, _, rfl, rfl, (by show (0 : Int) < 11; decide), p, _, _, _, rfl, rfl, hL, at_ints r0 (by rw [show (mx.length : Int) = 11 from rfl]; exact r1), _, _, rfl, rfl, ?_, ?_⟩
      · show 0 < mx.getD (k % 11).toNat 0
        rw [hyy]
        exact y0
      simp only [hx, hyy, hd]
      refine ⟨_, rfl, _, rfl, _, _, rfl, rfl, .inl ⟨by omega, by omega⟩, _, _, rfl, rfl, .inr ⟨by decide, by decide⟩, _, rfl, _, _, rfl, rfl, _, rfl, _, _, rfl, rfl, _, _, rfl, rfl, (by show (0 : Int) < 1000003; decide), _, rfl, _, _, rfl, rfl, hm, ?_⟩
      exact q _ _ (.of_same (same_new np)) (.inl ⟨_, rfl⟩) (Int.emod_nonneg _ (by omega)) (Int.emod_lt_of_pos _ hm)
    · refine ⟨_, rfl, _, _, _, _, true, rfl, .ty _, .base (.lst ha), kit_ty (by decide +kernel), true, rfl, ?_⟩
      have mw : CDivW l m := wide_div (b := 64) hm (by omega) (by decide) (by decide)
      have l1 : 0 ≤ l / m := Int.ediv_nonneg hl (Int.le_of_lt hm)
      have t1 : 0 ≤ (t * 48271 + 11) % 2147483647 := Int.emod_nonneg _ (by decide)
      refine ⟨_, rfl, a, _, 0, _, rfl, rfl, .of ha, atI_nat (j := 0) rfl, ?_⟩
      refine ⟨_, rfl, _, rfl, _, _, rfl, rfl, mw, _, rfl, a, _, 0, 0, rfl, rfl, ha, rfl, ?_⟩
      refine ⟨_, rfl, a, _, 1, _, rfl, rfl, .of upd_same, atI_nat (j := 1) rfl, _, _, rfl, rfl, .inr ⟨by decide, by decide⟩, _, _, rfl, rfl, _, _, rfl, rfl, (by show (0 : Int) < 2147483647; decide), _, rfl, a, _, 1, 1, rfl, rfl, upd_same, rfl, ?_⟩
      rw [upd_upd]
      have k1 : Kp (cellS (.ref a)) H (upd H a (.lst [.int (l / m), .int ((t * 48271 + 11) % 2147483647)])) := Kp.upd ha trivial rfl
      have c1 : CellOk (upd H a (.lst [.int (l / m), .int ((t * 48271 + 11) % 2147483647)])) (.ref a) := .inr ⟨a, _, _, rfl, upd_same, l1, t1⟩
      have fin : ∀ x : Int, 0 ≤ x % m ∧ x % m < m := fun x => ⟨Int.emod_nonneg _ (by omega), Int.emod_lt_of_pos _ hm⟩
      refine ⟨_, rfl, _, _, rfl, rfl, _, rfl, ite2 (fun e => ?_) (fun e => ?_)⟩
      · exact ⟨_, rfl, _, rfl, _, _, rfl, rfl, hm, q _ _ k1 c1 (fin _).1 (fin _).2⟩
      · exact ⟨_, rfl, a, _, 1, _, rfl, rfl, .of upd_same, atI_nat (j := 1) rfl, _, _, rfl, rfl, ⟨by decide, by decide⟩, _, rfl, _, _, rfl, rfl, hm, q _ _ k1 c1 (fin _).1 (fin _).2⟩
def keptW : List Str := ["number", "not", "at", "add", "sub", "mul", "div", "rem", "less", "same", "set", "put", "tell", "if", "else", "end", "while", "call", "fail", "give", "row", "helper", "main"]
def sp__law_kept : Sp := fun vs H Q _ => vs = [] ∧ ∀ H' p, Same H H' → H p = none → H' p = some (.lst (keptW.map V.str)) → Q (.ref p) H'
theorem ok__law_kept (T : Top K mg) : FnOk P w K mg base CX0 1 (He.ga K "_law_kept") T.fd__law_kept [] sp__law_kept := by
  refine T.F__law_kept.ok sc__law_kept (fun vs H Q E h => ?_) (fun cdv A outer s H vs Q E hr h => ?_)
  · obtain ⟨rfl, _⟩ := h
    rfl
  · obtain ⟨rfl, q⟩ := h
    refine ⟨_, PSs.nox (pss_cons (ps_set (i := 0) sc__law_kept.nd rfl (Or.inl rfl) (pe_lst (pa_cons pe_str (pa_cons pe_str (pa_cons pe_str (pa_cons pe_str (pa_cons pe_str (pa_cons pe_str (pa_cons pe_str (pa_cons pe_str (pa_cons pe_str (pa_cons pe_str (pa_cons pe_str (pa_cons pe_str (pa_cons pe_str (pa_cons pe_str pa_nil))))))))))))))))
        (pss_one (ps_ret (pe_op op_cat (pv 0) (pe_lst (pa_cons pe_str (pa_cons pe_str (pa_cons pe_str (pa_cons pe_str (pa_cons pe_str (pa_cons pe_str (pa_cons pe_str (pa_cons pe_str (pa_cons pe_str pa_nil)))))))))))))), ?_⟩
    refine ⟨(by show 14 ≤ sizeLine; rw [sizeLine_eq]; decide), fun p1 n1 => ?_⟩
    refine ⟨_, rfl, (by show 9 ≤ sizeLine; rw [sizeLine_eq]; decide), fun p2 n2 => ?_⟩
    have e2 : p1 ≠ p2 := fun z => by
      rw [← z, upd_same] at n2
      cases n2
    refine ⟨p1, p2, _, _, rfl, rfl, by rw [upd_ne e2]; exact upd_same, upd_same, (by show 23 ≤ sizeLine; rw [sizeLine_eq]; decide), fun p3 n3 => ?_⟩
    have s1 := same_new (o := .lst ((keptW.take 14).map V.str)) n1
    have s2 := same_new (o := .lst ((keptW.drop 14).map V.str)) n2
    have s3 := same_new (o := .lst (keptW.map V.str)) n3
    exact q _ p3 (s1.trans (s2.trans s3)) ((s1.trans s2).free n3) upd_same
def abc : Str := "abcdefghijklmnopqrstuvwxyz"
def letr (k : Int) : Nat := 97 + (k % 26).toNat
theorem abc_at : ∀ i : Nat, i < 26 → abc.cps.toList[i]? = some (97 + i) := by decide +kernel
def sp__law_letter : Sp := fun vs H Q _ => ∃ k : Int, vs = [.int k] ∧ Q (.str ⟨#[letr k]⟩) H
theorem ok__law_letter (T : Top K mg) : FnOk P w K mg base CX0 1 (He.ga K "_law_letter") T.fd__law_letter ["_law_k"] sp__law_letter := by
  refine T.F__law_letter.ok sc__law_letter (fun vs H Q E h => ?_) (fun cdv A outer s H vs Q E hr h => ?_)
  · obtain ⟨k, rfl, _⟩ := h
    rfl
  · obtain ⟨k, rfl, q⟩ := h
    refine ⟨_, PSs.nox (pss_one (ps_ret (pe_ix ix_str pe_str (pe_op op_mod (pv 0) pe_int) (fun _ _ => rfl)))), ?_⟩
    have r0 : 0 ≤ k % 26 := Int.emod_nonneg _ (by decide)
    have r1 : k % 26 < 26 := Int.emod_lt_of_pos _ (by decide)
    refine ⟨_, rfl, _, _, rfl, rfl, (by show (0 : Int) < 26; decide), abc, k % 26, letr k, rfl, rfl, (by rw [sizeLine_eq]; decide +kernel), ?_, q⟩
    obtain ⟨i, hi⟩ := Int.eq_ofNat_of_zero_le r0
    unfold letr
    rw [hi]
    exact atI_nat (abc_at i (by omega))
end

/-! names, in plain words -/
def toS (l : List Nat) : Str := ⟨l.toArray⟩
theorem toS_list (l : List Nat) : (toS l).cps.toList = l := by simp [toS]
theorem toS_len (l : List Nat) : (toS l).length = l.length := by simp [toS, Str.length]
theorem of_toS (z : Str) : toS z.cps.toList = z := by
  cases z
  simp [toS]
theorem toS_inj {l m : List Nat} (h : toS l = toS m) : l = m := by rw [← toS_list l, h, toS_list]
theorem len_list (z : Str) : z.length = z.cps.toList.length := by simp [Str.length]
def isLet (c : Nat) : Prop := 97 ≤ c ∧ c ≤ 122
instance (c : Nat) : Decidable (isLet c) := inferInstanceAs (Decidable (97 ≤ c ∧ c ≤ 122))
structure IsNm (z : Str) : Prop where
  lo : 1 ≤ z.length
  hi : z.length ≤ 8
  let_ : ∀ c ∈ z.cps.toList, isLet c
  out : z ∉ keptW
theorem letr_let (k : Int) : isLet (letr k) := by
  unfold isLet letr
  have r0 : 0 ≤ k % 26 := Int.emod_nonneg _ (by decide)
  have r1 : k % 26 < 26 := Int.emod_lt_of_pos _ (by decide)
  omega
def nm1 (root : List Nat) (j c : Nat) : Str := toS (root.take j ++ [c] ++ root.drop j)
def nm2 (root : List Nat) (c : Nat) : Str := toS (c :: c :: root)
def nmF (root : List Nat) (j c : Nat) : Str := if nm1 root j c ∈ keptW then nm2 root c else nm1 root j c
theorem kept_two : ∀ x ∈ keptW, ∀ (c : Nat) (r : List Nat), x.cps.toList ≠ c :: c :: r := by
  have h : (keptW.all fun x => match x.cps.toList with | a :: b :: _ => a != b | _ => true) = true := by decide +kernel
  intro x hx c r e
  have := List.all_eq_true.mp h x hx
  rw [e] at this
  simp at this
theorem nm1_len {root : List Nat} {j c : Nat} : (nm1 root j c).length = root.length + 1 := by
  unfold nm1
  rw [toS_len]
  simp only [List.length_append, List.length_take, List.length_drop, List.length_cons, List.length_nil]
  omega
theorem nmF_ok {root : List Nat} {j c : Nat} (hr : ∀ x ∈ root, isLet x) (hl : root.length ≤ 6) (hc : isLet c) : IsNm (nmF root j c) := by
  unfold nmF
  split
  · refine ⟨?_, ?_, ?_, ?_⟩
    · unfold nm2
      rw [toS_len, List.length_cons]
      omega
    · unfold nm2
      rw [toS_len, List.length_cons, List.length_cons]
      omega
    · unfold nm2
      rw [toS_list]
      intro x hx
      rcases List.mem_cons.mp hx with rfl | hx
      · exact hc
      rcases List.mem_cons.mp hx with rfl | hx
      · exact hc
      exact hr x hx
    · intro h
      exact kept_two _ h c root (by unfold nm2; rw [toS_list])
  · rename_i h
    refine ⟨?_, ?_, ?_, h⟩
    · rw [nm1_len]
      omega
    · rw [nm1_len]
      omega
    · unfold nm1
      rw [toS_list]
      intro x hx
      rcases List.mem_append.mp hx with hx | hx
      · rcases List.mem_append.mp hx with hx | hx
        · exact hr x (List.mem_of_mem_take hx)
        · rw [List.mem_singleton.mp hx]
          exact hc
      · exact hr x (List.mem_of_mem_drop hx)
theorem nmF_inj {root : List Nat} {j c d : Nat} (hj : j ≤ root.length) (h : nmF root j c = nmF root j d) : c = d := by
  have l2 : ∀ x, (nm2 root x).length = root.length + 2 := fun x => by
    unfold nm2
    rw [toS_len]
    rfl
  unfold nmF at h
  split at h <;> split at h
  · have := toS_inj h
    injection this
  · have := congrArg Str.length h
    rw [l2, nm1_len] at this
    omega
  · have := congrArg Str.length h
    rw [l2, nm1_len] at this
    omega
  · have e := toS_inj h
    rw [List.append_assoc, List.append_assoc] at e
    have := List.append_cancel_left e
    injection this
def nameL (root : List Nat) (j : Nat) (st : Int) (n : Nat) : List Str := (List.range n).map fun k : Nat => nmF root j (letr (st + 5 * (k : Int)))
theorem letr_inj {st : Int} {k l : Nat} (hk : k < 16) (hl : l < 16) (h : letr (st + 5 * (k : Int)) = letr (st + 5 * (l : Int))) : k = l := by
  unfold letr at h
  omega
/-- sixteen unlike names -/
structure Nms (ns : List Str) : Prop where
  len : ns.length = 16
  nm : ∀ z ∈ ns, IsNm z
  nd : ns.Nodup
theorem nameL_ok {root : List Nat} {j : Nat} {st : Int} (hr : ∀ x ∈ root, isLet x) (hl : root.length ≤ 6) (hj : j ≤ root.length) : Nms (nameL root j st 16) := by
  refine ⟨by simp [nameL], fun z hz => ?_, ?_⟩
  · obtain ⟨k, _, rfl⟩ := List.mem_map.mp hz
    exact nmF_ok hr hl (letr_let _)
  · unfold nameL
    refine List.pairwise_map.mpr ?_
    refine List.Pairwise.imp_of_mem ?_ List.nodup_range
    intro a b ha hb hne e
    exact hne (letr_inj (List.mem_range.mp ha) (List.mem_range.mp hb) (nmF_inj hj e))
def nearW : List Str := ["adds", "en", "nota", "sett", "rows", "mai", "iff", "elses", "calls", "failed", "gives", "tel"]
def nearX : List Str := ["x", "xx", "xxx", "xxxx"]
def nmB (z : Str) : Bool := decide (1 ≤ z.length) && decide (z.length ≤ 8) && z.cps.toList.all (fun c => decide (isLet c)) && !(keptW.any fun x => decide (x = z))
theorem nmB_ok {z : Str} : nmB z = true ↔ IsNm z := by
  unfold nmB
  simp only [Bool.and_eq_true, decide_eq_true_eq, List.all_eq_true, Bool.not_eq_true', List.any_eq_false]
  constructor
  · rintro ⟨⟨⟨a, b⟩, c⟩, d⟩
    exact ⟨a, b, c, fun h => d z h rfl⟩
  · rintro ⟨a, b, c, d⟩
    exact ⟨⟨⟨a, b⟩, c⟩, fun x hx e => d (e ▸ hx)⟩
theorem near_ok : ∀ j : Nat, j < 12 → Nms (nearW.drop j ++ nearW.take j ++ nearX) := by
  have h1 : (List.range 12).all (fun j => decide ((nearW.drop j ++ nearW.take j ++ nearX).length = 16)) = true := by decide +kernel
  have h2 : (List.range 12).all (fun j => (nearW.drop j ++ nearW.take j ++ nearX).all nmB) = true := by decide +kernel
  have h3 : (List.range 12).all (fun j => decide ((nearW.drop j ++ nearW.take j ++ nearX).Nodup)) = true := by decide +kernel
  intro j hj
  refine ⟨of_decide_eq_true (List.all_eq_true.mp h1 j (List.mem_range.mpr hj)), fun z hz => nmB_ok.mp (List.all_eq_true.mp (List.all_eq_true.mp h2 j (List.mem_range.mpr hj)) z hz), of_decide_eq_true (List.all_eq_true.mp h3 j (List.mem_range.mpr hj))⟩
/-! texts cut and put together -/
theorem cutS_to (z : Str) (j : Nat) : cutS z none (some (j : Int)) = toS (z.cps.toList.take j) := by
  unfold cutS toS
  rw [HT.sIx_none, HT.sIx_nat, List.drop_zero, len_list, Nat.sub_zero]
  congr 2
  rw [← List.take_take, List.take_length]
theorem cutS_from (z : Str) (j : Nat) : cutS z (some (j : Int)) none = toS (z.cps.toList.drop j) := by
  unfold cutS toS
  rw [HT.sIx_none, HT.sIx_nat, len_list]
  congr 2
  rcases Nat.le_total j z.cps.toList.length with h | h
  · rw [Nat.min_eq_left h, List.take_of_length_le (by rw [List.length_drop]; omega)]
  · rw [Nat.min_eq_right h, List.drop_length, List.drop_of_length_le h, List.take_nil]
theorem add_toS (l m : List Nat) : toS l ++ toS m = toS (l ++ m) := by
  show (⟨l.toArray ++ m.toArray⟩ : Str) = _
  simp [toS]
theorem flat_strs (ws : List Str) : (ws.map V.str).all flatV = true := by
  rw [List.all_map]
  exact List.all_eq_true.mpr fun _ _ => rfl

theorem CellOk.same {H H' : Hp} {v : V} (h : CellOk H v) (k : Same H H') : CellOk H' v := by
  rcases h with h | ⟨a, l, t, e, ha, h1, h2⟩
  · exact .inl h
  · exact .inr ⟨a, l, t, e, k _ _ ha, h1, h2⟩
theorem CellOk.fresh {H : Hp} {v : V} {p : Addr} (h : CellOk H v) (k : H p = none) : ¬ cellS v p := by
  rcases h with ⟨c, rfl⟩ | ⟨a, l, t, rfl, ha, h1, h2⟩
  · intro z
    cases z
  · intro z
    cases z
    rw [k] at ha
    cases ha
theorem CellOk.upd {H : Hp} {v : V} {p : Addr} {o : HO} (h : CellOk H v) (k : ¬ cellS v p) : CellOk (upd H p o) v := by
  rcases h with h | ⟨a, l, t, rfl, ha, h1, h2⟩
  · exact .inl h
  · refine .inr ⟨a, l, t, rfl, ?_, h1, h2⟩
    rw [upd_ne (fun z => k (by rw [z]; rfl))]
    exact ha
theorem cutV_to (xs : List V) (j : Nat) : cutV xs none (some (j : Int)) = xs.take j := by
  unfold cutV
  rw [HT.sIx_none, HT.sIx_nat, List.drop_zero, Nat.sub_zero, ← List.take_take, List.take_length]
theorem cutV_from (xs : List V) (j : Nat) : cutV xs (some (j : Int)) none = xs.drop j := by
  unfold cutV
  rw [HT.sIx_none, HT.sIx_nat]
  rcases Nat.le_total j xs.length with h | h
  · rw [Nat.min_eq_left h, List.take_of_length_le (by rw [List.length_drop]; omega)]
  · rw [Nat.min_eq_right h, List.drop_length, List.drop_of_length_le h, List.take_nil]
theorem Str_len_append (a b : Str) : (a ++ b).length = a.length + b.length := by
  show (a.cps ++ b.cps).size = _
  rw [Array.size_append]
  rfl
theorem join_ones (ls : List Nat) : Txt.join Str.empty (ls.map fun c => toS [c]) = toS ls := by
  rw [TL.join_eq]
  have h : ∀ l : List Nat, (Str.join Str.empty (l.map fun c => toS [c])).cps.toList = l := by
    intro l
    induction l with
    | nil => rfl
    | cons x r ih =>
      cases r with
      | nil => rfl
      | cons y r =>
        show ((toS [x] ++ Str.empty) ++ Str.join Str.empty ((y :: r).map fun c => toS [c])).cps.toList = _
        show (((toS [x]).cps ++ Str.empty.cps) ++ (Str.join Str.empty ((y :: r).map fun c => toS [c])).cps).toList = _
        rw [Array.toList_append, Array.toList_append, ih]
        rfl
  rw [← of_toS (Str.join _ _), h]
section
variable {P : Program} {w : World} {K : PySem.W.Frag} {mg : Str → Option Value} {base : Heap}
def sp__law_names : Sp := fun vs H Q _ => ∃ c : Int, vs = [.int c] ∧ ∀ H' p ns, Same H H' → H p = none → H' p = some (.lst (ns.map V.str)) → Nms ns → Q (.ref p) H'
theorem ok__law_names (T : Top K mg) : FnOk P w K mg base CX0 2 (He.ga K "_law_names") T.fd__law_names ["_law_cell"] sp__law_names := by
  have G__law_held := ok__law_held (P := P) (w := w) (base := base) T
  have G__law_mixed := ok__law_mixed (P := P) (w := w) (base := base) T
  have G__law_kept := ok__law_kept (P := P) (w := w) (base := base) T
  have G__law_letter := ok__law_letter (P := P) (w := w) (base := base) T
  refine T.F__law_names.ok sc__law_names (fun vs H Q E h => ?_) (fun cdv A outer s H vs Q E hr h => ?_)
  · obtain ⟨c, rfl, _⟩ := h
    rfl
  · obtain ⟨c, rfl, q⟩ := h
    refine ⟨_, PSs.nox (pss_cons (ps_set (i := 0) sc__law_names.nd rfl (Or.inr rfl) (pe_call G__law_held (hr.mono (by omega)) (by rfl) T.g__law_held T.F__law_held.kp T.b__law_held .nil pass0 (pa_cons (pv 0) pa_nil)))
        (pss_cons (ps_if (pt_cmpR op_eq (pe_call G__law_mixed (hr.mono (by omega)) (by rfl) T.g__law_mixed T.F__law_mixed.kp T.b__law_mixed .nil pass0 (pa_cons (pv 0) (pa_cons pe_int (pa_cons pe_int pa_nil)))) pe_int (nomark _)) (pss_cons (ps_set (i := 1) sc__law_names.nd rfl (Or.inl rfl) (pe_lst (pa_cons pe_str (pa_cons pe_str (pa_cons pe_str (pa_cons pe_str (pa_cons pe_str (pa_cons pe_str (pa_cons pe_str (pa_cons pe_str (pa_cons pe_str (pa_cons pe_str (pa_cons pe_str (pa_cons pe_str pa_nil))))))))))))))
        (pss_cons (ps_set (i := 2) sc__law_names.nd rfl (Or.inl rfl) (pe_call G__law_mixed (hr.mono (by omega)) (by rfl) T.g__law_mixed T.F__law_mixed.kp T.b__law_mixed .nil pass0 (pa_cons (pv 0) (pa_cons pe_int (pa_cons pe_int pa_nil)))))
        (pss_one (ps_ret (pe_op op_cat (pe_op op_cat (pe_slice sl_list (pv 1) (po_some (pv 2)) po_none) (pe_slice sl_list (pv 1) po_none (po_some (pv 2)))) (pe_lst (pa_cons pe_str (pa_cons pe_str (pa_cons pe_str (pa_cons pe_str pa_nil)))))))))) pss_nil)
        (pss_cons (ps_set (i := 3) sc__law_names.nd rfl (Or.inl rfl) (pe_join pe_str (pe_lc (own := [("_law_j", 9)]) (by rfl) sc__law_names.nd (pi_range1 (by rfl) T.m_range (pa_cons (pe_call G__law_mixed (hr.mono (by omega)) (by rfl) T.g__law_mixed T.F__law_mixed.kp T.b__law_mixed .nil pass0 (pa_cons (pv 0) (pa_cons pe_int (pa_cons pe_int pa_nil)))) pa_nil)) (blkOk_by (own := [("_law_j", 9)]) (N := N__law_names) (sc := defScope s__law_names) (by decide +kernel)) (fun _ _ _ _ _ => (pg_name (i := 9) sc__law_names.nd rfl (Or.inl rfl))) (fun _ _ _ _ _ => pts_nil) (fun _ _ _ _ _ => (pe_call G__law_letter (hr.mono (by omega)) (by rfl) T.g__law_letter T.F__law_letter.kp T.b__law_letter .nil pass0 (pa_cons (pe_call G__law_mixed (hr.mono (by omega)) (by rfl) T.g__law_mixed T.F__law_mixed.kp T.b__law_mixed .nil pass0 (pa_cons (pv 0) (pa_cons (pe_op op_add pe_int (pv 9)) (pa_cons pe_int pa_nil)))) pa_nil))))))
        (pss_cons (ps_set (i := 2) sc__law_names.nd rfl (Or.inl rfl) (pe_call G__law_mixed (hr.mono (by omega)) (by rfl) T.g__law_mixed T.F__law_mixed.kp T.b__law_mixed .nil pass0 (pa_cons (pv 0) (pa_cons pe_int (pa_cons (pe_op op_add (pe_callB call_len_str (by rfl) T.m_len (by decide +kernel) (pa_cons (pv 3) pa_nil)) pe_int) pa_nil)))))
        (pss_cons (ps_set (i := 4) sc__law_names.nd rfl (Or.inl rfl) (pe_lst pa_nil))
        (pss_cons (ps_set (i := 5) sc__law_names.nd rfl (Or.inl rfl) (pe_call G__law_mixed (hr.mono (by omega)) (by rfl) T.g__law_mixed T.F__law_mixed.kp T.b__law_mixed .nil pass0 (pa_cons (pv 0) (pa_cons pe_int (pa_cons pe_int pa_nil)))))
        (pss_cons (ps_for PassesOwn.never (by rfl) (pi_range1 (by rfl) T.m_range (pa_cons pe_int pa_nil)) (pg_name (i := 6) sc__law_names.nd rfl (Or.inl rfl)) (pss_cons (ps_set (i := 7) sc__law_names.nd rfl (Or.inl rfl) (pe_call G__law_letter (hr.mono (by omega)) (by rfl) T.g__law_letter T.F__law_letter.kp T.b__law_letter .nil pass0 (pa_cons (pe_op op_add (pv 5) (pe_op op_mul pe_int (pv 6))) pa_nil)))
        (pss_cons (ps_set (i := 8) sc__law_names.nd rfl (Or.inl rfl) (pe_op op_add_str (pe_op op_add_str (pe_slice sl_str (pv 3) po_none (po_some (pv 2))) (pv 7)) (pe_slice sl_str (pv 3) (po_some (pv 2)) po_none)))
        (pss_cons (ps_if (pt_cmpR op_in_seq (pv 8) (pe_call0 G__law_kept (hr.mono (by omega)) (by rfl) T.g__law_kept T.F__law_kept.kp T.b__law_kept .nil pass0) (by rfl)) (pss_one (ps_set (i := 8) sc__law_names.nd rfl (Or.inl rfl) (pe_op op_add_str (pe_op op_add_str (pv 7) (pv 7)) (pv 3)))) pss_nil)
        (pss_one (ps_expr (pe_bm PySem.F.plainAttrs_list PySem.F.slot_list_append PySem.F.type_list_append mt_append (pv 4) (pa_cons (pv 8) pa_nil))))))))
        (pss_one (ps_ret (pv 4)))))))))), ?_⟩
    refine ⟨_, rfl, c, rfl, fun H1 v s1 c1 f1 => ?_⟩
    have nS : ∀ b, cellS v b → H b = none := fun b e => f1 b e
    refine ⟨_, rfl, v, 1, 5, rfl, c1, by decide, by decide, by decide, by decide, fun H2 r k2 c2 _ _ => ?_⟩
    have s2 := Kp.same s1 k2 nS
    refine ⟨rfl, _, rfl, ite2 (fun _ => ?_) (fun _ => ?_)⟩
    · refine ⟨(by show 12 ≤ sizeLine; rw [sizeLine_eq]; decide), fun p1 n1 => ?_⟩
      have s3 := s2.trans (same_new (o := .lst (nearW.map V.str)) n1)
      have c3 : CellOk (upd H2 p1 (.lst (nearW.map V.str))) v := c2.same (same_new n1)
      have nc : ¬ cellS v p1 := c2.fresh n1
      refine ⟨_, rfl, v, 2, 12, rfl, c3, by decide, by decide, by decide, by decide, fun H4 j k4 c4 j0 j1 => ?_⟩
      have s4 := Kp.same s3 k4 nS
      have e4 : H4 p1 = some (.lst (nearW.map V.str)) := k4 _ _ upd_same fun z => absurd z nc
      obtain ⟨j, rfl⟩ := Int.eq_ofNat_of_zero_le j0
      refine ⟨_, rfl, _, rfl, _, rfl, p1, _, rfl, .of e4, fun p2 n2 => ?_⟩
      have s5 := same_new (o := .lst (cutV (nearW.map V.str) (some (j : Int)) none)) n2
      refine ⟨_, rfl, _, rfl, _, rfl, p1, _, rfl, .of (s5 _ _ e4), fun p3 n3 => ?_⟩
      have s6 := same_new (o := .lst (cutV (nearW.map V.str) none (some (j : Int)))) n3
      have l1 : ∀ a b, (cutV (nearW.map V.str) a b).length ≤ 12 := fun a b => cutV_length _ _ _
      have b1 := l1 (some (j : Int)) none
      have b2 := l1 none (some (j : Int))
      refine ⟨p2, p3, _, _, rfl, rfl, s6 _ _ upd_same, upd_same, (by rw [sizeLine_eq]; omega), fun p4 n4 => ?_⟩
      have s7 := same_new (o := .lst (cutV (nearW.map V.str) (some (j : Int)) none ++ cutV (nearW.map V.str) none (some (j : Int)))) n4
      refine ⟨(by show 4 ≤ sizeLine; rw [sizeLine_eq]; decide), fun p5 n5 => ?_⟩
      have s8 := same_new (o := .lst (nearX.map V.str)) n5
      refine ⟨p4, p5, _, _, rfl, rfl, s8 _ _ upd_same, upd_same, (by rw [sizeLine_eq, List.length_append]; simp only [List.length_cons, List.length_nil]; omega), fun p6 n6 => ?_⟩
      have s9 := (s4.trans (s5.trans (s6.trans (s7.trans s8))))
      refine q _ p6 (nearW.drop j ++ nearW.take j ++ nearX) (s9.trans (same_new n6)) (s9.free n6) ?_ (near_ok j (by omega))
      rw [upd_same, cutV_from, cutV_to, List.map_append, List.map_append, List.map_drop, List.map_take]
      rfl
    · have s3 : ∀ H3, Kp (cellS v) H2 H3 → Same H H3 := fun H3 k3 => Kp.same s2 k3 nS
      refine ⟨⟨_, rfl⟩, _, rfl, v, 2, 7, rfl, c2, by decide, by decide, by decide, by decide, fun H3 n k3 c3 n0 n1 => ?_⟩
      refine ⟨n, rfl, by omega, by omega, fun D nD => ?_⟩
      have nc : ¬ cellS v D := c3.fresh nD
      have nH : H D = none := (s3 _ k3).free nD
      refine lc_range (lo := 0) (n := n.toNat) (fun i H' => Kp (cellS v) H2 H' ∧ CellOk H' v ∧ ∃ ls : List Nat, ls.length = i ∧ (∀ x ∈ ls, isLet x) ∧ H' D = some (.lst ((ls.map fun c => toS [c]).map V.str))) ?_ ?_ ?_
      · exact ⟨k3.trans (.of_same (same_new nD)), c3.same (same_new nD), [], rfl, by simp, upd_same⟩
      · rintro i H' hi ⟨k4, c4, ls, l1, l2, l3⟩
        refine ⟨rfl, _, rfl, _, rfl, _, _, rfl, rfl, v, 3 + (0 + (i : Int)), 26, rfl, c4, by omega, by omega, by decide, by decide, fun H5 r5 k5 c5 r50 r51 => ?_⟩
        have e5 : H5 D = some (.lst ((ls.map fun c => toS [c]).map V.str)) := k5 _ _ l3 fun z => absurd z nc
        refine ⟨r5, rfl, _, e5, ?_, ?_, ?_, ls ++ [letr r5], ?_, ?_, ?_⟩
        · rw [List.length_map, List.length_map, l1, sizeLine_eq]
          omega
        · refine fun b o hb hk => ?_
          have nb : b ≠ D := fun z => by
            subst z
            have h2 : H3 b = some o := k3 b o hb hk
            rw [nD] at h2
            cases h2
          rw [upd_ne nb]
          exact (k4.trans k5) b o hb hk
        · exact c5.upd nc
        · rw [List.length_append, l1]
          rfl
        · intro x hx
          rcases List.mem_append.mp hx with hx | hx
          · exact l2 x hx
          · rw [List.mem_singleton.mp hx]
            exact letr_let _
        · rw [upd_same, List.map_append, List.map_append]
          rfl
      · rintro H' ⟨k4, c4, root, l1, l2, l3⟩
        have hl : root.length ≤ 6 := by omega
        refine ⟨Str.empty, D, _, rfl, rfl, .inl (.of l3), ?_, ?_⟩
        · rw [List.map_map]
          have e1 : (root.map ((·.length) ∘ fun c => toS [c])) = root.map fun _ => 1 := by
            apply List.map_congr_left
            intro x _
            rw [Function.comp_apply, toS_len]
            rfl
          rw [e1]
          have e2 : ∀ l : List Nat, (l.map fun _ => 1).sum = l.length := by
            intro l
            induction l with
            | nil => rfl
            | cons x r ih => rw [List.map_cons, List.sum_cons, ih, List.length_cons]; omega
          rw [e2]
          have e3 : Str.empty.length = 0 := rfl
          rw [e3]
          omega
        rw [join_ones]
        generalize hz : toS root = z
        have zl : z.length = root.length := by rw [← hz, toS_len]
        have zc : z.cps.toList = root := by rw [← hz, toS_list]
        refine ⟨_, rfl, _, rfl, z, rfl, by rw [zl, sizeLine_eq]; omega, _, _, rfl, rfl, v, 9, (z.length : Int) + 1, rfl, c4, by decide, by decide, by omega, by rw [zl]; omega, fun H5 j k5 c5 j0 j1 => ?_⟩
        obtain ⟨j, rfl⟩ := Int.eq_ofNat_of_zero_le j0
        have hj : j ≤ root.length := by omega
        refine ⟨Nat.zero_le _, fun L nL => ?_⟩
        have k6 : Kp (cellS v) H2 (upd H5 L (.lst [])) := (k4.trans k5).trans (.of_same (same_new nL))
        have c6 : CellOk (upd H5 L (.lst [])) v := c5.same (same_new nL)
        have ncL : ¬ cellS v L := c5.fresh nL
        have nHL : H L = none := (s3 _ (k4.trans k5)).free nL
        refine ⟨_, rfl, v, 10, 26, rfl, c6, by decide, by decide, by decide, by decide, fun H7 st k7 c7 st0 st1 => ?_⟩
        have e7 : H7 L = some (.lst []) := k7 _ _ upd_same fun z => absurd z ncL
        have sm7 := s3 _ (k6.trans k7)
        refine ⟨16, rfl, by decide, by decide, for_range (lo := 0) (n := 16) (fun i σ' H' => Same H H' ∧ H' L = some (.lst ((nameL root j st i).map V.str)) ∧ ∃ x6 x7 x8 x9, σ' = [some v, none, some (.int j), some (.str z), some (.ref L), some (.int st), x6, x7, x8, x9]) ?_ ?_ ?_⟩
        · exact ⟨sm7, e7, none, none, none, none, rfl⟩
        · rintro i σ' H8 hi ⟨s8, e8, x6, x7, x8, x9, rfl⟩
          refine ⟨_, rfl, _, rfl, _, _, rfl, rfl, .inl ⟨by decide, by decide⟩, _, _, rfl, rfl, _, rfl, ?_⟩
          generalize hc : letr (st + 5 * (0 + (i : Int))) = c
          have zb : z.length ≤ sizeLine := by rw [zl, sizeLine_eq]; omega
          have hcs : ∀ a b, (cutS z a b).length ≤ 6 := fun a b => by
            unfold cutS
            show (List.toArray _).size ≤ 6
            rw [List.size_toArray, List.length_take, List.length_drop, ← len_list]
            omega
          have h1 := hcs none (some (j : Int))
          have h2 := hcs (some (j : Int)) none
          have h3 : (⟨#[c]⟩ : Str).length = 1 := rfl
          refine ⟨_, rfl, _, rfl, _, rfl, z, rfl, zb, _, rfl, _, _, rfl, rfl, by rw [h3, sizeLine_eq]; omega, ?_⟩
          refine ⟨_, rfl, _, rfl, _, rfl, z, rfl, zb, _, _, rfl, rfl, ?_, ?_⟩
          · have := Str_len_append (cutS z none (some (j : Int))) ⟨#[c]⟩
            rw [this, h3, sizeLine_eq]
            omega
          rw [show (cutS z none (some (j : Int)) ++ (⟨#[c]⟩ : Str)) ++ cutS z (some (j : Int)) none = nm1 root j c by
            rw [cutS_to, cutS_from, show (⟨#[c]⟩ : Str) = toS [c] from rfl, add_toS, add_toS, zc]
            rfl]
          dsimp only [gName]
          refine ifs_by (fun σ' H' => Same H H' ∧ H' L = some (.lst ((nameL root j st i).map V.str)) ∧ ∃ x6 x7, σ' = [some v, none, some (.int j), some (.str z), some (.ref L), some (.int st), x6, x7, some (.str (nmF root j c)), x9]) ?_ ?_
          · rintro σ' H9 ⟨s9, e9, x6, x7, rfl⟩
            refine ⟨_, rfl, .inl ⟨rfl, _, .of e9⟩, _, rfl, L, _, _, rfl, rfl, e9, ?_, ?_, ?_, ?_⟩
            · unfold nameL
              rw [List.length_map, List.length_map, List.length_range, sizeLine_eq]
              omega
            · intro b o hb
              rw [upd_ne (ne_of_none hb nHL)]
              exact s9 b o hb
            · rw [upd_same]
              unfold nameL
              rw [List.range_succ, List.map_append, List.map_append, ← hc, Int.zero_add]
              rfl
            · exact ⟨_, _, _, _, rfl⟩
          · intro N hN
            refine ⟨_, rfl, rfl, fun H9 pk s9 npk epk => ?_⟩
            have e9 := s9 _ _ e8
            refine ⟨pk, _, rfl, .inl (.of epk), rfl, flat_strs _, _, rfl, ?_⟩
            dsimp only
            rw [if_neg Bool.false_ne_true, in_strs]
            refine ite2 (fun e => ?_) (fun e => ?_)
            · have ek := of_decide_eq_true e
              refine ⟨_, rfl, _, rfl, _, _, rfl, rfl, by rw [h3, sizeLine_eq]; decide, _, rfl, _, _, rfl, rfl, ?_, ?_⟩
              · have := Str_len_append (⟨#[c]⟩ : Str) ⟨#[c]⟩
                rw [this, h3, zl, sizeLine_eq]
                omega
              · refine hN _ _ ⟨s8.trans s9, e9, some (.int (0 + (i : Int))), some (.str ⟨#[c]⟩), ?_⟩
                rw [show nmF root j c = nm2 root c from if_pos ek]
                rw [show ((⟨#[c]⟩ : Str) ++ ⟨#[c]⟩) ++ z = nm2 root c by
                  rw [← hz, show (⟨#[c]⟩ : Str) = toS [c] from rfl, add_toS, add_toS]
                  rfl]
                rfl
            · have ek : ¬ nm1 root j c ∈ keptW := fun z => e (decide_eq_true z)
              refine hN _ _ ⟨s8.trans s9, e9, some (.int (0 + (i : Int))), some (.str ⟨#[c]⟩), ?_⟩
              rw [show nmF root j c = nm1 root j c from if_neg ek]
              rfl
        · rintro σ' H8 ⟨s8, e8, x6, x7, x8, x9, rfl⟩
          exact ⟨_, rfl, q _ L _ s8 nHL e8 (nameL_ok l2 hl hj)⟩
end

def wds7 : List Str := ["add", "sub", "mul", "div", "rem", "less", "same"]
def Ex.Wf (nms rws : List Str) : Nat → Ex → Prop
  | 0, _ => False
  | _ + 1, .num n => In32 n
  | _ + 1, .nam x => x ∈ nms
  | d + 1, .at_ r e => r ∈ rws ∧ e.Wf nms rws d
  | d + 1, .no e => e.Wf nms rws d
  | d + 1, .op w a b => w ∈ wds7 ∧ a.Wf nms rws d ∧ b.Wf nms rws d
theorem Ex.Wf.mono {nms rws : List Str} : ∀ {d k : Nat} {e : Ex}, d ≤ k → e.Wf nms rws d → e.Wf nms rws k
  | 0, _, _, _, h => h.elim
  | d + 1, 0, _, hk, _ => by omega
  | d + 1, k + 1, .num n, _, h => h
  | d + 1, k + 1, .nam x, _, h => h
  | d + 1, k + 1, .at_ r e, hk, h => ⟨h.1, Ex.Wf.mono (d := d) (by omega) h.2⟩
  | d + 1, k + 1, .no e, hk, h => Ex.Wf.mono (d := d) (e := e) (by omega) h
  | d + 1, k + 1, .op w a b, hk, h => ⟨h.1, Ex.Wf.mono (d := d) (by omega) h.2.1, Ex.Wf.mono (d := d) (by omega) h.2.2⟩
/-- names, rows and heads that a drawer is handed -/
structure Info (K : PySem.W.Frag) (H : Hp) (v : V) (nms rws : List Str) (hds : List (Str × Nat)) (a b c : Addr) : Prop where
  tup : ∃ p, v = .ref p ∧ SqT K H p [.ref a, .ref b, .ref c]
  a : H a = some (.lst (nms.map V.str))
  b : H b = some (.lst (rws.map V.str))
  c : ∃ hs, H c = some (.lst hs) ∧ DpAll K H hs (hds.map fun q => .tuple [.str q.1, .int q.2])
theorem heads_noL (hds : List (Str × Nat)) : nLs (hds.map fun q => .tuple [.str q.1, .int q.2]) = true := noLs_all fun x hx => by
  obtain ⟨q, _, rfl⟩ := List.mem_map.mp hx
  rfl
def Off (S : Addr → Prop) (a b c : Addr) : Prop := ¬ S a ∧ ¬ S b ∧ ¬ S c
theorem Info.kp {K : PySem.W.Frag} {H H' : Hp} {v : V} {nms rws : List Str} {hds : List (Str × Nat)} {a b c : Addr} {S : Addr → Prop} (h : Info K H v nms rws hds a b c) (k : Kp S H H') (o : Off S a b c) : Info K H' v nms rws hds a b c := by
  obtain ⟨⟨p, rfl, h1⟩, h2, h3, hs, h4, h5⟩ := h
  exact ⟨⟨p, rfl, sqT_kp k h1⟩, k _ _ h2 fun z => absurd z o.1, k _ _ h3 fun z => absurd z o.2.1, hs, k _ _ h4 fun z => absurd z o.2.2, dpAll_kp k _ _ (heads_noL hds) h5⟩
section
variable {P : Program} {w : World} {K : PySem.W.Frag} {mg : Str → Option Value} {base : Heap}
def sp__law_number_by : Sp := fun vs H Q _ => ∃ (v : V) (k : Int), vs = [v, .int k] ∧ CellOk H v ∧ 0 ≤ k ∧ k < 1000 ∧ ∀ H' n, Kp (cellS v) H H' → CellOk H' v → In32 n → Q (.int n) H'
theorem ok__law_number_by (T : Top K mg) : FnOk P w K mg base CX0 2 (He.ga K "_law_number_by") T.fd__law_number_by ["_law_cell", "_law_k"] sp__law_number_by := by
  have G__law_mixed := ok__law_mixed (P := P) (w := w) (base := base) T
  refine T.F__law_number_by.ok sc__law_number_by (fun vs H Q E h => ?_) (fun cdv A outer s H vs Q E hr h => ?_)
  · obtain ⟨v, k, rfl, _⟩ := h
    rfl
  · obtain ⟨v, k, rfl, hv, h0, h1, q⟩ := h
    refine ⟨_, PSs.nox (pss_cons (ps_set (i := 2) sc__law_number_by.nd rfl (Or.inl rfl) (pe_lst (pa_cons pe_int (pa_cons pe_int (pa_cons (pe_un un_neg pe_int) (pa_cons pe_int (pa_cons pe_int (pa_cons pe_int (pa_cons pe_int (pa_cons (pe_un un_neg pe_int) (pa_cons (pe_op op_sub (pe_call G__law_mixed (hr.mono (by omega)) (by rfl) T.g__law_mixed T.F__law_mixed.kp T.b__law_mixed .nil pass0 (pa_cons (pv 0) (pa_cons (pv 1) (pa_cons pe_int pa_nil)))) pe_int) (pa_cons pe_int (pa_cons (pe_call G__law_mixed (hr.mono (by omega)) (by rfl) T.g__law_mixed T.F__law_mixed.kp T.b__law_mixed .nil pass0 (pa_cons (pv 0) (pa_cons (pv 1) (pa_cons pe_int pa_nil)))) pa_nil)))))))))))))
        (pss_cons (ps_if (pt_val (pe_callB call_isi (by rfl) T.m_isinstance (by decide +kernel) (pa_cons (pv 0) (pa_cons (pe_bltn (v := .ty "list") (by rfl) T.m_list (by decide +kernel) rfl) pa_nil)))) (pss_one (ps_asg (pe_op op_sub (pe_call G__law_mixed (hr.mono (by omega)) (by rfl) T.g__law_mixed T.F__law_mixed.kp T.b__law_mixed .nil pass0 (pa_cons (pv 0) (pa_cons (pv 1) (pa_cons pe_int pa_nil)))) pe_int) (pg_sub (pv 2) pe_int set_list))) pss_nil)
        (pss_one (ps_ret (pe_ix ix_list (pv 2) (pe_call G__law_mixed (hr.mono (by omega)) (by rfl) T.g__law_mixed T.F__law_mixed.kp T.b__law_mixed .nil pass0 (pa_cons (pv 0) (pa_cons (pe_op op_add (pv 1) pe_int) (pa_cons pe_int pa_nil)))) (fun _ _ => rfl)))))), ?_⟩
    refine ⟨_, rfl, _, rfl, _, rfl, _, rfl, v, k, 200, rfl, hv, h0, by omega, by decide, by decide, fun H1 r1 k1 c1 r10 r11 => ?_⟩
    refine ⟨_, _, rfl, rfl, _, rfl, _, rfl, v, k, 10, rfl, c1, h0, by omega, by decide, by decide, fun H2 r2 k2 c2 r20 r21 => ?_⟩
    refine ⟨(by show 11 ≤ sizeLine; rw [sizeLine_eq]; decide), fun L nL => ?_⟩
    have k3 : Kp (cellS v) H (upd H2 L (.lst (([0, 1, -1, 2, 3, 5, 2147483647, -2147483648, r1 - 100, 65536, r2] : List Int).map V.int))) := (k1.trans k2).trans (.of_same (same_new nL))
    have c3 : CellOk (upd H2 L (.lst (([0, 1, -1, 2, 3, 5, 2147483647, -2147483648, r1 - 100, 65536, r2] : List Int).map V.int))) v := c2.same (same_new nL)
    have nc : ¬ cellS v L := c2.fresh nL
    have nH : ∀ H', Kp (cellS v) H H' → H' L = none → H L = none := fun H' k' e => by
      cases z : H L with
      | none => rfl
      | some o =>
        have := k' _ _ z fun y => absurd y nc
        rw [e] at this
        cases this
    have nHL := nH _ (k1.trans k2) nL
    dsimp only [gName]
    refine ifs_by (fun σ' H' => Kp (cellS v) H H' ∧ CellOk H' v ∧ ∃ x : Int, In32 x ∧ H' L = some (.lst (([0, 1, -1, 2, x, 5, 2147483647, -2147483648, r1 - 100, 65536, r2] : List Int).map V.int)) ∧ σ' = [some v, some (.int k), some (.ref L)]) ?_ ?_
    · rintro σ' H4 ⟨k4, c4, x, hx, e4, rfl⟩
      refine ⟨_, rfl, _, rfl, _, rfl, _, _, rfl, rfl, v, k + 1, 11, rfl, c4, by omega, by omega, by decide, by decide, fun H5 j k5 c5 j0 j1 => ?_⟩
      have e5 : H5 L = some (.lst (([0, 1, -1, 2, x, 5, 2147483647, -2147483648, r1 - 100, 65536, r2] : List Int).map V.int)) := k5 _ _ e4 fun z => absurd z nc
      refine ⟨L, _, j, _, rfl, rfl, .of e5, at_ints j0 j1, q _ _ (k4.trans k5) c5 ?_⟩
      refine getD_all (fun y hy => ?_) j0 j1
      simp only [List.mem_cons, List.not_mem_nil, or_false] at hy
      obtain ⟨x1, x2⟩ := hx
      unfold In32
      omega
    · intro N hN
      rcases c3 with ⟨c, rfl⟩ | ⟨a, l, t, rfl, ha, hl, ht⟩
      · refine ⟨_, rfl, _, _, _, _, false, rfl, .ty _, .base (.int c), kit_ty (by decide +kernel), false, rfl, ?_⟩
        exact hN _ _ ⟨k3, .inl ⟨_, rfl⟩, 3, by unfold In32; decide, upd_same, rfl⟩
      · refine ⟨_, rfl, _, _, _, _, true, rfl, .ty _, .base (.lst ha), kit_ty (by decide +kernel), true, rfl, ?_⟩
        refine ⟨_, rfl, _, rfl, .ref a, k, 4294967296, rfl, .inr ⟨a, l, t, rfl, ha, hl, ht⟩, h0, by omega, by decide, by decide, fun H5 r k5 c5 r0 r1 => ?_⟩
        have e5 := k5 _ _ (upd_same (H := H2) (a := L)) fun z => absurd z nc
        refine ⟨_, _, rfl, rfl, _, rfl, L, _, 4, 4, rfl, rfl, e5, rfl, ?_⟩
        refine hN _ _ ⟨?_, c5.upd nc, r - 2147483648, ⟨by omega, by omega⟩, upd_same, rfl⟩
        intro b o hb hk
        have nb : b ≠ L := ne_of_none hb nHL
        rw [upd_ne nb]
        exact (k3.trans k5) b o hb hk
def sp__law_within : Sp := fun vs H Q _ => ∃ (v : V) (k : Int), vs = [v, .int k] ∧ CellOk H v ∧ 0 ≤ k ∧ k < 1000 ∧ ∀ H' v', Kp (cellS v) H H' → CellOk H' v → CellOk H' v' → (v' = v ∨ ∃ c, v' = .int c) → Q v' H'
theorem ok__law_within (T : Top K mg) : FnOk P w K mg base CX0 2 (He.ga K "_law_within") T.fd__law_within ["_law_cell", "_law_k"] sp__law_within := by
  have G__law_mixed := ok__law_mixed (P := P) (w := w) (base := base) T
  refine T.F__law_within.ok sc__law_within (fun vs H Q E h => ?_) (fun cdv A outer s H vs Q E hr h => ?_)
  · obtain ⟨v, k, rfl, _⟩ := h
    rfl
  · obtain ⟨v, k, rfl, hv, h0, h1, q⟩ := h
    refine ⟨_, PSs.nox (pss_cons (ps_if (pt_val (pe_callB call_isi (by rfl) T.m_isinstance (by decide +kernel) (pa_cons (pv 0) (pa_cons (pe_bltn (v := .ty "list") (by rfl) T.m_list (by decide +kernel) rfl) pa_nil)))) (pss_one (ps_ret (pv 0))) pss_nil)
        (pss_one (ps_ret (pe_call G__law_mixed (hr.mono (by omega)) (by rfl) T.g__law_mixed T.F__law_mixed.kp T.b__law_mixed .nil pass0 (pa_cons (pv 0) (pa_cons (pv 1) (pa_cons pe_int pa_nil))))))), ?_⟩
    rcases hv with ⟨c, rfl⟩ | ⟨a, l, t, rfl, ha, hl, ht⟩
    · refine ⟨_, rfl, _, _, _, _, false, rfl, .ty _, .base (.int c), kit_ty (by decide +kernel), false, rfl, ?_⟩
      exact ⟨_, rfl, _, rfl, .int c, k, 1000003, rfl, .inl ⟨_, rfl⟩, h0, by omega, by decide, by decide, fun H1 r k1 c1 _ _ => q _ _ k1 c1 (.inl ⟨_, rfl⟩) (.inr ⟨_, rfl⟩)⟩
    · refine ⟨_, rfl, _, _, _, _, true, rfl, .ty _, .base (.lst ha), kit_ty (by decide +kernel), true, rfl, ?_⟩
      exact ⟨_, rfl, q _ _ Kp.refl (.inr ⟨a, l, t, rfl, ha, hl, ht⟩) (.inr ⟨a, l, t, rfl, ha, hl, ht⟩) (.inl rfl)⟩
theorem cellS_sub {v v' : V} (h : v' = v ∨ ∃ c, v' = .int c) : ∀ b, cellS v' b → cellS v b := by
  rcases h with rfl | ⟨c, rfl⟩
  · exact fun b z => z
  · intro b z
    cases z
end

section
variable {P : Program} {w : World} {K : PySem.W.Frag} {mg : Str → Option Value} {base : Heap}
theorem CellOk.or {H : Hp} {v v' : V} (h : v' = v ∨ ∃ c, v' = .int c) (c : CellOk H v) : CellOk H v' := by
  rcases h with rfl | ⟨c, rfl⟩
  · exact c
  · exact .inl ⟨_, rfl⟩
theorem Off.sub {S S' : Addr → Prop} {a b c : Addr} (o : Off S a b c) (h : ∀ x, S' x → S x) : Off S' a b c := ⟨fun z => o.1 (h _ z), fun z => o.2.1 (h _ z), fun z => o.2.2 (h _ z)⟩
theorem dp_same {H H' : Hp} {v : V} {d : PyData} (h : Dp K H v d) (k : Same H H') (n : nLd d = true) : Dp K H' v d := dp_kp (Kp.of_same (S := fun _ => False) k) d v n h
theorem dpAll_same {H H' : Hp} {v : List V} {d : List PyData} (h : DpAll K H v d) (k : Same H H') (n : nLs d = true) : DpAll K H' v d := dpAll_kp (Kp.of_same (S := fun _ => False) k) d v n h
theorem in_strs_at {zs : List Str} {i : Int} (h0 : 0 ≤ i) (h1 : i < zs.length) : ∃ z ∈ zs, atI (zs.map V.str) i = some (.str z) := by
  obtain ⟨x, hx, e⟩ := at_list (ns := zs.map V.str) h0 (by rw [List.length_map]; exact h1)
  obtain ⟨z, hz, rfl⟩ := List.mem_map.mp hx
  exact ⟨z, hz, e⟩
theorem cell_after {H H' : Hp} {v v1 : V} (h : v1 = v ∨ ∃ c, v1 = .int c) (c : CellOk H v) (k : Kp (cellS v1) H H') (c1 : CellOk H' v1) : CellOk H' v := by
  rcases h with rfl | ⟨n, rfl⟩
  · exact c1
  · exact c.same fun b o e => k b o e fun z => nomatch z
def sp_ex (K : PySem.W.Frag) (D : Nat) : Sp := fun vs H Q _ => ∃ (v vi : V) (d : Int) (nms rws : List Str) (hds : List (Str × Nat)) (a b c : Addr), vs = [v, .int d, vi] ∧ CellOk H v ∧ 1 ≤ d ∧ d ≤ D ∧ Info K H vi nms rws hds a b c ∧
  nms.length ≤ 16 ∧ rws.length ≤ 16 ∧ Off (cellS v) a b c ∧ ∀ H' r (e : Ex), Kp (cellS v) H H' → CellOk H' v → Dp K H' r e.d → e.Wf nms rws d.toNat → Q r H'
theorem ok__law_expression (T : Top K mg) : ∀ D : Nat, FnOk P w K mg base CX0 (D + 3) (He.ga K "_law_expression") T.fd__law_expression ["_law_cell", "_law_deep", "_law_info"] (sp_ex K D)
  | 0 => by
    refine T.F__law_expression.ok sc__law_expression (fun vs H Q E h => ?_) (fun cdv A outer s H vs Q E hr h => ?_)
    · obtain ⟨v, vi, d, nms, rws, hds, a, b, c, rfl, hv, h1, h2, _⟩ := h
      rfl
    · obtain ⟨v, vi, d, nms, rws, hds, a, b, c, rfl, hv, h1, h2, _⟩ := h
      exfalso
      have : d ≤ 0 := h2
      omega
  | D + 1 => by
    have G__law_mixed := ok__law_mixed (P := P) (w := w) (base := base) T
    have G__law_within := ok__law_within (P := P) (w := w) (base := base) T
    have G__law_number_by := ok__law_number_by (P := P) (w := w) (base := base) T
    have G__law_expression := ok__law_expression T D
    refine T.F__law_expression.ok sc__law_expression (fun vs H Q E h => ?_) (fun cdv A outer s H vs Q E hr h => ?_)
    · obtain ⟨v, vi, d, nms, rws, hds, a, b, c, rfl, _⟩ := h
      rfl
    · obtain ⟨v, vi, d, nms, rws, hds, a, b, c, rfl, hv, hd1, hd2, hI, hn, hw, ho, q⟩ := h
      refine ⟨_, PSs.nox (pss_cons (ps_par (i := 3) (j := 4) (by rfl) sc__law_expression.nd rfl rfl (by decide) rfl rfl (pa_cons (pe_ix ix_tup (pv 2) pe_int (fun _ _ => rfl)) (pa_cons (pe_ix ix_tup (pv 2) pe_int (fun _ _ => rfl)) pa_nil)) (by rfl))
        (pss_cons (ps_set (i := 5) sc__law_expression.nd rfl (Or.inl rfl) (pe_call G__law_mixed (hr.mono (by omega)) (by rfl) T.g__law_mixed T.F__law_mixed.kp T.b__law_mixed .nil pass0 (pa_cons (pv 0) (pa_cons pe_int (pa_cons pe_int pa_nil)))))
        (pss_cons (ps_set (i := 6) sc__law_expression.nd rfl (Or.inl rfl) (pe_call G__law_within (hr.mono (by omega)) (by rfl) T.g__law_within T.F__law_within.kp T.b__law_within .nil pass0 (pa_cons (pv 0) (pa_cons pe_int pa_nil))))
        (pss_cons (ps_if (PW.pt (pw_or (pt_cmpR op_lt (pv 1) pe_int (nomark _)) (pw_or1 (pt_cmpR op_lt (pv 5) pe_int (nomark _))))) (pss_cons (ps_if (PW.pt (pw_or (pt_cmpR op_eq (pe_callB call_len_seq (by rfl) T.m_len (by decide +kernel) (pa_cons (pv 3) pa_nil)) pe_int (nomark _)) (pw_or1 (pt_cmpR op_eq (pe_op op_mod (pv 5) pe_int) pe_int (nomark _))))) (pss_one (ps_ret (pe_tup (pa_cons pe_str (pa_cons (pe_call G__law_number_by (hr.mono (by omega)) (by rfl) T.g__law_number_by T.F__law_number_by.kp T.b__law_number_by .nil pass0 (pa_cons (pv 0) (pa_cons pe_int pa_nil))) pa_nil))))) pss_nil)
        (pss_one (ps_ret (pe_tup (pa_cons pe_str (pa_cons (pe_ix ix_list (pv 3) (pe_call G__law_mixed (hr.mono (by omega)) (by rfl) T.g__law_mixed T.F__law_mixed.kp T.b__law_mixed .nil pass0 (pa_cons (pv 0) (pa_cons pe_int (pa_cons (pe_callB call_len_seq (by rfl) T.m_len (by decide +kernel) (pa_cons (pv 3) pa_nil)) pa_nil)))) (fun _ _ => rfl)) pa_nil)))))) pss_nil)
        (pss_cons (ps_if (PW.pt (pw_and (pt_cmpR op_eq (pv 5) pe_int (nomark _)) (pw_and1 (pt_cmpR op_gt (pe_callB call_len_seq (by rfl) T.m_len (by decide +kernel) (pa_cons (pv 4) pa_nil)) pe_int (nomark _))))) (pss_one (ps_ret (pe_tup (pa_cons pe_str (pa_cons (pe_ix ix_list (pv 4) (pe_call G__law_mixed (hr.mono (by omega)) (by rfl) T.g__law_mixed T.F__law_mixed.kp T.b__law_mixed .nil pass0 (pa_cons (pv 0) (pa_cons pe_int (pa_cons (pe_callB call_len_seq (by rfl) T.m_len (by decide +kernel) (pa_cons (pv 4) pa_nil)) pa_nil)))) (fun _ _ => rfl)) (pa_cons (pe_call G__law_expression (hr.mono (by omega)) (by rfl) T.g__law_expression T.F__law_expression.kp T.b__law_expression .nil pass0 (pa_cons (pv 6) (pa_cons (pe_op op_sub (pv 1) pe_int) (pa_cons (pv 2) pa_nil)))) pa_nil)))))) pss_nil)
        (pss_cons (ps_if (pt_cmpR op_eq (pv 5) pe_int (nomark _)) (pss_one (ps_ret (pe_tup (pa_cons pe_str (pa_cons (pe_call G__law_expression (hr.mono (by omega)) (by rfl) T.g__law_expression T.F__law_expression.kp T.b__law_expression .nil pass0 (pa_cons (pv 6) (pa_cons (pe_op op_sub (pv 1) pe_int) (pa_cons (pv 2) pa_nil)))) pa_nil))))) pss_nil)
        (pss_cons (ps_set (i := 7) sc__law_expression.nd rfl (Or.inl rfl) (pe_ix ix_list (pe_lst (pa_cons pe_str (pa_cons pe_str (pa_cons pe_str (pa_cons pe_str (pa_cons pe_str (pa_cons pe_str (pa_cons pe_str pa_nil)))))))) (pe_call G__law_mixed (hr.mono (by omega)) (by rfl) T.g__law_mixed T.F__law_mixed.kp T.b__law_mixed .nil pass0 (pa_cons (pv 0) (pa_cons pe_int (pa_cons pe_int pa_nil)))) (fun _ _ => rfl)))
        (pss_cons (ps_set (i := 8) sc__law_expression.nd rfl (Or.inl rfl) (pe_call G__law_expression (hr.mono (by omega)) (by rfl) T.g__law_expression T.F__law_expression.kp T.b__law_expression .nil pass0 (pa_cons (pe_call G__law_within (hr.mono (by omega)) (by rfl) T.g__law_within T.F__law_within.kp T.b__law_within .nil pass0 (pa_cons (pv 0) (pa_cons pe_int pa_nil))) (pa_cons (pe_op op_sub (pv 1) pe_int) (pa_cons (pv 2) pa_nil)))))
        (pss_one (ps_ret (pe_tup (pa_cons (pv 7) (pa_cons (pe_call G__law_expression (hr.mono (by omega)) (by rfl) T.g__law_expression T.F__law_expression.kp T.b__law_expression .nil pass0 (pa_cons (pv 6) (pa_cons (pe_op op_sub (pv 1) pe_int) (pa_cons (pv 2) pa_nil)))) (pa_cons (pv 8) pa_nil)))))))))))))), ?_⟩
      obtain ⟨pi, rfl, hT⟩ := hI.tup
      refine ⟨_, rfl, pi, _, 0, _, rfl, rfl, hT, atI_nat (j := 0) rfl, _, rfl, pi, _, 1, _, rfl, rfl, hT, atI_nat (j := 1) rfl, _, _, rfl, ?_⟩
      refine ⟨_, rfl, v, 0, 13, rfl, hv, by decide, by decide, by decide, by decide, fun H1 kd k1 c1 kd0 kd1 => ?_⟩
      refine ⟨_, rfl, v, 3, rfl, c1, by decide, by decide, fun H2 v1 k2 c2 c2' w1 => ?_⟩
      have k12 := k1.trans k2
      have I2 := hI.kp k12 ho
      have sub1 := cellS_sub w1
      have o1 := ho.sub sub1
      have d0 : ∃ n : Nat, d.toNat = n + 1 := ⟨d.toNat - 1, by omega⟩
      obtain ⟨n, hn1⟩ := d0
      have mk : ∀ (H' : Hp) (ds : List PyData) (xs : List V) (e : Ex), Kp (cellS v) H H' → CellOk H' v → DpAll K H' xs ds → e.d = .tuple ds → nLs ds = true → e.Wf nms rws d.toNat → xs.length ≤ sizeLine ∧ ∀ p, H' p = none → Q (.ref p) (upd H' p (.tup xs)) := by
        intro H' ds xs e k' c' h' he hno wf
        refine ⟨?_, fun p np => q _ _ e (k'.trans (.of_same (same_new np))) (c'.same (same_new np)) ?_ wf⟩
        · rw [dpAll_len h', sizeLine_eq]
          have : ds.length ≤ 3 := by
            cases e <;> (simp only [Ex.d] at he; injection he with he; subst he; simp)
          omega
        · rw [he]
          exact .tup (.of upd_same) (dpAll_same h' (same_new np) hno)
      dsimp only [gName]
      refine ifs_by (fun σ' H' => H' = H2 ∧ 2 ≤ d ∧ σ' = [some v, some (.int d), some (.ref pi), some (.ref a), some (.ref b), some (.int kd), some v1, none, none]) ?_ ?_
      · rintro σ' H3 ⟨rfl, hd3, rfl⟩
        have wf_n : (d - 1).toNat = n := by omega
        have wf2 : (d - 1).toNat + 1 = d.toNat := by omega
        -- at
        refine ifs_by (fun σ' H' => H' = H3 ∧ σ' = [some v, some (.int d), some (.ref pi), some (.ref a), some (.ref b), some (.int kd), some v1, none, none]) ?_ ?_
        rotate_left
        · intro N hN
          refine ⟨_, rfl, rfl, _, rfl, ite2 (fun e1 => ?_) (fun e1 => hN _ _ ⟨rfl, rfl⟩)⟩
          refine ⟨_, rfl, b, _, rfl, .inl (.of I2.b), _, _, rfl, rfl, _, rfl, ite2 (fun e2 => ?_) (fun e2 => hN _ _ ⟨rfl, rfl⟩)⟩
          have e3 : 0 < rws.length := by
            have := of_decide_eq_true e2
            rw [List.length_map] at this
            omega
          refine ⟨_, rfl, _, rfl, _, rfl, b, _, rfl, .inl (.of I2.b), v, 4, (rws.map V.str).length, rfl, c2, by decide, by decide, by rw [List.length_map]; omega, by rw [List.length_map]; omega, fun H4 j k4 c4 j0 j1 => ?_⟩
          rw [List.length_map] at j1
          have I4 := I2.kp k4 ho
          obtain ⟨z, hz, ez⟩ := in_strs_at j0 j1
          refine ⟨b, _, j, _, rfl, rfl, .of I4.b, ez, ?_⟩
          refine ⟨_, rfl, _, rfl, _, _, rfl, rfl, _, rfl, v1, .ref pi, d - 1, nms, rws, hds, a, b, c, rfl, CellOk.or w1 c4, by omega, by omega, I4, hn, hw, o1, fun H5 r e k5 c5 dp wf => ?_⟩
          have k5' : Kp (cellS v) H4 H5 := k5.mono sub1
          refine mk H5 [.str "at", .str z, e.d] _ (.at_ z e) ((k12.trans k4).trans k5') (cell_after w1 c4 k5 c5) (.cons (.str _) (.cons (.str _) (.cons dp .nil))) rfl (by simp [nLs, nLd, e.noL]) ?_
          rw [← wf2]
          exact ⟨hz, wf⟩
        rintro σ' H4 ⟨rfl, rfl⟩
        -- not
        refine ifs_by (fun σ' H' => H' = H4 ∧ σ' = [some v, some (.int d), some (.ref pi), some (.ref a), some (.ref b), some (.int kd), some v1, none, none]) ?_ ?_
        rotate_left
        · intro N hN
          refine ⟨_, rfl, rfl, _, rfl, ite2 (fun e1 => ?_) (fun e1 => hN _ _ ⟨rfl, rfl⟩)⟩
          refine ⟨_, rfl, _, rfl, _, _, rfl, rfl, _, rfl, v1, .ref pi, d - 1, nms, rws, hds, a, b, c, rfl, CellOk.or w1 c2, by omega, by omega, I2, hn, hw, o1, fun H5 r e k5 c5 dp wf => ?_⟩
          have k5' : Kp (cellS v) H4 H5 := k5.mono sub1
          refine mk H5 [.str "not", e.d] _ (.no e) (k12.trans k5') (cell_after w1 c2 k5 c5) (.cons (.str _) (.cons dp .nil)) rfl (by simp [nLs, nLd, e.noL]) ?_
          rw [← wf2]
          exact wf
        rintro σ' H5 ⟨rfl, rfl⟩
        -- a word of seven
        refine ⟨(by show 7 ≤ sizeLine; rw [sizeLine_eq]; decide), fun L nL => ?_⟩
        have s6 := same_new (o := .lst (wds7.map V.str)) nL
        have c6 : CellOk _ v := c2.same s6
        have nc : ¬ cellS v L := c2.fresh nL
        refine ⟨_, rfl, v, 5, 7, rfl, c6, by decide, by decide, by decide, by decide, fun H7 j k7 c7 j0 j1 => ?_⟩
        obtain ⟨wd, hwd, ew⟩ := in_strs_at (zs := wds7) j0 j1
        have k7' : Kp (cellS v) H5 H7 := (Kp.of_same s6).trans k7
        refine ⟨L, _, j, _, rfl, rfl, .of (k7 _ _ upd_same fun z => absurd z nc), ew, ?_⟩
        have I7 := I2.kp k7' ho
        refine ⟨_, rfl, v, 6, rfl, c7, by decide, by decide, fun H8 v2 k8 c8 c8' w2 => ?_⟩
        have sub2 := cellS_sub w2
        have I8 := I7.kp k8 ho
        refine ⟨_, rfl, _, _, rfl, rfl, _, rfl, v2, .ref pi, d - 1, nms, rws, hds, a, b, c, rfl, c8', by omega, by omega, I8, hn, hw, ho.sub sub2, fun H9 r2 e2 k9 c9 dp2 wf2' => ?_⟩
        have k9' : Kp (cellS v) H8 H9 := k9.mono sub2
        have c9' := cell_after w2 c8 k9 c9
        have I9 := I8.kp k9' ho
        refine ⟨_, rfl, _, rfl, _, rfl, _, _, rfl, rfl, _, rfl, v1, .ref pi, d - 1, nms, rws, hds, a, b, c, rfl, CellOk.or w1 c9', by omega, by omega, I9, hn, hw, o1, fun H10 r1 e1 k10 c10 dp1 wf1 => ?_⟩
        have k10' : Kp (cellS v) H9 H10 := k10.mono sub1
        refine ⟨_, rfl, ?_⟩
        refine mk H10 [.str wd, e1.d, e2.d] _ (.op wd e1 e2) ((((k12.trans k7').trans k8).trans k9').trans k10') (cell_after w1 c9' k10 c10) (.cons (.str _) (.cons dp1 (.cons (dp_kp k10' _ _ e2.noL dp2) .nil))) rfl (by simp [nLs, nLd, e1.noL, e2.noL]) ?_
        rw [← wf2]
        exact ⟨hwd, wf1, wf2'⟩
      · intro N hN
        refine ⟨_, rfl, _, _, rfl, rfl, _, rfl, ite_share ?_ fun e1 leaf => ?_⟩
        · refine ifs_by (fun σ' H' => H' = H2 ∧ 0 < nms.length ∧ σ' = [some v, some (.int d), some (.ref pi), some (.ref a), some (.ref b), some (.int kd), some v1, none, none]) ?_ ?_
          · rintro σ' H3 ⟨rfl, n0, rfl⟩
            refine ⟨_, rfl, _, rfl, _, rfl, a, _, rfl, .inl (.of I2.a), v, 2, (nms.map V.str).length, rfl, c2, by decide, by decide, by rw [List.length_map]; omega, by rw [List.length_map]; omega, fun H4 j k4 c4 j0 j1 => ?_⟩
            rw [List.length_map] at j1
            obtain ⟨z, hz, ez⟩ := in_strs_at j0 j1
            refine ⟨a, _, j, _, rfl, rfl, .of (I2.kp k4 ho).a, ez, ?_⟩
            refine mk H4 [.str "name", .str z] _ (.nam z) (k12.trans k4) c4 (.cons (.str _) (.cons (.str _) .nil)) rfl rfl ?_
            rw [hn1]
            exact hz
          · intro M hM
            refine ⟨_, rfl, a, _, rfl, .inl (.of I2.a), rfl, _, rfl, ite_share ?_ fun e2 leaf2 => ?_⟩
            · refine ⟨_, rfl, v, 1, rfl, c2, by decide, by decide, fun H4 x k4 c4 hx => ?_⟩
              refine mk H4 [.str "number", .int x] _ (.num x) (k12.trans k4) c4 (.cons (.str _) (.cons (.int _) .nil)) rfl rfl ?_
              rw [hn1]
              exact hx
            · refine ⟨_, rfl, _, _, rfl, rfl, (by show (0 : Int) < 3; decide), rfl, _, rfl, ite2 (fun _ => leaf2) fun e3 => ?_⟩
              refine hM _ _ ⟨rfl, ?_, rfl⟩
              rcases Nat.eq_zero_or_pos nms.length with z | z
              · exact absurd (decide_eq_true (congrArg V.int (by rw [List.length_map, z]; rfl))) e2
              · exact z
        · refine ⟨_, rfl, _, _, rfl, rfl, _, rfl, ite2 (fun _ => leaf) fun e2 => ?_⟩
          refine hN _ _ ⟨rfl, ?_, rfl⟩
          have e1' : ¬ d < 2 := fun z => e1 (decide_eq_true z)
          omega

end

section
variable {P : Program} {w : World} {K : PySem.W.Frag} {mg : Str → Option Value} {base : Heap}
/-- what is kept, but for an address that was free -/
theorem kp_upd_new {S : Addr → Prop} {H H' : Hp} {D : Addr} {o : HO} (k : Kp S H H') (h : H D = none) : Kp S H (upd H' D o) := fun b x e z => by
  rw [upd_ne (ne_of_none e h)]
  exact k b x e z
theorem kp_free {S : Addr → Prop} {H H' : Hp} {D : Addr} (k : Kp S H H') (h : H' D = none) (n : ¬ S D) : H D = none := by
  cases z : H D with
  | none => rfl
  | some o =>
    rw [k _ _ z fun y => absurd y n] at h
    cases h
def ExL (K : PySem.W.Frag) (H : Hp) (nms rws : List Str) (xs : List V) (es : List Ex) : Prop := DpAll K H xs (es.map Ex.d) ∧ ∀ e ∈ es, e.Wf nms rws 4
theorem exs_noL (es : List Ex) : nLs (es.map Ex.d) = true := noLs_all fun x hx => by
  obtain ⟨e, _, rfl⟩ := List.mem_map.mp hx
  exact e.noL
def sp__law_expressions (K : PySem.W.Frag) : Sp := fun vs H Q _ => ∃ (v vi : V) (m : Int) (nms rws : List Str) (hds : List (Str × Nat)) (a b c : Addr), vs = [v, .int m, vi] ∧ CellOk H v ∧ 0 ≤ m ∧ m ≤ 100 ∧ Info K H vi nms rws hds a b c ∧
  nms.length ≤ 16 ∧ rws.length ≤ 16 ∧ Off (cellS v) a b c ∧ ∀ H' p xs (es : List Ex), Kp (cellS v) H H' → CellOk H' v → H p = none → ¬ cellS v p → H' p = some (.lst xs) → ExL K H' nms rws xs es → es.length = m.toNat → Q (.ref p) H'
theorem ok__law_expressions (T : Top K mg) : FnOk P w K mg base CX0 8 (He.ga K "_law_expressions") T.fd__law_expressions ["_law_cell", "_law_many", "_law_info"] (sp__law_expressions K) := by
  have G__law_mixed := ok__law_mixed (P := P) (w := w) (base := base) T
  have G__law_within := ok__law_within (P := P) (w := w) (base := base) T
  have G__law_expression := ok__law_expression (P := P) (w := w) (base := base) T 4
  refine T.F__law_expressions.ok sc__law_expressions (fun vs H Q E h => ?_) (fun cdv A outer s H vs Q E hr h => ?_)
  · obtain ⟨v, vi, d, nms, rws, hds, a, b, c, rfl, _⟩ := h
    rfl
  · obtain ⟨v, vi, m, nms, rws, hds, a, b, c, rfl, hv, m0, m1, hI, hn, hw, ho, q⟩ := h
    refine ⟨_, PSs.nox (pss_one (ps_ret (pe_lc (own := [("_law_k", 3)]) (by rfl) sc__law_expressions.nd (pi_range1 (by rfl) T.m_range (pa_cons (pv 1) pa_nil)) (blkOk_by (own := [("_law_k", 3)]) (N := N__law_expressions) (sc := defScope s__law_expressions) (by decide +kernel)) (fun _ _ _ _ _ => (pg_name (i := 3) sc__law_expressions.nd rfl (Or.inl rfl))) (fun _ _ _ _ _ => pts_nil) (fun _ _ _ _ _ => (pe_call G__law_expression (hr.mono (by omega)) (by rfl) T.g__law_expression T.F__law_expression.kp T.b__law_expression .nil pass0 (pa_cons (pe_call G__law_within (hr.mono (by omega)) (by rfl) T.g__law_within T.F__law_within.kp T.b__law_within .nil pass0 (pa_cons (pv 0) (pa_cons (pv 3) pa_nil))) (pa_cons (pe_op op_add pe_int (pe_call G__law_mixed (hr.mono (by omega)) (by rfl) T.g__law_mixed T.F__law_mixed.kp T.b__law_mixed .nil pass0 (pa_cons (pv 0) (pa_cons (pe_op op_add (pv 3) pe_int) (pa_cons pe_int pa_nil))))) (pa_cons (pv 2) pa_nil)))))))), ?_⟩
    refine ⟨_, rfl, m, rfl, by omega, by omega, fun D nD => ?_⟩
    have nc : ¬ cellS v D := hv.fresh nD
    refine lc_range (lo := 0) (n := m.toNat) (fun i H' => Kp (cellS v) H H' ∧ CellOk H' v ∧ ∃ xs es, H' D = some (.lst xs) ∧ ExL K H' nms rws xs es ∧ es.length = i) ?_ ?_ ?_
    · exact ⟨kp_upd_new Kp.refl nD, hv.same (same_new nD), [], [], upd_same, ⟨.nil, fun e he => nomatch he⟩, rfl⟩
    · rintro i H1 hi ⟨k1, c1, xs, es, e1, ⟨x1, x2⟩, l1⟩
      refine ⟨rfl, _, rfl, _, rfl, v, 0 + (i : Int), rfl, c1, by omega, by omega, fun H2 v2 k2 c2 c2' w2 => ?_⟩
      refine ⟨_, rfl, _, rfl, _, _, rfl, rfl, v, 0 + (i : Int) + 4, 4, rfl, c2, by omega, by omega, by decide, by decide, fun H3 r k3 c3 r0 r1 => ?_⟩
      have sub2 := cellS_sub w2
      have I3 := hI.kp ((k1.trans k2).trans k3) ho
      refine ⟨_, _, rfl, rfl, _, rfl, v2, vi, 1 + r, nms, rws, hds, a, b, c, rfl, CellOk.or w2 c3, by omega, by omega, I3, hn, hw, ho.sub sub2, fun H4 x e k4 c4 dp wf => ?_⟩
      have k4' : Kp (cellS v) H3 H4 := k4.mono sub2
      have k14 := (k2.trans k3).trans k4'
      have e4 := k14 _ _ e1 fun z => absurd z nc
      have l2 := dpAll_len x1
      rw [List.length_map] at l2
      refine ⟨xs, e4, by rw [l2, l1, sizeLine_eq]; omega, kp_upd_new (k1.trans k14) nD, (cell_after w2 c3 k4 c4).upd nc, xs ++ [x], es ++ [e], upd_same, ⟨?_, ?_⟩, by rw [List.length_append, l1]; rfl⟩
      · rw [List.map_append]
        have ks : Kp (fun b => b = D) H4 (upd H4 D (.lst (xs ++ [x]))) := Kp.upd e4 trivial rfl
        exact dpAll_app (dpAll_kp ks _ _ (exs_noL es) (dpAll_kp k14 _ _ (exs_noL es) x1)) (.cons (dp_kp ks _ _ e.noL dp) .nil)
      · intro y hy
        rcases List.mem_append.mp hy with hy | hy
        · exact x2 y hy
        · rw [List.mem_singleton.mp hy]
          exact wf.mono (by omega)
    · rintro H1 ⟨k1, c1, xs, es, e1, h2, l1⟩
      exact q _ D xs es k1 c1 nD nc e1 h2 l1
end
/-! statements: what they may be -/
def Sm.ends : Sm → Bool
  | .give _ => true
  | .fail _ => true
  | _ => false
mutual
def Sm.Wf (nms rws : List Str) (hds : List (Str × Nat)) : Sm → Nat → Prop
  | .set x e, _ => x ∈ nms ∧ e.Wf nms rws 4
  | .put r e f, _ => r ∈ rws ∧ e.Wf nms rws 4 ∧ f.Wf nms rws 4
  | .tell e, _ => e.Wf nms rws 4
  | .ite e ys ns, k => 0 < k ∧ e.Wf nms rws 4 ∧ Sm.Wfs nms rws hds ys (k - 1) ∧ Sm.Wfs nms rws hds ns (k - 1)
  | .loop e b, k => 0 < k ∧ e.Wf nms rws 4 ∧ Sm.Wfs nms rws hds b (k - 1)
  | .call x h es, _ => x ∈ nms ∧ (h, es.length) ∈ hds ∧ ∀ e ∈ es, e.Wf nms rws 4
  | .fail n, _ => 0 ≤ n ∧ n < 100
  | .give e, _ => e.Wf nms rws 4
def Sm.Wfs (nms rws : List Str) (hds : List (Str × Nat)) : List Sm → Nat → Prop
  | [], _ => True
  | s :: r, k => s.Wf nms rws hds k ∧ (r ≠ [] → s.ends = false) ∧ Sm.Wfs nms rws hds r k
end
mutual
def Sm.size : Sm → Nat
  | .ite _ ys ns => 1 + Sm.sizes ys + Sm.sizes ns
  | .loop _ b => 1 + Sm.sizes b
  | _ => 1
def Sm.sizes : List Sm → Nat
  | [] => 0
  | s :: r => s.size + Sm.sizes r
end
section
variable {P : Program} {w : World} {K : PySem.W.Frag} {mg : Str → Option Value} {base : Heap}
/-- what the drawer of a statement has at hand -/
structure PSg (K : PySem.W.Frag) (H0 H : Hp) (v vi : V) (nms rws : List Str) (hds : List (Str × Nat)) (a b c p6 : Addr) (xs : List V) (es : List Ex) (p7 : Addr) (xl : List Str) : Prop where
  k : Kp (cellS v) H0 H
  cell : CellOk H v
  info : Info K H vi nms rws hds a b c
  l6 : H p6 = some (.lst xs)
  ex : ExL K H nms rws xs es
  l7 : H p7 = some (.lst (xl.map V.str))
theorem PSg.kp {H0 H H' : Hp} {v vi : V} {nms rws : List Str} {hds : List (Str × Nat)} {a b c p6 : Addr} {xs : List V} {es : List Ex} {p7 : Addr} {xl : List Str} (h : PSg K H0 H v vi nms rws hds a b c p6 xs es p7 xl)
    (k : Kp (cellS v) H H') (c' : CellOk H' v) (o : Off (cellS v) a b c) (n6 : ¬ cellS v p6) (n7 : ¬ cellS v p7) : PSg K H0 H' v vi nms rws hds a b c p6 xs es p7 xl :=
  ⟨h.k.trans k, c', h.info.kp k o, k _ _ h.l6 fun z => absurd z n6, ⟨dpAll_kp k _ _ (exs_noL es) h.ex.1, h.ex.2⟩, k _ _ h.l7 fun z => absurd z n7⟩
theorem PSg.same {H0 H : Hp} {v vi : V} {nms rws : List Str} {hds : List (Str × Nat)} {a b c p6 : Addr} {xs : List V} {es : List Ex} {p7 : Addr} {xl : List Str} (h : PSg K H0 H v vi nms rws hds a b c p6 xs es p7 xl)
    (o' : Off (cellS v) a b c) {p : Addr} {o : HO} (np : H p = none) : PSg K H0 (upd H p o) v vi nms rws hds a b c p6 xs es p7 xl := by
  have s := same_new (o := o) np
  exact ⟨h.k.trans (.of_same s), h.cell.same s, h.info.kp (Kp.of_same (S := cellS v) s) o', s _ _ h.l6, ⟨dpAll_same h.ex.1 s (exs_noL es), h.ex.2⟩, s _ _ h.l7⟩
def sp__law_plain (K : PySem.W.Frag) : Sp := fun vs H Q _ => ∃ (v vi : V) (nms rws : List Str) (hds : List (Str × Nat)) (a b c : Addr), vs = [v, vi] ∧ CellOk H v ∧ Info K H vi nms rws hds a b c ∧
  nms.length ≤ 16 ∧ rws.length ≤ 16 ∧ hds.length ≤ 16 ∧ (∀ q ∈ hds, q.2 ≤ 4) ∧ (∀ z ∈ nms, PyData.strOk z = true) ∧ Off (cellS v) a b c ∧ ∀ H' r (s : Sm), Kp (cellS v) H H' → CellOk H' v → Dp K H' r s.d → s.Wf nms rws hds 0 → s.size = 1 → Q r H'
def plainW : List Str := ["set", "tell", "put", "set", "call", "tell", "set", "put", "give", "fail"]
theorem eqv_strs_nil (xl : List Str) : PyData.eqv (.list (xl.map PyData.str)) (.list []) = xl.isEmpty := by
  cases xl with
  | nil => exact SeqAt.eqv_refl _ rfl
  | cons x r => rfl
theorem strs_shaped (xl : List Str) (hk : ∀ z ∈ xl, PyData.strOk z = true) : SeqAt.shaped (.list (xl.map PyData.str)) = true := by
  have h1 : ∀ l : List Str, (∀ z ∈ l, PyData.strOk z = true) → PyData.canLayAll0 (l.map PyData.str) = true := by
    intro l
    induction l with
    | nil => intro _; rfl
    | cons x r ih =>
      intro hl
      show PyData.canLayAll0 (PyData.str x :: r.map PyData.str) = true
      unfold PyData.canLayAll0
      rw [ih fun z hz => hl z (List.mem_cons_of_mem _ hz)]
      unfold PyData.canLay0
      rw [hl x (List.mem_cons_self ..)]
      rfl
  have h2 : ∀ l : List Str, PyData.depthAll (l.map PyData.str) ≤ 1 := by
    intro l
    induction l with
    | nil => decide
    | cons x r ih =>
      show PyData.depthAll (PyData.str x :: r.map PyData.str) ≤ 1
      unfold PyData.depthAll
      have : (PyData.str x).depth ≤ 1 := by unfold PyData.depth; decide
      omega
  unfold SeqAt.shaped
  rw [Bool.and_eq_true]
  refine ⟨?_, decide_eq_true ?_⟩
  · unfold PyData.canLay0
    exact h1 xl hk
  · have := h2 xl
    unfold PyData.depth
    omega
theorem ok__law_plain (T : Top K mg) : FnOk P w K mg base CX0 9 (He.ga K "_law_plain") T.fd__law_plain ["_law_cell", "_law_info"] (sp__law_plain K) := by
  have G__law_mixed := ok__law_mixed (P := P) (w := w) (base := base) T
  have G__law_within := ok__law_within (P := P) (w := w) (base := base) T
  have G__law_expressions := ok__law_expressions (P := P) (w := w) (base := base) T
  refine T.F__law_plain.ok sc__law_plain (fun vs H Q E h => ?_) (fun cdv A outer s H vs Q E hr h => ?_)
  · obtain ⟨v, vi, nms, rws, hds, a, b, c, rfl, _⟩ := h
    rfl
  · obtain ⟨v, vi, nms, rws, hds, a, b, c, rfl, hv, hI, hn, hw, hh, hq, hk, ho, q⟩ := h
    refine ⟨_, PSs.nox (pss_cons (ps_asg (pv 1) (pg_tup (n := 3) (by rfl) (pgs_cons (pg_name (i := 2) sc__law_plain.nd rfl (Or.inl rfl)) (pgs_cons (pg_name (i := 3) sc__law_plain.nd rfl (Or.inl rfl)) (pgs_cons (pg_name (i := 4) sc__law_plain.nd rfl (Or.inl rfl)) pgs_nil)))))
        (pss_cons (ps_set (i := 5) sc__law_plain.nd rfl (Or.inl rfl) (pe_ix ix_list (pe_lst (pa_cons pe_str (pa_cons pe_str (pa_cons pe_str (pa_cons pe_str (pa_cons pe_str (pa_cons pe_str (pa_cons pe_str (pa_cons pe_str (pa_cons pe_str (pa_cons pe_str pa_nil))))))))))) (pe_call G__law_mixed (hr.mono (by omega)) (by rfl) T.g__law_mixed T.F__law_mixed.kp T.b__law_mixed .nil pass0 (pa_cons (pv 0) (pa_cons pe_int (pa_cons pe_int pa_nil)))) (fun _ _ => rfl)))
        (pss_cons (ps_set (i := 6) sc__law_plain.nd rfl (Or.inl rfl) (pe_call G__law_expressions (hr.mono (by omega)) (by rfl) T.g__law_expressions T.F__law_expressions.kp T.b__law_expressions .nil pass0 (pa_cons (pe_call G__law_within (hr.mono (by omega)) (by rfl) T.g__law_within T.F__law_within.kp T.b__law_within .nil pass0 (pa_cons (pv 0) (pa_cons pe_int pa_nil))) (pa_cons pe_int (pa_cons (pv 1) pa_nil)))))
        (pss_cons (ps_set (i := 7) sc__law_plain.nd rfl (Or.inl rfl) (pe_slice sl_list (pe_slice sl_list (pv 2) (po_some (pe_call G__law_mixed (hr.mono (by omega)) (by rfl) T.g__law_mixed T.F__law_mixed.kp T.b__law_mixed .nil pass0 (pa_cons (pv 0) (pa_cons pe_int (pa_cons (pe_callB (call_max2 rfl) (by rfl) T.m_max (by decide +kernel) (pa_cons pe_int (pa_cons (pe_callB call_len_seq (by rfl) T.m_len (by decide +kernel) (pa_cons (pv 2) pa_nil)) pa_nil))) pa_nil))))) po_none) po_none (po_some pe_int)))
        (pss_cons (ps_if (PW.pt (pw_and (pt_cmpR op_eq (pv 5) pe_str (nomark _)) (pw_and1 (pt_cmpR op_gt (pe_callB call_len_seq (by rfl) T.m_len (by decide +kernel) (pa_cons (pv 3) pa_nil)) pe_int (nomark _))))) (pss_cons (ps_set (i := 8) sc__law_plain.nd rfl (Or.inl rfl) (pe_ix ix_list (pe_lst (pa_cons (pe_ix ix_list (pv 6) pe_int (fun _ _ => rfl)) (pa_cons (pe_tup (pa_cons pe_str (pa_cons (pe_call G__law_mixed (hr.mono (by omega)) (by rfl) T.g__law_mixed T.F__law_mixed.kp T.b__law_mixed .nil pass0 (pa_cons (pv 0) (pa_cons pe_int (pa_cons pe_int pa_nil)))) pa_nil))) pa_nil))) (pe_call G__law_mixed (hr.mono (by omega)) (by rfl) T.g__law_mixed T.F__law_mixed.kp T.b__law_mixed .nil pass0 (pa_cons (pv 0) (pa_cons pe_int (pa_cons pe_int pa_nil)))) (fun _ _ => rfl)))
        (pss_one (ps_ret (pe_tup (pa_cons pe_str (pa_cons (pe_ix ix_list (pv 3) (pe_call G__law_mixed (hr.mono (by omega)) (by rfl) T.g__law_mixed T.F__law_mixed.kp T.b__law_mixed .nil pass0 (pa_cons (pv 0) (pa_cons pe_int (pa_cons (pe_callB call_len_seq (by rfl) T.m_len (by decide +kernel) (pa_cons (pv 3) pa_nil)) pa_nil)))) (fun _ _ => rfl)) (pa_cons (pv 8) (pa_cons (pe_ix ix_list (pv 6) pe_int (fun _ _ => rfl)) pa_nil)))))))) pss_nil)
        (pss_cons (ps_if (PW.pt (pw_and (pt_cmpR op_eq (pv 5) pe_str (nomark _)) (pw_and (pt_cmpR op_gt (pe_callB call_len_seq (by rfl) T.m_len (by decide +kernel) (pa_cons (pv 4) pa_nil)) pe_int (nomark _)) (pw_and1 (pt_cmpR (op_neD hr.units) (pv 7) (pe_lst pa_nil) (nomark _)))))) (pss_cons (ps_set (i := 9) sc__law_plain.nd rfl (Or.inl rfl) (pe_ix ix_list (pv 4) (pe_call G__law_mixed (hr.mono (by omega)) (by rfl) T.g__law_mixed T.F__law_mixed.kp T.b__law_mixed .nil pass0 (pa_cons (pv 0) (pa_cons pe_int (pa_cons (pe_callB call_len_seq (by rfl) T.m_len (by decide +kernel) (pa_cons (pv 4) pa_nil)) pa_nil)))) (fun _ _ => rfl)))
        (pss_one (ps_ret (pe_tup (pa_cons pe_str (pa_cons (pe_ix ix_list (pv 7) pe_int (fun _ _ => rfl)) (pa_cons (pe_ix ix_tup (pv 9) pe_int (fun _ _ => rfl)) (pa_cons (pe_callTy call_tuple_of (by rfl) T.m_tuple (by decide +kernel) (pa_cons (pe_slice sl_list (pv 6) po_none (po_some (pe_ix ix_tup (pv 9) pe_int (fun _ _ => rfl)))) pa_nil)) pa_nil)))))))) pss_nil)
        (pss_cons (ps_if (PW.pt (pw_and (pt_cmpR op_eq (pv 5) pe_str (nomark _)) (pw_and1 (pt_cmpR op_eq (pe_call G__law_mixed (hr.mono (by omega)) (by rfl) T.g__law_mixed T.F__law_mixed.kp T.b__law_mixed .nil pass0 (pa_cons (pv 0) (pa_cons pe_int (pa_cons pe_int pa_nil)))) pe_int (nomark _))))) (pss_one (ps_ret (pe_tup (pa_cons pe_str (pa_cons (pe_call G__law_mixed (hr.mono (by omega)) (by rfl) T.g__law_mixed T.F__law_mixed.kp T.b__law_mixed .nil pass0 (pa_cons (pv 0) (pa_cons pe_int (pa_cons pe_int pa_nil)))) pa_nil))))) pss_nil)
        (pss_cons (ps_if (PW.pt (pw_and (pt_cmpR op_eq (pv 5) pe_str (nomark _)) (pw_and1 (pt_cmpR op_eq (pe_call G__law_mixed (hr.mono (by omega)) (by rfl) T.g__law_mixed T.F__law_mixed.kp T.b__law_mixed .nil pass0 (pa_cons (pv 0) (pa_cons pe_int (pa_cons pe_int pa_nil)))) pe_int (nomark _))))) (pss_one (ps_ret (pe_tup (pa_cons pe_str (pa_cons (pe_ix ix_list (pv 6) pe_int (fun _ _ => rfl)) pa_nil))))) pss_nil)
        (pss_cons (ps_if (PW.pt (pw_and (pt_cmpR op_eq (pv 5) pe_str (nomark _)) (pw_and1 (pt_cmpR (op_neD hr.units) (pv 7) (pe_lst pa_nil) (nomark _))))) (pss_one (ps_ret (pe_tup (pa_cons pe_str (pa_cons (pe_ix ix_list (pv 7) pe_int (fun _ _ => rfl)) (pa_cons (pe_ix ix_list (pv 6) pe_int (fun _ _ => rfl)) pa_nil)))))) pss_nil)
        (pss_one (ps_ret (pe_tup (pa_cons pe_str (pa_cons (pe_ix ix_list (pv 6) pe_int (fun _ _ => rfl)) pa_nil)))))))))))))), ?_⟩
    obtain ⟨pi, rfl, hT⟩ := hI.tup
    refine ⟨_, rfl, pi, _, rfl, hT, rfl, _, _, rfl, _, _, rfl, _, _, rfl, rfl, ?_⟩
    refine ⟨(by show 10 ≤ sizeLine; rw [sizeLine_eq]; decide), fun L nL => ?_⟩
    have s1 := same_new (o := .lst (plainW.map V.str)) nL
    have c1 : CellOk _ v := hv.same s1
    have nc : ¬ cellS v L := hv.fresh nL
    refine ⟨_, rfl, v, 1, 10, rfl, c1, by decide, by decide, by decide, by decide, fun H2 j k2 c2 j0 j1 => ?_⟩
    obtain ⟨wd, hwd, ew⟩ := in_strs_at (zs := plainW) j0 j1
    have k02 : Kp (cellS v) H H2 := (Kp.of_same s1).trans k2
    refine ⟨L, _, j, _, rfl, rfl, .of (k2 _ _ upd_same fun z => absurd z nc), ew, ?_⟩
    refine ⟨_, rfl, v, 2, rfl, c2, by decide, by decide, fun H3 v3 k3 c3 c3' w3 => ?_⟩
    have sub3 := cellS_sub w3
    have k03 := k02.trans k3
    refine ⟨_, rfl, v3, .ref pi, 4, nms, rws, hds, a, b, c, rfl, c3', by decide, by decide, hI.kp k03 ho, hn, hw, ho.sub sub3, fun H4 p6 xs es k4 c4 np6 nc6 l6 ex len => ?_⟩
    have k04 := k03.trans (k4.mono sub3)
    have c4' := cell_after w3 c3 k4 c4
    have nc6' : ¬ cellS v p6 := c3.fresh np6
    have I4 := hI.kp k04 ho
    have mx : ∀ n : Int, 0 ≤ n → n ≤ 16 → (if n > 1 then n else 1) > 0 ∧ (if n > 1 then n else 1) < 2 ^ 64 := by
      intro n h0 h1
      split <;> omega
    have mx2 := mx (nms.map V.str).length (by omega) (by rw [List.length_map]; omega)
    refine ⟨_, rfl, _, rfl, _, rfl, a, _, rfl, .inl (.of I4.a), _, _, rfl, v, 3, _, rfl, c4', by decide, by decide, mx2.1, mx2.2, fun H5 i k5 c5 i0 _ => ?_⟩
    obtain ⟨i, rfl⟩ := Int.eq_ofNat_of_zero_le i0
    have I5 := I4.kp k5 ho
    refine ⟨_, rfl, a, _, rfl, .of I5.a, fun p8 n8 => ?_⟩
    have s6 := same_new (o := .lst (cutV (nms.map V.str) (some (i : Int)) none)) n8
    refine ⟨_, rfl, p8, _, rfl, .of upd_same, fun p7 n7 => ?_⟩
    have s7 := same_new (o := .lst (cutV (cutV (nms.map V.str) (some (i : Int)) none) none (some 1))) n7
    have s57 := s6.trans s7
    have ecut : cutV (cutV (nms.map V.str) (some (i : Int)) none) none (some 1) = ((nms.drop i).take 1).map V.str := by
      rw [cutV_from, show (1 : Int) = ((1 : Nat) : Int) from rfl, cutV_to, List.map_take, List.map_drop]
    rw [ecut] at s7 s57 ⊢
    have hxl : ∀ z ∈ (nms.drop i).take 1, z ∈ nms := fun z hz => List.mem_of_mem_drop (List.mem_of_mem_take hz)
    generalize (nms.drop i).take 1 = xl at hxl s7 s57 ⊢
    have l6' : H5 p6 = some (.lst xs) := k5 _ _ l6 fun z => absurd z nc6'
    have nc7 : ¬ cellS v p7 := (c5.same s6).fresh n7
    have st0 : PSg K H _ v (.ref pi) nms rws hds a b c p6 xs es p7 xl := ⟨(k04.trans k5).trans (.of_same s57), c5.same s57, I5.kp (Kp.of_same (S := cellS v) s57) ho, s57 _ _ l6', ⟨dpAll_same (dpAll_kp k5 _ _ (exs_noL es) ex.1) s57 (exs_noL es), ex.2⟩, upd_same⟩
    have hk7 : ∀ z ∈ xl, PyData.strOk z = true := fun z hz => hk z (hxl z hz)
    have mk : ∀ (H' : Hp) (ds : List PyData) (ys : List V) (s : Sm), Kp (cellS v) H H' → CellOk H' v → DpAll K H' ys ds → s.d = .tuple ds → nLs ds = true → ds.length ≤ 4 → s.Wf nms rws hds 0 → s.size = 1 → ys.length ≤ sizeLine ∧ ∀ p, H' p = none → Q (.ref p) (upd H' p (.tup ys)) := by
      intro H' ds ys s k' c' h' he hno hl wf sz
      refine ⟨?_, fun p np => q _ _ s (k'.trans (.of_same (same_new np))) (c'.same (same_new np)) ?_ wf sz⟩
      · rw [dpAll_len h', sizeLine_eq]
        omega
      · rw [he]
        exact .tup (.of upd_same) (dpAll_same h' (same_new np) hno)
    obtain ⟨e0, e1, e2, e3, rfl⟩ : ∃ e0 e1 e2 e3, es = [e0, e1, e2, e3] := by
      match es, len with
      | [e0, e1, e2, e3], _ => exact ⟨_, _, _, _, rfl⟩
    obtain ⟨x0, x1, x2, x3, rfl⟩ : ∃ x0 x1 x2 x3, xs = [x0, x1, x2, x3] := by
      obtain ⟨x0, r0, rfl, _, h1⟩ := dpAll_cons ex.1
      obtain ⟨x1, r1, rfl, _, h2⟩ := dpAll_cons h1
      obtain ⟨x2, r2, rfl, _, h3⟩ := dpAll_cons h2
      obtain ⟨x3, r3, rfl, _, h4⟩ := dpAll_cons h3
      rw [dpAll_nil h4]
      exact ⟨_, _, _, _, rfl⟩
    have wf0 : e0.Wf nms rws 4 := ex.2 e0 (by simp)
    have wf1 : e1.Wf nms rws 4 := ex.2 e1 (by simp)
    have ex2 := ex.2
    clear ex l6 l6' I4 I5 hI hT
    generalize upd (upd H5 p8 _) p7 _ = H7 at st0
    -- what comes of an expression at its place
    have dpx : ∀ {H' : Hp}, PSg K H H' v (.ref pi) nms rws hds a b c p6 [x0, x1, x2, x3] [e0, e1, e2, e3] p7 xl → Dp K H' x0 e0.d ∧ Dp K H' x1 e1.d := by
      intro H' st
      obtain ⟨_, _, z, h0, h1⟩ := dpAll_cons st.ex.1
      obtain ⟨_, _, z1, h2, h3⟩ := dpAll_cons h1
      injection z with z z'
      subst z z'
      injection z1 with z1 z1'
      subst z1
      exact ⟨h0, h2⟩
    have slots : List (Option V) := [some v, some (.ref pi), some (.ref a), some (.ref b), some (.ref c), some (.str wd), some (.ref p6), some (.ref p7), none, none]
    dsimp only [gName]
    -- put
    refine ifs_by (fun σ' H' => H' = H7 ∧ σ' = [some v, some (.ref pi), some (.ref a), some (.ref b), some (.ref c), some (.str wd), some (.ref p6), some (.ref p7), none, none]) ?_ ?_
    rotate_left
    · intro N hN
      refine ⟨_, rfl, rfl, _, rfl, ite2 (fun _ => ?_) (fun _ => hN _ _ ⟨rfl, rfl⟩)⟩
      refine ⟨_, rfl, b, _, rfl, .inl (.of st0.info.b), _, _, rfl, rfl, _, rfl, ite2 (fun e2 => ?_) (fun _ => hN _ _ ⟨rfl, rfl⟩)⟩
      have r0 : 0 < rws.length := by
        have := of_decide_eq_true e2
        rw [List.length_map] at this
        omega
      refine ⟨_, rfl, p6, _, 0, _, rfl, rfl, .of st0.l6, atI_nat (j := 0) rfl, ?_⟩
      refine ⟨_, rfl, v, 4, 4, rfl, st0.cell, by decide, by decide, by decide, by decide, fun H8 r k8 c8 r0' r1' => ?_⟩
      have st8 := st0.kp k8 c8 ho nc6' nc7
      refine ⟨(by show 2 ≤ sizeLine; rw [sizeLine_eq]; decide), fun pt npt => ?_⟩
      have st9 := st8.same ho (o := .tup [.str "number", .int r]) npt
      refine ⟨(by show 2 ≤ sizeLine; rw [sizeLine_eq]; decide), fun pl npl => ?_⟩
      have st10 := st9.same ho (o := .lst [x0, .ref pt]) npl
      have ncl : ¬ cellS v pl := st9.cell.fresh npl
      refine ⟨_, rfl, v, 5, 2, rfl, st10.cell, by decide, by decide, by decide, by decide, fun H11 j k11 c11 j0 j1 => ?_⟩
      have st11 := st10.kp k11 c11 ho nc6' nc7
      have dnum : Dp K H11 (.ref pt) (Ex.num r).d := .tup (sqT_kp k11 (sqT_kp (Kp.of_same (S := cellS v) (same_new npl)) (.of upd_same))) (.cons (.str _) (.cons (.int _) .nil))
      obtain ⟨y, hy, ey⟩ := at_list (ns := [x0, V.ref pt]) j0 j1
      obtain ⟨ye, dy, wy⟩ : ∃ ye : Ex, Dp K H11 y ye.d ∧ ye.Wf nms rws 4 := by
        simp only [List.mem_cons, List.not_mem_nil, or_false] at hy
        rcases hy with rfl | rfl
        · exact ⟨e0, (dpx st11).1, wf0⟩
        · exact ⟨.num r, dnum, ⟨by omega, by omega⟩⟩
      refine ⟨pl, _, j, _, rfl, rfl, .of (k11 _ _ upd_same fun z => absurd z ncl), ey, ?_⟩
      refine ⟨_, rfl, _, rfl, _, rfl, b, _, rfl, .inl (.of st11.info.b), v, 6, (rws.map V.str).length, rfl, c11, by decide, by decide, by rw [List.length_map]; omega, by rw [List.length_map]; omega, fun H12 i k12 c12 i0 i1 => ?_⟩
      rw [List.length_map] at i1
      have st12 := st11.kp k12 c12 ho nc6' nc7
      obtain ⟨z, hz, ez⟩ := in_strs_at i0 i1
      refine ⟨b, _, i, _, rfl, rfl, .of st12.info.b, ez, _, rfl, _, rfl, p6, _, 1, _, rfl, rfl, .of st12.l6, atI_nat (j := 1) rfl, ?_⟩
      exact mk H12 [.str "put", .str z, ye.d, e1.d] _ (.put z ye e1) st12.k st12.cell (.cons (.str _) (.cons (.str _) (.cons (dp_kp k12 _ _ ye.noL dy) (.cons (dpx st12).2 .nil)))) (by simp [Sm.d]) (by simp [nLs, nLd, ye.noL, e1.noL]) (by simp) (by simp [Sm.Wf]; exact ⟨hz, wy, wf1⟩) (by simp [Sm.size])
    rintro σ' H8 ⟨rfl, rfl⟩
    -- call
    refine ifs_by (fun σ' H' => Same H8 H' ∧ σ' = [some v, some (.ref pi), some (.ref a), some (.ref b), some (.ref c), some (.str wd), some (.ref p6), some (.ref p7), none, none]) ?_ ?_
    rotate_left
    · intro N hN
      obtain ⟨hs, hc, hdp⟩ := st0.info.c
      refine ⟨_, rfl, rfl, _, rfl, ite2 (fun _ => ?_) (fun _ => hN _ _ ⟨Same.refl _, rfl⟩)⟩
      refine ⟨_, rfl, c, _, rfl, .inl (.of hc), _, _, rfl, rfl, _, rfl, ite2 (fun g2 => ?_) (fun _ => hN _ _ ⟨Same.refl _, rfl⟩)⟩
      have l0 : hs.length = hds.length := by rw [dpAll_len hdp, List.length_map]
      have h0 : 0 < hds.length := by
        have := of_decide_eq_true g2
        omega
      refine ⟨_, rfl, Nat.zero_le _, fun pn npn => ?_⟩
      have sn := same_new (o := .lst []) npn
      have stn := st0.same ho (o := .lst []) npn
      refine ⟨.list (xl.map PyData.str), .list [], .lst (.of stn.l7) (strs_dpAll xl), .lst (.of upd_same) .nil, strs_shaped xl hk7, strs_shaped [] (fun z hz => nomatch hz), _, rfl, ?_⟩
      rw [eqv_strs_nil]
      cases xl with
      | nil => exact hN _ _ ⟨sn, rfl⟩
      | cons x xr =>
        obtain ⟨hs', hc', hdp'⟩ := stn.info.c
        have eh : hs' = hs := by
          have := sn _ _ hc
          rw [hc'] at this
          injection this with this
          injection this
        subst eh
        refine ⟨_, rfl, _, rfl, _, rfl, c, _, rfl, .inl (.of hc'), v, 7, hs'.length, rfl, stn.cell, by decide, by decide, by omega, by omega, fun H9 j k9 c9 j0 j1 => ?_⟩
        have st9 := stn.kp k9 c9 ho nc6' nc7
        have hc9 : H9 c = some (.lst hs') := k9 _ _ hc' fun z => absurd z ho.2.2
        obtain ⟨j, rfl⟩ := Int.eq_ofNat_of_zero_le j0
        have hj : j < hds.length := by omega
        obtain ⟨hv', ev', dv'⟩ := dpAll_get (i := j) (dpAll_kp k9 _ _ (heads_noL hds) hdp') (by rw [List.getElem?_map, List.getElem?_eq_getElem hj]; rfl)
        obtain ⟨ph, yh, rfl, sh, dh⟩ := dp_tup dv'
        obtain ⟨y1, yr, rfl, d1, dh⟩ := dpAll_cons dh
        obtain ⟨y2, yr, rfl, d2, dh⟩ := dpAll_cons dh
        rw [dpAll_nil dh] at sh
        rw [dp_str d1, dp_int d2] at sh
        have hm : hds[j] ∈ hds := List.getElem_mem _
        have hq2 := hq _ hm
        refine ⟨c, _, j, _, rfl, rfl, .of hc9, atI_nat ev', ?_⟩
        refine ⟨_, rfl, p7, _, 0, _, rfl, rfl, .of st9.l7, atI_nat (j := 0) rfl, ?_⟩
        refine ⟨_, rfl, ph, _, 0, _, rfl, rfl, sh, atI_nat (j := 0) rfl, ?_⟩
        refine ⟨_, rfl, _, rfl, ph, _, 1, _, rfl, rfl, sh, atI_nat (j := 1) rfl, _, rfl, p6, _, rfl, .of st9.l6, fun pc npc => ?_⟩
        have st10 := st9.same ho (o := .lst (cutV [x0, x1, x2, x3] none (some (hds[j].2 : Int)))) npc
        refine ⟨pc, _, rfl, .inl ⟨.of upd_same, fun pd npd => ?_⟩⟩
        have st11 := st10.same ho (o := .tup (cutV [x0, x1, x2, x3] none (some (hds[j].2 : Int)))) npd
        rw [cutV_to] at st11
        rw [cutV_to]
        have dargs : Dp K _ (.ref pd) (.tuple (([e0, e1, e2, e3].take hds[j].2).map Ex.d)) := .tup (.of (upd_same (H := upd H9 pc _) (a := pd) (o := .tup ([x0, x1, x2, x3].take hds[j].2)))) (by rw [List.map_take]; exact dpAll_take _ st11.ex.1)
        refine mk _ [.str "call", .str x, .str hds[j].1, .tuple (([e0, e1, e2, e3].take hds[j].2).map Ex.d)] _ (.call x hds[j].1 ([e0, e1, e2, e3].take hds[j].2)) st11.k st11.cell (.cons (.str _) (.cons (.str _) (.cons (.str _) (.cons dargs .nil)))) (by simp only [Sm.d]) (by simp only [nLs, nLd, exs_noL]; rfl) (by show 4 ≤ 4; decide) ?_ (by simp [Sm.size])
        unfold Sm.Wf
        refine ⟨hxl _ (by simp), ?_, fun e he => ex2 e (List.mem_of_mem_take he)⟩
        rw [List.length_take, show ([e0, e1, e2, e3] : List Ex).length = 4 from rfl, Nat.min_eq_left hq2]
        exact hm
    rintro σ' H9 ⟨s9, rfl⟩
    have st9 : PSg K H H9 v (.ref pi) nms rws hds a b c p6 [x0, x1, x2, x3] [e0, e1, e2, e3] p7 xl :=
      ⟨st0.k.trans (.of_same s9), st0.cell.same s9, st0.info.kp (Kp.of_same (S := cellS v) s9) ho, s9 _ _ st0.l6, ⟨dpAll_same st0.ex.1 s9 (exs_noL _), st0.ex.2⟩, s9 _ _ st0.l7⟩
    -- fail
    refine ifs_by (fun σ' H' => PSg K H H' v (.ref pi) nms rws hds a b c p6 [x0, x1, x2, x3] [e0, e1, e2, e3] p7 xl ∧ σ' = [some v, some (.ref pi), some (.ref a), some (.ref b), some (.ref c), some (.str wd), some (.ref p6), some (.ref p7), none, none]) ?_ ?_
    rotate_left
    · intro N hN
      refine ⟨_, rfl, rfl, _, rfl, ite2 (fun _ => ?_) (fun _ => hN _ _ ⟨st9, rfl⟩)⟩
      refine ⟨_, rfl, v, 8, 3, rfl, st9.cell, by decide, by decide, by decide, by decide, fun H10 r k10 c10 _ _ => ?_⟩
      have st10 := st9.kp k10 c10 ho nc6' nc7
      refine ⟨rfl, _, rfl, ite2 (fun _ => ?_) (fun _ => hN _ _ ⟨st10, rfl⟩)⟩
      refine ⟨_, rfl, v, 9, 100, rfl, c10, by decide, by decide, by decide, by decide, fun H11 n k11 c11 n0 n1 => ?_⟩
      have st11 := st10.kp k11 c11 ho nc6' nc7
      exact mk H11 [.str "fail", .int n] _ (.fail n) st11.k st11.cell (.cons (.str _) (.cons (.int _) .nil)) (by simp only [Sm.d]) rfl (by show 2 ≤ 4; decide) (by unfold Sm.Wf; exact ⟨n0, n1⟩) (by simp [Sm.size])
    rintro σ' H10 ⟨st10, rfl⟩
    -- give
    refine ifs_by (fun σ' H' => PSg K H H' v (.ref pi) nms rws hds a b c p6 [x0, x1, x2, x3] [e0, e1, e2, e3] p7 xl ∧ σ' = [some v, some (.ref pi), some (.ref a), some (.ref b), some (.ref c), some (.str wd), some (.ref p6), some (.ref p7), none, none]) ?_ ?_
    rotate_left
    · intro N hN
      refine ⟨_, rfl, rfl, _, rfl, ite2 (fun _ => ?_) (fun _ => hN _ _ ⟨st10, rfl⟩)⟩
      refine ⟨_, rfl, v, 8, 2, rfl, st10.cell, by decide, by decide, by decide, by decide, fun H11 r k11 c11 _ _ => ?_⟩
      have st11 := st10.kp k11 c11 ho nc6' nc7
      refine ⟨rfl, _, rfl, ite2 (fun _ => ?_) (fun _ => hN _ _ ⟨st11, rfl⟩)⟩
      refine ⟨_, rfl, p6, _, 0, _, rfl, rfl, .of st11.l6, atI_nat (j := 0) rfl, ?_⟩
      exact mk H11 [.str "give", e0.d] _ (.give e0) st11.k st11.cell (.cons (.str _) (.cons (dpx st11).1 .nil)) (by simp only [Sm.d]) (by simp [nLs, nLd, e0.noL]) (by show 2 ≤ 4; decide) (by unfold Sm.Wf; exact wf0) (by simp [Sm.size])
    rintro σ' H11 ⟨st11, rfl⟩
    -- set
    refine ifs_by (fun σ' H' => PSg K H H' v (.ref pi) nms rws hds a b c p6 [x0, x1, x2, x3] [e0, e1, e2, e3] p7 xl ∧ σ' = [some v, some (.ref pi), some (.ref a), some (.ref b), some (.ref c), some (.str wd), some (.ref p6), some (.ref p7), none, none]) ?_ ?_
    rotate_left
    · intro N hN
      refine ⟨_, rfl, rfl, _, rfl, ite2 (fun _ => ?_) (fun _ => hN _ _ ⟨st11, rfl⟩)⟩
      refine ⟨_, rfl, Nat.zero_le _, fun pn npn => ?_⟩
      have stn := st11.same ho (o := .lst []) npn
      refine ⟨.list (xl.map PyData.str), .list [], .lst (.of stn.l7) (strs_dpAll xl), .lst (.of upd_same) .nil, strs_shaped xl hk7, strs_shaped [] (fun z hz => nomatch hz), _, rfl, ?_⟩
      rw [eqv_strs_nil]
      cases xl with
      | nil => exact hN _ _ ⟨stn, rfl⟩
      | cons x xr =>
        refine ⟨_, rfl, p7, _, 0, _, rfl, rfl, .of stn.l7, atI_nat (j := 0) rfl, _, rfl, p6, _, 0, _, rfl, rfl, .of stn.l6, atI_nat (j := 0) rfl, ?_⟩
        exact mk _ [.str "set", .str x, e0.d] _ (.set x e0) stn.k stn.cell (.cons (.str _) (.cons (.str _) (.cons (dpx stn).1 .nil))) (by simp only [Sm.d]) (by simp [nLs, nLd, e0.noL]) (by show 3 ≤ 4; decide) (by unfold Sm.Wf; exact ⟨hxl _ (by simp), wf0⟩) (by simp [Sm.size])
    rintro σ' H12 ⟨st12, rfl⟩
    refine ⟨_, rfl, p6, _, 0, _, rfl, rfl, .of st12.l6, atI_nat (j := 0) rfl, ?_⟩
    exact mk H12 [.str "tell", e0.d] _ (.tell e0) st12.k st12.cell (.cons (.str _) (.cons (dpx st12).1 .nil)) (by simp only [Sm.d]) (by simp [nLs, nLd, e0.noL]) (by show 2 ≤ 4; decide) (by unfold Sm.Wf; exact wf0) (by simp [Sm.size])
end
section
variable {P : Program} {w : World} {K : PySem.W.Frag} {mg : Str → Option Value} {base : Heap}
/-- the cells that are left, in a list -/
structure CellsOk (H : Hp) (pc : Addr) (cs : List V) : Prop where
  at_ : H pc = some (.lst cs)
  ok : ∀ x ∈ cs, CellOk H x
  off : ∀ x ∈ cs, x ≠ .ref pc
def cellsS (pc : Addr) (cs : List V) : Addr → Prop := fun b => b = pc ∨ ∃ x ∈ cs, cellS x b
theorem CellOk.kp {H H' : Hp} {S : Addr → Prop} {x : V} (c : CellOk H x) (k : Kp S H H') (h : ∀ b, x = .ref b → S b → CellOk H' x) : CellOk H' x := by
  rcases c with ⟨n, rfl⟩ | ⟨a, l, t, rfl, ha, h1, h2⟩
  · exact .inl ⟨n, rfl⟩
  · by_cases z : S a
    · exact h a rfl z
    · exact .inr ⟨a, l, t, rfl, k _ _ ha fun y => absurd y z, h1, h2⟩
theorem CellsOk.cell {H H' : Hp} {pc : Addr} {cs : List V} {v : V} (h : CellsOk H pc cs) (k : Kp (cellS v) H H') (c : CellOk H' v) (n : v ≠ .ref pc) : CellsOk H' pc cs :=
  ⟨k _ _ h.at_ fun z => absurd z n, fun x hx => (h.ok x hx).kp k fun b e z => by rw [e, ← show v = .ref b from z]; exact c, h.off⟩
theorem CellsOk.same {H H' : Hp} {pc : Addr} {cs : List V} (h : CellsOk H pc cs) (k : Same H H') : CellsOk H' pc cs :=
  ⟨k _ _ h.at_, fun x hx => (h.ok x hx).same k, h.off⟩
theorem cellsS_drop {pc : Addr} {cs : List V} (n : Nat) : ∀ b, cellsS pc (cs.drop n) b → cellsS pc cs b := by
  rintro b (e | ⟨x, hx, e⟩)
  · exact .inl e
  · exact .inr ⟨x, List.mem_of_mem_drop hx, e⟩
theorem CellsOk.pop {H : Hp} {pc : Addr} {y : V} {cs : List V} (h : CellsOk H pc (y :: cs)) : CellsOk (upd H pc (.lst cs)) pc cs ∧ CellOk (upd H pc (.lst cs)) y :=
  ⟨⟨upd_same, fun x hx => (h.ok x (List.mem_cons_of_mem _ hx)).upd (h.off x (List.mem_cons_of_mem _ hx)), fun x hx => h.off x (List.mem_cons_of_mem _ hx)⟩, (h.ok y (List.mem_cons_self ..)).upd (h.off y (List.mem_cons_self ..))⟩
theorem nLs_app : ∀ {a b : List PyData}, nLs a = true → nLs b = true → nLs (a ++ b) = true
  | [], _, _, h => h
  | x :: r, b, h, h' => by
    simp only [nLs, Bool.and_eq_true] at h
    show nLs (x :: (r ++ b)) = true
    simp only [nLs, Bool.and_eq_true]
    exact ⟨h.1, nLs_app h.2 h'⟩
theorem cat_use {H : Hp} {va vb : V} {ds es : List PyData} {Q : VK} (ha : Dp K H va (.tuple ds)) (hb : Dp K H vb (.tuple es)) (hn : nLs ds = true) (hm : nLs es = true) (hl : ds.length + es.length ≤ sizeLine)
    (q : ∀ H' r, Same H H' → Dp K H' r (.tuple (ds ++ es)) → Q r H') : rCatA K va vb H Q := by
  obtain ⟨a, xs, rfl, ha, da⟩ := dp_tup ha
  obtain ⟨b, ys, rfl, hb, db⟩ := dp_tup hb
  refine ⟨a, b, xs, ys, rfl, rfl, ha, hb, by rw [dpAll_len da, dpAll_len db]; exact hl, fun e => ?_, fun _ e => ?_, fun _ _ p np => ?_⟩
  · subst e
    cases da
    exact q _ _ (Same.refl _) (.tup hb db)
  · subst e
    cases db
    rw [List.append_nil] at q
    exact q _ _ (Same.refl _) (.tup ha da)
  · exact q _ _ (same_new np) (.tup (.of upd_same) (dpAll_same (dpAll_app da db) (same_new np) (nLs_app hn hm)))
theorem dp_new {H : Hp} {p : Addr} {xs : List V} {ds : List PyData} (np : H p = none) (h : DpAll K H xs ds) (n : nLs ds = true) : Dp K (upd H p (.tup xs)) (.ref p) (.tuple ds) := .tup (.of upd_same) (dpAll_same h (same_new np) n)
theorem Sm.ds_append (a b : List Sm) : Sm.ds (a ++ b) = Sm.ds a ++ Sm.ds b := by rw [Sm.ds_eq, Sm.ds_eq, Sm.ds_eq, List.map_append]
theorem Sm.ds_len (a : List Sm) : (Sm.ds a).length = a.length := by rw [Sm.ds_eq, List.length_map]
theorem Sm.size_pos (s : Sm) : 1 ≤ s.size := by cases s <;> simp only [Sm.size] <;> omega
theorem Sm.sizes_len : ∀ a : List Sm, a.length ≤ Sm.sizes a
  | [] => Nat.zero_le _
  | s :: r => by
    simp only [Sm.sizes, List.length_cons]
    have := Sm.sizes_len r
    have := s.size_pos
    omega
theorem Sm.sizes_append : ∀ a b : List Sm, Sm.sizes (a ++ b) = Sm.sizes a + Sm.sizes b
  | [], b => by simp [Sm.sizes]
  | s :: r, b => by
    show Sm.sizes (s :: (r ++ b)) = _
    simp only [Sm.sizes, Sm.sizes_append r b]
    omega
def sp_gbody (K : PySem.W.Frag) (D : Nat) : Sp := fun vs H Q _ => ∃ (pc : Addr) (cs : List V) (dp : Int) (vi : V) (nms rws : List Str) (hds : List (Str × Nat)) (a b c : Addr), vs = [.ref pc, .int dp, vi] ∧ CellsOk H pc cs ∧ 0 ≤ dp ∧ dp ≤ 4 ∧ 4 - dp ≤ D ∧
  cs.length ≤ 1000 ∧ Info K H vi nms rws hds a b c ∧ nms.length ≤ 16 ∧ rws.length ≤ 16 ∧ hds.length ≤ 16 ∧ (∀ q ∈ hds, q.2 ≤ 4) ∧ (∀ z ∈ nms, PyData.strOk z = true) ∧ Off (cellsS pc cs) a b c ∧
  ∀ H' r n (bd : List Sm), Kp (cellsS pc cs) H H' → CellsOk H' pc (cs.drop n) → n ≤ cs.length → Dp K H' r (.tuple (Sm.ds bd)) → Sm.Wfs nms rws hds bd (4 - dp).toNat → Sm.sizes bd ≤ n → Q r H'
def sp_nest (K : PySem.W.Frag) (D : Nat) : Sp := fun vs H Q _ => ∃ (v : V) (way : Int) (pc : Addr) (cs : List V) (dp : Int) (vi : V) (nms rws : List Str) (hds : List (Str × Nat)) (a b c : Addr), vs = [v, .int way, .ref pc, .int dp, vi] ∧ CellOk H v ∧ v ≠ .ref pc ∧ CellsOk H pc cs ∧ 0 ≤ dp ∧ dp ≤ 3 ∧ 4 - dp ≤ D ∧
  cs.length ≤ 1000 ∧ Info K H vi nms rws hds a b c ∧ nms.length ≤ 16 ∧ rws.length ≤ 16 ∧ hds.length ≤ 16 ∧ (∀ q ∈ hds, q.2 ≤ 4) ∧ (∀ z ∈ nms, PyData.strOk z = true) ∧ Off (cellS v) a b c ∧ Off (cellsS pc cs) a b c ∧
  ∀ H' r n (s : Sm), Kp (fun x => cellS v x ∨ cellsS pc cs x) H H' → CellsOk H' pc (cs.drop n) → n ≤ cs.length → Dp K H' r s.d → s.Wf nms rws hds (4 - dp).toNat → s.ends = false → s.size ≤ n + 1 → Q r H'
theorem ok_nest0 (T : Top K mg) : FnOk P w K mg base CX0 11 (He.ga K "_law_nest") T.fd__law_nest ["_law_cell", "_law_way", "_law_cells", "_law_deep", "_law_info"] (sp_nest K 0) := by
  refine T.F__law_nest.ok sc__law_nest (fun vs H Q E h => ?_) (fun cdv A outer s H vs Q E hr h => ?_)
  · obtain ⟨v, way, pc, cs, dp, vi, nms, rws, hds, a, b, c, rfl, _⟩ := h
    rfl
  · obtain ⟨v, way, pc, cs, dp, vi, nms, rws, hds, a, b, c, rfl, _, _, _, h1, h2, h3, _⟩ := h
    exfalso
    have : (4 : Int) - dp ≤ 0 := h3
    omega
theorem ok_nest_of (T : Top K mg) (D : Nat) (G__law_body : FnOk P w K mg base CX0 (2 * D + 12) (He.ga K "_law_body") T.fd__law_body ["_law_cells", "_law_deep", "_law_info"] (sp_gbody K D)) :
    FnOk P w K mg base CX0 (2 * D + 13) (He.ga K "_law_nest") T.fd__law_nest ["_law_cell", "_law_way", "_law_cells", "_law_deep", "_law_info"] (sp_nest K (D + 1)) := by
  have G__law_mixed := ok__law_mixed (P := P) (w := w) (base := base) T
  have G__law_within := ok__law_within (P := P) (w := w) (base := base) T
  have G__law_expressions := ok__law_expressions (P := P) (w := w) (base := base) T
  refine T.F__law_nest.ok sc__law_nest (fun vs H Q E h => ?_) (fun cdv A outer s H vs Q E hr h => ?_)
  · obtain ⟨v, way, pc, cs, dp, vi, nms, rws, hds, a, b, c, rfl, _⟩ := h
    rfl
  · obtain ⟨v, way, pc, cs, dp, vi, nms, rws, hds, a, b, c, rfl, hv, vpc, hC, d0, d1, d2, hcl, hI, hn, hw, hh, hq, hk, ho, hoC, q⟩ := h
    refine ⟨_, PSs.nox (pss_cons (ps_set (i := 5) sc__law_nest.nd rfl (Or.inl rfl) (pe_ix ix_list (pe_call G__law_expressions (hr.mono (by omega)) (by rfl) T.g__law_expressions T.F__law_expressions.kp T.b__law_expressions .nil pass0 (pa_cons (pe_call G__law_within (hr.mono (by omega)) (by rfl) T.g__law_within T.F__law_within.kp T.b__law_within .nil pass0 (pa_cons (pv 0) (pa_cons pe_int pa_nil))) (pa_cons pe_int (pa_cons (pv 4) pa_nil)))) pe_int (fun _ _ => rfl)))
        (pss_cons (ps_if (pt_cmpR op_lt (pv 1) pe_int (nomark _)) (pss_cons (ps_set (i := 6) sc__law_nest.nd rfl (Or.inl rfl) (pe_call G__law_body (hr.mono (by omega)) (by rfl) T.g__law_body T.F__law_body.kp T.b__law_body .nil pass0 (pa_cons (pv 2) (pa_cons (pe_op op_add (pv 3) pe_int) (pa_cons (pv 4) pa_nil)))))
        (pss_cons (ps_set (i := 7) sc__law_nest.nd rfl (Or.inl rfl) (pe_tup pa_nil))
        (pss_cons (ps_if (pt_cmpR op_eq (pv 1) pe_int (nomark _)) (pss_one (ps_set (i := 7) sc__law_nest.nd rfl (Or.inl rfl) (pe_call G__law_body (hr.mono (by omega)) (by rfl) T.g__law_body T.F__law_body.kp T.b__law_body .nil pass0 (pa_cons (pv 2) (pa_cons (pe_op op_add (pv 3) pe_int) (pa_cons (pv 4) pa_nil)))))) pss_nil)
        (pss_one (ps_ret (pe_tup (pa_cons pe_str (pa_cons (pv 5) (pa_cons (pv 6) (pa_cons (pv 7) pa_nil)))))))))) pss_nil)
        (pss_cons (ps_set (i := 8) sc__law_nest.nd rfl (Or.inl rfl) (pe_tup pa_nil))
        (pss_cons (ps_if (PW.pt (pw_and (pt_cmpR op_gt (pe_call G__law_mixed (hr.mono (by omega)) (by rfl) T.g__law_mixed T.F__law_mixed.kp T.b__law_mixed .nil pass0 (pa_cons (pv 0) (pa_cons pe_int (pa_cons pe_int pa_nil)))) pe_int (nomark _)) (pw_and (pt_cmpR op_gt (pe_callB call_len_seq (by rfl) T.m_len (by decide +kernel) (pa_cons (pe_ix ix_tup (pv 4) pe_int (fun _ _ => rfl)) pa_nil)) pe_int (nomark _)) (pw_and1 (pt_cmpR op_gt (pe_callB call_len_seq (by rfl) T.m_len (by decide +kernel) (pa_cons (pv 2) pa_nil)) pe_int (nomark _)))))) (pss_cons (ps_expr (pe_bm PySem.F.plainAttrs_list PySem.F.slot_list_pop PySem.F.type_list_pop mt_popAt (pv 2) (pa_cons pe_int pa_nil)))
        (pss_cons (ps_set (i := 9) sc__law_nest.nd rfl (Or.inl rfl) (pe_ix ix_list (pe_ix ix_tup (pv 4) pe_int (fun _ _ => rfl)) (pe_call G__law_mixed (hr.mono (by omega)) (by rfl) T.g__law_mixed T.F__law_mixed.kp T.b__law_mixed .nil pass0 (pa_cons (pv 0) (pa_cons pe_int (pa_cons (pe_callB call_len_seq (by rfl) T.m_len (by decide +kernel) (pa_cons (pe_ix ix_tup (pv 4) pe_int (fun _ _ => rfl)) pa_nil)) pa_nil)))) (fun _ _ => rfl)))
        (pss_cons (ps_set (i := 5) sc__law_nest.nd rfl (Or.inl rfl) (pe_tup (pa_cons pe_str (pa_cons (pe_tup (pa_cons pe_str (pa_cons (pv 9) pa_nil))) (pa_cons (pe_tup (pa_cons pe_str (pa_cons (pe_call G__law_mixed (hr.mono (by omega)) (by rfl) T.g__law_mixed T.F__law_mixed.kp T.b__law_mixed .nil pass0 (pa_cons (pv 0) (pa_cons pe_int (pa_cons pe_int pa_nil)))) pa_nil))) pa_nil)))))
        (pss_one (ps_set (i := 8) sc__law_nest.nd rfl (Or.inl rfl) (pe_tup (pa_cons (pe_tup (pa_cons pe_str (pa_cons (pv 9) (pa_cons (pe_tup (pa_cons pe_str (pa_cons (pe_tup (pa_cons pe_str (pa_cons (pv 9) pa_nil))) (pa_cons (pe_tup (pa_cons pe_str (pa_cons (pe_op op_add pe_int (pe_call G__law_mixed (hr.mono (by omega)) (by rfl) T.g__law_mixed T.F__law_mixed.kp T.b__law_mixed .nil pass0 (pa_cons (pv 0) (pa_cons pe_int (pa_cons pe_int pa_nil))))) pa_nil))) pa_nil)))) pa_nil)))) pa_nil))))))) pss_nil)
        (pss_one (ps_ret (pe_tup (pa_cons pe_str (pa_cons (pv 5) (pa_cons (pe_op op_catA (pv 8) (pe_call G__law_body (hr.mono (by omega)) (by rfl) T.g__law_body T.F__law_body.kp T.b__law_body .nil pass0 (pa_cons (pv 2) (pa_cons (pe_op op_add (pv 3) pe_int) (pa_cons (pv 4) pa_nil))))) pa_nil)))))))))), ?_⟩
    have d3 : (4 - (dp + 1)).toNat + 1 = (4 - dp).toNat := by omega
    have mono1 : ∀ {H1 H2 : Hp}, Kp (cellS v) H1 H2 → Kp (fun x => cellS v x ∨ cellsS pc cs x) H1 H2 := fun k => k.mono fun _ z => .inl z
    have monoC : ∀ {H1 H2 : Hp} {n : Nat}, Kp (cellsS pc (cs.drop n)) H1 H2 → Kp (fun x => cellS v x ∨ cellsS pc cs x) H1 H2 := fun k => k.mono fun b z => .inr (cellsS_drop _ b z)
    have hoA : Off (fun x => cellS v x ∨ cellsS pc cs x) a b c := ⟨fun z => z.elim ho.1 hoC.1, fun z => z.elim ho.2.1 hoC.2.1, fun z => z.elim ho.2.2 hoC.2.2⟩
    refine ⟨_, rfl, v, 2, rfl, hv, by decide, by decide, fun H1 v1 k1 c1 c1' w1 => ?_⟩
    have sub1 := cellS_sub w1
    refine ⟨_, rfl, v1, vi, 1, nms, rws, hds, a, b, c, rfl, c1', by decide, by decide, hI.kp k1 ho, hn, hw, ho.sub sub1, fun H2 p2 xs es k2 c2 np2 nc2 l2 ex len => ?_⟩
    obtain ⟨e0, rfl⟩ : ∃ e0, es = [e0] := by
      match es, len with
      | [e0], _ => exact ⟨_, rfl⟩
    obtain ⟨x0, r0, rfl, dx0, h1⟩ := dpAll_cons ex.1
    rw [dpAll_nil h1] at l2
    have wf0 : e0.Wf nms rws 4 := ex.2 e0 (by simp)
    refine ⟨p2, _, 0, _, rfl, rfl, .of l2, atI_nat (j := 0) rfl, ?_⟩
    have k02 : Kp (cellS v) H H2 := k1.trans (k2.mono sub1)
    have c2' := cell_after w1 c1 k2 c2
    have C2 := hC.cell k02 c2' vpc
    have I2 := hI.kp k02 ho
    have kA2 := mono1 k02
    clear ex l2 c2 k2
    dsimp only [gName]
    refine ifs_by (fun σ' H' => H' = H2 ∧ σ' = [some v, some (.int way), some (.ref pc), some (.int dp), some vi, some x0, none, none, none, none]) ?_ ?_
    rotate_left
    · intro N hN
      refine ⟨_, rfl, _, _, rfl, rfl, _, rfl, ite2 (fun _ => ?_) (fun _ => hN _ _ ⟨rfl, rfl⟩)⟩
      -- if
      refine ⟨_, rfl, _, rfl, _, _, rfl, rfl, _, rfl, pc, cs, dp + 1, vi, nms, rws, hds, a, b, c, rfl, C2, by omega, by omega, by omega, hcl, I2, hn, hw, hh, hq, hk, hoC, fun H3 ry n ys k3 C3 hn3 dy wy sy => ?_⟩
      have kA3 := kA2.trans (monoC (n := 0) k3)
      have I3 := I2.kp k3 hoC
      refine ⟨Nat.zero_le _, fun pe npe => ?_⟩
      have s4 := same_new (o := .tup []) npe
      have de : Dp K (upd H3 pe (.tup [])) (.ref pe) (.tuple (Sm.ds [])) := .tup (.of upd_same) (by simp only [Sm.ds]; exact .nil)
      dsimp only [gName]
      refine ifs_by (fun σ' H' => ∃ rn m ns, Kp (fun x => cellS v x ∨ cellsS pc cs x) H3 H' ∧ CellsOk H' pc (cs.drop m) ∧ n ≤ m ∧ m ≤ cs.length ∧ Dp K H' rn (.tuple (Sm.ds ns)) ∧ Sm.Wfs nms rws hds ns (4 - (dp + 1)).toNat ∧ Sm.sizes ns + n ≤ m ∧ σ' = [some v, some (.int way), some (.ref pc), some (.int dp), some vi, some x0, some ry, some rn, none, none]) ?_ ?_
      · rintro σ' H5 ⟨rn, m, ns, k5, C5, nm, hm, dn, wn, sn, rfl⟩
        have kA5 := kA3.trans k5
        refine ⟨_, rfl, _, rfl, _, rfl, (by show 4 ≤ sizeLine; rw [sizeLine_eq]; decide), fun pr npr => ?_⟩
        have s6 := same_new (o := .tup [.str "if", x0, ry, rn]) npr
        refine q _ _ m (.ite e0 ys ns) (kA5.trans (.of_same s6)) (C5.same s6) hm ?_ ?_ rfl ?_
        · simp only [Sm.d]
          refine .tup (.of upd_same) (.cons (.str _) (.cons ?_ (.cons ?_ (.cons ?_ .nil))))
          · exact dp_same (dp_kp ((monoC (n := 0) k3).trans k5) _ _ e0.noL dx0) s6 e0.noL
          · have nn : nLd (.tuple (Sm.ds ys)) = true := by simp only [nLd]; exact Sm.noLs ys
            exact dp_same (dp_kp k5 _ _ nn dy) s6 nn
          · have nn : nLd (.tuple (Sm.ds ns)) = true := by simp only [nLd]; exact Sm.noLs ns
            exact dp_same dn s6 nn
        · unfold Sm.Wf
          refine ⟨by omega, wf0, ?_, ?_⟩
          · rw [← d3]
            exact wy
          · rw [← d3]
            exact wn
        · simp only [Sm.size]
          omega
      · intro M hM
        refine ⟨_, rfl, rfl, _, rfl, ite2 (fun _ => ?_) (fun _ => ?_)⟩
        · refine ⟨_, rfl, _, rfl, _, _, rfl, rfl, _, rfl, pc, cs.drop n, dp + 1, vi, nms, rws, hds, a, b, c, rfl, C3.same s4, by omega, by omega, by omega, by rw [List.length_drop]; omega, I3.kp (Kp.of_same (S := cellS v) s4) ho, hn, hw, hh, hq, hk, hoC.sub (cellsS_drop n), fun H6 rn m ns k6 C6 hm6 dn wn sn => ?_⟩
          rw [List.length_drop] at hm6
          rw [List.drop_drop] at C6
          exact hM _ _ ⟨rn, n + m, ns, (Kp.of_same s4).trans (monoC k6), C6, by omega, by omega, dn, wn, by omega, rfl⟩
        · exact hM _ _ ⟨.ref pe, n, [], .of_same s4, C3.same s4, by omega, hn3, de, by simp [Sm.Wfs], by simp [Sm.sizes], rfl⟩
    rintro σ' H3 ⟨rfl, rfl⟩
    -- while
    refine ⟨Nat.zero_le _, fun pe npe => ?_⟩
    have s4 := same_new (o := .tup []) npe
    have c4 := c2'.same s4
    have C4 := C2.same s4
    have I4 := I2.kp (Kp.of_same (S := cellS v) s4) ho
    have kA4 := kA2.trans (.of_same s4)
    have dx4 := dp_same dx0 s4 e0.noL
    have de : Dp K (upd H3 pe (.tup [])) (.ref pe) (.tuple (Sm.ds [])) := .tup (.of upd_same) (by simp only [Sm.ds]; exact .nil)
    generalize upd H3 pe (.tup []) = H4 at c4 C4 I4 kA4 dx4 de
    dsimp only [gName]
    refine ifs_by (fun σ' H' => ∃ xa ea pf fs n x9, Kp (fun x => cellS v x ∨ cellsS pc cs x) H H' ∧ CellsOk H' pc (cs.drop n) ∧ n ≤ cs.length ∧ Info K H' vi nms rws hds a b c ∧ Dp K H' xa (Ex.d ea) ∧ ea.Wf nms rws 4 ∧ Dp K H' (.ref pf) (.tuple (Sm.ds fs)) ∧ Sm.sizes fs ≤ n ∧ (∀ bd k, Sm.Wfs nms rws hds bd k → Sm.Wfs nms rws hds (fs ++ bd) k) ∧
      σ' = [some v, some (.int way), some (.ref pc), some (.int dp), some vi, some xa, none, none, some (.ref pf), x9]) ?_ ?_
    · rintro σ' H5 ⟨xa, ea, pf, fs, n, x9, k5, C5, hn5, I5, da, wa, df, sf, wf, rfl⟩
      refine ⟨_, rfl, _, rfl, _, rfl, _, rfl, _, _, rfl, rfl, _, rfl, pc, cs.drop n, dp + 1, vi, nms, rws, hds, a, b, c, rfl, C5, by omega, by omega, by omega, by rw [List.length_drop]; omega, I5, hn, hw, hh, hq, hk, hoC.sub (cellsS_drop n), fun H6 rb m bd k6 C6 hm6 db wb sb => ?_⟩
      rw [List.length_drop] at hm6
      rw [List.drop_drop] at C6
      have nf := Sm.noLs fs
      have nb := Sm.noLs bd
      have lf := Sm.sizes_len fs
      have lb := Sm.sizes_len bd
      refine cat_use (dp_kp k6 _ _ (by simp only [nLd]; exact nf) df) db nf nb (by rw [Sm.ds_len, Sm.ds_len, sizeLine_eq]; omega) fun H7 rc s7 dc => ?_
      rw [← Sm.ds_append] at dc
      refine ⟨(by show 3 ≤ sizeLine; rw [sizeLine_eq]; decide), fun pr npr => ?_⟩
      have s8 := same_new (o := .tup [.str "while", xa, rc]) npr
      refine q _ _ (n + m) (.loop ea (fs ++ bd)) (((k5.trans (monoC k6)).trans (.of_same s7)).trans (.of_same s8)) ((C6.same s7).same s8) (by omega) ?_ ?_ rfl ?_
      · simp only [Sm.d]
        refine .tup (.of upd_same) (.cons (.str _) (.cons ?_ (.cons ?_ .nil)))
        · exact dp_same (dp_same (dp_kp k6 _ _ ea.noL da) s7 ea.noL) s8 ea.noL
        · exact dp_same dc s8 (by simp only [nLd]; exact Sm.noLs _)
      · unfold Sm.Wf
        refine ⟨by omega, wa, ?_⟩
        rw [← d3]
        exact wf _ _ wb
      · simp only [Sm.size, Sm.sizes_append]
        omega
    · intro N hN
      have no : ∀ H' , Kp (cellS v) H4 H' → CellOk H' v → N [some v, some (.int way), some (.ref pc), some (.int dp), some vi, some x0, none, none, some (.ref pe), none] H' := fun H' k' c' =>
        hN _ _ ⟨x0, e0, pe, [], 0, none, kA4.trans (mono1 k'), C4.cell k' c' vpc, Nat.zero_le _, I4.kp k' ho, dp_kp k' _ _ e0.noL dx4, wf0, dp_kp k' _ _ (by simp only [nLd, Sm.ds, nLs]) de, by simp [Sm.sizes], fun bd k h => h, rfl⟩
      obtain ⟨pi, rfl, hT⟩ := I4.tup
      refine ⟨_, rfl, v, 3, 4, rfl, c4, by decide, by decide, by decide, by decide, fun H5 r5 k5 c5 _ _ => ?_⟩
      have I5 := I4.kp k5 ho
      have hT5 := sqT_kp k5 hT
      refine ⟨_, _, rfl, rfl, _, rfl, ite2 (fun _ => ?_) (fun _ => no _ k5 c5)⟩
      refine ⟨_, rfl, pi, _, 0, _, rfl, rfl, hT5, atI_nat (j := 0) rfl, a, _, rfl, .inl (.of I5.a), _, _, rfl, rfl, _, rfl, ite2 (fun g1 => ?_) (fun _ => no _ k5 c5)⟩
      have n0 : 0 < nms.length := by
        have := of_decide_eq_true g1
        rw [List.length_map] at this
        omega
      have C5 := C4.cell k5 c5 vpc
      refine ⟨_, rfl, pc, _, rfl, .inl (.of C5.at_), _, _, rfl, rfl, _, rfl, ite2 (fun g2 => ?_) (fun _ => no _ k5 c5)⟩
      cases cs with
      | nil =>
        have := of_decide_eq_true g2
        simp at this
      | cons y cs1 =>
        refine ⟨_, rfl, .inl ⟨rfl, _, .of C5.at_⟩, pc, _, 0, 0, y, rfl, rfl, C5.at_, by decide, by decide, ?_, rfl, ?_⟩
        · unfold seqIndex?
          simp
        show tSeq _ _ _ _ (upd H5 pc (.lst cs1))
        obtain ⟨C6, _⟩ := C5.pop
        have c6 : CellOk (upd H5 pc (.lst cs1)) v := c5.upd vpc
        have k6 : Kp (fun x => cellS v x ∨ cellsS pc (y :: cs1) x) H5 (upd H5 pc (.lst cs1)) := Kp.upd C5.at_ trivial (.inr (.inl rfl))
        have I6 := I5.kp k6 hoA
        have kA6 := (kA4.trans (mono1 k5)).trans k6
        have hT6 := sqT_kp k6 hT5
        generalize upd H5 pc (.lst cs1) = H6 at C6 c6 k6 I6 kA6 hT6
        refine ⟨_, rfl, pi, _, 0, _, rfl, rfl, hT6, atI_nat (j := 0) rfl, _, rfl, _, rfl, pi, _, 0, _, rfl, rfl, hT6, atI_nat (j := 0) rfl, a, _, rfl, .inl (.of I6.a), v, 4, (nms.map V.str).length, rfl, c6, by decide, by decide, by rw [List.length_map]; omega, by rw [List.length_map]; omega, fun H7 j k7 c7 j0 j1 => ?_⟩
        rw [List.length_map] at j1
        have I7 := I6.kp k7 ho
        have C7 := C6.cell k7 c7 vpc
        obtain ⟨x, hx, ex⟩ := in_strs_at j0 j1
        refine ⟨a, _, j, _, rfl, rfl, .of I7.a, ex, ?_⟩
        -- asked
        refine ⟨_, rfl, (by show 2 ≤ sizeLine; rw [sizeLine_eq]; decide), fun p1 n1 => ?_⟩
        have s1 := same_new (o := .tup [.str "name", .str x]) n1
        refine ⟨_, rfl, v, 5, 5, rfl, c7.same s1, by decide, by decide, by decide, by decide, fun H8 r8 k8 c8 r80 r81 => ?_⟩
        refine ⟨(by show 2 ≤ sizeLine; rw [sizeLine_eq]; decide), fun p2 n2 => ?_⟩
        have s2 := same_new (o := .tup [.str "number", .int r8]) n2
        refine ⟨(by show 3 ≤ sizeLine; rw [sizeLine_eq]; decide), fun p3 n3 => ?_⟩
        have s3 := same_new (o := .tup [.str "less", .ref p1, .ref p2]) n3
        have d1 : Dp K _ (.ref p1) (Ex.nam x).d := dp_same (dp_kp k8 _ _ rfl (dp_new n1 (.cons (.str _) (.cons (.str _) .nil)) rfl)) s2 rfl
        have d2 : Dp K _ (.ref p2) (Ex.num r8).d := dp_new n2 (.cons (.str _) (.cons (.int _) .nil)) rfl
        have dl : Dp K _ (.ref p3) (Ex.op "less" (.nam x) (.num r8)).d := dp_new n3 (.cons (.str _) (.cons d1 (.cons d2 .nil))) rfl
        have k78 : Kp (cellS v) H7 _ := ((Kp.of_same s1).trans k8).trans ((Kp.of_same s2).trans (.of_same s3))
        have c9 := (c8.same s2).same s3
        generalize upd (upd H8 p2 _) p3 _ = H9 at dl k78 c9
        have wl : (Ex.op "less" (.nam x) (.num r8)).Wf nms rws 4 := ⟨by decide +kernel, hx, ⟨by omega, by omega⟩⟩
        clear d1 d2
        -- first
        refine ⟨_, rfl, _, rfl, (by show 2 ≤ sizeLine; rw [sizeLine_eq]; decide), fun q1 m1 => ?_⟩
        have t1 := same_new (o := .tup [.str "name", .str x]) m1
        refine ⟨_, rfl, v, 6, 2, rfl, c9.same t1, by decide, by decide, by decide, by decide, fun H10 r10 k10 c10 r100 r101 => ?_⟩
        refine ⟨_, _, rfl, rfl, (by show 2 ≤ sizeLine; rw [sizeLine_eq]; decide), fun q2 m2 => ?_⟩
        have t2 := same_new (o := .tup [.str "number", .int (1 + r10)]) m2
        refine ⟨(by show 3 ≤ sizeLine; rw [sizeLine_eq]; decide), fun q3 m3 => ?_⟩
        have t3 := same_new (o := .tup [.str "add", .ref q1, .ref q2]) m3
        refine ⟨(by show 3 ≤ sizeLine; rw [sizeLine_eq]; decide), fun q4 m4 => ?_⟩
        have t4 := same_new (o := .tup [.str "set", .str x, .ref q3]) m4
        refine ⟨(by show 1 ≤ sizeLine; rw [sizeLine_eq]; decide), fun q5 m5 => ?_⟩
        have t5 := same_new (o := .tup [.ref q4]) m5
        have f1 : Dp K _ (.ref q1) (Ex.nam x).d := dp_same (dp_kp k10 _ _ rfl (dp_new m1 (.cons (.str _) (.cons (.str _) .nil)) rfl)) t2 rfl
        have f2 : Dp K _ (.ref q2) (Ex.num (1 + r10)).d := dp_new m2 (.cons (.str _) (.cons (.int _) .nil)) rfl
        have f3 : Dp K _ (.ref q3) (Ex.op "add" (.nam x) (.num (1 + r10))).d := dp_new m3 (.cons (.str _) (.cons f1 (.cons f2 .nil))) rfl
        have f4 : Dp K _ (.ref q4) (.tuple [.str "set", .str x, (Ex.op "add" (.nam x) (.num (1 + r10))).d]) := dp_new m4 (.cons (.str _) (.cons (.str _) (.cons f3 .nil))) (by simp [nLs, nLd, Ex.d])
        rw [show PyData.tuple [.str "set", .str x, (Ex.op "add" (.nam x) (.num (1 + r10))).d] = (Sm.set x (Ex.op "add" (.nam x) (.num (1 + r10)))).d by simp only [Sm.d]] at f4
        have f5 : Dp K _ (.ref q5) (.tuple [(Sm.set x (Ex.op "add" (.nam x) (.num (1 + r10)))).d]) := dp_new m5 (.cons f4 .nil) (by simp only [nLs, Sm.noL]; rfl)
        rw [show [(Sm.set x (Ex.op "add" (.nam x) (.num (1 + r10)))).d] = Sm.ds [Sm.set x (Ex.op "add" (.nam x) (.num (1 + r10)))] by simp only [Sm.ds]] at f5
        have k9e : Kp (cellS v) H9 _ := ((Kp.of_same t1).trans k10).trans ((Kp.of_same t2).trans ((Kp.of_same t3).trans ((Kp.of_same t4).trans (.of_same t5))))
        have cE := (((c10.same t2).same t3).same t4).same t5
        have kF := (k7.trans k78).trans k9e
        refine hN _ _ ⟨.ref p3, _, q5, _, 1, some (.str x), kA6.trans (mono1 kF), C6.cell kF cE vpc, by simp, I6.kp kF ho, dp_kp k9e _ _ (Ex.noL _) dl, wl, f5, by simp [Sm.sizes, Sm.size], fun bd k h => ?_, rfl⟩
        show Sm.Wfs nms rws hds (_ :: bd) k
        simp only [Sm.Wfs]
        refine ⟨?_, fun _ => rfl, h⟩
        unfold Sm.Wf
        exact ⟨hx, ⟨by decide +kernel, hx, ⟨by omega, by omega⟩⟩⟩
end
section
variable {P : Program} {w : World} {K : PySem.W.Frag} {mg : Str → Option Value} {base : Heap}
def opn (nms rws : List Str) (hds : List (Str × Nat)) (bd : List Sm) (k : Nat) : Prop := ∀ s ∈ bd, s.Wf nms rws hds k ∧ s.ends = false
theorem wfs_snoc {nms rws : List Str} {hds : List (Str × Nat)} {k : Nat} {s : Sm} (h : s.Wf nms rws hds k) : ∀ {bd : List Sm}, opn nms rws hds bd k → Sm.Wfs nms rws hds (bd ++ [s]) k
  | [], _ => by
    show Sm.Wfs nms rws hds [s] k
    simp only [Sm.Wfs]
    exact ⟨h, fun z => absurd rfl z, trivial⟩
  | t :: r, o => by
    show Sm.Wfs nms rws hds (t :: (r ++ [s])) k
    simp only [Sm.Wfs]
    obtain ⟨o1, o2⟩ := o t (List.mem_cons_self ..)
    exact ⟨o1, fun _ => o2, wfs_snoc h fun x hx => o x (List.mem_cons_of_mem _ hx)⟩
theorem wfs_opn {nms rws : List Str} {hds : List (Str × Nat)} {k : Nat} : ∀ {bd : List Sm}, opn nms rws hds bd k → Sm.Wfs nms rws hds bd k
  | [], _ => by simp only [Sm.Wfs]
  | t :: r, o => by
    simp only [Sm.Wfs]
    obtain ⟨o1, o2⟩ := o t (List.mem_cons_self ..)
    exact ⟨o1, fun _ => o2, wfs_opn fun x hx => o x (List.mem_cons_of_mem _ hx)⟩
theorem plain_any {nms rws : List Str} {hds : List (Str × Nat)} {s : Sm} (h : s.Wf nms rws hds 0) (z : s.size = 1) (k : Nat) : s.Wf nms rws hds k := by
  cases s <;> simp only [Sm.Wf] at h ⊢ <;> first | exact h | exact absurd h.1 (by decide)
/-- a statement's word -/
theorem sm_head {H : Hp} {v : V} {s : Sm} (h : Dp K H v s.d) : ∃ p wd xs, v = .ref p ∧ SqT K H p (.str wd :: xs) ∧ (inV (.str wd) [.str "give", .str "fail"] = s.ends) := by
  cases s <;> simp only [Sm.d] at h <;> (obtain ⟨p, xs, rfl, hs, da⟩ := dp_tup h; obtain ⟨x, r, rfl, dx, _⟩ := dpAll_cons da; rw [dp_str dx] at hs; exact ⟨p, _, r, rfl, hs, by rfl⟩)
theorem okg_body_of (T : Top K mg) (D : Nat) (G__law_nest : FnOk P w K mg base CX0 (2 * D + 11) (He.ga K "_law_nest") T.fd__law_nest ["_law_cell", "_law_way", "_law_cells", "_law_deep", "_law_info"] (sp_nest K D)) :
    FnOk P w K mg base CX0 (2 * D + 12) (He.ga K "_law_body") T.fd__law_body ["_law_cells", "_law_deep", "_law_info"] (sp_gbody K D) := by
  have G__law_mixed := ok__law_mixed (P := P) (w := w) (base := base) T
  have G__law_plain := ok__law_plain (P := P) (w := w) (base := base) T
  refine T.F__law_body.ok sc__law_body (fun vs H Q E h => ?_) (fun cdv A outer s H vs Q E hr h => ?_)
  · obtain ⟨pc, cs, dp, vi, nms, rws, hds, a, b, c, rfl, _⟩ := h
    rfl
  · obtain ⟨pc, cs, dp, vi, nms, rws, hds, a, b, c, rfl, hC, d0, d1, d2, hcl, hI, hn, hw, hh, hq, hk, ho, q⟩ := h
    refine ⟨_, PSs.nox (pss_cons (ps_set (i := 3) sc__law_body.nd rfl (Or.inl rfl) (pe_lst pa_nil))
        (pss_cons (ps_while PassesOwn.never (pt_cmpR op_gt (pe_callB call_len_seq (by rfl) T.m_len (by decide +kernel) (pa_cons (pv 0) pa_nil)) pe_int (nomark _)) (pss_cons (ps_set (i := 4) sc__law_body.nd rfl (Or.inl rfl) (pe_bm PySem.F.plainAttrs_list PySem.F.slot_list_pop PySem.F.type_list_pop mt_popAt (pv 0) (pa_cons pe_int pa_nil)))
        (pss_cons (ps_set (i := 5) sc__law_body.nd rfl (Or.inl rfl) (pe_call G__law_mixed (hr.mono (by omega)) (by rfl) T.g__law_mixed T.F__law_mixed.kp T.b__law_mixed .nil pass0 (pa_cons (pv 4) (pa_cons pe_int (pa_cons pe_int pa_nil)))))
        (pss_cons (ps_if (PW.pt (pw_and (pt_cmpR op_lt (pv 5) pe_int (nomark _)) (pw_and1 (pt_cmpR op_gt (pv 1) pe_int (nomark _))))) (pss_one (ps_ret (pe_callTy call_tuple_of (by rfl) T.m_tuple (by decide +kernel) (pa_cons (pv 3) pa_nil)))) pss_nil)
        (pss_cons (ps_if (PW.pt (pw_and (pt_cmpR op_in_seq (pv 5) (pe_lst (pa_cons pe_int (pa_cons pe_int (pa_cons pe_int pa_nil)))) (by rfl)) (pw_and1 (pt_cmpR op_lt (pv 1) pe_int (nomark _))))) (pss_one (ps_expr (pe_bm PySem.F.plainAttrs_list PySem.F.slot_list_append PySem.F.type_list_append mt_append (pv 3) (pa_cons (pe_call G__law_nest (hr.mono (by omega)) (by rfl) T.g__law_nest T.F__law_nest.kp T.b__law_nest .nil pass0 (pa_cons (pv 4) (pa_cons (pv 5) (pa_cons (pv 0) (pa_cons (pv 1) (pa_cons (pv 2) pa_nil)))))) pa_nil)))) (pss_one (ps_expr (pe_bm PySem.F.plainAttrs_list PySem.F.slot_list_append PySem.F.type_list_append mt_append (pv 3) (pa_cons (pe_call G__law_plain (hr.mono (by omega)) (by rfl) T.g__law_plain T.F__law_plain.kp T.b__law_plain .nil pass0 (pa_cons (pv 4) (pa_cons (pv 2) pa_nil))) pa_nil)))))
        (pss_one (ps_if (pt_cmpR op_in_seq (pe_ix ix_tup (pe_ix ix_list (pv 3) (pe_un un_neg pe_int) (fun _ _ => rfl)) pe_int (fun _ _ => rfl)) (pe_lst (pa_cons pe_str (pa_cons pe_str pa_nil))) (by rfl)) (pss_one (ps_ret (pe_callTy call_tuple_of (by rfl) T.m_tuple (by decide +kernel) (pa_cons (pv 3) pa_nil)))) pss_nil)))))))
        (pss_one (ps_ret (pe_callTy call_tuple_of (by rfl) T.m_tuple (by decide +kernel) (pa_cons (pv 3) pa_nil)))))), ?_⟩
    refine ⟨Nat.zero_le _, fun F nF => ?_⟩
    have s1 := same_new (o := .lst []) nF
    have Fpc : F ≠ pc := (ne_of_none hC.at_ nF).symm
    have nFS : ¬ cellsS pc cs F := by
      rintro (e | ⟨x, hx, e⟩)
      · exact Fpc e
      · exact (hC.ok x hx).fresh nF e
    -- the end: a tuple of what was found
    have fin : ∀ (H' : Hp) (rs : List V) (bd : List Sm) (n : Nat), Kp (cellsS pc cs) H H' → CellsOk H' pc (cs.drop n) → n ≤ cs.length → H' F = some (.lst rs) → DpAll K H' rs (Sm.ds bd) → Sm.Wfs nms rws hds bd (4 - dp).toNat → Sm.sizes bd ≤ n → ∀ p, H' p = none → Q (.ref p) (upd H' p (.tup rs)) := by
      intro H' rs bd n k' C' hn' e' da wf sz p np
      have s' := same_new (o := .tup rs) np
      exact q _ _ n bd (k'.trans (.of_same s')) (C'.same s') hn' (dp_new np da (Sm.noLs bd)) wf sz
    refine while_by (fun σ' H' => ∃ n rs bd x4 x5, Kp (cellsS pc cs) H H' ∧ CellsOk H' pc (cs.drop n) ∧ n ≤ cs.length ∧ H' F = some (.lst rs) ∧ DpAll K H' rs (Sm.ds bd) ∧ opn nms rws hds bd (4 - dp).toNat ∧ Sm.sizes bd ≤ n ∧ σ' = [some (.ref pc), some (.int dp), some vi, some (.ref F), x4, x5])
      (fun σ' H' => match H' pc with | some (.lst xs) => xs.length | _ => 0) ?_ ?_ ?_
    · exact ⟨0, [], [], none, none, kp_upd_new Kp.refl nF, hC.same s1, Nat.zero_le _, upd_same, by simp only [Sm.ds]; exact .nil, (fun s hs => nomatch hs), by simp [Sm.sizes], rfl⟩
    · rintro σ' H1 ⟨n, rs, bd, x4, x5, k1, C1, hn1, e1, da, op, sz, rfl⟩
      refine ⟨_, rfl, pc, _, rfl, .inl (.of C1.at_), _, _, rfl, rfl, _, rfl, ite2 (fun g1 => ?_) (fun _ => ?_)⟩
      · have wfin := wfs_opn op
        cases hcs : cs.drop n with
        | nil =>
          have := of_decide_eq_true g1
          rw [hcs] at this
          simp at this
        | cons v cs1 =>
          have hcs1 : cs1 = cs.drop (n + 1) := by rw [← List.drop_drop, hcs]; rfl
          have hn2 : n + 1 ≤ cs.length := by
            have := congrArg List.length hcs
            rw [List.length_drop, List.length_cons] at this
            omega
          rw [hcs] at C1
          have vin : v ∈ cs := List.mem_of_mem_drop (by rw [hcs]; exact List.mem_cons_self ..)
          have vpc : v ≠ .ref pc := hC.off v vin
          obtain ⟨C2, c2⟩ := C1.pop
          have mu : (match H1 pc with | some (.lst xs) => xs.length | _ => 0) = cs1.length + 1 := by
            rw [C1.at_]
            rfl
          refine ⟨_, rfl, .inl ⟨rfl, _, .of C1.at_⟩, pc, _, 0, 0, v, rfl, rfl, C1.at_, by decide, by decide, by unfold seqIndex?; simp, rfl, ?_⟩
          show tSeq _ _ _ _ (upd H1 pc (.lst cs1))
          have k2 : Kp (cellsS pc cs) H1 (upd H1 pc (.lst cs1)) := Kp.upd C1.at_ trivial (.inl rfl)
          have k02 := k1.trans k2
          have e2 : upd H1 pc (.lst cs1) F = some (.lst rs) := by rw [upd_ne Fpc]; exact e1
          have da2 := dpAll_kp k2 _ _ (Sm.noLs bd) da
          generalize upd H1 pc (.lst cs1) = H2 at C2 c2 k2 k02 e2 da2
          have subv : ∀ x, cellS v x → cellsS pc cs x := fun x z => .inr ⟨v, vin, z⟩
          have ov := ho.sub subv
          have nFv : ¬ cellS v F := fun z => nFS (subv _ z)
          refine ⟨_, rfl, v, 6, 16, rfl, c2, by decide, by decide, by decide, by decide, fun H3 way k3 c3 w0 w1 => ?_⟩
          have k03 := k02.trans (k3.mono subv)
          have C3 := C2.cell k3 c3 vpc
          have e3 := k3 _ _ e2 fun z => absurd z nFv
          have da3 := dpAll_kp k3 _ _ (Sm.noLs bd) da2
          have I3 := hI.kp k03 ho
          have rl : rs.length ≤ 1000 := by
            rw [dpAll_len da, Sm.ds_len]
            have := Sm.sizes_len bd
            omega
          dsimp only [gName]
          refine ifs_by (fun σ' H' => H' = H3 ∧ σ' = [some (.ref pc), some (.int dp), some vi, some (.ref F), some v, some (.int way)]) ?_ ?_
          rotate_left
          · intro N hN
            refine ⟨_, rfl, _, _, rfl, rfl, _, rfl, ite2 (fun _ => ?_) (fun _ => hN _ _ ⟨rfl, rfl⟩)⟩
            refine ⟨_, rfl, _, _, rfl, rfl, _, rfl, ite2 (fun _ => ?_) (fun _ => hN _ _ ⟨rfl, rfl⟩)⟩
            exact ⟨_, rfl, F, _, rfl, .inl ⟨.of e3, fin _ _ bd (n + 1) k03 (by rw [← hcs1]; exact C3) hn2 e3 da3 wfin (by omega)⟩⟩
          rintro σ' H4 ⟨rfl, rfl⟩
          -- one more statement
          refine ifs_by (fun σ' H' => ∃ m x s, Kp (cellsS pc cs) H H' ∧ CellsOk H' pc (cs.drop m) ∧ n + 1 ≤ m ∧ m ≤ cs.length ∧ H' F = some (.lst (rs ++ [x])) ∧ DpAll K H' rs (Sm.ds bd) ∧ Dp K H' x (Sm.d s) ∧ s.Wf nms rws hds (4 - dp).toNat ∧ Sm.sizes bd + s.size ≤ m ∧ σ' = [some (.ref pc), some (.int dp), some vi, some (.ref F), some v, some (.int way)]) ?_ ?_
          · rintro σ' H5 ⟨m, x, s, k5, C5, m0, m1, e5, da5, dx, wf, sz5, rfl⟩
            have da6 : DpAll K H5 (rs ++ [x]) (Sm.ds (bd ++ [s])) := by
              rw [Sm.ds_append]
              refine dpAll_app da5 ?_
              simp only [Sm.ds]
              exact .cons dx .nil
            have wf6 := wfs_snoc wf op
            have sz6 : Sm.sizes (bd ++ [s]) ≤ m := by
              rw [Sm.sizes_append]
              simp only [Sm.sizes]
              omega
            obtain ⟨ps, wd, xs, rfl, hs, hend⟩ := sm_head dx
            refine ⟨_, rfl, 1, rfl, F, _, -1, _, rfl, rfl, .of e5, atI_last _ _, ps, _, 0, _, rfl, rfl, hs, atI_nat (j := 0) rfl, (by show 2 ≤ sizeLine; rw [sizeLine_eq]; decide), fun pl npl => ?_⟩
            have sl := same_new (o := .lst [.str "give", .str "fail"]) npl
            refine ⟨pl, _, rfl, .inl (.of upd_same), rfl, by decide +kernel, _, rfl, ?_⟩
            dsimp only
            rw [if_neg Bool.false_ne_true, hend]
            have e7 := sl _ _ e5
            have da7 := dpAll_same da6 sl (Sm.noLs _)
            have k7 := k5.trans (.of_same sl)
            have C7 := C5.same sl
            cases hse : s.ends with
            | true =>
              exact ⟨_, rfl, F, _, rfl, .inl ⟨.of e7, fin _ _ (bd ++ [s]) m k7 C7 m1 e7 da7 wf6 sz6⟩⟩
            | false =>
              refine ⟨⟨m, rs ++ [.ref ps], bd ++ [s], _, _, k7, C7, m1, e7, da7, ?_, sz6, rfl⟩, ?_⟩
              · intro y hy
                rcases List.mem_append.mp hy with hy | hy
                · exact op y hy
                · rw [List.mem_singleton.mp hy]
                  exact ⟨wf, hse⟩
              · show (match (upd H5 pl _) pc with | some (.lst xs) => xs.length | _ => 0) < (match H1 pc with | some (.lst xs) => xs.length | _ => 0)
                rw [mu, C7.at_]
                show (cs.drop m).length < cs1.length + 1
                rw [hcs1, List.length_drop, List.length_drop]
                omega
          · intro N hN
            -- append
            have app : ∀ (H5 : Hp) (x : V) (s : Sm) (m : Nat), Kp (cellsS pc cs) H H5 → CellsOk H5 pc (cs.drop m) → n + 1 ≤ m → m ≤ cs.length → H5 F = some (.lst rs) → DpAll K H5 rs (Sm.ds bd) → Dp K H5 x s.d → s.Wf nms rws hds (4 - dp).toNat → Sm.sizes bd + s.size ≤ m → N [some (.ref pc), some (.int dp), some vi, some (.ref F), some v, some (.int way)] (upd H5 F (.lst (rs ++ [x]))) := by
              intro H5 x s m k5 C5 m0 m1 e5 da5 dx wf sz5
              have ku : Kp (fun y => y = F) H5 (upd H5 F (.lst (rs ++ [x]))) := Kp.upd e5 trivial rfl
              have nS' : ∀ y ∈ cs.drop m, ¬ cellS y F := fun y hy z => nFS (.inr ⟨y, List.mem_of_mem_drop hy, z⟩)
              refine hN _ _ ⟨m, x, s, kp_upd_new k5 nF, ⟨by rw [upd_ne Fpc.symm]; exact C5.at_, fun y hy => (C5.ok y hy).upd (nS' y hy), C5.off⟩, m0, m1, upd_same, dpAll_kp ku _ _ (Sm.noLs bd) da5, dp_kp ku _ _ s.noL dx, wf, sz5, rfl⟩
            refine ⟨_, rfl, (by show 3 ≤ sizeLine; rw [sizeLine_eq]; decide), fun pl npl => ?_⟩
            have sl := same_new (o := .lst [.int 2, .int 3, .int 4]) npl
            refine ⟨pl, _, rfl, .inl (.of upd_same), rfl, by decide +kernel, _, rfl, ?_⟩
            have c5 := c3.same sl
            have C5 := C3.same sl
            have I5 := I3.kp (Kp.of_same (S := cellS v) sl) ov
            have e5 := sl _ _ e3
            have da5 := dpAll_same da3 sl (Sm.noLs bd)
            have k5 := k03.trans (.of_same sl)
            generalize upd H4 pl (.lst [.int 2, .int 3, .int 4]) = H5 at c5 C5 I5 e5 da5 k5
            have rl2 : rs.length < sizeLine := by rw [sizeLine_eq]; omega
            refine ite_else ?_ fun _ leaf => ?_
            · refine ⟨_, rfl, .inl ⟨rfl, _, .of e5⟩, _, rfl, _, rfl, v, vi, nms, rws, hds, a, b, c, rfl, c5, I5, hn, hw, hh, hq, hk, ov, fun H6 x s k6 c6 dx wf sz6 => ?_⟩
              have e6 := k6 _ _ e5 fun z => absurd z nFv
              refine ⟨F, _, _, rfl, rfl, e6, rl2, ?_⟩
              exact app H6 x s (n + 1) (k5.trans (k6.mono subv)) (by rw [← hcs1]; exact C5.cell k6 c6 vpc) (Nat.le_refl _) hn2 e6 (dpAll_kp k6 _ _ (Sm.noLs bd) da5) dx (plain_any wf sz6 _) (by omega)
            · refine ⟨_, rfl, _, _, rfl, rfl, _, rfl, ite_else leaf fun g2 _ => ?_⟩
              have dp4 : dp < 4 := of_decide_eq_true g2
              refine ⟨_, rfl, .inl ⟨rfl, _, .of e5⟩, _, rfl, _, rfl, _, rfl, _, rfl, _, rfl, v, way, pc, cs1, dp, vi, nms, rws, hds, a, b, c, rfl, c5, vpc, C5, d0, by omega, d2, by rw [hcs1, List.length_drop]; omega, I5, hn, hw, hh, hq, hk, ov, ho.sub (fun x z => by rw [hcs1] at z; exact cellsS_drop _ x z), fun H6 x m s k6 C6 hm6 dx wf en sz6 => ?_⟩
              rw [hcs1, List.length_drop] at hm6
              rw [hcs1, List.drop_drop] at C6
              have sub6 : ∀ y, (cellS v y ∨ cellsS pc cs1 y) → cellsS pc cs y := by
                rintro y (z | z)
                · exact subv y z
                · rw [hcs1] at z
                  exact cellsS_drop _ y z
              have k6' := k6.mono sub6
              have e6 := k6' _ _ e5 fun z => absurd z nFS
              refine ⟨F, _, _, rfl, rfl, e6, rl2, ?_⟩
              exact app H6 x s (n + 1 + m) (k5.trans k6') C6 (by omega) (by omega) e6 (dpAll_kp k6 _ _ (Sm.noLs bd) da5) dx wf (by omega)
      · have C1' := C1
        exact ⟨_, rfl, F, _, rfl, .inl ⟨.of e1, fin _ _ bd n k1 C1 hn1 e1 da (wfs_opn op) sz⟩⟩
    · intro σ' H' Q1 Q2 h hc
      obtain ⟨v, h1, p, ys, h2, h3, i, j, h4, h5, k, h6, h7⟩ := hc
      exact ⟨v, h1, p, ys, h2, h3, i, j, h4, h5, k, h6, h _ _ h7⟩
theorem okg_body (T : Top K mg) : ∀ D : Nat, FnOk P w K mg base CX0 (2 * D + 12) (He.ga K "_law_body") T.fd__law_body ["_law_cells", "_law_deep", "_law_info"] (sp_gbody K D)
  | 0 => okg_body_of T 0 (ok_nest0 T)
  | D + 1 => okg_body_of T (D + 1) (ok_nest_of T D (okg_body T D))
end
section
variable {P : Program} {w : World} {K : PySem.W.Frag} {mg : Str → Option Value} {base : Heap}
theorem kp_int {H H' : Hp} {c : Int} (k : Kp (cellS (.int c)) H H') : Same H H' := fun b o e => k b o e fun z => nomatch z
def sp__law_inner_cell (K : PySem.W.Frag) : Sp := fun vs H Q _ => ∃ (a : Addr) (ns : List Int) (fi k j : Int), vs = [.ref a, .int fi, .int k, .int j] ∧ SqL K H a (ns.map V.int) ∧ 0 ≤ fi ∧ 0 ≤ k ∧ k < 1000 ∧ 0 ≤ j ∧ j < 1000 ∧
  ∀ H' v, Same H H' → CellOk H' v → (∀ p, v = .ref p → H p = none) → Q v H'
theorem ok__law_inner_cell (T : Top K mg) : FnOk P w K mg base CX0 2 (He.ga K "_law_inner_cell") T.fd__law_inner_cell ["_law_script", "_law_first", "_law_k", "_law_j"] (sp__law_inner_cell K) := by
  have G__law_mixed := ok__law_mixed (P := P) (w := w) (base := base) T
  have G__law_held := ok__law_held (P := P) (w := w) (base := base) T
  have G__law_cell_at := ok__law_cell_at (P := P) (w := w) (base := base) T
  refine T.F__law_inner_cell.ok sc__law_inner_cell (fun vs H Q E h => ?_) (fun cdv A outer s H vs Q E hr h => ?_)
  · obtain ⟨a, ns, fi, k, j, rfl, _⟩ := h
    rfl
  · obtain ⟨a, ns, fi, k, j, rfl, hS, f0, k0, k1, j0, j1, q⟩ := h
    refine ⟨_, PSs.nox (pss_cons (ps_set (i := 4) sc__law_inner_cell.nd rfl (Or.inl rfl) (pe_call G__law_held (hr.mono (by omega)) (by rfl) T.g__law_held T.F__law_held.kp T.b__law_held .nil pass0 (pa_cons (pe_call G__law_cell_at (hr.mono (by omega)) (by rfl) T.g__law_cell_at T.F__law_cell_at.kp T.b__law_cell_at .nil pass0 (pa_cons (pv 0) (pa_cons (pe_op op_add (pe_op op_add (pe_op op_add (pe_op op_add (pv 1) pe_int) (pe_op op_mul (pv 2) (pv 2))) (pv 2)) (pv 3)) pa_nil))) pa_nil)))
        (pss_cons (ps_if (pt_val (pe_callB call_isi (by rfl) T.m_isinstance (by decide +kernel) (pa_cons (pv 4) (pa_cons (pe_bltn (v := .ty "list") (by rfl) T.m_list (by decide +kernel) rfl) pa_nil)))) (pss_one (ps_ret (pv 4))) pss_nil)
        (pss_one (ps_ret (pe_call G__law_mixed (hr.mono (by omega)) (by rfl) T.g__law_mixed T.F__law_mixed.kp T.b__law_mixed .nil pass0 (pa_cons (pe_op op_add (pe_call G__law_cell_at (hr.mono (by omega)) (by rfl) T.g__law_cell_at T.F__law_cell_at.kp T.b__law_cell_at .nil pass0 (pa_cons (pv 0) (pa_cons (pe_op op_add (pe_op op_add (pv 1) pe_int) (pv 3)) pa_nil))) (pe_op op_mul pe_int (pv 3))) (pa_cons (pv 2) (pa_cons pe_int pa_nil)))))))), ?_⟩
    have kk : 0 ≤ k * k := Int.mul_nonneg k0 k0
    refine ⟨_, rfl, _, rfl, _, _, rfl, rfl, _, rfl, _, rfl, _, _, rfl, rfl, .inl ⟨by omega, by omega⟩, _, _, rfl, rfl, _, rfl, _, _, rfl, rfl, _, rfl, _, _, rfl, rfl, a, ns, _, rfl, by omega, hS, _, rfl, fun H1 v s1 c1 f1 => ?_⟩
    rcases c1 with ⟨c, rfl⟩ | ⟨p, l, t, rfl, hp, hl, ht⟩
    · refine ⟨_, rfl, _, _, _, _, false, rfl, .ty _, .base (.int c), kit_ty (by decide +kernel), false, rfl, ?_⟩
      refine ⟨_, rfl, _, rfl, _, _, rfl, rfl, _, rfl, _, _, rfl, rfl, a, ns, _, rfl, by omega, s1.seq hS, _, rfl, _, _, rfl, rfl, .inl ⟨by decide, by decide⟩, _, _, rfl, rfl, _, rfl, _, k, 1000003, rfl, .inl ⟨_, rfl⟩, k0, by omega, by decide, by decide, fun H2 r k2 _ _ _ => ?_⟩
      exact q _ _ (s1.trans (kp_int k2)) (.inl ⟨_, rfl⟩) fun p e => nomatch e
    · refine ⟨_, rfl, _, _, _, _, true, rfl, .ty _, .base (.lst hp), kit_ty (by decide +kernel), true, rfl, ?_⟩
      exact ⟨_, rfl, q _ _ s1 (.inr ⟨p, l, t, rfl, hp, hl, ht⟩) f1⟩
/-! a whole program -/
structure Pg where
  hs : List (Str × List Str × List Sm)
  ps : List Str
  rs : List (Str × Nat)
  bd : List Sm
def hpD (h : Str × List Str × List Sm) : PyData := .tuple [.str h.1, .tuple (h.2.1.map .str), .tuple (Sm.ds h.2.2)]
def rwD (r : Str × Nat) : PyData := .tuple [.str r.1, .int r.2]
def hdOf (h : Str × List Str × List Sm) : Str × Nat := (h.1, h.2.1.length)
def Pg.d (p : Pg) : PyData := .tuple [.tuple (p.hs.map hpD), .tuple (p.ps.map .str), .tuple (p.rs.map rwD), .tuple (Sm.ds p.bd)]
theorem strs_noL (zs : List Str) : nLs (zs.map PyData.str) = true := noLs_all fun x hx => by
  obtain ⟨z, _, rfl⟩ := List.mem_map.mp hx
  rfl
theorem hpD_noL (h : Str × List Str × List Sm) : nLd (hpD h) = true := by
  simp only [hpD, nLd, nLs, strs_noL, Sm.noLs]
  rfl
theorem hps_noL (hs : List (Str × List Str × List Sm)) : nLs (hs.map hpD) = true := noLs_all fun x hx => by
  obtain ⟨z, _, rfl⟩ := List.mem_map.mp hx
  exact hpD_noL z
theorem rws_noL (rs : List (Str × Nat)) : nLs (rs.map rwD) = true := noLs_all fun x hx => by
  obtain ⟨z, _, rfl⟩ := List.mem_map.mp hx
  rfl
theorem Pg.noL (p : Pg) : nLd p.d = true := by
  simp only [Pg.d, nLd, nLs, strs_noL, Sm.noLs, hps_noL, rws_noL]
  rfl
structure HpWf (hds : List (Str × Nat)) (h : Str × List Str × List Sm) : Prop where
  nm : IsNm h.1
  pl : h.2.1.length ≤ 4
  pn : h.2.1.Nodup
  pk : ∀ x ∈ h.2.1, IsNm x
  bd : ∃ vs : List Str, (∀ x ∈ vs, IsNm x) ∧ vs.length ≤ 12 ∧ (∀ x ∈ h.2.1, x ∈ vs) ∧ Sm.Wfs vs [] hds h.2.2 4
  sz : Sm.sizes h.2.2 ≤ 8
structure Pg.Wf (p : Pg) : Prop where
  hl : p.hs.length ≤ 4
  hn : (p.hs.map (·.1)).Nodup
  hok : ∀ (i : Nat) h, p.hs[i]? = some h → HpWf ((p.hs.take i).map hdOf) h
  pl : p.ps.length ≤ 4
  pn : p.ps.Nodup
  pk : ∀ x ∈ p.ps, IsNm x
  rl : p.rs.length ≤ 3
  rn : (p.rs.map (·.1)).Nodup
  rk : ∀ r ∈ p.rs, IsNm r.1 ∧ 1 ≤ r.2 ∧ r.2 ≤ 8 ∧ r.1 ∉ p.ps
  bd : ∃ vs : List Str, (∀ x ∈ vs, IsNm x) ∧ vs.length ≤ 12 ∧ (∀ x ∈ p.ps, x ∈ vs) ∧ (∀ r ∈ p.rs, r.1 ∉ vs) ∧ Sm.Wfs vs (p.rs.map (·.1)) (p.hs.map hdOf) p.bd 4
  sz : Sm.sizes p.bd ≤ 24
/-- what the drawer of a program has at hand -/
structure PW (H0 H : Hp) (Ln : Addr) (nm : List Str) (vh : V) : Prop where
  s : Same H0 H
  ln : H Ln = some (.lst (nm.map V.str))
  c : CellOk H vh
structure PF (H0 : Hp) (Ln : Addr) (vh : V) : Prop where
  l : H0 Ln = none
  v : ∀ b, cellS vh b → H0 b = none
  n : ¬ cellS vh Ln
section
variable {H0 H H' : Hp} {Ln : Addr} {nm : List Str} {vh : V}
theorem PW.kpS {S : Addr → Prop} (h : PW H0 H Ln nm vh) (k : Kp S H H') (h0 : ∀ b, S b → H0 b = none) (hn : ¬ S Ln) (c' : CellOk H' vh) : PW H0 H' Ln nm vh :=
  ⟨Kp.same h.s k h0, k _ _ h.ln fun z => absurd z hn, c'⟩
theorem PW.kp (h : PW H0 H Ln nm vh) (f : PF H0 Ln vh) (k : Kp (cellS vh) H H') (c' : CellOk H' vh) : PW H0 H' Ln nm vh := h.kpS k f.v f.n c'
theorem PW.same (h : PW H0 H Ln nm vh) (k : Same H H') : PW H0 H' Ln nm vh := ⟨h.s.trans k, k _ _ h.ln, h.c.same k⟩
theorem PW.upd (h : PW H0 H Ln nm vh) {p : Addr} {o : HO} (np : H0 p = none) (nl : p ≠ Ln) (nc : ¬ cellS vh p) : PW H0 (upd H p o) Ln nm vh :=
  ⟨fun b x e => by rw [upd_ne (ne_of_none e np)]; exact h.s b x e, by rw [upd_ne nl.symm]; exact h.ln, h.c.upd nc⟩
theorem PW.new (h : PW H0 H Ln nm vh) {p : Addr} {o : HO} (np : H p = none) : PW H0 (L2.upd H p o) Ln nm vh := h.same (same_new np)
theorem PW.free (h : PW H0 H Ln nm vh) {p : Addr} (np : H p = none) : H0 p = none ∧ p ≠ Ln ∧ ¬ cellS vh p := ⟨h.s.free np, (ne_of_none h.ln np).symm, h.c.fresh np⟩
end
end
section
variable {P : Program} {w : World} {K : PySem.W.Frag} {mg : Str → Option Value} {base : Heap}
def mosts : List Int := [1, 2, 3, 5, 8, 12]
def manys : List Int := [0, 0, 1, 2, 3, 4]
theorem getElem_mem' {α : Type} {l : List α} {i : Nat} {x : α} (h : l[i]? = some x) : x ∈ l := List.mem_of_getElem? h
theorem ints_at {l : List Int} {j : Int} (h0 : 0 ≤ j) (h1 : j < l.length) : ∃ x ∈ l, atI (l.map V.int) j = some (.int x) := by
  obtain ⟨x, hx, e⟩ := at_list (ns := l.map V.int) h0 (by rw [List.length_map]; exact h1)
  obtain ⟨z, hz, rfl⟩ := List.mem_map.mp hx
  exact ⟨z, hz, e⟩
theorem cutV_mid (xs : List V) {i j : Nat} (h1 : i ≤ j) (h2 : j ≤ xs.length) : cutV xs (some (i : Int)) (some (j : Int)) = (xs.drop i).take (j - i) := by
  unfold cutV
  rw [HT.sIx_nat, HT.sIx_nat, Nat.min_eq_left h2, Nat.min_eq_left (by omega)]
theorem CellsOk.fresh {H : Hp} {pc : Addr} {cs : List V} (h : CellsOk H pc cs) {p : Addr} (np : H p = none) : ¬ cellsS pc cs p := by
  rintro (e | ⟨x, hx, e⟩)
  · rw [e, h.at_] at np
    cases np
  · exact (h.ok x hx).fresh np e
/-- the helpers that were drawn -/
structure HsOk (nm : List Str) (hs : List (Str × List Str × List Sm)) : Prop where
  wf : ∀ (j : Nat) h, hs[j]? = some h → HpWf ((hs.take j).map hdOf) h
  nm : ∀ (j : Nat) h, hs[j]? = some h → nm[15 - j]? = some h.1 ∨ nm[j]? = some h.1
def hdD (q : Str × Nat) : PyData := .tuple [.str q.1, .int q.2]
theorem hds_noL (l : List (Str × Nat)) : nLs (l.map hdD) = true := heads_noL l
theorem hsOk_snoc {nm : List Str} {hs : List (Str × List Str × List Sm)} {h : Str × List Str × List Sm} (o : HsOk nm hs) (w : HpWf (hs.map hdOf) h) (e : nm[15 - hs.length]? = some h.1 ∨ nm[hs.length]? = some h.1) : HsOk nm (hs ++ [h]) := by
  have key : ∀ (j : Nat) x, (hs ++ [h])[j]? = some x → (j < hs.length ∧ hs[j]? = some x) ∨ (j = hs.length ∧ x = h) := by
    intro j x hx
    rcases Nat.lt_trichotomy j hs.length with hj | hj | hj
    · rw [List.getElem?_append_left hj] at hx
      exact .inl ⟨hj, hx⟩
    · subst hj
      rw [List.getElem?_append_right (Nat.le_refl _), Nat.sub_self] at hx
      exact .inr ⟨rfl, (Option.some.inj hx).symm⟩
    · rw [List.getElem?_eq_none (by rw [List.length_append]; simp; omega)] at hx
      cases hx
  refine ⟨fun j x hx => ?_, fun j x hx => ?_⟩
  · rcases key j x hx with ⟨hj, hx⟩ | ⟨rfl, rfl⟩
    · rw [List.take_append_of_le_length (by omega)]
      exact o.wf j x hx
    · rw [List.take_append_of_le_length (Nat.le_refl _), List.take_length]
      exact w
  · rcases key j x hx with ⟨hj, hx⟩ | ⟨rfl, rfl⟩
    · exact o.nm j x hx
    · exact e
structure LWg (K : PySem.W.Frag) (H0 H : Hp) (Ln : Addr) (nm : List Str) (vh : V) (LR : Addr) (xr : List V) (rs : List (Str × Nat)) (LH LD : Addr) (xh xd : List V) (hs : List (Str × List Str × List Sm)) : Prop where
  w : PW H0 H Ln nm vh
  eR : H LR = some (.lst xr)
  dR : DpAll K H xr (rs.map rwD)
  eH : H LH = some (.lst xh)
  dH : DpAll K H xh (hs.map hpD)
  eD : H LD = some (.lst xd)
  dD : DpAll K H xd ((hs.map hdOf).map hdD)
theorem LWg.kpS {H0 H H' : Hp} {Ln : Addr} {nm : List Str} {vh : V} {LR : Addr} {xr : List V} {rs : List (Str × Nat)} {LH LD : Addr} {xh xd : List V} {hs : List (Str × List Str × List Sm)} (h : LWg K H0 H Ln nm vh LR xr rs LH LD xh xd hs) {S : Addr → Prop} (k : Kp S H H')
    (h0 : ∀ b, S b → H0 b = none) (n1 : ¬ S Ln) (n2 : ¬ S LR) (n3 : ¬ S LH) (n4 : ¬ S LD) (c' : CellOk H' vh) : LWg K H0 H' Ln nm vh LR xr rs LH LD xh xd hs :=
  ⟨h.w.kpS k h0 n1 c', k _ _ h.eR fun z => absurd z n2, dpAll_kp k _ _ (rws_noL rs) h.dR, k _ _ h.eH fun z => absurd z n3, dpAll_kp k _ _ (hps_noL hs) h.dH, k _ _ h.eD fun z => absurd z n4, dpAll_kp k _ _ (hds_noL _) h.dD⟩
theorem LWg.same {H0 H H' : Hp} {Ln : Addr} {nm : List Str} {vh : V} {LR : Addr} {xr : List V} {rs : List (Str × Nat)} {LH LD : Addr} {xh xd : List V} {hs : List (Str × List Str × List Sm)} (h : LWg K H0 H Ln nm vh LR xr rs LH LD xh xd hs) (k : Same H H') : LWg K H0 H' Ln nm vh LR xr rs LH LD xh xd hs :=
  h.kpS (S := fun _ => False) (Kp.of_same k) (fun _ z => z.elim) id id id id (h.w.c.same k)
theorem LWg.new {H0 H : Hp} {Ln : Addr} {nm : List Str} {vh : V} {LR : Addr} {xr : List V} {rs : List (Str × Nat)} {LH LD : Addr} {xh xd : List V} {hs : List (Str × List Str × List Sm)} (h : LWg K H0 H Ln nm vh LR xr rs LH LD xh xd hs) {p : Addr} {o : HO} (np : H p = none) : LWg K H0 (upd H p o) Ln nm vh LR xr rs LH LD xh xd hs := h.same (same_new np)
/-- addresses that stand apart -/
structure LF (H0 : Hp) (Ln : Addr) (vh : V) (LR LH LD : Addr) : Prop where
  f : PF H0 Ln vh
  rc : ¬ cellS vh LR
  hc : ¬ cellS vh LH
  dc : ¬ cellS vh LD
  h0 : H0 LH = none
  d0 : H0 LD = none
  hl : LH ≠ Ln
  dl : LD ≠ Ln
  hr : LH ≠ LR
  dr : LD ≠ LR
  hd : LH ≠ LD
theorem LWg.kp {H0 H H' : Hp} {Ln : Addr} {nm : List Str} {vh : V} {LR : Addr} {xr : List V} {rs : List (Str × Nat)} {LH LD : Addr} {xh xd : List V} {hs : List (Str × List Str × List Sm)} (h : LWg K H0 H Ln nm vh LR xr rs LH LD xh xd hs) (f : LF H0 Ln vh LR LH LD) (k : Kp (cellS vh) H H') (c' : CellOk H' vh) : LWg K H0 H' Ln nm vh LR xr rs LH LD xh xd hs :=
  h.kpS k f.f.v f.f.n f.rc f.hc f.dc c'
theorem nm_strOk {z : Str} (h : IsNm z) : PyData.strOk z = true := by
  unfold PyData.strOk
  rw [← Array.all_toList]
  refine List.all_eq_true.mpr fun c hc => decide_eq_true ?_
  have := (h.let_ c hc).2
  omega
theorem hs_nodup {nm : List Str} {hs : List (Str × List Str × List Sm)} (hN : Nms nm) (o : HsOk nm hs) (hl : hs.length ≤ 4) : (hs.map (·.1)).Nodup := by
  have nl := hN.len
  have inj : ∀ (i j : Nat) z, nm[i]? = some z → nm[j]? = some z → i = j := by
    intro i j z hi hj
    obtain ⟨li, ei⟩ := List.getElem?_eq_some_iff.mp hi
    obtain ⟨lj, ej⟩ := List.getElem?_eq_some_iff.mp hj
    exact (List.getElem_inj hN.nd).mp (ei.trans ej.symm)
  refine List.pairwise_iff_getElem.mpr fun i j hi hj hij e => ?_
  rw [List.length_map] at hi hj
  rw [List.getElem_map, List.getElem_map] at e
  have e2 : hs[i].1 = hs[j].1 := e
  have h1 := o.nm i _ (List.getElem?_eq_getElem (by omega : i < hs.length))
  have h2 := o.nm j _ (List.getElem?_eq_getElem hj)
  rw [e2] at h1
  rcases h1 with h1 | h1 <;> rcases h2 with h2 | h2 <;> have := inj _ _ _ h1 h2 <;> omega
def sp__law_program (K : PySem.W.Frag) : Sp := fun vs H Q _ => ∃ (a : Addr) (ns : List Int) (fi : Int), vs = [.ref a, .int fi] ∧ SqL K H a (ns.map V.int) ∧ 0 ≤ fi ∧ fi ≤ 1000 ∧ ∀ H' r (p : Pg), Same H H' → Dp K H' r p.d → p.Wf → Q r H'
theorem ok__law_program (T : Top K mg) : FnOk P w K mg base CX0 21 (He.ga K "_law_program") T.fd__law_program ["_law_script", "_law_first"] (sp__law_program K) := by
  have G__law_mixed := ok__law_mixed (P := P) (w := w) (base := base) T
  have G__law_held := ok__law_held (P := P) (w := w) (base := base) T
  have G__law_cell_at := ok__law_cell_at (P := P) (w := w) (base := base) T
  have G__law_names := ok__law_names (P := P) (w := w) (base := base) T
  have G__law_inner_cell := ok__law_inner_cell (P := P) (w := w) (base := base) T
  have G__law_body := okg_body (P := P) (w := w) (base := base) T 4
  refine T.F__law_program.ok sc__law_program (fun vs H Q E h => ?_) (fun cdv A outer s H vs Q E hr h => ?_)
  · obtain ⟨a, ns, fi, rfl, _⟩ := h
    rfl
  · obtain ⟨a, ns, fi, rfl, hS, f0, f1, q⟩ := h
    refine ⟨_, PSs.nox (pss_cons (ps_set (i := 2) sc__law_program.nd rfl (Or.inl rfl) (pe_call G__law_cell_at (hr.mono (by omega)) (by rfl) T.g__law_cell_at T.F__law_cell_at.kp T.b__law_cell_at .nil pass0 (pa_cons (pv 0) (pa_cons (pv 1) pa_nil))))
        (pss_cons (ps_set (i := 3) sc__law_program.nd rfl (Or.inr rfl) (pe_call G__law_names (hr.mono (by omega)) (by rfl) T.g__law_names T.F__law_names.kp T.b__law_names .nil pass0 (pa_cons (pe_op op_fdivW (pv 2) pe_int) pa_nil)))
        (pss_cons (ps_set (i := 4) sc__law_program.nd rfl (Or.inr rfl) (pe_call G__law_held (hr.mono (by omega)) (by rfl) T.g__law_held T.F__law_held.kp T.b__law_held .nil pass0 (pa_cons (pe_op op_fdivW (pv 2) (pe_op op_pow pe_int pe_int)) pa_nil)))
        (pss_cons (ps_if (pt_not (pt_val (pe_callB call_isi (by rfl) T.m_isinstance (by decide +kernel) (pa_cons (pv 4) (pa_cons (pe_bltn (v := .ty "list") (by rfl) T.m_list (by decide +kernel) rfl) pa_nil))))) (pss_one (ps_set (i := 4) sc__law_program.nd rfl (Or.inr rfl) (pv 2))) pss_nil)
        (pss_cons (ps_set (i := 5) sc__law_program.nd rfl (Or.inl rfl) (pe_ix ix_list (pe_lst (pa_cons pe_int (pa_cons pe_int (pa_cons pe_int (pa_cons pe_int (pa_cons pe_int (pa_cons pe_int pa_nil))))))) (pe_call G__law_mixed (hr.mono (by omega)) (by rfl) T.g__law_mixed T.F__law_mixed.kp T.b__law_mixed .nil pass0 (pa_cons (pv 4) (pa_cons pe_int (pa_cons pe_int pa_nil)))) (fun _ _ => rfl)))
        (pss_cons (ps_setLc (i := 6) (own := [("_law_k", 9)]) (by rfl) sc__law_program.nd rfl rfl (sw_true rfl rfl rfl (by decide +kernel)) (pi_range1 (by rfl) T.m_range (pa_cons pe_int pa_nil)) (blkOk_by (own := [("_law_k", 9)]) (N := N__law_program) (sc := defScope s__law_program) (by decide +kernel)) (fun _ _ _ _ _ => (pg_name (i := 9) sc__law_program.nd rfl (Or.inl rfl))) (fun _ _ _ _ _ => pts_nil) (fun _ _ _ _ _ => (pe_tup (pa_cons (pe_ix (ix_listK (K := K) rfl) (pv 3) (pe_op op_add pe_int (pv 9)) (fun _ _ => rfl)) (pa_cons (pe_ix (ix_listK (K := K) rfl) (pe_lst (pa_cons pe_int (pa_cons pe_int (pa_cons pe_int (pa_cons (pe_op op_add pe_int (pe_call G__law_mixed (hr.mono (by omega)) (by rfl) T.g__law_mixed T.F__law_mixed.kp T.b__law_mixed .nil pass0 (pa_cons (pv 4) (pa_cons (pv 9) (pa_cons pe_int pa_nil))))) pa_nil))))) (pe_call G__law_mixed (hr.mono (by omega)) (by rfl) T.g__law_mixed T.F__law_mixed.kp T.b__law_mixed .nil pass0 (pa_cons (pv 4) (pa_cons (pe_op op_add pe_int (pv 9)) (pa_cons pe_int pa_nil)))) (fun _ _ => rfl)) pa_nil)))))
        (pss_cons (ps_set (i := 6) sc__law_program.nd rfl (Or.inl rfl) (pe_slice sl_list (pv 6) po_none (po_some (pe_call G__law_mixed (hr.mono (by omega)) (by rfl) T.g__law_mixed T.F__law_mixed.kp T.b__law_mixed .nil pass0 (pa_cons (pv 4) (pa_cons pe_int (pa_cons pe_int pa_nil)))))))
        (pss_cons (ps_set (i := 7) sc__law_program.nd rfl (Or.inl rfl) (pe_lst pa_nil))
        (pss_cons (ps_set (i := 8) sc__law_program.nd rfl (Or.inl rfl) (pe_lst pa_nil))
        (pss_cons (ps_for PassesOwn.never (by rfl) (pi_range1 (by rfl) T.m_range (pa_cons (pe_ix ix_list (pe_lst (pa_cons pe_int (pa_cons pe_int (pa_cons pe_int (pa_cons pe_int (pa_cons pe_int (pa_cons pe_int pa_nil))))))) (pe_call G__law_mixed (hr.mono (by omega)) (by rfl) T.g__law_mixed T.F__law_mixed.kp T.b__law_mixed .nil pass0 (pa_cons (pv 4) (pa_cons pe_int (pa_cons pe_int pa_nil)))) (fun _ _ => rfl)) pa_nil)) (pg_name (i := 9) sc__law_program.nd rfl (Or.inr rfl)) (pss_cons (ps_set (i := 10) sc__law_program.nd rfl (Or.inl rfl) (pe_ifExp (pt_val (pe_callB call_isi (by rfl) T.m_isinstance (by decide +kernel) (pa_cons (pv 4) (pa_cons (pe_bltn (v := .ty "list") (by rfl) T.m_list (by decide +kernel) rfl) pa_nil)))) (pv 4) (pe_op op_add (pv 2) (pv 9))))
        (pss_cons (ps_set (i := 11) sc__law_program.nd rfl (Or.inr rfl) (pe_callTy call_tuple_of (by rfl) T.m_tuple (by decide +kernel) (pa_cons (pe_slice sl_list (pv 3) (po_some (pv 9)) (po_some (pe_op op_add (pv 9) (pe_call G__law_mixed (hr.mono (by omega)) (by rfl) T.g__law_mixed T.F__law_mixed.kp T.b__law_mixed .nil pass0 (pa_cons (pv 10) (pa_cons pe_int (pa_cons pe_int pa_nil))))))) pa_nil)))
        (pss_cons (ps_setLc (i := 12) (own := [("_law_j", 16)]) (by rfl) sc__law_program.nd rfl rfl (sw_true rfl rfl rfl (by decide +kernel)) (pi_range1 (by rfl) T.m_range (pa_cons (pe_op op_add pe_int (pe_op op_mul pe_int (pv 9))) pa_nil)) (blkOk_by (own := [("_law_j", 16)]) (N := N__law_program) (sc := defScope s__law_program) (by decide +kernel)) (fun _ _ _ _ _ => (pg_name (i := 16) sc__law_program.nd rfl (Or.inl rfl))) (fun _ _ _ _ _ => pts_nil) (fun _ _ _ _ _ => (pe_call G__law_inner_cell (hr.mono (by omega)) (by rfl) T.g__law_inner_cell T.F__law_inner_cell.kp T.b__law_inner_cell .nil pass0 (pa_cons (pv 0) (pa_cons (pv 1) (pa_cons (pv 9) (pa_cons (pv 16) pa_nil)))))))
        (pss_cons (ps_set (i := 13) sc__law_program.nd rfl (Or.inl rfl) (pe_op op_cat (pe_callTy call_list_of (by rfl) T.m_list (by decide +kernel) (pa_cons (pv 11) pa_nil)) (pe_slice sl_list (pe_lc (own := [("_law_name", 14)]) (by rfl) sc__law_program.nd (pi_list (pe_slice sl_list (pv 3) po_none (po_some (pv 5)))) (blkOk_by (own := [("_law_name", 14)]) (N := N__law_program) (sc := defScope s__law_program) (by decide +kernel)) (fun _ _ _ _ _ => (pg_name (i := 14) sc__law_program.nd rfl (Or.inl rfl))) (fun _ _ _ _ _ => (pts_one (pt_cmpR (op_notIn_seqK (K := K) rfl) (pv 14) (pv 11) (by rfl)))) (fun _ _ _ _ _ => (pv 14))) po_none (po_some (pe_op op_sub pe_int (pe_callB call_len_seq (by rfl) T.m_len (by decide +kernel) (pa_cons (pv 11) pa_nil)))))))
        (pss_cons (ps_set (i := 14) sc__law_program.nd rfl (Or.inl rfl) (pe_ix ix_list (pv 3) (pe_ix ix_list (pe_lst (pa_cons (pe_op op_sub pe_int (pv 9)) (pa_cons (pv 9) pa_nil))) (pe_call G__law_mixed (hr.mono (by omega)) (by rfl) T.g__law_mixed T.F__law_mixed.kp T.b__law_mixed .nil pass0 (pa_cons (pv 4) (pa_cons (pv 9) (pa_cons pe_int pa_nil)))) (fun _ _ => rfl)) (fun _ _ => rfl)))
        (pss_cons (ps_expr (pe_bm PySem.F.plainAttrs_list PySem.F.slot_list_append PySem.F.type_list_append mt_append (pv 7) (pa_cons (pe_tup (pa_cons (pv 14) (pa_cons (pv 11) (pa_cons (pe_call G__law_body (hr.mono (by omega)) (by rfl) T.g__law_body T.F__law_body.kp T.b__law_body .nil pass0 (pa_cons (pv 12) (pa_cons pe_int (pa_cons (pe_tup (pa_cons (pv 13) (pa_cons (pe_lst pa_nil) (pa_cons (pe_callTy call_list_of (by rfl) T.m_list (by decide +kernel) (pa_cons (pv 8) pa_nil)) pa_nil)))) pa_nil)))) pa_nil)))) pa_nil)))
        (pss_one (ps_expr (pe_bm PySem.F.plainAttrs_list PySem.F.slot_list_append PySem.F.type_list_append mt_append (pv 8) (pa_cons (pe_tup (pa_cons (pv 14) (pa_cons (pe_callB call_len_seq (by rfl) T.m_len (by decide +kernel) (pa_cons (pv 11) pa_nil)) pa_nil))) pa_nil)))))))))))
        (pss_cons (ps_set (i := 11) sc__law_program.nd rfl (Or.inr rfl) (pe_callTy call_tuple_of (by rfl) T.m_tuple (by decide +kernel) (pa_cons (pe_slice sl_list (pv 3) po_none (po_some (pe_callB (call_min2 rfl) (by rfl) T.m_min (by decide +kernel) (pa_cons (pv 5) (pa_cons (pe_call G__law_mixed (hr.mono (by omega)) (by rfl) T.g__law_mixed T.F__law_mixed.kp T.b__law_mixed .nil pass0 (pa_cons (pv 4) (pa_cons pe_int (pa_cons pe_int pa_nil)))) pa_nil))))) pa_nil)))
        (pss_cons (ps_set (i := 15) sc__law_program.nd rfl (Or.inl rfl) (pe_tup (pa_cons (pe_slice sl_list (pv 3) po_none (po_some (pv 5))) (pa_cons (pe_lc (own := [("_law_row", 17)]) (by rfl) sc__law_program.nd (pi_list (pv 6)) (blkOk_by (own := [("_law_row", 17)]) (N := N__law_program) (sc := defScope s__law_program) (by decide +kernel)) (fun _ _ _ _ _ => (pg_name (i := 17) sc__law_program.nd rfl (Or.inl rfl))) (fun _ _ _ _ _ => pts_nil) (fun _ _ _ _ _ => (pe_ix (ix_tupK (K := K) rfl) (pv 17) pe_int (fun _ _ => rfl)))) (pa_cons (pv 8) pa_nil)))))
        (pss_cons (ps_setLc (i := 12) (own := [("_law_cell", 2)]) (by rfl) sc__law_program.nd rfl rfl (sw_true rfl rfl rfl (by decide +kernel)) (pi_list (pe_slice sl_list (pv 0) (po_some (pe_op op_add (pv 1) pe_int)) (po_some (pe_op op_add (pv 1) pe_int)))) (blkOk_by (own := [("_law_cell", 2)]) (N := N__law_program) (sc := defScope s__law_program) (by decide +kernel)) (fun _ _ _ _ _ => (pg_name (i := 2) sc__law_program.nd rfl (Or.inl rfl))) (fun _ _ _ _ _ => pts_nil) (fun _ _ _ _ _ => (pe_call G__law_held (hr.mono (by omega)) (by rfl) T.g__law_held T.F__law_held.kp T.b__law_held .nil pass0 (pa_cons (pv 2) pa_nil))))
        (pss_one (ps_ret (pe_tup (pa_cons (pe_callTy call_tuple_of (by rfl) T.m_tuple (by decide +kernel) (pa_cons (pv 7) pa_nil)) (pa_cons (pv 11) (pa_cons (pe_callTy call_tuple_of (by rfl) T.m_tuple (by decide +kernel) (pa_cons (pv 6) pa_nil)) (pa_cons (pe_call G__law_body (hr.mono (by omega)) (by rfl) T.g__law_body T.F__law_body.kp T.b__law_body .nil pass0 (pa_cons (pv 12) (pa_cons pe_int (pa_cons (pv 15) pa_nil)))) pa_nil)))))))))))))))))))), ?_⟩
    refine ⟨_, rfl, _, rfl, a, ns, fi, rfl, f0, hS, ?_⟩
    generalize cellA ns fi = c
    refine ⟨_, rfl, _, _, rfl, rfl, wide_div (b := 64) (by decide) (by decide) (by decide) (by decide), _, rfl, fun H1 Ln nm s1 nLn eLn hN => ?_⟩
    refine ⟨_, rfl, _, _, rfl, rfl, ⟨by decide, by decide, by decide⟩, _, _, rfl, rfl, wide_div (b := 80) (by decide) (by decide) (by decide) (by decide), _, rfl, fun H2 vh0 s2 c2 f2 => ?_⟩
    dsimp only [gName]
    refine ifs_by (fun σ' H' => H' = H2 ∧ ∃ vh, CellOk H2 vh ∧ (∀ p, vh = .ref p → H1 p = none) ∧ σ' = [some (.ref a), some (.int fi), some (.int c), some (.ref Ln), some vh, none, none, none, none, none, none, none, none, none, none, none, none, none]) ?_ ?_
    rotate_left
    · intro N hN'
      rcases c2 with ⟨x, rfl⟩ | ⟨p, l, t, rfl, hp, hl, ht⟩
      · refine ⟨_, rfl, _, _, _, _, false, rfl, .ty _, .base (.int x), kit_ty (by decide +kernel), false, rfl, ?_⟩
        exact ⟨_, rfl, hN' _ _ ⟨rfl, .int c, .inl ⟨_, rfl⟩, (fun p e => nomatch e), rfl⟩⟩
      · refine ⟨_, rfl, _, _, _, _, true, rfl, .ty _, .base (.lst hp), kit_ty (by decide +kernel), true, rfl, ?_⟩
        exact hN' _ _ ⟨rfl, .ref p, .inr ⟨p, l, t, rfl, hp, hl, ht⟩, f2, rfl⟩
    rintro σ' H3 ⟨rfl, vh, c3, f3, rfl⟩
    have pf : PF H Ln vh := ⟨nLn, fun b e => s1.free (f3 b e), fun e => by
      have := f3 Ln e
      rw [eLn] at this
      cases this⟩
    have w3 : PW H H3 Ln nm vh := ⟨s1.trans s2, s2 _ _ eLn, c3⟩
    clear s1 s2 c2 f2 c3 f3 eLn nLn
    have nl := hN.len
    -- most
    refine ⟨(by show 6 ≤ sizeLine; rw [sizeLine_eq]; decide), fun L1 n1 => ?_⟩
    have w4 := w3.new (o := .lst (mosts.map V.int)) n1
    have nc1 := (w3.free n1).2.2
    refine ⟨_, rfl, vh, 4, 6, rfl, w4.c, by decide, by decide, by decide, by decide, fun H5 j k5 c5 j0 j1 => ?_⟩
    have w5 := w4.kp pf k5 c5
    obtain ⟨m, hm, em⟩ := ints_at (l := mosts) j0 j1
    have m1 : 1 ≤ m ∧ m ≤ 12 := by
      have : ∀ x ∈ mosts, 1 ≤ x ∧ x ≤ 12 := by decide
      exact this m hm
    refine ⟨L1, _, j, _, rfl, rfl, .of (k5 _ _ upd_same fun z => absurd z nc1), em, ?_⟩
    clear w3 w4 hm em
    -- rows
    refine ⟨3, rfl, by decide, by decide, fun D nD => ?_⟩
    obtain ⟨nD0, nDL, nDc⟩ := w5.free nD
    refine lc_range (lo := 0) (n := 3) (fun i H' => PW H H' Ln nm vh ∧ ∃ (xs : List V) (rs : List (Str × Nat)), H' D = some (.lst xs) ∧ DpAll K H' xs (rs.map rwD) ∧ rs.map (·.1) = (nm.drop 12).take i ∧ ∀ r ∈ rs, 1 ≤ r.2 ∧ r.2 ≤ 8) ?_ ?_ ?_
    · exact ⟨w5.new nD, [], [], upd_same, .nil, rfl, fun r hr => nomatch hr⟩
    · rintro i H6 hi ⟨w6, xs, rs, e6, d6, r6, b6⟩
      have hi2 : 12 + i < nm.length := by omega
      have eN : atI (nm.map V.str) (12 + (0 + (i : Int))) = some (.str nm[12 + i]) := by
        rw [show (12 + (0 + (i : Int))) = ((12 + i : Nat) : Int) by omega]
        exact atI_nat (by rw [List.getElem?_map, List.getElem?_eq_getElem hi2]; rfl)
      refine ⟨rfl, _, rfl, _, rfl, _, _, rfl, rfl, Ln, _, _, _, rfl, rfl, .of w6.ln, eN, ?_⟩
      refine ⟨_, rfl, _, rfl, vh, 0 + (i : Int), 8, rfl, w6.c, by omega, by omega, by decide, by decide, fun H7 r7 k7 c7 r70 r71 => ?_⟩
      have w7 := w6.kp pf k7 c7
      refine ⟨_, _, rfl, rfl, (by show 4 ≤ sizeLine; rw [sizeLine_eq]; decide), fun L2 n2 => ?_⟩
      have w8 := w7.new (o := .lst (([1, 2, 8, 1 + r7] : List Int).map V.int)) n2
      have nc2 := (w7.free n2).2.2
      refine ⟨_, rfl, _, rfl, _, _, rfl, rfl, vh, 5 + (0 + (i : Int)), 4, rfl, w8.c, by omega, by omega, by decide, by decide, fun H9 j9 k9 c9 j90 j91 => ?_⟩
      have w9 := w8.kp pf k9 c9
      obtain ⟨sz, hsz, esz⟩ := ints_at (l := [1, 2, 8, 1 + r7]) j90 j91
      have sz1 : 1 ≤ sz ∧ sz ≤ 8 := by
        simp only [List.mem_cons, List.not_mem_nil, or_false] at hsz
        omega
      refine ⟨L2, _, j9, _, rfl, rfl, .of (k9 _ _ upd_same fun z => absurd z nc2), esz, ?_⟩
      refine ⟨(by show 2 ≤ sizeLine; rw [sizeLine_eq]; decide), fun p np => ?_⟩
      have w10 := w9.new (o := .tup [.str nm[12 + i], .int sz]) np
      have e10 : (upd H9 p (.tup [.str nm[12 + i], .int sz])) D = some (.lst xs) := by
        rw [upd_ne (fun z => ?_)]
        · exact k9 _ _ (same_new n2 _ _ (k7 _ _ e6 fun z => absurd z nDc)) fun z => absurd z nDc
        · have : H9 D = some (.lst xs) := k9 _ _ (same_new n2 _ _ (k7 _ _ e6 fun z => absurd z nDc)) fun z => absurd z nDc
          rw [z, np] at this
          cases this
      have d10 : DpAll K (upd H9 p (.tup [.str nm[12 + i], .int sz])) xs (rs.map rwD) := dpAll_same (dpAll_kp k9 _ _ (rws_noL rs) (dpAll_same (dpAll_kp k7 _ _ (rws_noL rs) d6) (same_new n2) (rws_noL rs))) (same_new np) (rws_noL rs)
      obtain ⟨szn, rfl⟩ := Int.eq_ofNat_of_zero_le (show 0 ≤ sz by omega)
      have dt : Dp K (upd H9 p (.tup [.str nm[12 + i], .int szn])) (.ref p) (rwD (nm[12 + i], szn)) := dp_new np (.cons (.str _) (.cons (.int _) .nil)) rfl
      generalize upd H9 p (.tup [.str nm[12 + i], .int szn]) = H10 at w10 e10 d10 dt
      have xl : xs.length ≤ 3 := by
        rw [dpAll_len d10, List.length_map]
        have := congrArg List.length r6
        rw [List.length_map, List.length_take] at this
        omega
      have ku : Kp (fun y => y = D) H10 (upd H10 D (.lst (xs ++ [.ref p]))) := Kp.upd e10 trivial rfl
      refine ⟨xs, e10, by rw [sizeLine_eq]; omega, w10.upd nD0 nDL nDc, xs ++ [.ref p], rs ++ [(nm[12 + i], szn)], upd_same, ?_, ?_, ?_⟩
      · rw [List.map_append]
        exact dpAll_app (dpAll_kp ku _ _ (rws_noL rs) d10) (.cons (dp_kp ku _ _ rfl dt) .nil)
      · rw [List.map_append, r6, List.take_add_one, List.getElem?_drop, List.getElem?_eq_getElem hi2]
        rfl
      · intro r hr
        rcases List.mem_append.mp hr with hr | hr
        · exact b6 r hr
        · rw [List.mem_singleton.mp hr]
          exact ⟨by show 1 ≤ szn; omega, by show szn ≤ 8; omega⟩
    rintro H6 ⟨w6, xs, rs, e6, d6, r6, b6⟩
    -- rows[:..]
    refine ⟨_, rfl, _, rfl, vh, 8, 4, rfl, w6.c, by decide, by decide, by decide, by decide, fun H7 j7 k7 c7 j70 j71 => ?_⟩
    have w7 := w6.kp pf k7 c7
    obtain ⟨j7, rfl⟩ := Int.eq_ofNat_of_zero_le j70
    refine ⟨_, rfl, D, _, rfl, .of (k7 _ _ e6 fun z => absurd z nDc), fun LR nLR => ?_⟩
    rw [cutV_to]
    have w8 := w7.new (o := .lst (xs.take j7)) nLR
    have dR : DpAll K (upd H7 LR (.lst (xs.take j7))) (xs.take j7) ((rs.take j7).map rwD) := by
      rw [List.map_take]
      exact dpAll_take _ (dpAll_same (dpAll_kp k7 _ _ (rws_noL rs) d6) (same_new nLR) (rws_noL rs))
    have eR : upd H7 LR (.lst (xs.take j7)) LR = some (.lst (xs.take j7)) := upd_same
    obtain ⟨rs', hrs'⟩ : ∃ rs', rs' = rs.take j7 := ⟨_, rfl⟩
    have rn : rs'.map (·.1) = (nm.drop 12).take (min j7 3) := by
      rw [hrs', List.map_take, r6, List.take_take]
    have rb' : ∀ r ∈ rs', 1 ≤ r.2 ∧ r.2 ≤ 8 := fun r hr => b6 r (List.mem_of_mem_take (by rw [← hrs']; exact hr))
    rw [← hrs'] at dR
    obtain ⟨nR0, nRL, nRc⟩ := w7.free nLR
    generalize xs.take j7 = xr at dR eR w8 ⊢
    generalize upd H7 LR (.lst xr) = H8 at w8 dR eR
    clear w6 w7 d6 e6 r6 b6 hrs'
    -- helpers, heads
    refine ⟨Nat.zero_le _, fun LH nLH => ?_⟩
    obtain ⟨nH0, nHL, nHc⟩ := w8.free nLH
    have sH := same_new (o := .lst []) nLH
    refine ⟨Nat.zero_le _, fun LD nLD => ?_⟩
    have w9 := w8.new (o := .lst []) nLH
    obtain ⟨nD0', nDL', nDc'⟩ := w9.free nLD
    have sD := same_new (o := .lst []) nLD
    have lf : LF H Ln vh LR LH LD := ⟨pf, nRc, nHc, nDc', nH0, nD0', nHL, nDL', (ne_of_none eR nLH).symm, (ne_of_none (sH _ _ eR) nLD).symm, ne_of_none (upd_same (H := H8) (a := LH) (o := .lst [])) nLD⟩
    have l10 : LWg K H (upd (upd H8 LH (.lst [])) LD (.lst [])) Ln nm vh LR xr rs' LH LD [] [] [] := ⟨w9.new nLD, sD _ _ (sH _ _ eR), dpAll_same (dpAll_same dR sH (rws_noL _)) sD (rws_noL _), sD _ _ upd_same, .nil, upd_same, .nil⟩
    generalize upd (upd H8 LH (.lst [])) LD (.lst []) = H10 at l10
    clear w8 w9 dR eR sH sD nLH nLD
    refine ⟨(by show 6 ≤ sizeLine; rw [sizeLine_eq]; decide), fun L3 n3 => ?_⟩
    have l11 := l10.new (o := .lst (manys.map V.int)) n3
    have nc3 := (l10.w.free n3).2.2
    refine ⟨_, rfl, vh, 9, 6, rfl, l11.w.c, by decide, by decide, by decide, by decide, fun H12 j12 k12 c12 j120 j121 => ?_⟩
    have l12 := l11.kp lf k12 c12
    obtain ⟨many, hmany, emany⟩ := ints_at (l := manys) j120 j121
    have many1 : 0 ≤ many ∧ many ≤ 4 := by
      have : ∀ x ∈ manys, 0 ≤ x ∧ x ≤ 4 := by decide
      exact this many hmany
    refine ⟨L3, _, j12, _, rfl, rfl, .of (k12 _ _ upd_same fun z => absurd z nc3), emany, many, rfl, by omega, by omega, ?_⟩
    clear l10 l11 hmany emany
    refine for_range (lo := 0) (n := many.toNat) (fun i σ' H' => ∃ xh xd hs x9 x10 x11 x12 x13 x14 x16 x17, LWg K H H' Ln nm vh LR xr rs' LH LD xh xd hs ∧ hs.length = i ∧ HsOk nm hs ∧
      σ' = [some (.ref a), some (.int fi), some (.int c), some (.ref Ln), some vh, some (.int m), some (.ref LR), some (.ref LH), some (.ref LD), x9, x10, x11, x12, x13, x14, none, x16, x17]) ?_ ?_ ?_
    · exact ⟨[], [], [], none, none, none, none, none, none, none, none, l12, rfl, ⟨fun j h e => by simp at e, fun j h e => by simp at e⟩, rfl⟩
    · rintro i σ' H13 hi ⟨xh, xd, hs, x9, x10, x11, x12, x13, x14, x16, x17, l13, hl13, ok13, rfl⟩
      have hi4 : i < 4 := by omega
      -- own
      have own : ∃ vo, (vo = vh ∨ ∃ x, vo = .int x) ∧ ∀ Q' : VK, Q' vo H13 → (fun σ H Q => (tIf (tB (tCB (rIsi K) (tCons (tVar 4) (tCons (tC (.ty "list")) tNil)))) (tVar 4) (tOp (rI0 fun i j => V.int (i + j)) (tVar 2) (tVar 9))) σ H Q) [some (.ref a), some (.int fi), some (.int c), some (.ref Ln), some vh, some (.int m), some (.ref LR), some (.ref LH), some (.ref LD), some (.int (0 + (i : Int))), x10, x11, x12, x13, x14, none, x16, x17] H13 Q' := by
        rcases l13.w.c with ⟨x, rfl⟩ | ⟨p, l, t, rfl, hp, hl, ht⟩
        · exact ⟨.int (c + (0 + (i : Int))), .inr ⟨_, rfl⟩, fun Q' h => ⟨_, rfl, _, _, _, _, false, rfl, .ty _, .base (.int x), kit_ty (by decide +kernel), false, rfl, _, rfl, _, rfl, _, _, rfl, rfl, h⟩⟩
        · exact ⟨.ref p, .inl rfl, fun Q' h => ⟨_, rfl, _, _, _, _, true, rfl, .ty _, .base (.lst hp), kit_ty (by decide +kernel), true, rfl, _, rfl, h⟩⟩
      obtain ⟨vo, wo, own⟩ := own
      refine own _ ?_
      have subo := cellS_sub wo
      -- params
      refine ⟨_, rfl, _, rfl, _, rfl, _, rfl, _, rfl, vo, 10, 5, rfl, CellOk.or wo l13.w.c, by decide, by decide, by decide, by decide, fun H14 n14 k14 c14 n140 n141 => ?_⟩
      have l14 := l13.kp lf (k14.mono subo) (cell_after wo l13.w.c k14 c14)
      obtain ⟨n14, rfl⟩ := Int.eq_ofNat_of_zero_le n140
      refine ⟨_, _, rfl, rfl, _, rfl, Ln, _, rfl, .of l14.w.ln, fun Lp nLp => ?_⟩
      rw [show (0 + (i : Int)) + (n14 : Int) = ((i + n14 : Nat) : Int) by omega, show (0 + (i : Int)) = ((i : Nat) : Int) by omega, cutV_mid _ (by omega) (by rw [List.length_map, nl]; omega), Nat.add_sub_cancel_left, ← List.map_drop, ← List.map_take]
      obtain ⟨pr, hpr⟩ : ∃ pr, pr = (nm.drop i).take n14 := ⟨_, rfl⟩
      rw [← hpr]
      have l15 := l14.new (o := .lst (pr.map V.str)) nLp
      refine ⟨Lp, _, rfl, .inl ⟨.of upd_same, fun Tp nTp => ?_⟩⟩
      have l16 := l15.new (o := .tup (pr.map V.str)) nTp
      have prl : pr.length ≤ 4 := by rw [hpr, List.length_take]; omega
      have prn : pr.Nodup := by
        rw [hpr]
        exact ((List.take_sublist _ _).trans (List.drop_sublist _ _)).nodup hN.nd
      have prk : ∀ x ∈ pr, x ∈ nm := fun x hx => List.mem_of_mem_drop (List.mem_of_mem_take (by rw [← hpr]; exact hx))
      have dTp : SqT K (upd (upd H14 Lp (.lst (pr.map V.str))) Tp (.tup (pr.map V.str))) Tp (pr.map V.str) := .of upd_same
      generalize upd (upd H14 Lp (.lst (pr.map V.str))) Tp (.tup (pr.map V.str)) = H16 at l16 dTp
      clear l14 l15
      -- cells
      refine ⟨_, rfl, _, _, rfl, rfl, .inl ⟨by decide, by decide⟩, _, _, rfl, rfl, 2 + 2 * (i : Int), rfl, by omega, by omega, fun pc npc => ?_⟩
      refine lc_range (lo := 0) (n := (2 + 2 * (i : Int)).toNat) (H1 := H16) (D := pc) (fun j H' => Same H16 H' ∧ ∃ cs, CellsOk H' pc cs ∧ cs.length = j ∧ ∀ x ∈ cs, ∀ b, cellS x b → H16 b = none) ?_ ?_ ?_
      · exact ⟨same_new npc, [], ⟨upd_same, (fun x hx => nomatch hx), fun x hx => nomatch hx⟩, rfl, fun x hx => nomatch hx⟩
      · rintro j H17 hj ⟨s17, cs, C17, lc, f17⟩
        refine ⟨rfl, _, rfl, _, rfl, _, rfl, _, rfl, a, ns, fi, (i : Int), 0 + (j : Int), rfl, (l16.w.s.trans s17).seq hS, f0, by omega, by omega, by omega, by omega, fun H18 v s18 c18 f18 => ?_⟩
        have C18 := C17.same s18
        have nv : v ≠ .ref pc := fun e => by
          have := f18 pc e
          rw [C17.at_] at this
          cases this
        have cup : ∀ x ∈ cs, ¬ cellS x pc := fun x hx e => C17.off x hx e
        refine ⟨cs, C18.at_, by rw [lc, sizeLine_eq]; omega, ?_, cs ++ [v], ⟨upd_same, fun x hx => ?_, fun x hx => ?_⟩, by rw [List.length_append, lc]; rfl, fun x hx b e => ?_⟩
        · intro b o hb
          rw [upd_ne (ne_of_none hb npc)]
          exact (s17.trans s18) b o hb
        · rcases List.mem_append.mp hx with hx | hx
          · exact (C18.ok x hx).upd (cup x hx)
          · rw [List.mem_singleton.mp hx]
            exact c18.upd nv
        · rcases List.mem_append.mp hx with hx | hx
          · exact C17.off x hx
          · rw [List.mem_singleton.mp hx]
            exact nv
        · rcases List.mem_append.mp hx with hx | hx
          · exact f17 x hx b e
          · rw [List.mem_singleton.mp hx] at e
            exact s17.free (f18 b e)
      rintro H17 ⟨s17, cs, C17, lc, f17⟩
      have fS : ∀ b, cellsS pc cs b → H16 b = none := by
        rintro b (e | ⟨x, hx, e⟩)
        · rw [e]
          exact npc
        · exact f17 x hx b e
      have l17 := l16.same s17
      have dTp17 := sqT_kp (Kp.of_same (S := cellS vh) s17) dTp
      -- variables
      refine ⟨_, rfl, Tp, _, rfl, .inr dTp17, fun L4 n4 => ?_⟩
      have s4 := same_new (o := .lst (pr.map V.str)) n4
      have m0 : ∃ mn : Nat, m = mn := Int.eq_ofNat_of_zero_le (by omega)
      obtain ⟨mn, rfl⟩ := m0
      refine ⟨_, rfl, _, rfl, _, rfl, Ln, _, rfl, .of (s4 _ _ l17.w.ln), fun L5 n5 => ?_⟩
      rw [cutV_to, ← List.map_take]
      have s5 := same_new (o := .lst ((nm.take mn).map V.str)) n5
      refine ⟨L5, rfl, ⟨_, .of upd_same⟩, fun L6 n6 => ?_⟩
      have s45 := s4.trans s5
      refine lc_list (K := K) (a := L5) (xs := (nm.take mn).map V.str) (fun j H' => Same (upd (upd H17 L4 (.lst (pr.map V.str))) L5 (.lst ((nm.take mn).map V.str))) H' ∧ ∃ fs : List Str, H' L6 = some (.lst (fs.map V.str)) ∧ (∀ x ∈ fs, x ∈ nm) ∧ fs.length ≤ j) ?_ ?_ ?_ ?_
      · exact ⟨same_new n6, [], upd_same, (fun x hx => nomatch hx), Nat.le_refl _⟩
      · rintro j H' _ ⟨s', _⟩
        exact .of (s' _ _ upd_same)
      · rintro j x H' hx ⟨s', fs, e6, f6, g6⟩
        rw [List.getElem?_map] at hx
        obtain ⟨z, hz, rfl⟩ := Option.map_eq_some_iff.mp hx
        have zin : z ∈ nm := List.mem_of_mem_take (List.mem_of_getElem? hz)
        have jl : j < mn := by
          have := (List.getElem?_eq_some_iff.mp hz).1
          rw [List.length_take] at this
          omega
        refine ⟨rfl, _, rfl, _, rfl, Tp, _, rfl, .inr (sqT_kp (Kp.of_same (S := cellS vh) (s45.trans s')) dTp17), rfl, flat_strs _, _, rfl, ?_⟩
        dsimp only
        rw [if_pos rfl, in_strs]
        refine ite2 (fun _ => ?_) (fun _ => ?_)
        · refine ⟨_, rfl, _, e6, by rw [List.length_map, sizeLine_eq]; omega, ?_, fs ++ [z], ?_, ?_, ?_⟩
          · intro b o hb
            rw [upd_ne (ne_of_none hb n6)]
            exact s' b o hb
          · rw [upd_same, List.map_append]
            rfl
          · intro y hy
            rcases List.mem_append.mp hy with hy | hy
            · exact f6 y hy
            · rw [List.mem_singleton.mp hy]
              exact zin
          · rw [List.length_append]
            show fs.length + 1 ≤ j + 1
            omega
        · exact ⟨s', fs, e6, f6, by omega⟩
      rintro H18 ⟨s18, fs, e18, f18, g18⟩
      refine ⟨_, rfl, Tp, _, rfl, .inr (sqT_kp (Kp.of_same (S := cellS vh) (s45.trans s18)) dTp17), _, _, rfl, rfl, _, rfl, L6, _, rfl, .of e18, fun L7 n7 => ?_⟩
      rw [List.length_map, show (12 : Int) - (pr.length : Int) = ((12 - pr.length : Nat) : Int) by omega, cutV_to, ← List.map_take]
      have s7 := same_new (o := .lst ((fs.take (12 - pr.length)).map V.str)) n7
      have e4 := s7 _ _ (s18 _ _ (s5 _ _ (upd_same (H := H17) (a := L4) (o := .lst (pr.map V.str)))))
      refine ⟨L4, L7, _, _, rfl, rfl, e4, upd_same, by rw [List.length_map, List.length_map, List.length_take, sizeLine_eq]; omega, fun LV nLV => ?_⟩
      rw [← List.map_append]
      obtain ⟨vs, hvs⟩ : ∃ vs, vs = pr ++ fs.take (12 - pr.length) := ⟨_, rfl⟩
      rw [← hvs]
      have sV := same_new (o := .lst (vs.map V.str)) nLV
      have vsl : vs.length ≤ 12 := by rw [hvs, List.length_append, List.length_take]; omega
      have vsn : ∀ x ∈ vs, x ∈ nm := fun x hx => by
        rw [hvs] at hx
        rcases List.mem_append.mp hx with hx | hx
        · exact prk x hx
        · exact f18 x (List.mem_of_mem_take hx)
      have vsp : ∀ x ∈ pr, x ∈ vs := fun x hx => by
        rw [hvs]
        exact List.mem_append_left _ hx
      have s19 := (s45.trans s18).trans (s7.trans sV)
      have eV : upd (upd H18 L7 (.lst ((fs.take (12 - pr.length)).map V.str))) LV (.lst (vs.map V.str)) LV = some (.lst (vs.map V.str)) := upd_same
      generalize upd (upd H18 L7 (.lst ((fs.take (12 - pr.length)).map V.str))) LV (.lst (vs.map V.str)) = H19 at s19 eV
      have C19 := C17.same s19
      have l19 := l17.same s19
      have nVS : ¬ cellsS pc cs LV := by
        have h1 : H17 LV = none := ((s45.trans s18).trans s7).free nLV
        exact C17.fresh h1
      have dTp19 := sqT_kp (Kp.of_same (S := cellS vh) s19) dTp17
      have s169 := s17.trans s19
      have nVh : ¬ cellS vh LV := l17.w.c.fresh (((s45.trans s18).trans s7).free nLV)
      clear sV s7 s45 s5 s4 e4 e18 s18 l17 C17 dTp17 n4 n5 n6 n7 nLV
      -- name
      refine ⟨_, rfl, _, rfl, _, _, rfl, rfl, _, rfl, (by show 2 ≤ sizeLine; rw [sizeLine_eq]; decide), fun L8 n8 => ?_⟩
      have s8 := same_new (o := .lst (([15 - (i : Int), (i : Int)] : List Int).map V.int)) n8
      have l20 := l19.same s8
      have nc8 : ¬ cellS vh L8 := l19.w.c.fresh n8
      refine ⟨_, rfl, _, rfl, vh, (i : Int), 2, rfl, l20.w.c, by omega, by omega, by decide, by decide, fun H21 j21 k21 c21 j210 j211 => ?_⟩
      have l21 := l20.kp lf k21 c21
      obtain ⟨ix, hix, eix⟩ := ints_at (l := [15 - (i : Int), (i : Int)]) j210 j211
      refine ⟨L8, _, j21, _, rfl, rfl, .of (k21 _ _ upd_same fun z => absurd z nc8), eix, ?_⟩
      have hix2 : ix = ((15 - i : Nat) : Int) ∨ ix = ((i : Nat) : Int) := by
        simp only [List.mem_cons, List.not_mem_nil, or_false] at hix
        omega
      obtain ⟨nmk, hnmk, enmk⟩ : ∃ z, (nm[15 - i]? = some z ∨ nm[i]? = some z) ∧ atI (nm.map V.str) ix = some (.str z) := by
        rcases hix2 with rfl | rfl
        · have h1 : 15 - i < nm.length := by omega
          exact ⟨nm[15 - i], .inl (List.getElem?_eq_getElem h1), atI_nat (by rw [List.getElem?_map, List.getElem?_eq_getElem h1]; rfl)⟩
        · have h1 : i < nm.length := by omega
          exact ⟨nm[i], .inr (List.getElem?_eq_getElem h1), atI_nat (by rw [List.getElem?_map, List.getElem?_eq_getElem h1]; rfl)⟩
      refine ⟨Ln, _, ix, _, rfl, rfl, .of l21.w.ln, enmk, ?_⟩
      have k19 : Kp (cellS vh) H19 H21 := (Kp.of_same s8).trans k21
      have vS : ∀ b, cellS vh b → ¬ cellsS pc cs b := fun b e z => by
        have h1 := fS b z
        rcases l16.w.c with ⟨x, rfl⟩ | ⟨p, l, t, rfl, hp, _, _⟩
        · cases e
        · cases e
          rw [hp] at h1
          cases h1
      have C21 : CellsOk H21 pc cs := ⟨k19 _ _ C19.at_ fun z => absurd (.inl rfl) (vS _ z), fun x hx => (C19.ok x hx).kp k19 fun b e z => absurd (.inr ⟨x, hx, e⟩) (vS b z), C19.off⟩
      have eV21 := k19 _ _ eV fun z => absurd z nVh
      have dTp21 := sqT_kp k19 dTp19
      clear l19 l20 C19 s8 n8 nc8 hix eix hix2 enmk
      -- helpers.append
      refine ⟨_, rfl, .inl ⟨rfl, _, .of l21.eH⟩, _, rfl, _, rfl, _, rfl, _, rfl, Nat.zero_le _, fun LE nLE => ?_⟩
      have sE := same_new (o := .lst []) nLE
      have l22 := l21.same sE
      refine ⟨_, rfl, LD, _, rfl, .inl (.of l22.eD), fun LC nLC => ?_⟩
      have sC := same_new (o := .lst xd) nLC
      have l23 := l22.same sC
      refine ⟨(by show 3 ≤ sizeLine; rw [sizeLine_eq]; decide), fun PI nPI => ?_⟩
      have sI := same_new (o := .tup [.ref LV, .ref LE, .ref LC]) nPI
      have l24 := l23.same sI
      have sECI := (sE.trans sC).trans sI
      have C24 := C21.same sECI
      have offI : Off (cellsS pc cs) LV LE LC := ⟨nVS, C21.fresh nLE, (C21.same sE).fresh nLC⟩
      have info : Info K (upd (upd (upd H21 LE (.lst [])) LC (.lst xd)) PI (.tup [.ref LV, .ref LE, .ref LC])) (.ref PI) vs [] (hs.map hdOf) LV LE LC :=
        ⟨⟨PI, rfl, .of upd_same⟩, sECI _ _ eV21, sI _ _ (sC _ _ upd_same), xd, sI _ _ upd_same, l24.dD⟩
      have dTp24 := sqT_kp (Kp.of_same (S := cellS vh) sECI) dTp21
      generalize upd (upd (upd H21 LE (.lst [])) LC (.lst xd)) PI (.tup [.ref LV, .ref LE, .ref LC]) = H24 at l24 C24 info dTp24 sECI
      have kq : ∀ q ∈ hs.map hdOf, q.2 ≤ 4 := fun q hq => by
        obtain ⟨h, hh, rfl⟩ := List.mem_map.mp hq
        obtain ⟨j, hj⟩ := List.getElem?_of_mem hh
        exact (ok13.wf j h hj).pl
      have hpc16 := fS
      have notS : ∀ b, (∃ o, H16 b = some o) → ¬ cellsS pc cs b := fun b ⟨o, e⟩ z => by
        rw [fS b z] at e
        cases e
      refine ⟨pc, cs, 0, .ref PI, vs, [], hs.map hdOf, LV, LE, LC, rfl, C24, by decide, by decide, by decide, by rw [lc]; omega, info, by omega, by decide, by rw [List.length_map]; omega, kq, fun z hz => nm_strOk (hN.nm z (vsn z hz)), offI, fun H25 rb nn bd k25 C25 hnn dB wB szB => ?_⟩
      have l25 : LWg K H H25 Ln nm vh LR xr rs' LH LD xh xd hs := l24.kpS k25 (fun b z => l16.w.s.free (fS b z)) (notS _ ⟨_, l16.w.ln⟩) (notS _ ⟨_, l16.eR⟩) (notS _ ⟨_, l16.eH⟩) (notS _ ⟨_, l16.eD⟩) (l24.w.c.kp k25 fun b e z => absurd z (fun y => vS b e y))
      have dTp25 := sqT_kp k25 dTp24
      refine ⟨(by show 3 ≤ sizeLine; rw [sizeLine_eq]; decide), fun TU nTU => ?_⟩
      have l26 := l25.new (o := .tup [.str nmk, .ref Tp, rb]) nTU
      have dTU : Dp K (upd H25 TU (.tup [.str nmk, .ref Tp, rb])) (.ref TU) (hpD (nmk, pr, bd)) := dp_new nTU (.cons (.str _) (.cons (.tup dTp25 (strs_dpAll pr)) (.cons dB .nil))) (by simp only [nLs, nLd, strs_noL, Sm.noLs]; rfl)
      have dTp26 := sqT_kp (Kp.of_same (S := cellS vh) (same_new (o := .tup [.str nmk, .ref Tp, rb]) nTU)) dTp25
      generalize upd H25 TU (.tup [.str nmk, .ref Tp, rb]) = H26 at l26 dTU dTp26
      have hlen : hs.length ≤ 4 := by omega
      refine ⟨LH, _, _, rfl, rfl, l26.eH, by rw [dpAll_len l26.dH, List.length_map, sizeLine_eq]; omega, ?_⟩
      have kh : Kp (fun b => b = LH) H26 (upd H26 LH (.lst (xh ++ [.ref TU]))) := Kp.upd l26.eH trivial rfl
      have w27 : PW H (upd H26 LH (.lst (xh ++ [.ref TU]))) Ln nm vh := l26.w.upd lf.h0 lf.hl lf.hc
      have eR27 := kh _ _ l26.eR fun z => absurd z.symm lf.hr
      have eD27 := kh _ _ l26.eD fun z => absurd z.symm lf.hd
      have dR27 := dpAll_kp kh _ _ (rws_noL _) l26.dR
      have dH27 := dpAll_app (dpAll_kp kh _ _ (hps_noL _) l26.dH) (.cons (dp_kp kh _ _ (hpD_noL _) dTU) .nil)
      have dD27 := dpAll_kp kh _ _ (hds_noL _) l26.dD
      have eH27 : upd H26 LH (.lst (xh ++ [.ref TU])) LH = some (.lst (xh ++ [.ref TU])) := upd_same
      have dTp27 := sqT_kp kh dTp26
      have dH27' : DpAll K (upd H26 LH (.lst (xh ++ [.ref TU]))) (xh ++ [.ref TU]) ((hs ++ [(nmk, pr, bd)]).map hpD) := by
        rw [List.map_append]
        exact dH27
      generalize upd H26 LH (.lst (xh ++ [.ref TU])) = H27 at w27 eR27 eD27 dR27 dH27 dH27' dD27 eH27 dTp27
      -- heads.append
      refine ⟨_, rfl, .inl ⟨rfl, _, .of eD27⟩, _, rfl, _, rfl, Tp, _, rfl, .inr dTp27, (by show 2 ≤ sizeLine; rw [sizeLine_eq]; decide), fun TW nTW => ?_⟩
      have sW := same_new (o := .tup [.str nmk, .int (pr.map V.str).length]) nTW
      have eD28 := sW _ _ eD27
      refine ⟨LD, _, _, rfl, rfl, eD28, by rw [dpAll_len dD27, List.length_map, List.length_map, sizeLine_eq]; omega, ?_⟩
      have dTW : Dp K (upd H27 TW (.tup [.str nmk, .int (pr.map V.str).length])) (.ref TW) (hdD (nmk, pr.length)) := by
        have := dp_new (K := K) nTW (.cons (.str nmk) (.cons (.int ((pr.map V.str).length : Int)) .nil)) rfl
        rw [List.length_map] at this ⊢
        exact this
      have w28 := w27.same sW
      have kd : Kp (fun b => b = LD) (upd H27 TW (.tup [.str nmk, .int (pr.map V.str).length])) (upd (upd H27 TW (.tup [.str nmk, .int (pr.map V.str).length])) LD (.lst (xd ++ [.ref TW]))) := Kp.upd eD28 trivial rfl
      refine ⟨_, _, hs ++ [(nmk, pr, bd)], _, _, _, _, _, _, _, _, ⟨w28.upd lf.d0 lf.dl lf.dc, kd _ _ (sW _ _ eR27) fun z => absurd z.symm lf.dr, dpAll_kp kd _ _ (rws_noL _) (dpAll_same dR27 sW (rws_noL _)), kd _ _ (sW _ _ eH27) fun z => absurd z lf.hd, ?_, upd_same, ?_⟩, by rw [List.length_append, hl13]; rfl, ?_, rfl⟩
      · exact dpAll_kp kd _ _ (hps_noL _) (dpAll_same dH27' sW (hps_noL _))
      · rw [List.map_append, List.map_append]
        exact dpAll_app (dpAll_kp kd _ _ (hds_noL _) (dpAll_same dD27 sW (hds_noL _))) (.cons (dp_kp kd _ _ rfl dTW) .nil)
      · refine hsOk_snoc ok13 ⟨?_, prl, prn, fun x hx => hN.nm x (prk x hx), ⟨vs, fun x hx => hN.nm x (vsn x hx), vsl, vsp, wB⟩, ?_⟩ (by rw [hl13]; exact hnmk)
        · rcases hnmk with h | h
          · exact hN.nm _ (List.mem_of_getElem? h)
          · exact hN.nm _ (List.mem_of_getElem? h)
        · show Sm.sizes bd ≤ 8
          omega
    · rintro σ' H13 ⟨xh, xd, hs, x9, x10, x11, x12, x13, x14, x16, x17, l13, hl13, ok13, rfl⟩
      have hl4 : hs.length ≤ 4 := by omega
      -- params
      refine ⟨_, rfl, _, rfl, _, rfl, vh, 2, 5, rfl, l13.w.c, by decide, by decide, by decide, by decide, fun H14 n14 k14 c14 n140 n141 => ?_⟩
      have l14 := l13.kp lf k14 c14
      obtain ⟨n14, rfl⟩ := Int.eq_ofNat_of_zero_le n140
      obtain ⟨mn, rfl⟩ := Int.eq_ofNat_of_zero_le (show 0 ≤ m by omega)
      refine ⟨_, _, rfl, ?_⟩
      rw [show (if (n14 : Int) < (mn : Int) then (n14 : Int) else (mn : Int)) = ((min mn n14 : Nat) : Int) by split <;> omega]
      refine ⟨_, rfl, Ln, _, rfl, .of l14.w.ln, fun Lp nLp => ?_⟩
      rw [cutV_to, ← List.map_take]
      obtain ⟨pr, hpr⟩ : ∃ pr, pr = nm.take (min mn n14) := ⟨_, rfl⟩
      rw [← hpr]
      have l15 := l14.new (o := .lst (pr.map V.str)) nLp
      refine ⟨Lp, _, rfl, .inl ⟨.of upd_same, fun Tp nTp => ?_⟩⟩
      have l16 := l15.new (o := .tup (pr.map V.str)) nTp
      have prl : pr.length ≤ 4 := by rw [hpr, List.length_take]; omega
      have prn : pr.Nodup := by
        rw [hpr]
        exact (List.take_sublist _ _).nodup hN.nd
      have prm : ∀ x ∈ pr, x ∈ nm.take mn := fun x hx => by
        rw [hpr] at hx
        exact List.mem_of_mem_take (i := n14) (by rw [List.take_take, Nat.min_comm]; exact hx)
      have dTp : SqT K (upd (upd H14 Lp (.lst (pr.map V.str))) Tp (.tup (pr.map V.str))) Tp (pr.map V.str) := .of upd_same
      generalize upd (upd H14 Lp (.lst (pr.map V.str))) Tp (.tup (pr.map V.str)) = H16 at l16 dTp
      clear l14 l15
      -- info
      refine ⟨_, rfl, _, rfl, _, rfl, Ln, _, rfl, .of l16.w.ln, fun LV nLV => ?_⟩
      rw [cutV_to, ← List.map_take]
      have sV := same_new (o := .lst ((nm.take mn).map V.str)) nLV
      have l17 := l16.same sV
      have eV : upd H16 LV (.lst ((nm.take mn).map V.str)) LV = some (.lst ((nm.take mn).map V.str)) := upd_same
      have dTp17 := sqT_kp (Kp.of_same (S := cellS vh) sV) dTp
      generalize upd H16 LV (.lst ((nm.take mn).map V.str)) = H17 at l17 eV dTp17
      refine ⟨_, rfl, LR, rfl, ⟨_, .of l17.eR⟩, fun LB nLB => ?_⟩
      refine lc_list (K := K) (a := LR) (xs := xr) (fun j H' => Same H17 H' ∧ H' LB = some (.lst (((rs'.map (·.1)).take j).map V.str))) ?_ ?_ ?_ ?_
      · exact ⟨same_new nLB, upd_same⟩
      · rintro j H' _ ⟨s', _⟩
        exact .of (s' _ _ l17.eR)
      · rintro j x H' hx ⟨s', e'⟩
        obtain ⟨d, hd, dx⟩ := dpAll_getV (dpAll_same l17.dR s' (rws_noL _)) hx
        rw [List.getElem?_map] at hd
        obtain ⟨r, hr, rfl⟩ := Option.map_eq_some_iff.mp hd
        obtain ⟨p, ys, rfl, sp, da⟩ := dp_tup dx
        obtain ⟨y1, yr, rfl, d1, _⟩ := dpAll_cons da
        rw [dp_str d1] at sp
        have rlen : (rs'.map (·.1)).length ≤ 16 := by rw [rn, List.length_take]; omega
        refine ⟨rfl, _, rfl, p, _, 0, _, rfl, rfl, sp, atI_nat (j := 0) rfl, _, e', by rw [List.length_map, List.length_take, sizeLine_eq]; omega, ?_, ?_⟩
        · intro b o hb
          rw [upd_ne (ne_of_none hb nLB)]
          exact s' b o hb
        · rw [upd_same, List.take_add_one, List.getElem?_map, hr, List.map_append]
          rfl
      rintro H18 ⟨s18, e18⟩
      have xrl : xr.length = rs'.length := by rw [dpAll_len l17.dR, List.length_map]
      rw [xrl, ← List.length_map (f := fun r : Str × Nat => r.1), List.take_length] at e18
      have l18 := l17.same s18
      refine ⟨_, rfl, (by show 3 ≤ sizeLine; rw [sizeLine_eq]; decide), fun PI nPI => ?_⟩
      have sI := same_new (o := .tup [.ref LV, .ref LB, .ref LD]) nPI
      have l19 := l18.same sI
      have eV19 := sI _ _ (s18 _ _ eV)
      have eB19 := sI _ _ e18
      have tI : SqT K (upd H18 PI (.tup [.ref LV, .ref LB, .ref LD])) PI [.ref LV, .ref LB, .ref LD] := .of upd_same
      have dTp19 := sqT_kp (Kp.of_same (S := cellS vh) (s18.trans sI)) dTp17
      generalize upd H18 PI (.tup [.ref LV, .ref LB, .ref LD]) = H19 at l19 eV19 eB19 tI dTp19
      -- cells
      refine ⟨_, rfl, _, rfl, _, _, rfl, rfl, _, rfl, _, rfl, _, _, rfl, rfl, _, rfl, a, _, rfl, l19.w.s.seq hS, fun LS nLS => ?_⟩
      have sS := same_new (o := .lst (cutV (ns.map V.int) (some (fi + 1)) (some (fi + 25)))) nLS
      obtain ⟨ms, hms, lms⟩ : ∃ ms : List Int, cutV (ns.map V.int) (some (fi + 1)) (some (fi + 25)) = ms.map V.int ∧ ms.length ≤ 24 := by
        obtain ⟨fn, rfl⟩ := Int.eq_ofNat_of_zero_le f0
        refine ⟨((ns.drop (min (fn + 1) ns.length)).take (min (fn + 25) ns.length - min (fn + 1) ns.length)), ?_, ?_⟩
        · unfold cutV
          rw [show ((fn : Int) + 1) = ((fn + 1 : Nat) : Int) by omega, show ((fn : Int) + 25) = ((fn + 25 : Nat) : Int) by omega, HT.sIx_nat, HT.sIx_nat, List.length_map, List.map_take, List.map_drop]
        · rw [List.length_take]
          omega
      rw [hms] at sS ⊢
      refine ⟨LS, rfl, ⟨_, .of upd_same⟩, fun pc npc => ?_⟩
      refine lc_list (K := K) (a := LS) (xs := ms.map V.int) (fun j H' => Same (upd H19 LS (.lst (ms.map V.int))) H' ∧ ∃ cs, CellsOk H' pc cs ∧ cs.length = j ∧ ∀ x ∈ cs, ∀ b, cellS x b → H19 b = none) ?_ ?_ ?_ ?_
      · exact ⟨same_new npc, [], ⟨upd_same, (fun x hx => nomatch hx), fun x hx => nomatch hx⟩, rfl, fun x hx => nomatch hx⟩
      · rintro j H' _ ⟨s', _⟩
        exact .of (s' _ _ upd_same)
      · rintro j x H20 hx ⟨s20, cs, C20, lc, f20⟩
        rw [List.getElem?_map] at hx
        obtain ⟨z, hz, rfl⟩ := Option.map_eq_some_iff.mp hx
        have jl : j < 24 := by
          have := (List.getElem?_eq_some_iff.mp hz).1
          omega
        refine ⟨rfl, _, rfl, z, rfl, fun H21 v s21 c21 f21 => ?_⟩
        have C21 := C20.same s21
        have nv : v ≠ .ref pc := fun e => by
          have := f21 pc e
          rw [C20.at_] at this
          cases this
        have cup : ∀ x ∈ cs, ¬ cellS x pc := fun x hx e => C20.off x hx e
        refine ⟨cs, C21.at_, by rw [lc, sizeLine_eq]; omega, ?_, cs ++ [v], ⟨upd_same, fun x hx => ?_, fun x hx => ?_⟩, by rw [List.length_append, lc]; rfl, fun x hx b e => ?_⟩
        · intro b o hb
          rw [upd_ne (ne_of_none hb npc)]
          exact (s20.trans s21) b o hb
        · rcases List.mem_append.mp hx with hx | hx
          · exact (C21.ok x hx).upd (cup x hx)
          · rw [List.mem_singleton.mp hx]
            exact c21.upd nv
        · rcases List.mem_append.mp hx with hx | hx
          · exact C20.off x hx
          · rw [List.mem_singleton.mp hx]
            exact nv
        · rcases List.mem_append.mp hx with hx | hx
          · exact f20 x hx b e
          · rw [List.mem_singleton.mp hx] at e
            exact (sS.trans s20).free (f21 b e)
      rintro H20 ⟨s20, cs, C20, lc, f20⟩
      rw [List.length_map] at lc
      have s920 := sS.trans s20
      have fS : ∀ b, cellsS pc cs b → H19 b = none := by
        rintro b (e | ⟨x, hx, e⟩)
        · rw [e]
          exact sS.free npc
        · exact f20 x hx b e
      have notS : ∀ b, (∃ o, H19 b = some o) → ¬ cellsS pc cs b := fun b ⟨o, e⟩ z => by
        rw [fS b z] at e
        cases e
      have l20 := l19.same s920
      have dTp20 := sqT_kp (Kp.of_same (S := cellS vh) s920) dTp19
      -- the program
      refine ⟨_, rfl, LH, _, rfl, .inl ⟨.of l20.eH, fun TH nTH => ?_⟩⟩
      have sH := same_new (o := .tup xh) nTH
      refine ⟨_, rfl, _, rfl, LR, _, rfl, .inl ⟨.of (sH _ _ l20.eR), fun TR nTR => ?_⟩⟩
      have sR := same_new (o := .tup xr) nTR
      have sHR := sH.trans sR
      have tH : SqT K (upd (upd H20 TH (.tup xh)) TR (.tup xr)) TH xh := .of (sR _ _ upd_same)
      have tR : SqT K (upd (upd H20 TH (.tup xh)) TR (.tup xr)) TR xr := .of upd_same
      have l21 := l20.same sHR
      have C21 := C20.same sHR
      have dTp21 := sqT_kp (Kp.of_same (S := cellS vh) sHR) dTp20
      have s1921 := s920.trans sHR
      generalize upd (upd H20 TH (.tup xh)) TR (.tup xr) = H21 at tH tR l21 C21 dTp21 s1921
      have info : Info K H21 (.ref PI) (nm.take mn) (rs'.map (·.1)) (hs.map hdOf) LV LB LD := ⟨⟨PI, rfl, sqT_kp (Kp.of_same (S := cellS vh) s1921) tI⟩, s1921 _ _ eV19, s1921 _ _ eB19, xd, l21.eD, l21.dD⟩
      have kq : ∀ q ∈ hs.map hdOf, q.2 ≤ 4 := fun q hq => by
        obtain ⟨h, hh, rfl⟩ := List.mem_map.mp hq
        obtain ⟨j, hj⟩ := List.getElem?_of_mem hh
        exact (ok13.wf j h hj).pl
      have offI : Off (cellsS pc cs) LV LB LD := ⟨notS _ ⟨_, eV19⟩, notS _ ⟨_, eB19⟩, notS _ ⟨_, l19.eD⟩⟩
      have rl16 : (rs'.map (·.1)).length ≤ 3 := by rw [rn, List.length_take]; omega
      refine ⟨_, rfl, _, rfl, pc, cs, 0, .ref PI, nm.take mn, rs'.map (·.1), hs.map hdOf, LV, LB, LD, rfl, C21, by decide, by decide, by decide, by rw [lc]; omega, info, by rw [List.length_take]; omega, by omega, by rw [List.length_map]; omega, kq, fun z hz => nm_strOk (hN.nm z (List.mem_of_mem_take hz)), offI, fun H22 rb nn bd k22 C22 hnn dB wB szB => ?_⟩
      have nH19 : ∀ b, cellsS pc cs b → H b = none := fun b z => l19.w.s.free (fS b z)
      have sm22 : Same H H22 := Kp.same l21.w.s k22 nH19
      have tH22 := sqT_kp k22 tH
      have tR22 := sqT_kp k22 tR
      have dTp22 := sqT_kp k22 dTp21
      have dH22 := dpAll_kp k22 _ _ (hps_noL _) l21.dH
      have dR22 := dpAll_kp k22 _ _ (rws_noL _) l21.dR
      refine ⟨(by show 4 ≤ sizeLine; rw [sizeLine_eq]; decide), fun TP nTP => ?_⟩
      refine q _ _ ⟨hs, pr, rs', bd⟩ (sm22.trans (same_new nTP)) (dp_new nTP (.cons (.tup tH22 dH22) (.cons (.tup dTp22 (strs_dpAll pr)) (.cons (.tup tR22 dR22) (.cons dB .nil)))) (by simp only [nLs, nLd, strs_noL, Sm.noLs, hps_noL, rws_noL]; rfl)) ?_
      have rin : ∀ r ∈ rs', r.1 ∈ nm.drop 12 := fun r hr => List.mem_of_mem_take (by rw [← rn]; exact List.mem_map.mpr ⟨r, hr, rfl⟩)
      have apart : ∀ x, x ∈ nm.take mn → x ∉ nm.drop 12 := by
        intro x hx hy
        have nd := hN.nd
        rw [← List.take_append_drop 12 nm] at nd
        have hx2 : x ∈ nm.take 12 := List.mem_of_mem_take (i := mn) (by rw [List.take_take, Nat.min_eq_left (by omega : mn ≤ 12)]; exact hx)
        exact (List.nodup_append.mp nd).2.2 x hx2 x hy rfl
      refine ⟨hl4, ?_, fun i h e => ok13.wf i h e, prl, prn, fun x hx => hN.nm x (List.mem_of_mem_take (prm x hx)), by rw [← List.length_map (f := fun r : Str × Nat => r.1)]; exact rl16, ?_, fun r hr => ⟨hN.nm _ (List.mem_of_mem_drop (rin r hr)), (rb' r hr).1, (rb' r hr).2, fun z => apart _ (prm _ z) (rin r hr)⟩, ⟨nm.take mn, fun x hx => hN.nm x (List.mem_of_mem_take hx), by rw [List.length_take]; omega, prm, fun r hr z => apart _ z (rin r hr), wB⟩, by show Sm.sizes bd ≤ 24; omega⟩
      · exact hs_nodup hN ok13 hl4
      · show (rs'.map (·.1)).Nodup
        rw [rn]
        exact ((List.take_sublist _ _).trans (List.drop_sublist _ _)).nodup hN.nd
end

/-! texts of programs, in plain words -/
def numS (n : Int) : Str := Str.ofString (toString n)
def Ex.words : Ex → List Str
  | .num n => [numS n]
  | .nam x => [x]
  | .at_ r e => "at" :: r :: e.words
  | .no e => "not" :: e.words
  | .op w a b => w :: (a.words ++ b.words)
def wordsL (es : List Ex) : List Str := es.flatMap Ex.words
def Sm.words : Sm → List Str
  | .set x e => "set" :: x :: e.words
  | .put r e f => "put" :: r :: (e.words ++ f.words)
  | .tell e => "tell" :: e.words
  | .ite e _ _ => "if" :: e.words
  | .loop e _ => "while" :: e.words
  | .call x h es => "call" :: x :: h :: wordsL es
  | .fail n => ["fail", numS n]
  | .give e => "give" :: e.words
def rowS (ws : List Str) : Str := Txt.join " " ws
def kElse : Str := "else"
def kEnd : Str := "end"
def nlS : Str := "\n"
mutual
def Sm.lines : Sm → List Str
  | .ite e ys ns => rowS ("if" :: e.words) :: (Sm.linesL ys ++ ((if ns.isEmpty then [] else kElse :: Sm.linesL ns) ++ [kEnd]))
  | .loop e b => rowS ("while" :: e.words) :: (Sm.linesL b ++ [kEnd])
  | .set x e => [rowS ("set" :: x :: e.words)]
  | .put r e f => [rowS ("put" :: r :: (e.words ++ f.words))]
  | .tell e => [rowS ("tell" :: e.words)]
  | .call x h es => [rowS ("call" :: x :: h :: wordsL es)]
  | .fail n => [rowS ["fail", numS n]]
  | .give e => [rowS ("give" :: e.words)]
def Sm.linesL : List Sm → List Str
  | [] => []
  | s :: r => s.lines ++ Sm.linesL r
end
def hpL (h : Str × List Str × List Sm) : List Str := rowS ("helper" :: h.1 :: h.2.1) :: (Sm.linesL h.2.2 ++ [kEnd])
def rwL (r : Str × Nat) : Str := rowS ["row", r.1, numS r.2]
def Pg.lines (p : Pg) : List Str := p.hs.flatMap hpL ++ (rowS ("main" :: p.ps) :: (p.rs.map rwL ++ (Sm.linesL p.bd ++ [kEnd])))
def textOf (ls : List Str) : Str := Txt.join Str.empty (ls.map fun l => l ++ nlS)
/-! how long they are -/
theorem len_ofString (s : String) : (Str.ofString s).length = s.toList.length := by
  rw [len_list]
  have := TL.tl_ofString s
  rw [show (Str.ofString s).cps.toList = s.toList.map Char.toNat from this, List.length_map]
theorem numS_len {n : Int} (h : In32 n) : (numS n).length ≤ 40 := by
  obtain ⟨h1, h2⟩ := h
  unfold numS
  rw [len_ofString, String.length_toList]
  exact PySem.int_text_length_le (k := 39) (by decide) (PySem.Flt.log2_lt_of (by decide) (by omega))
theorem nat_log (n : Int) (h : In32 n) : n.natAbs.log2 < 1920 := by
  obtain ⟨h1, h2⟩ := h
  have := PySem.Flt.log2_lt_of (show 0 < 40 by decide) (show n.natAbs < 2 ^ 40 by omega)
  omega
def Shs (ws : List Str) : Prop := ∀ z ∈ ws, z.length ≤ 40
theorem Shs.app {a b : List Str} (h : Shs a) (h' : Shs b) : Shs (a ++ b) := fun z hz => (List.mem_append.mp hz).elim (h z) (h' z)
theorem Shs.cons {x : Str} {b : List Str} (h : x.length ≤ 40) (h' : Shs b) : Shs (x :: b) := fun z hz => (List.mem_cons.mp hz).elim (fun e => e ▸ h) (h' z)

section
variable {P : Program} {w : World} {K : PySem.W.Frag} {mg : Str → Option Value} {base : Heap}
/-- a thing that is no text -/
def NoStr (K : PySem.W.Frag) (H : Hp) (v : V) : Prop := ∃ n : String, TyX K H v (.type n) ∧ kitB n "str" = some false
def sp_isn (K : PySem.W.Frag) : Sp := fun vs H Q _ => ∃ v : V, vs = [v] ∧ ((∃ z : Str, v = .str z ∧ z.length ≤ 1000 ∧ ∀ H', Same H H' → Q (.bl (nmB z)) H') ∨ (NoStr K H v ∧ Q (.bl false) H))
theorem abc_mem (c : Nat) : decide (c ∈ abc.cps.toList) = decide (isLet c) := by
  have e : abc.cps.toList = (List.range 26).map (97 + ·) := by decide +kernel
  rw [e]
  by_cases h : isLet c
  · rw [decide_eq_true h]
    refine decide_eq_true (List.mem_map.mpr ⟨c - 97, List.mem_range.mpr ?_, ?_⟩)
    · unfold isLet at h
      omega
    · unfold isLet at h
      omega
  · rw [decide_eq_false h]
    refine decide_eq_false fun z => h ?_
    obtain ⟨k, hk, rfl⟩ := List.mem_map.mp z
    have := List.mem_range.mp hk
    unfold isLet
    omega
theorem nmB_of {z : Str} (h1 : 1 ≤ z.length) (h2 : z.length ≤ 8) (h3 : z ∉ keptW) : nmB z = (z.cps.toList.map fun c => decide (isLet c)).all id := by
  unfold nmB
  rw [decide_eq_true h1, decide_eq_true h2]
  have e : (keptW.any fun x => decide (x = z)) = false := List.any_eq_false.mpr fun x hx e => h3 ((of_decide_eq_true e) ▸ hx)
  rw [e, List.all_map]
  simp only [Bool.true_and, Bool.not_false, Bool.and_true]
  rfl
theorem nmB_no {z : Str} (h : ¬ (1 ≤ z.length ∧ z.length ≤ 8) ∨ z ∈ keptW) : nmB z = false := by
  cases e : nmB z with
  | false => rfl
  | true =>
    have := nmB_ok.mp e
    rcases h with h | h
    · exact absurd ⟨this.lo, this.hi⟩ h
    · exact absurd h this.out
theorem ok_is_name (T : Top K mg) : FnOk P w K mg base CX0 1 (He.ga K "is_name") T.fd_is_name ["thing"] (sp_isn K) := by
  refine T.F_is_name.ok sc_is_name (fun vs H Q E h => ?_) (fun cdv A outer s H vs Q E hr h => ?_)
  · obtain ⟨v, rfl, _⟩ := h
    rfl
  · obtain ⟨v, rfl, h⟩ := h
    refine ⟨_, PSs.nox (pss_cons (ps_if (PW.pt (pw_or (pt_not (pt_val (pe_callB call_isi (by rfl) T.m_isinstance (by decide +kernel) (pa_cons (pv 0) (pa_cons (pe_bltn (v := .ty "str") (by rfl) T.m_str (by decide +kernel) rfl) pa_nil))))) (pw_or (pt_not (pt_chain op_le op_le pe_int (pe_callB call_len_str (by rfl) T.m_len (by decide +kernel) (pa_cons (pv 0) pa_nil)) (pe_glob (v := .int 8) (by rfl) T.c_MOST_LETTERS ⟨_, rfl⟩))) (pw_or1 (pt_cmpR op_in_seq (pv 0) (pe_glob (v := .ref (He.ga K "KEPT")) (by rfl) T.c_KEPT rfl) (by rfl)))))) (pss_one (ps_ret pe_bl)) pss_nil)
        (pss_one (ps_ret (pe_callB (cr_all (by rfl)) (by rfl) T.m_all (by decide +kernel) (pa_cons (pe_lc (own := [("sign", 1)]) (by rfl) sc_is_name.nd (pi_str (pv 0)) (blkOk_by (own := [("sign", 1)]) (N := N_is_name) (sc := defScope s_is_name) (by decide +kernel)) (fun _ _ _ _ _ => (pg_name (i := 1) sc_is_name.nd rfl (Or.inl rfl))) (fun _ _ _ _ _ => pts_nil) (fun _ _ _ _ _ => (pe_cmpR op_in_sign (pv 1) (pe_glob (v := .str "abcdefghijklmnopqrstuvwxyz") (by rfl) T.c_LETTERS ⟨_, rfl⟩) (by rfl)))) pa_nil))))), ?_⟩
    rcases h with ⟨z, rfl, zl, q⟩ | ⟨⟨n, ty, kn⟩, q⟩
    · refine ⟨_, rfl, _, _, _, _, true, rfl, .ty _, .base (.str z), kit_ty (by decide +kernel), true, rfl, ?_⟩
      have zb : z.length ≤ sizeLine := by rw [sizeLine_eq]; omega
      refine ⟨_, rfl, z, rfl, zb, _, _, rfl, rfl, _, rfl, ite2 (fun e1 => ?_) (fun e1 => ?_)⟩
      · have z1 : 1 ≤ z.length := by
          have := of_decide_eq_true e1
          omega
        refine ⟨_, _, rfl, rfl, _, rfl, ?_⟩
        refine ite2 (fun e2 => ?_) (fun e2 => ?_)
        · have z2 : ¬ z.length ≤ 8 := fun h => by
            rw [decide_eq_true (show (z.length : Int) ≤ 8 by omega)] at e2
            cases e2
          rw [nmB_no (.inl fun h => z2 h.2)] at q
          exact q _ (Same.refl _)
        · have z2 : z.length ≤ 8 := by
            by_cases h : (z.length : Int) ≤ 8
            · omega
            · rw [decide_eq_false h] at e2
              exact absurd rfl e2
          refine ⟨_, rfl, _, _, rfl, .inr (T.q_KEPT _), rfl, flat_strs keptW, _, rfl, ?_⟩
          show if (if false = true then !inV (V.str z) (keptW.map V.str) else inV (V.str z) (keptW.map V.str)) = true then _ else _
          rw [if_neg Bool.false_ne_true, in_strs]
          refine ite2 (fun e3 => ?_) (fun e3 => ?_)
          · rw [nmB_no (.inr (of_decide_eq_true e3))] at q
            exact q _ (Same.refl _)
          · have z3 : z ∉ keptW := fun h => e3 (decide_eq_true h)
            refine ⟨_, rfl, z, rfl, fun D nD => ?_⟩
            refine lc_str (fun i H' => Same H H' ∧ H' D = some (.lst (((z.cps.toList.take i).map fun c => decide (isLet c)).map V.bl))) ?_ ?_ ?_
            · exact ⟨same_new nD, upd_same⟩
            · rintro i c H' hc ⟨s1, e1⟩
              refine ⟨rfl, _, rfl, c, _, rfl, rfl, _, e1, ?_, ?_, ?_⟩
              · rw [List.length_map, List.length_map, List.length_take, sizeLine_eq, ← len_list]
                omega
              · intro b o hb
                rw [upd_ne (ne_of_none hb nD)]
                exact s1 b o hb
              · rw [upd_same, List.take_add_one, hc, List.map_append, List.map_append]
                show _ = some (HO.lst (_ ++ [V.bl (decide (isLet c))]))
                rw [← abc_mem c]
                rfl
            · rintro H' ⟨s1, e1⟩
              rw [List.take_length] at e1
              refine ⟨D, _, rfl, .of e1, ?_⟩
              rw [← nmB_of z1 z2 z3]
              exact q _ s1
      · have z1 : ¬ 1 ≤ z.length := fun h => e1 (decide_eq_true (by omega))
        rw [nmB_no (.inl fun h => z1 h.1)] at q
        exact ⟨false, rfl, q _ (Same.refl _)⟩
    · refine ⟨_, rfl, _, _, _, _, false, rfl, .ty _, ty, kit_ty kn, false, rfl, ?_⟩
      exact q
end

section
variable {P : Program} {w : World} {K : PySem.W.Frag} {mg : Str → Option Value} {base : Heap}
def scF (r h k : Addr) (m : Int) : List (Str × V) := [("rows", .ref r), ("heads", .ref h), ("known", .ref k), ("many", .int m)]
theorem scF_rows (r h k : Addr) (m : Int) : (scF r h k m).lookup ("rows" : Str) = some (.ref r) := by
  unfold scF
  rw [List.lookup_cons, show (("rows" : Str) == "rows") = true by decide +kernel]
theorem scF_heads (r h k : Addr) (m : Int) : (scF r h k m).lookup ("heads" : Str) = some (.ref h) := by
  unfold scF
  rw [List.lookup_cons, show (("heads" : Str) == "rows") = false by decide +kernel, List.lookup_cons, show (("heads" : Str) == "heads") = true by decide +kernel]
theorem scF_known (r h k : Addr) (m : Int) : (scF r h k m).lookup ("known" : Str) = some (.ref k) := by
  unfold scF
  rw [List.lookup_cons, show (("known" : Str) == "rows") = false by decide +kernel, List.lookup_cons, show (("known" : Str) == "heads") = false by decide +kernel, List.lookup_cons, show (("known" : Str) == "known") = true by decide +kernel]
theorem scF_many (r h k : Addr) (m : Int) : (scF r h k m).lookup ("many" : Str) = some (.int m) := by
  unfold scF
  rw [List.lookup_cons, show (("many" : Str) == "rows") = false by decide +kernel, List.lookup_cons, show (("many" : Str) == "heads") = false by decide +kernel, List.lookup_cons, show (("many" : Str) == "known") = false by decide +kernel, List.lookup_cons, show (("many" : Str) == "many") = true by decide +kernel]
theorem scF_no {r h k : Addr} {n : Int} {m : Str} (h1 : (m == ("rows" : Str)) = false) (h2 : (m == ("heads" : Str)) = false) (h3 : (m == ("known" : Str)) = false) (h4 : (m == ("many" : Str)) = false) : (scF r h k n).lookup m = none := by
  unfold scF
  rw [List.lookup_cons, h1, List.lookup_cons, h2, List.lookup_cons, h3, List.lookup_cons, h4]
  rfl
theorem scF_put (r h k : Addr) (m n : Int) : putF "many" (.int n) (scF r h k m) = scF r h k n := by
  unfold scF
  show (if ("rows" : Str) = "many" then _ else (("rows" : Str), V.ref r) :: (if ("heads" : Str) = "many" then _ else (("heads" : Str), V.ref h) :: (if ("known" : Str) = "many" then _ else (("known" : Str), V.ref k) :: (if ("many" : Str) = "many" then (("many" : Str), V.int n) :: [] else _)))) = _
  rw [if_neg (by decide +kernel), if_neg (by decide +kernel), if_neg (by decide +kernel), if_pos rfl]
structure ScA where
  p : Addr
  r : Addr
  h : Addr
  k : Addr
def knD (ks : List Str) : List (Key × V) := ks.map fun x => (.inr x, .bl true)
theorem any_kn {ks : List Str} {x : Str} : ((knD ks).any fun kv => decide (kv.1 = (.inr x : Key))) = decide (x ∈ ks) := by
  unfold knD
  rw [List.any_map]
  by_cases h : x ∈ ks
  · rw [decide_eq_true h]
    exact List.any_eq_true.mpr ⟨x, h, decide_eq_true rfl⟩
  · rw [decide_eq_false h]
    refine List.any_eq_false.mpr fun y hy e => h ?_
    have := of_decide_eq_true (p := (Sum.inr y : Key) = Sum.inr x) e
    cases this
    exact hy
theorem put_kn (ks : List Str) (x : Str) : putK (knD ks) (.inr x) (.bl true) = knD (if x ∈ ks then ks else ks ++ [x]) := by
  unfold putK
  rw [any_kn]
  by_cases h : x ∈ ks
  · rw [if_pos (decide_eq_true h), if_pos h]
    unfold knD
    rw [List.map_map]
    refine List.map_congr_left fun y hy => ?_
    show (if (Sum.inr y : Key) = Sum.inr x then ((Sum.inr y : Key), V.bl true) else (.inr y, .bl true)) = _
    split <;> rfl
  · rw [if_neg (fun z => h (of_decide_eq_true z)), if_neg h]
    unfold knD
    rw [List.map_append]
    rfl
end

namespace SetN
open PySem PySem.Spec PyProof.Rows
theorem strs_at {us : List Value} {xs : List Str} (h : StrsAre us xs) : ∀ (i : Nat) (v : Value), us[i]? = some v → ∃ t, v = .str (xs.getD i Str.empty) t := by
  induction h with
  | nil => intro i v e; cases e
  | cons n t _ ih =>
    intro i v e
    cases i with
    | zero => cases e; exact ⟨t, rfl⟩
    | succ i => exact ih i v e
theorem strsAre_of : ∀ {ys : List Str} {us : List Value}, Vals (ys.map V.str) us → StrsAre us ys
  | [], _, h => by cases h; exact .nil
  | _ :: ys, _, h => by
    cases h with
    | cons r t =>
      obtain ⟨k, rfl⟩ := r
      exact .cons _ k (strsAre_of t)
section
variable {prog : Program} {w : World} {A : Around} {R : Result → Shared → Prop} {I : Addr} {fp wr : List Addr} {G : Array GenState → Array GenState → Prop} {n : Nat} {P : Nat → Value → Prop} {St : Nat → Shared → Prop}
theorem loopN (W : WalksS prog w A.in1 I fp wr G n P St) (S : Addr) (hSf : S ∉ fp) (xs : List Str) (hsz : xs.length = n) (hnd : xs.Nodup) (hn1 : n ≤ 60)
    (hval : ∀ i v, P i v → ∃ t, v = .str (xs.getD i Str.empty) t) :
    ∀ (k i : Nat) (s : Shared), n - i = k → i ≤ n → St i s →
      s.heap.SetOf (PySem.strKind prog w) S (fun k' => (xs.take i).any (· == k')) i →
      (∀ s', Moved (S :: wr) G s s' → s'.heap.SetOf (PySem.strKind prog w) S (fun k' => (xs.take n).any (· == k')) n → R (.ok (.ret .none)) s') →
      codeAny (model prog w) A (.builtin "set.update.loop" ⟨[.ref S, .ref I], []⟩) R s := by
  have hSw : S ∉ wr := fun h => hSf (W.sub _ h)
  have hsub : ∀ b ∈ wr, b ∈ S :: wr := fun b hb => List.mem_cons_of_mem _ hb
  intro k
  induction k with
  | zero =>
    intro i s hk hi hst hS hR
    have hin : i = n := by omega
    subst hin
    refine codeAny_builtin PyProof.Rows.F.entry_set_update_loop ?_
    rw [Around.under_plainId PyProof.Rows.F.plain_set_update_loop _]
    show wpAny _ A.in1 (pyNext (.ref I) >>= _) _ _ s
    refine wpAny_bind (W.done s _ _ hst fun s' hm => ?_)
    show wpAny _ A.in1 (ret Value.none) _ _ s'
    exact wpAny_pure (hR s' (hm.mono hsub) (by
      obtain ⟨o, es, ep, t, ho, rest⟩ := hS
      exact ⟨o, es, ep, t, hm.heap S _ hSw ho, rest⟩))
  | succ k ih =>
    intro i s hk hi hst hS hR
    have hlt : i < n := by omega
    refine codeAny_builtin PyProof.Rows.F.entry_set_update_loop ?_
    rw [Around.under_plainId PyProof.Rows.F.plain_set_update_loop _]
    show wpAny _ A.in1 (pyNext (.ref I) >>= _) _ _ s
    refine wpAny_bind (W.item i s _ _ hlt hst fun v s' hP hst' hm => ?_)
    obtain ⟨t, rfl⟩ := hval i v hP
    have hS' : s'.heap.SetOf (PySem.strKind prog w) S (fun k' => (xs.take i).any (· == k')) i := by
      obtain ⟨o, es, ep, tb, ho, rest⟩ := hS
      exact ⟨o, es, ep, tb, hm.heap S _ hSw ho, rest⟩
    show wpAny _ A.in1 (holding [Value.str (xs.getD i Str.empty) t] (setAdd S (.str (xs.getD i Str.empty) t)) >>= _) _ _ s'
    refine wpAny_bind (wpAny_holding ?_)
    unfold setAdd
    refine wpAny_holding ?_
    refine wpAny_bind ((PySem.strKind prog w).pyHash (k := xs.getD i Str.empty) (strKind_is _ _ _ _) ?_)
    refine wpAny_setAddHashed_of (knd := PySem.strKind prog w) (s := { s' with toks := s'.toks + 1 }) (strKind_is _ _ _ _) rfl hS' (by unfold scanBound; omega) fun h' hsb hS2 => ?_
    have hSi : h'.SetOf (PySem.strKind prog w) S (fun k' => (xs.take (i + 1)).any (· == k')) (i + 1) := by
      have hlx : i < xs.length := by omega
      have eg : xs.getD i Str.empty = xs[i] := by rw [List.getD_eq_getElem?_getD, List.getElem?_eq_getElem hlx] <;> rfl
      have no : (xs.take i).any (· == xs.getD i Str.empty) = false := by
        rw [eg]
        refine List.any_eq_false.mpr fun x hx => ?_
        obtain ⟨j, hj, e3⟩ := List.getElem_of_mem hx
        have hji : j < i := by
          rw [List.length_take] at hj
          omega
        have e4 : xs[j]'(Nat.lt_trans hji hlx) = x := by
          rw [← e3, List.getElem_take]
        intro e5
        have e6 : x = xs[i] := eq_of_beq e5
        exact absurd (e4.trans e6) (List.pairwise_iff_getElem.mp hnd j i (Nat.lt_trans hji hlx) hlx hji)
      refine SetOf_congr hS2 (fun k' => ?_) (by rw [if_neg (by rw [no]; exact Bool.false_ne_true)])
      rw [List.take_succ, List.getElem?_eq_getElem hlx, List.any_append, eg]
      show (_ || decide (k' = xs[i])) = (_ || [xs[i]].any (· == k'))
      rw [List.any_cons, List.any_nil, Bool.or_false]
      congr 1
      by_cases e : k' = xs[i]
      · rw [e, decide_eq_true rfl]
        exact (beq_self_eq_true _).symm
      · rw [decide_eq_false e]
        exact (beq_eq_false_iff_ne.mpr fun q => e q.symm).symm
    refine wpAny_pure ⟨plainId_quiet PyProof.Rows.F.plain_set_update_loop _, ih (i + 1) _ (by omega) hlt (W.frame _ s' _ _ hst' (Nat.le_succ _) fun b hb o e => ?_) hSi fun s'' hm'' hS'' => ?_⟩
    · rw [hsb.2 b (fun h : b = S => hSf (by rw [← h]; exact hb))]; exact e
    · refine hR s'' (Moved.trans W.gtrans ((hm.mono hsub).then_heap (Nat.le_succ _) fun b o hb e => ?_) hm'') hS''
      rw [hsb.2 b (fun h : b = S => hb (by rw [h]; exact List.mem_cons_self))]; exact e
end

section
variable {prog : Program} {w : World} {A : Around} {E : Value → Shared → Prop} {s : Shared}
set_option maxHeartbeats 3200000 in
theorem call_set_tupleN {l : Addr} {items : Array Value} {xs : List Str} {Q : Value → Shared → Prop}
    (hh : A.handled = none) (hl : s.heap.IsTuple l items) (hi : PyProof.Rows.StrsAre items.toList xs) (hnd : xs.Nodup) (hn1 : xs.length ≤ 60)
    (h : ∀ (h' : Heap) (tk : Nat), h'.SetOf (PySem.strKind prog w) s.heap.objs.size (fun k' => (xs.take items.size).any (· == k')) items.size →
      (∀ b o, b < s.heap.objs.size → s.heap.get? b = some o → h'.get? b = some o) → Q (.ref s.heap.objs.size) { s with heap := h', toks := tk }) :
    wpAny (model prog w) A (call (.type "set") [.ref l]) Q E s := by
  obtain ⟨c, tl, hmro⟩ := PySem.F.called_set.mro
  have hmade := PySem.F.called_set.made
  have hsub := PySem.F.called_set.sub
  refine wpAny_call (codeAny_of_tree ?_)
  show wpAny _ _ (callAny (.type "set") _) _ _ _
  refine wpAny_pure ⟨Code.quiet_builtin _ (by decide +kernel), codeAny_builtin PySem.F.entry_type_call ?_⟩
  rw [Around.under_plain (weight_type_call_type "set" [.ref l] []) rfl]
  have h1 := PySem.F.called_set.notType
  have h2 := PySem.F.called_set.canCreate
  have hct := PySem.F.typeCall_set_1 (.ref l)
  repeat (any_goals (first | assumption | wp_step))

  refine codeAny_mono (code_set_new_1 (.ref l) (E := E) (Q₁ := fun obj s₁ => ∃ led : Bool, obj = .ref s.heap.objs.size ∧ s₁ = { s with heap := s.heap.push { cls := .type "set", dict := none, data := .set #[] 0 (.fresh 0 0 led) } }) fun led => ⟨led, rfl, rfl⟩) fun r s₁ hr => ?_
  cases r with
  | error e => exact hr
  | ok fl =>
    cases fl with
    | ret obj =>
      obtain ⟨led, rfl, rfl⟩ := hr
      have hS : (s.heap.push { cls := .type "set", dict := none, data := .set #[] 0 (.fresh 0 0 led) }).get? s.heap.objs.size = some { cls := .type "set", dict := none, data := .set #[] 0 (.fresh 0 0 led) } := Heap.get?_push_size _ rfl
      have hT : Shared.TypeIs { s with heap := s.heap.push { cls := .type "set", dict := none, data := .set #[] 0 (.fresh 0 0 led) } } (.ref s.heap.objs.size) "set" := ⟨_, hS, rfl⟩
      have hli := PySem.F.called_set.init.lookup
      have hbi := PySem.F.called_set.init.bind (.ref s.heap.objs.size)
      repeat (any_goals (first | assumption | wp_step))

      refine codeAny_mono (codeAny_call_builtin (R := wants (fun r s₂ => r = .none ∧ ∃ h' tk, s₂ = { s with heap := h', toks := tk } ∧
          h'.SetOf (PySem.strKind prog w) s.heap.objs.size (fun k' => (xs.take items.size).any (· == k')) items.size ∧
          (∀ b o, b < s.heap.objs.size → s.heap.get? b = some o → h'.get? b = some o)) E) PySem.F.called_set.init.plain PySem.F.entry_set_init (check_set_init_1 hT ?_)) fun r₂ s₂ hr₂ => ?_
      · obtain ⟨ol, hol, hcl, nl, hdl⟩ := hl
        obtain ⟨ocls, odict, odata, oslots⟩ := ol
        simp only at hcl hdl
        subst hcl; subst hdl
        have hol' : (s.heap.push { cls := .type "set", dict := none, data := .set #[] 0 (.fresh 0 0 led) }).get? l = some { cls := .type "tuple", dict := odict, data := .seq items nl, slots := oslots } := Heap.get?_push_of_some _ hol
        have hsls := PySem.F.sub_tuple_set
        have hslf := PySem.F.sub_tuple_frozenset
        have hne : (Value.type "tuple" == Value.type "dict") = false := by decide
        have hl1 : (s.heap.push { cls := .type "set", dict := none, data := .set #[] 0 (.fresh 0 0 led) }).IsTuple l items := ⟨_, hol', rfl, nl, rfl⟩
        unfold Builtin.«set.__init__» noKeywords Builtin.Frozenset.updateFrom
        generalize hPI : pyIter = PI
        wp_walk
        subst hPI

        refine wpAny_pyIter_tuple hl1 ?_
        refine wpAny_bind (wpAny_runValue ?_)
        have hlS : l < s.heap.objs.size := Heap.lt_size hol
        have hh3 : A.in1.in1.in1.handled = none := by simp [hh]
        have hneI : l ≠ (s.heap.push { cls := .type "set", dict := none, data := .set #[] 0 (.fresh 0 0 led) }).objs.size := by
          rw [Heap.size_push]; exact Nat.ne_of_lt (Nat.lt_succ_of_lt hlS)
        have hSf : s.heap.objs.size ∉ [(s.heap.push { cls := .type "set", dict := none, data := .set #[] 0 (.fresh 0 0 led) }).objs.size, l] := by
          rw [Heap.size_push]; simp only [List.mem_cons, List.mem_singleton, List.not_mem_nil, or_false, not_or]
          exact ⟨Nat.ne_of_lt (Nat.lt_succ_self _), Nat.ne_of_gt hlS⟩
        have hsz : xs.length = items.size := by rw [← _root_.PyProof.Rows.StrsAre.len_eq hi, Array.length_toList]
        have hval : ∀ (i : Nat) (v : Value), items[i]? = some v → ∃ t, v = .str (xs.getD i Str.empty) t := fun i v hv => strs_at hi i v (by rw [Array.getElem?_toList]; exact hv)
        refine loopN ((Walks.tuple hh3 _ l hneI items).toS) s.heap.objs.size
          hSf xs hsz hnd (by rw [← hsz]; exact hn1) hval (items.size - 0) 0 _ (by omega) (Nat.zero_le _)
          ⟨⟨_, Heap.get?_push_size _ rfl, rfl, rfl⟩, (hl1.push _)⟩ ?hS0 ?hR
        case hS0 =>
          have hget : ((s.heap.push { cls := .type "set", dict := none, data := .set #[] 0 (.fresh 0 0 led) }).push { cls := .type "tuple_iterator", data := .fields #[.ref l, .int 0 0] }).get? s.heap.objs.size
              = some { cls := .type "set", dict := none, data := .set #[] 0 (.fresh 0 0 led) } := Heap.get?_push_of_some _ hS
          exact PyProof.Rows.SetOf_congr ((PyProof.Rows.setObjOf_fresh (knd := PySem.strKind prog w) led).setOf hget (by unfold scanBound; omega)) (fun _ => rfl) rfl
        case hR =>
          intro s' hm hS'
          obtain ⟨h', g', d', tk', os'⟩ := s'
          have eg : g' = s.gens := hm.gens
          have ed : d' = s.drawn := hm.drawn
          have eo : os' = s.os := hm.os
          subst eg; subst ed; subst eo
          show wpAny _ _ _ _ _ _
          refine wpAny_pure ?_
          show wpAny _ _ (ret Value.none) _ _ _
          refine wpAny_pure ⟨rfl, h', tk', rfl, hS', fun b o hb e => ?_⟩
          have hb1 : b ≠ s.heap.objs.size := Nat.ne_of_lt hb
          have hb2 : b ≠ (s.heap.push { cls := .type "set", dict := none, data := .set #[] 0 (.fresh 0 0 led) }).objs.size := by
            rw [Heap.size_push]; exact Nat.ne_of_lt (Nat.lt_succ_of_lt hb)
          exact hm.heap b o (by simp only [List.mem_cons, List.mem_singleton, List.not_mem_nil, or_false, not_or]; exact ⟨hb1, hb2⟩) (Heap.get?_push_of_some _ (Heap.get?_push_of_some _ e))

      · cases r₂ with
        | error e => exact hr₂
        | ok fl₂ =>
          cases fl₂ with
          | ret r =>
            obtain ⟨rfl, h', tk, rfl, hS', hk'⟩ := hr₂
            repeat (any_goals (first | assumption | wp_step))
            exact h _ _ hS' hk'
          | _ => exact hr₂.elim
    | _ => exact hr.elim

end

section
variable {X : Cx}
/-- len(set(xs)), xs a tuple of unlike texts -/
def tLenSetN (K : PySem.W.Frag) (ta : TE) : TE := fun σ H Q => ta σ H fun x H1 => ∃ l, ∃ xs : List Str, x = .ref l ∧ SqT K H1 l (xs.map V.str) ∧ xs.Nodup ∧ xs.length ≤ 60 ∧ Q (.int xs.length) H1
theorem pe_lenSetN {a : Expr} {ta : TE} {p p2 q pos : Pos} (hc : X.calm = true) (hg : Gl X "len") (hm : X.mg "len" = none) (hg2 : Gl X "set") (hm2 : X.mg "set" = none) (ha : PE X a ta)
    (na : starEach [a] X.env = (false, eval a X.env) :: starEach [] X.env := by rfl) : PE X (.Call (.Name "len" p) [.Call (.Name "set" p2) [a] [] q] [] pos) (tLenSetN X.K ta) := by
  refine ⟨fun pins s σ H Q I h => ?_⟩
  refine Call_ (ld_blt I hg hm boot_len ?_)
  refine PyProof.Rows.callWith_builtin1 (PyProof.Rows.args_cons ?_ rfl) rfl rfl
  refine Call_ (ld_blt I hg2 hm2 boot_set ?_)
  refine PyProof.Rows.callWith_type1 (PyProof.Rows.args_cons (thn (ha.run pins s σ H _ I h) fun v s1 ⟨x, H1, I1, r1, q1⟩ => PyProof.Rows.args_nil ?_) na) na rfl
  obtain ⟨l, xs, rfl, hq, hnd, h1, q1⟩ := q1
  cases r1
  obtain ⟨its, r, pl, hz⟩ := I1.tuple hq
  refine call_set_tupleN (I1.ok.hd hc) pl (by simpa using strsAre_of r) hnd h1 fun h' tk hS hk => ?_
  refine PyProof.Rows.args_nil ?_
  have hl : its.toArray.size = xs.length := by rw [List.size_toArray, ← r.length, List.length_map]
  rw [hl] at hS
  obtain ⟨o, es, ep, t, ho, hex, hd, _, _, _, hf, hn⟩ := hS
  have I2 : Inv X pins σ H1 { s1 with heap := h', toks := tk } := I1.kept fun b o e => hk b o (Heap.lt_size e) e
  exact call_len_set ho hex hd hf (by rw [hn] <;> omega) ⟨.int xs.length, H1, I2.tok _, ⟨_, by rw [hn]⟩, q1⟩
end
end SetN
open SetN

section
variable {P : Program} {w : World} {K : PySem.W.Frag} {mg : Str → Option Value} {base : Heap}
theorem kp_at {S : Addr → Prop} {H H1 : Hp} {d : Addr} {o : HO} (k : Kp S H H1) (n : H d = none) : Kp S H (upd H1 d o) := fun c x e f => by
  rw [upd_ne (ne_of_none e n)]
  exact k c x e f
theorem kp_on {S : Addr → Prop} {H H1 : Hp} {d : Addr} {o : HO} {u : HO} (k : Kp S H H1) (e1 : H d = some u) (m : Mut (some u)) (hs : S d) : Kp S H (upd H1 d o) := fun c x e f => by
  by_cases h : c = d
  · subst h
    rw [e1] at e
    cases e
    exact absurd m (f hs)
  · rw [upd_ne h]
    exact k c x e f
theorem putF_ne {x y : Str} {v u : V} {fs : List (Str × V)} (h : y ≠ x) : putF x v ((y, u) :: fs) = (y, u) :: putF x v fs := by
  show (if y = x then _ else _) = _
  rw [if_neg h]
/-- an address that is new later was new before -/
theorem nw_of {H H1 : Hp} {p a : Addr} (k : Kp (fun x => x = p) H H1) (e : ∃ o, H1 p = some o) (n : H1 a = none) : H a = none := by
  cases z : H a with
  | none => rfl
  | some o =>
    obtain ⟨o2, e2⟩ := e
    have := k a o z (fun y => by rw [y, e2] at n; cases n)
    rw [n] at this
    cases this
def sp_arep (K : PySem.W.Frag) : Sp := fun vs H Q _ => ∃ (t : Addr) (ps : List Str), vs = [.ref t] ∧ SqT K H t (ps.map V.str) ∧ (∀ x ∈ ps, IsNm x) ∧ ps.Nodup ∧ ps.length ≤ 4 ∧ ∀ H', Same H H' → Q (.bl true) H'
theorem ok_are_params (T : Top K mg) : FnOk P w K mg base CX0 2 (He.ga K "are_params") T.fd_are_params ["thing"] (sp_arep K) := by
  have G_is_name := ok_is_name (P := P) (w := w) (base := base) T
  refine T.F_are_params.ok sc_are_params (fun vs H Q E h => ?_) (fun cdv A outer s H vs Q E hr h => ?_)
  · obtain ⟨t, ps, rfl, _⟩ := h
    rfl
  · obtain ⟨t, ps, rfl, hp, hn, nd, l4, q⟩ := h
    refine ⟨_, PSs.nox (pss_cons (ps_if (PW.pt (pw_or (pt_not (pt_val (pe_callB call_isi (by rfl) T.m_isinstance (by decide +kernel) (pa_cons (pv 0) (pa_cons (pe_bltn (v := .ty "tuple") (by rfl) T.m_tuple (by decide +kernel) rfl) pa_nil))))) (pw_or (pt_cmpR op_gt (pe_callB call_len_seq (by rfl) T.m_len (by decide +kernel) (pa_cons (pv 0) pa_nil)) (pe_glob (v := .int 4) (by rfl) T.c_MOST_PARAMS ⟨_, rfl⟩) (nomark _)) (pw_or1 (pt_not (pt_val (pe_callB (cr_all (by rfl)) (by rfl) T.m_all (by decide +kernel) (pa_cons (pe_lc (own := [("one", 1)]) (by rfl) sc_are_params.nd (pi_tup (pv 0)) (blkOk_by (own := [("one", 1)]) (N := N_are_params) (sc := defScope s_are_params) (by decide +kernel)) (fun _ _ _ _ _ => (pg_name (i := 1) sc_are_params.nd rfl (Or.inl rfl))) (fun _ _ _ _ _ => pts_nil) (fun _ _ _ _ _ => (pe_call G_is_name (hr.mono (by omega)) (by rfl) T.g_is_name T.F_is_name.kp T.b_is_name .nil pass0 (pa_cons (pv 1) pa_nil)))) pa_nil)))))))) (pss_one (ps_ret pe_bl)) pss_nil)
        (pss_one (ps_ret (pe_cmpR op_eq (SetN.pe_lenSetN (by rfl) (by rfl) T.m_len (by rfl) T.m_set (pv 0)) (pe_callB call_len_seq (by rfl) T.m_len (by decide +kernel) (pa_cons (pv 0) pa_nil)) (nomark _))))), ?_⟩
    have lp : (ps.map V.str).length = ps.length := List.length_map ..
    refine ⟨_, rfl, _, _, _, _, true, rfl, .ty _, ty_tup hp, kit_tup (.tuple []), _, rfl, ifF rfl ?_⟩
    refine ⟨_, rfl, t, _, rfl, .inr hp, _, _, rfl, rfl, _, rfl, ifN (by omega) ?_⟩
    refine ⟨_, rfl, t, rfl, ⟨_, hp⟩, fun D nD => ?_⟩
    have s1 := same_new (o := .lst []) nD
    refine lc_tup (K := K) (a := t) (xs := ps.map V.str) (fun j H' => Same H H' ∧ H' D = some (.lst ((List.replicate j true).map V.bl))) ?_ ?_ ?_ ?_
    · exact ⟨s1, upd_same⟩
    · intro j H' _ k
      exact sqT_sm k.1 hp
    · rintro j y H2 hy ⟨k2, e2⟩
      have jl : j < ps.length := by rw [← lp]; exact (List.getElem?_eq_some_iff.mp hy).1
      rw [List.getElem?_map] at hy
      obtain ⟨x, hx, rfl⟩ := Option.map_eq_some_iff.mp hy
      have nx := hn x (List.mem_of_getElem? hx)
      refine ⟨rfl, _, rfl, .str x, rfl, .inl ⟨x, rfl, Nat.le_trans nx.hi (by decide), fun H3 s3 => ?_⟩⟩
      rw [nmB_ok.mpr nx]
      have e3 := s3 _ _ e2
      refine ⟨_, e3, by rw [List.length_map, List.length_replicate, sizeLine_eq]; omega, ?_, by rw [upd_same, List.replicate_succ', List.map_append]; rfl⟩
      exact fun c x e => by rw [upd_ne (ne_of_none e nD)]; exact (k2.trans s3) c x e
    · rintro H2 ⟨k2, e2⟩
      refine ⟨D, _, rfl, .inl (.inl e2), ?_⟩
      have ea : (List.replicate (ps.map V.str).length true).all id = true := by
        rw [List.all_eq_true]
        intro x hx
        rw [List.eq_of_mem_replicate hx]
        rfl
      rw [ea]
      refine ⟨_, rfl, ifF rfl ?_⟩
      have hp2 := sqT_sm k2 hp
      exact ⟨_, rfl, t, ps, rfl, hp2, nd, by omega, _, rfl, t, _, rfl, .inr hp2, rfl, blD (by rw [lp]) (q _ k2)⟩
def sp_scinit (K : PySem.W.Frag) : Sp := fun vs H Q _ => ∃ (p dx t rA hA : Addr) (ps : List Str) (rs : List V) (kvs : List (Key × V)), vs = [.ref p, .ref t, .ref rA, .ref hA] ∧ H p = some (.ins (He.ga K "Scope") dx []) ∧ SqT K H t (ps.map V.str) ∧ H rA = some (.lst rs) ∧ H hA = some (.dK kvs) ∧
  ps.Nodup ∧ ps.length ≤ 12 ∧ ∀ H' r h k, Kp (fun x => x = p) H H' → H r = none → H h = none → H k = none → h ≠ k → H' p = some (.ins (He.ga K "Scope") dx (scF r h k 0)) → H' r = some (.lst rs) → H' h = some (.dK kvs) → H' k = some (.dK (knD ps)) → Q .non H'
theorem ok_Scope_init (T : Top K mg) : FnOk P w K mg base CX0 1 (He.ma K (He.ga K "Scope") "__init__") T.fd_Scope___init__ ["self", "params", "rows", "heads"] (sp_scinit K) := by
  refine T.F_Scope___init__.ok sc_Scope___init__ (fun vs H Q E h => ?_) (fun cdv A outer s H vs Q E hr h => ?_)
  · obtain ⟨p, dx, t, rA, hA, ps, rs, kvs, rfl, _⟩ := h
    rfl
  · obtain ⟨p, dx, t, rA, hA, ps, rs, kvs, rfl, ep, ht, eR, eH, nd, l12, q⟩ := h
    refine ⟨_, PSs.nox (pss_cons (ps_fld (pv 0) (pe_callTy call_list_of (by rfl) T.m_list (by decide +kernel) (pa_cons (pv 2) pa_nil)) rfl)
        (pss_cons (ps_fld (pv 0) (pe_callTy call_dictD (by rfl) T.m_dict (by decide +kernel) (pa_cons (pv 3) pa_nil)) rfl)
        (pss_cons (ps_fld (pv 0) pe_dnewK rfl)
        (pss_cons (ps_fld (pv 0) pe_int rfl)
        (pss_one (ps_for PassesOwn.never (by rfl) (pi_tup (pv 1)) (pg_name (i := 4) sc_Scope___init__.nd rfl (Or.inl rfl)) (pss_one (ps_dput (hu_of hr) (pe_fld (pv 0) rfl) (pv 4) pe_bl (by rfl))))))))), ?_⟩
    refine ⟨_, rfl, rA, _, rfl, .inl (.of eR), fun r nr => ?_⟩
    have hpr : p ≠ r := ne_of_none ep nr
    refine ⟨_, rfl, p, _, dx, _, rfl, by rw [upd_ne hpr]; exact ep, T.cl_Scope, T.no_Scope_rows, by decide, ?_⟩
    have k1 : Kp (fun x => x = p) H (upd (upd H r (.lst rs)) p (.ins (He.ga K "Scope") dx [("rows", .ref r)])) := kp_on (kp_at Kp.refl nr) ep trivial rfl
    rw [show putF ("rows" : Str) (V.ref r) [] = [(("rows" : Str), V.ref r)] from rfl]
    have eh1 : (upd (upd H r (.lst rs)) p (.ins (He.ga K "Scope") dx [("rows", .ref r)])) hA = some (.dK kvs) := k1 _ _ eH fun z => by rw [z, ep] at eH; cases eH
    have er1 : (upd (upd H r (.lst rs)) p (.ins (He.ga K "Scope") dx [("rows", .ref r)])) r = some (.lst rs) := by rw [upd_ne hpr.symm]; exact upd_same
    have ep1 : (upd (upd H r (.lst rs)) p (.ins (He.ga K "Scope") dx [("rows", .ref r)])) p = some (.ins (He.ga K "Scope") dx [("rows", .ref r)]) := upd_same
    generalize upd (upd H r (.lst rs)) p (.ins (He.ga K "Scope") dx [("rows", .ref r)]) = H1 at k1 eh1 er1 ep1 ⊢
    refine ⟨_, rfl, hA, kvs, rfl, .of eh1, fun h nh => ?_⟩
    have hph : p ≠ h := ne_of_none ep1 nh
    have nh0 := nw_of k1 ⟨_, ep1⟩ nh
    refine ⟨_, rfl, p, _, dx, _, rfl, by rw [upd_ne hph]; exact ep1, T.cl_Scope, T.no_Scope_heads, (by show 1 < 1000; decide), ?_⟩
    rw [putF_ne (x := ("heads" : Str)) (y := ("rows" : Str)) (by decide +kernel), show putF ("heads" : Str) (V.ref h) [] = [(("heads" : Str), V.ref h)] from rfl]
    have k2 : Kp (fun x => x = p) H (upd (upd H1 h (.dK kvs)) p (.ins (He.ga K "Scope") dx [("rows", .ref r), ("heads", .ref h)])) := kp_on (kp_at k1 nh0) ep trivial rfl
    have eh2 : (upd (upd H1 h (.dK kvs)) p (.ins (He.ga K "Scope") dx [("rows", .ref r), ("heads", .ref h)])) h = some (.dK kvs) := by rw [upd_ne hph.symm]; exact upd_same
    have er2 : (upd (upd H1 h (.dK kvs)) p (.ins (He.ga K "Scope") dx [("rows", .ref r), ("heads", .ref h)])) r = some (.lst rs) := by rw [upd_ne hpr.symm, upd_ne (ne_of_none er1 nh)]; exact er1
    have ep2 : (upd (upd H1 h (.dK kvs)) p (.ins (He.ga K "Scope") dx [("rows", .ref r), ("heads", .ref h)])) p = some (.ins (He.ga K "Scope") dx [("rows", .ref r), ("heads", .ref h)]) := upd_same
    generalize upd (upd H1 h (.dK kvs)) p (.ins (He.ga K "Scope") dx [("rows", .ref r), ("heads", .ref h)]) = H2 at k2 eh2 er2 ep2 ⊢
    intro k nk
    have hpk : p ≠ k := ne_of_none ep2 nk
    have nk0 := nw_of k2 ⟨_, ep2⟩ nk
    refine ⟨_, rfl, p, _, dx, _, rfl, by rw [upd_ne hpk]; exact ep2, T.cl_Scope, T.no_Scope_known, (by show 2 < 1000; decide), ?_⟩
    rw [putF_ne (x := ("known" : Str)) (y := ("rows" : Str)) (by decide +kernel), putF_ne (x := ("known" : Str)) (y := ("heads" : Str)) (by decide +kernel), show putF ("known" : Str) (V.ref k) [] = [(("known" : Str), V.ref k)] from rfl]
    have k3 : Kp (fun x => x = p) H (upd (upd H2 k (.dK [])) p (.ins (He.ga K "Scope") dx [("rows", .ref r), ("heads", .ref h), ("known", .ref k)])) := kp_on (kp_at k2 nk0) ep trivial rfl
    have ek3 : (upd (upd H2 k (.dK [])) p (.ins (He.ga K "Scope") dx [("rows", .ref r), ("heads", .ref h), ("known", .ref k)])) k = some (.dK []) := by rw [upd_ne hpk.symm]; exact upd_same
    have hhk : h ≠ k := ne_of_none eh2 nk
    have eh3 : (upd (upd H2 k (.dK [])) p (.ins (He.ga K "Scope") dx [("rows", .ref r), ("heads", .ref h), ("known", .ref k)])) h = some (.dK kvs) := by rw [upd_ne hph.symm, upd_ne hhk]; exact eh2
    have er3 : (upd (upd H2 k (.dK [])) p (.ins (He.ga K "Scope") dx [("rows", .ref r), ("heads", .ref h), ("known", .ref k)])) r = some (.lst rs) := by rw [upd_ne hpr.symm, upd_ne (ne_of_none er2 nk)]; exact er2
    have ep3 : (upd (upd H2 k (.dK [])) p (.ins (He.ga K "Scope") dx [("rows", .ref r), ("heads", .ref h), ("known", .ref k)])) p = some (.ins (He.ga K "Scope") dx [("rows", .ref r), ("heads", .ref h), ("known", .ref k)]) := upd_same
    generalize upd (upd H2 k (.dK [])) p (.ins (He.ga K "Scope") dx [("rows", .ref r), ("heads", .ref h), ("known", .ref k)]) = H3 at k3 ek3 eh3 er3 ep3 ⊢
    refine ⟨_, rfl, p, _, dx, _, rfl, ep3, T.cl_Scope, T.no_Scope_many, (by show 3 < 1000; decide), ?_⟩
    rw [putF_ne (x := ("many" : Str)) (y := ("rows" : Str)) (by decide +kernel), putF_ne (x := ("many" : Str)) (y := ("heads" : Str)) (by decide +kernel), putF_ne (x := ("many" : Str)) (y := ("known" : Str)) (by decide +kernel), show putF ("many" : Str) (V.int 0) [] = [(("many" : Str), V.int 0)] from rfl]
    have k4 : Kp (fun x => x = p) H (upd H3 p (.ins (He.ga K "Scope") dx (scF r h k 0))) := kp_on k3 ep trivial rfl
    have ek4 : (upd H3 p (.ins (He.ga K "Scope") dx (scF r h k 0))) k = some (.dK []) := by rw [upd_ne hpk.symm]; exact ek3
    have eh4 : (upd H3 p (.ins (He.ga K "Scope") dx (scF r h k 0))) h = some (.dK kvs) := by rw [upd_ne hph.symm]; exact eh3
    have er4 : (upd H3 p (.ins (He.ga K "Scope") dx (scF r h k 0))) r = some (.lst rs) := by rw [upd_ne hpr.symm]; exact er3
    have ep4 : (upd H3 p (.ins (He.ga K "Scope") dx (scF r h k 0))) p = some (.ins (He.ga K "Scope") dx (scF r h k 0)) := upd_same
    refine ⟨_, rfl, t, rfl, ⟨_, sqT_kp k4 ht⟩, ?_⟩
    show _
    have lp : (ps.map V.str).length = ps.length := List.length_map ..
    refine for_tup (K := K) (xs := ps.map V.str) (fun j σ' H' => Kp (fun x => x = p) H H' ∧ H' p = some (.ins (He.ga K "Scope") dx (scF r h k 0)) ∧ H' r = some (.lst rs) ∧ H' h = some (.dK kvs) ∧ H' k = some (.dK (knD (ps.take j))) ∧ ∃ x4, σ' = [some (.ref p), some (.ref t), some (.ref rA), some (.ref hA), x4]) ?_ ?_ ?_ ?_
    · exact ⟨k4, ep4, er4, eh4, ek4, _, rfl⟩
    · rintro j σ' H' _ ⟨k', _⟩
      exact sqT_kp k' ht
    · rintro j y σ' H5 hy ⟨k5, ep5, er5, eh5, ek5, x4, rfl⟩
      have jl : j < ps.length := by rw [← lp]; exact (List.getElem?_eq_some_iff.mp hy).1
      rw [List.getElem?_map] at hy
      obtain ⟨x, hx, rfl⟩ := Option.map_eq_some_iff.mp hy
      refine ⟨_, rfl, p, _, dx, _, _, rfl, ep5, T.cl_Scope, T.no_Scope_known, scF_known _ _ _ _, _, rfl, k, _, rfl, .inl ⟨_, .inr x, ek5, rfl, ?_, rfl⟩, ?_⟩
      · rw [sizeLine_eq]
        unfold knD
        rw [List.length_map, List.length_take]
        omega
      · have ht1 : ps.take (j + 1) = ps.take j ++ [x] := by
          rw [List.take_succ, hx]
          rfl
        have nx : x ∉ ps.take j := fun hm => by
          have nd' : (ps.take (j + 1)).Nodup := nd.sublist (List.take_sublist _ _)
          rw [ht1, List.nodup_append] at nd'
          exact nd'.2.2 _ hm _ (List.mem_singleton.mpr rfl) rfl
        rw [put_kn, if_neg nx, ← ht1]
        refine ⟨kp_at k5 nk0, ?_, ?_, ?_, upd_same, _, rfl⟩
        · rw [upd_ne hpk]; exact ep5
        · rw [upd_ne (fun z => by rw [z, ek5] at er5; cases er5)]; exact er5
        · rw [upd_ne hhk]; exact eh5
    · rintro σ' H5 ⟨k5, ep5, er5, eh5, ek5, x4, rfl⟩
      rw [lp, List.take_length] at ek5
      exact q _ _ _ _ k5 nr nh0 nk0 hhk ep5 er5 eh5 ek5
end

/-! things as trees of values -/
inductive Tr
  | non | bl (b : Bool) | int (i : Int) | str (z : Str) | lst (a : Addr) | nd (p : Addr) (ts : List Tr)
def Tr.v : Tr → V
  | .non => .non
  | .bl b => .bl b
  | .int i => .int i
  | .str z => .str z
  | .lst a => .ref a
  | .nd p _ => .ref p
def Tr.pd : Tr → PyData
  | .non => .none
  | .bl b => .bool b
  | .int i => .int i
  | .str z => .str z
  | .lst _ => .list []
  | .nd _ _ => .tuple []
mutual
/-- all texts in a thing -/
def txs : Tr → List Str
  | .str z => [z]
  | .nd _ ts => txsL ts
  | .non => []
  | .bl _ => []
  | .int _ => []
  | .lst _ => []
def txsL : List Tr → List Str
  | [] => []
  | t :: r => txs t ++ txsL r
end
theorem txsL_app (a b : List Tr) : txsL (a ++ b) = txsL a ++ txsL b := by
  induction a with
  | nil => rw [txsL]; rfl
  | cons t r ih => rw [List.cons_append, txsL, txsL, ih, List.append_assoc]
theorem txsL_mem {ts : List Tr} {t : Tr} (h : t ∈ ts) : ∀ z ∈ txs t, z ∈ txsL ts := by
  induction ts with
  | nil => cases h
  | cons a r ih =>
    intro z hz
    rw [txsL]
    rcases List.mem_cons.mp h with rfl | h
    · exact List.mem_append_left _ hz
    · exact List.mem_append_right _ (ih h z hz)
theorem txsL_len {ts : List Tr} {t : Tr} (h : t ∈ ts) : (txs t).length ≤ (txsL ts).length := by
  induction ts with
  | nil => cases h
  | cons a r ih =>
    rw [txsL, List.length_append]
    rcases List.mem_cons.mp h with rfl | h
    · omega
    · have := ih h
      omega
inductive Wt (K : PySem.W.Frag) (H : Hp) : Tr → Prop
  | non : Wt K H .non
  | bl (b : Bool) : Wt K H (.bl b)
  | int (i : Int) : Wt K H (.int i)
  | str (z : Str) : z.length ≤ 1000 → Wt K H (.str z)
  | lst {a : Addr} {xs : List V} : H a = some (.lst xs) → Wt K H (.lst a)
  | nd {p : Addr} {ts : List Tr} : SqT K H p (ts.map Tr.v) → ts.length ≤ 100000 → (∀ t ∈ ts, Wt K H t) → Wt K H (.nd p ts)
theorem Wt.sm {K : PySem.W.Frag} {H H' : Hp} (s : Same H H') {t : Tr} (h : Wt K H t) : Wt K H' t := by
  induction h with
  | non => exact .non
  | bl b => exact .bl b
  | int i => exact .int i
  | str z l => exact .str z l
  | lst h => exact .lst (s _ _ h)
  | nd h1 h2 _ ih => exact .nd (sqT_sm s h1) h2 ih
theorem Wt.ty {K : PySem.W.Frag} {H : Hp} {t : Tr} (h : Wt K H t) : TyX K H t.v (.type (tyS t.pd)) := by
  cases h with
  | non => exact .base .non
  | bl b => exact .base (.bl b)
  | int i => exact .base (.int i)
  | str z _ => exact .base (.str z)
  | lst h => exact .base (.lst h)
  | nd h _ _ => exact ty_tup h
theorem Wt.nd_inv {K : PySem.W.Frag} {H : Hp} {p : Addr} {ts : List Tr} (h : Wt K H (.nd p ts)) : SqT K H p (ts.map Tr.v) ∧ ts.length ≤ 100000 ∧ ∀ t ∈ ts, Wt K H t := by
  cases h with
  | nd a b c => exact ⟨a, b, c⟩
theorem Wt.str_inv {K : PySem.W.Frag} {H : Hp} {z : Str} (h : Wt K H (.str z)) : z.length ≤ 1000 := by
  cases h with
  | str _ l => exact l
theorem tr_at {ts : List Tr} {j : Nat} {x : V} (h : (ts.map Tr.v)[j]? = some x) : ∃ t, ts[j]? = some t ∧ x = t.v := by
  rw [List.getElem?_map] at h
  obtain ⟨t, ht, rfl⟩ := Option.map_eq_some_iff.mp h
  exact ⟨t, ht, rfl⟩
theorem take_one {α : Type} {l : List α} {j : Nat} {t : α} (h : l[j]? = some t) : l.take (j + 1) = l.take j ++ [t] := by rw [List.take_succ, h]; rfl
theorem tup_of {t : Tr} (h : isT t.pd = true) : ∃ p ts, t = .nd p ts := by
  cases t <;> first | exact ⟨_, _, rfl⟩ | (simp [isT, Tr.pd] at h)
theorem str_of {t : Tr} (h : isS t.pd = true) : ∃ z, t = .str z := by
  cases t <;> first | exact ⟨_, rfl⟩ | (simp [isS, Tr.pd] at h)
theorem noStr_of {K : PySem.W.Frag} {H : Hp} {t : Tr} (wf : Wt K H t) (n : isS t.pd = false) : NoStr K H t.v := by
  refine ⟨tyS t.pd, wf.ty, ?_⟩
  cases t with
  | non => exact (show kitB "NoneType" "str" = some false by decide +kernel)
  | bl b => exact (show kitB "bool" "str" = some false by decide +kernel)
  | int i => exact (show kitB "int" "str" = some false by decide +kernel)
  | str z => cases n
  | lst a => exact (show kitB "list" "str" = some false by decide +kernel)
  | nd p ts => exact (show kitB "tuple" "str" = some false by decide +kernel)
/-! what may stand in a program: plain -/
def numX (lo hi : Int) : Tr → Bool
  | .int i => decide (lo ≤ i) && decide (i ≤ hi)
  | _ => false
def nmX : Tr → Bool
  | .str z => nmB z
  | _ => false
def varX (rs : List Str) : Tr → Bool
  | .str z => nmB z && !decide (z ∈ rs)
  | _ => false
def varN : Tr → List Str
  | .str z => [z]
  | _ => []
def rowX (rs : List Str) : Tr → Bool
  | .str z => decide (z ∈ rs)
  | _ => false
def exX (rs : List Str) : Nat → Tr → Bool
  | 0, _ => false
  | d + 1, .nd _ [.str w, a] => if w = "number" then numX (-2147483648) 2147483647 a else if w = "name" then varX rs a else if w = "not" then exX rs d a else false
  | d + 1, .nd _ [.str w, a, b] => if w = "number" ∨ w = "name" ∨ w = "not" then false else if w = "at" then rowX rs a && exX rs d b else decide (w ∈ wds7) && (exX rs d a && exX rs d b)
  | _ + 1, _ => false
def exN : Nat → Tr → List Str
  | 0, _ => []
  | d + 1, .nd _ [.str w, a] => if w = "name" then varN a else if w = "not" then exN d a else []
  | d + 1, .nd _ [.str w, a, b] => if w = "at" then exN d b else exN d a ++ exN d b
  | _ + 1, _ => []
/-! how many are known -/
def un (ks ns : List Str) : List Str := ns.foldl (fun k z => if z ∈ k then k else k ++ [z]) ks
theorem un_spec (ns : List Str) : ∀ ks : List Str, ks.Nodup → (un ks ns).Nodup ∧ ∀ z, z ∈ un ks ns ↔ z ∈ ks ∨ z ∈ ns := by
  induction ns with
  | nil => exact fun ks nd => ⟨nd, fun z => ⟨fun h => .inl h, fun h => h.resolve_right (fun x => nomatch x)⟩⟩
  | cons a r ih =>
    intro ks nd
    have e : un ks (a :: r) = un (if a ∈ ks then ks else ks ++ [a]) r := rfl
    rw [e]
    by_cases c : a ∈ ks
    · rw [if_pos c]
      obtain ⟨h1, h2⟩ := ih ks nd
      refine ⟨h1, fun z => ?_⟩
      rw [h2 z]
      constructor
      · rintro (h | h)
        · exact .inl h
        · exact .inr (List.mem_cons_of_mem _ h)
      · rintro (h | h)
        · exact .inl h
        · rcases List.mem_cons.mp h with rfl | h
          · exact .inl c
          · exact .inr h
    · rw [if_neg c]
      have nd2 : (ks ++ [a]).Nodup := List.nodup_append.mpr ⟨nd, by simp, fun x hx b hb e => c (by rw [List.mem_singleton.mp hb] at e; exact e ▸ hx)⟩
      obtain ⟨h1, h2⟩ := ih (ks ++ [a]) nd2
      refine ⟨h1, fun z => ?_⟩
      rw [h2 z, List.mem_append, List.mem_singleton, List.mem_cons, or_assoc]
theorem len_le {a b : List Str} (nd : a.Nodup) (h : ∀ z ∈ a, z ∈ b) : a.length ≤ b.length := List.Nodup.length_le_of_subset nd h
theorem len_eq {a b : List Str} (nd : a.Nodup) (nd2 : b.Nodup) (h : ∀ z, z ∈ a ↔ z ∈ b) : a.length = b.length :=
  Nat.le_antisymm (len_le nd fun z hz => (h z).mp hz) (len_le nd2 fun z hz => (h z).mpr hz)
/-- what a look at something comes to: S the texts in it, ok whether its form is right, ns the variables in it, c its statements -/
structure Res (S : List Str) (ok : Bool) (ns : List Str) (c : Nat) (ks : List Str) (m : Nat) (b : Bool) (ks' : List Str) (m' : Nat) : Prop where
  nd : ks'.Nodup
  up : ∀ z ∈ ks, z ∈ ks'
  lo : ∀ z ∈ ks', z ∈ ks ∨ z ∈ S
  mu : m ≤ m'
  iff : ks.length ≤ 12 → m ≤ 25 → (b = true ↔ ok = true ∧ (un ks ns).length ≤ 12 ∧ m + c ≤ 25)
  st : ks.length ≤ 12 → m ≤ 25 → b = true → (∀ z, z ∈ ks' ↔ z ∈ ks ∨ z ∈ ns) ∧ m' = m + c
theorem Res.len {S ns ks ks' : List Str} {ok b : Bool} {c m m' : Nat} (h : Res S ok ns c ks m b ks' m') (nd : ks.Nodup) : ks'.length ≤ ks.length + S.length := by
  have := len_le (b := ks ++ S) h.nd fun z hz => List.mem_append.mpr (h.lo z hz)
  rw [List.length_append] at this
  exact this
/-- nothing looked at -/
theorem Res.no {S ns ks : List Str} {c m : Nat} (nd : ks.Nodup) : Res S false ns c ks m false ks m :=
  ⟨nd, fun _ h => h, fun _ h => .inl h, Nat.le_refl _, fun _ _ => ⟨(fun z => nomatch z), fun z => nomatch z.1⟩, fun _ _ z => nomatch z⟩
theorem Res.plain {S ks : List Str} {m : Nat} {b : Bool} (nd : ks.Nodup) : Res S b [] 0 ks m b ks m :=
  ⟨nd, fun _ h => h, fun _ h => .inl h, Nat.le_refl _, fun h1 h2 => ⟨fun z => ⟨z, h1, h2⟩, fun z => z.1⟩, fun _ _ _ => ⟨fun z => ⟨fun h => .inl h, fun h => h.resolve_right fun x => nomatch x⟩, rfl⟩⟩
/-- it fails for another reason -/
theorem Res.fail {S S' ns ns' ks ks' : List Str} {ok b : Bool} {c c' m m' : Nat} (h : Res S ok ns c ks m b ks' m') (hs : ∀ z ∈ S, z ∈ S') : Res S' false ns' c' ks m false ks' m' :=
  ⟨h.nd, h.up, fun z hz => (h.lo z hz).imp id (hs z), h.mu, fun _ _ => ⟨(fun z => nomatch z), fun z => nomatch z.1⟩, fun _ _ z => nomatch z⟩
theorem Res.cong {S S' ns ns' ks ks' : List Str} {ok b : Bool} {c m m' : Nat} (h : Res S ok ns c ks m b ks' m') (nd : ks.Nodup) (hs : ∀ z ∈ S, z ∈ S') (hn : ∀ z, z ∈ ns ↔ z ∈ ns') : Res S' ok ns' c ks m b ks' m' := by
  have e : (un ks ns).length = (un ks ns').length := len_eq (un_spec ns ks nd).1 (un_spec ns' ks nd).1 fun z => by rw [(un_spec ns ks nd).2, (un_spec ns' ks nd).2, hn]
  refine ⟨h.nd, h.up, fun z hz => (h.lo z hz).imp id (hs z), h.mu, fun a b' => by rw [← e]; exact h.iff a b', fun a b' z => ?_⟩
  obtain ⟨x, y⟩ := h.st a b' z
  exact ⟨fun z => by rw [x z, hn], y⟩
/-- one look behind another one, the second one taken always -/
theorem Res.all {S T ns ms ks k1 k2 : List Str} {ok ok2 b b2 : Bool} {c d m m1 m2 : Nat} (h : Res S ok ns c ks m b k1 m1) (nd : ks.Nodup) (g : Res T ok2 ms d k1 m1 b2 k2 m2) : Res (S ++ T) (ok && ok2) (ns ++ ms) (c + d) ks m (b && b2) k2 m2 := by
  refine ⟨g.nd, fun z hz => g.up z (h.up z hz), fun z hz => ?_, Nat.le_trans h.mu g.mu, fun a a2 => ?_, fun a a2 z => ?_⟩
  · rcases g.lo z hz with q | q
    · rcases h.lo z q with q | q
      · exact .inl q
      · exact .inr (List.mem_append_left _ q)
    · exact .inr (List.mem_append_right _ q)
  · cases b with
    | false =>
      have n := h.iff a a2
      refine ⟨(fun z => by cases z), fun z => ?_⟩
      exfalso
      rw [Bool.and_eq_true] at z
      have l : (un ks ns).length ≤ (un ks (ns ++ ms)).length := len_le (un_spec ns ks nd).1 fun x hx => by
        rw [(un_spec ns ks nd).2] at hx
        rw [(un_spec (ns ++ ms) ks nd).2, List.mem_append]
        rcases hx with hx | hx
        · exact .inl hx
        · exact .inr (.inl hx)
      have := n.mpr ⟨z.1.1, by omega, by omega⟩
      cases this
    | true =>
      obtain ⟨h1, h2, h3⟩ := (h.iff a a2).mp rfl
      obtain ⟨s1, s2⟩ := h.st a a2 rfl
      have l1 : k1.length = (un ks ns).length := len_eq h.nd (un_spec ns ks nd).1 fun z => by rw [s1, (un_spec ns ks nd).2]
      have e : (un k1 ms).length = (un ks (ns ++ ms)).length := len_eq (un_spec ms k1 h.nd).1 (un_spec (ns ++ ms) ks nd).1 fun z => by
        rw [(un_spec ms k1 h.nd).2, (un_spec (ns ++ ms) ks nd).2, s1, List.mem_append, or_assoc]
      have n := g.iff (by omega) (by omega)
      rw [Bool.true_and, n, e, h1, Bool.true_and, s2]
      constructor
      · rintro ⟨x, y, w⟩
        exact ⟨x, y, by omega⟩
      · rintro ⟨x, y, w⟩
        exact ⟨x, y, by omega⟩
  · rw [Bool.and_eq_true] at z
    obtain ⟨z1, z2⟩ := z
    subst z1
    obtain ⟨h1, h2, h3⟩ := (h.iff a a2).mp rfl
    obtain ⟨s1, s2⟩ := h.st a a2 rfl
    have l1 : k1.length = (un ks ns).length := len_eq h.nd (un_spec ns ks nd).1 fun z => by rw [s1, (un_spec ns ks nd).2]
    obtain ⟨t1, t2⟩ := g.st (by omega) (by omega) z2
    exact ⟨fun z => by rw [t1, s1, List.mem_append, or_assoc], by omega⟩
/-- one look behind another one, the second one where the first one is right -/
theorem Res.stop {S T ns ms ks k1 : List Str} {ok ok2 : Bool} {c d m m1 : Nat} (h : Res S ok ns c ks m false k1 m1) (nd : ks.Nodup) : Res (S ++ T) (ok && ok2) (ns ++ ms) (c + d) ks m false k1 m1 := by
  refine ⟨h.nd, h.up, fun z hz => (h.lo z hz).imp id (List.mem_append_left _), h.mu, fun a a2 => ⟨(fun z => nomatch z), fun z => ?_⟩, fun _ _ z => nomatch z⟩
  exfalso
  rw [Bool.and_eq_true] at z
  have l : (un ks ns).length ≤ (un ks (ns ++ ms)).length := len_le (un_spec ns ks nd).1 fun x hx => by
    rw [(un_spec ns ks nd).2] at hx
    rw [(un_spec (ns ++ ms) ks nd).2, List.mem_append]
    rcases hx with hx | hx
    · exact .inl hx
    · exact .inr (.inl hx)
  have := (h.iff a a2).mpr ⟨z.1.1, by omega, by omega⟩
  cases this
theorem Res.cons {S T ns ms ks k1 k2 : List Str} {ok ok2 b : Bool} {c d m m1 m2 : Nat} (h : Res S ok ns c ks m true k1 m1) (nd : ks.Nodup) (g : Res T ok2 ms d k1 m1 b k2 m2) : Res (S ++ T) (ok && ok2) (ns ++ ms) (c + d) ks m b k2 m2 := by
  have := h.all nd g
  rw [Bool.true_and] at this
  exact this
/-- a variable told -/
theorem Res.var {ks : List Str} {m : Nat} {z : Str} (nd : ks.Nodup) : Res [z] true [z] 0 ks m (decide ((if z ∈ ks then ks else ks ++ [z]).length ≤ 12)) (if z ∈ ks then ks else ks ++ [z]) m := by
  obtain ⟨h1, h2⟩ := un_spec [z] ks nd
  have e : un ks [z] = if z ∈ ks then ks else ks ++ [z] := rfl
  rw [e] at h1 h2
  refine ⟨h1, fun x hx => (h2 x).mpr (.inl hx), fun x hx => (h2 x).mp hx, Nat.le_refl _, fun a b => ?_, fun _ _ _ => ⟨h2, rfl⟩⟩
  rw [decide_eq_true_eq, e]
  exact ⟨fun q => ⟨rfl, q, b⟩, fun q => q.2.1⟩

section
variable {P : Program} {w : World} {K : PySem.W.Frag} {mg : Str → Option Value} {base : Heap}
/-- is_number of any thing -/
def sp_numX (K : PySem.W.Frag) : Sp := fun vs H Q _ => ∃ t : Tr, vs = [t.v] ∧ Wt K H t ∧ Q (.bl (numX (-2147483648) 2147483647 t)) H
theorem ok_is_numberX (T : Top K mg) : FnOk P w K mg base CX0 1 (He.ga K "is_number") T.fd_is_number ["thing"] (sp_numX K) := by
  refine T.F_is_number.ok sc_is_number (fun vs H Q E h => ?_) (fun cdv A outer s H vs Q E hr h => ?_)
  · obtain ⟨t, rfl, _⟩ := h
    rfl
  · obtain ⟨t, rfl, wf, q⟩ := h
    refine ⟨_, PSs.nox (pss_one (ps_ret (pe_and (pe_callB call_isi (by rfl) T.m_isinstance (by decide +kernel) (pa_cons (pv 0) (pa_cons (pe_bltn (v := .ty "int") (by rfl) T.m_int (by decide +kernel) rfl) pa_nil))) (pe_and (pe_not (pe_callB call_isi (by rfl) T.m_isinstance (by decide +kernel) (pa_cons (pv 0) (pa_cons (pe_bltn (v := .ty "bool") (by rfl) T.m_bool (by decide +kernel) rfl) pa_nil)))) (pe_one (pe_chain op_le op_lt (pe_un un_neg (pe_glob (v := .int 2147483648) (by rfl) T.c_HALF ⟨_, rfl⟩)) (pv 0) (pe_glob (v := .int 2147483648) (by rfl) T.c_HALF ⟨_, rfl⟩))))))), ?_⟩
    have ty := wf.ty
    refine ⟨_, rfl, _, _, _, _, isI t.pd, rfl, .ty _, ty, kit_int t.pd, _, rfl, ?_⟩
    cases hI : isI t.pd with
    | false =>
      have : numX (-2147483648) 2147483647 t = false := by cases t <;> simp [isI, Tr.pd] at hI <;> rfl
      rw [this] at q
      exact q
    | true =>
      refine ⟨_, rfl, _, _, _, _, isB t.pd, rfl, .ty _, ty, kit_bool t.pd, _, rfl, _, rfl, ?_⟩
      cases hB : isB t.pd with
      | true =>
        have : numX (-2147483648) 2147483647 t = false := by cases t <;> simp [isB, Tr.pd] at hB <;> rfl
        rw [this] at q
        exact q
      | false =>
        cases t <;> simp [isI, isB, Tr.pd] at hI hB
        rename_i i
        have e : numX (-2147483648) 2147483647 (.int i) = (decide (-2147483648 ≤ i) && decide (i ≤ 2147483647)) := rfl
        rw [e] at q
        refine ⟨_, rfl, _, rfl, _, _, rfl, rfl, _, rfl, ?_⟩
        by_cases h1 : -2147483648 ≤ i
        · refine ifD h1 ⟨_, _, rfl, rfl, ?_⟩
          rw [decide_eq_true h1, Bool.true_and] at q
          have e2 : decide (i < 2147483648) = decide (i ≤ 2147483647) := by by_cases c : i ≤ 2147483647 <;> simp [c] <;> omega
          show Q (.bl (decide (i < 2147483648))) H
          rw [e2]
          exact q
        · refine ifN h1 ?_
          rw [decide_eq_false h1, Bool.false_and] at q
          exact q
/-- the program's scope, as it stands; H0 the heap ahead of it -/
structure SX (K : PySem.W.Frag) (H0 H : Hp) (A : ScA) (rs : List Str) (hds : List (Str × Nat)) (ks : List Str) (m : Nat) : Prop where
  ob : ∃ dx, H A.p = some (.ins (He.ga K "Scope") dx (scF A.r A.h A.k m))
  rk : H A.r = some (.lst (rs.map V.str))
  hk : ∃ kvs : List (Key × V), H A.h = some (.dK kvs) ∧ ∀ x : Str, valV kvs (.inr x) = (hds.lookup x).map fun n => V.int (n : Nat)
  kk : H A.k = some (.dK (knD ks))
  nd : ks.Nodup
  ne : A.h ≠ A.k
  s0 : Same H0 H
  f1 : H0 A.p = none
  f2 : H0 A.k = none
def scS (A : ScA) : Addr → Prop := fun b => b = A.k ∨ b = A.p
theorem SX.sm {H0 H H' : Hp} {A : ScA} {rs : List Str} {hds : List (Str × Nat)} {ks : List Str} {m : Nat} (h : SX K H0 H A rs hds ks m) (s : Same H H') : SX K H0 H' A rs hds ks m := by
  obtain ⟨dx, e⟩ := h.ob
  obtain ⟨kvs, e2, f⟩ := h.hk
  exact ⟨⟨dx, s _ _ e⟩, s _ _ h.rk, ⟨kvs, s _ _ e2, f⟩, s _ _ h.kk, h.nd, h.ne, h.s0.trans s, h.f1, h.f2⟩
theorem SX.pk {H0 H : Hp} {A : ScA} {rs : List Str} {hds : List (Str × Nat)} {ks : List Str} {m : Nat} (h : SX K H0 H A rs hds ks m) : A.p ≠ A.k := fun z => by
  obtain ⟨dx, e⟩ := h.ob
  rw [z, h.kk] at e
  cases e
/-- another state of it -/
theorem SX.setK {H0 H : Hp} {A : ScA} {rs : List Str} {hds : List (Str × Nat)} {ks ks' : List Str} {m : Nat} (h : SX K H0 H A rs hds ks m) (nd : ks'.Nodup) : SX K H0 (upd H A.k (.dK (knD ks'))) A rs hds ks' m ∧ Kp (scS A) H (upd H A.k (.dK (knD ks'))) := by
  obtain ⟨dx, e⟩ := h.ob
  obtain ⟨kvs, e2, f⟩ := h.hk
  refine ⟨⟨⟨dx, (upd_ne h.pk).trans e⟩, (upd_ne fun z => ?_).trans h.rk, ⟨kvs, (upd_ne h.ne).trans e2, f⟩, upd_same, nd, h.ne, same_upd h.s0 h.f2, h.f1, h.f2⟩, Kp.upd h.kk trivial (.inl rfl)⟩
  have := h.kk
  rw [← z, h.rk] at this
  cases this
theorem len_knD (ks : List Str) : (knD ks).length = ks.length := List.length_map ..
def sp_varX (K : PySem.W.Frag) : Sp := fun vs H Q _ => ∃ (A : ScA) (t : Tr) (H0 : Hp) (rs : List Str) (hds : List (Str × Nat)) (ks : List Str) (m : Nat), vs = [.ref A.p, t.v] ∧ SX K H0 H A rs hds ks m ∧ Wt K H0 t ∧ ks.length + (txs t).length ≤ 1000000 ∧
  ∀ H' b ks', SX K H0 H' A rs hds ks' m → Kp (scS A) H H' → Res (txs t) (varX rs t) (varN t) 0 ks m b ks' m → Q (.bl b) H'
theorem ok_varX (T : Top K mg) : FnOk P w K mg base CX0 2 (He.ma K (He.ga K "Scope") "is_variable") T.fd_Scope_is_variable ["self", "thing"] (sp_varX K) := by
  have G_is_name := ok_is_name (P := P) (w := w) (base := base) T
  refine T.F_Scope_is_variable.ok sc_Scope_is_variable (fun vs H Q E h => ?_) (fun cdv A outer s H vs Q E hr h => ?_)
  · obtain ⟨A, t, H0, rs, hds, ks, m, rfl, _⟩ := h
    rfl
  · obtain ⟨B, t, H0, rs, hds, ks, m, rfl, sc, wt, lb, q⟩ := h
    refine ⟨_, PSs.nox (pss_cons (ps_if (PW.pt (pw_or (pt_not (pt_val (pe_call G_is_name (hr.mono (by omega)) (by rfl) T.g_is_name T.F_is_name.kp T.b_is_name .nil pass0 (pa_cons (pv 1) pa_nil)))) (pw_or1 (pt_cmpR op_in_seq (pv 1) (pe_fld (pv 0) rfl) (by rfl))))) (pss_one (ps_ret pe_bl)) pss_nil)
        (pss_cons (ps_dput (hu_of hr) (pe_fld (pv 0) rfl) (pv 1) pe_bl (by rfl))
        (pss_one (ps_ret (pe_cmpR op_le (pe_callB call_lenD (by rfl) T.m_len (by decide +kernel) (pa_cons (pe_fld (pv 0) rfl) pa_nil)) (pe_glob (v := .int 12) (by rfl) T.c_MOST_VARIABLES ⟨_, rfl⟩) (nomark _)))))), ?_⟩
    cases hS : isS t.pd with
    | false =>
      have e : varX rs t = false := by cases t <;> first | rfl | (simp [isS, Tr.pd] at hS)
      rw [e] at q
      refine ⟨_, rfl, t.v, rfl, .inr ⟨noStr_of (wt.sm sc.s0) hS, _, rfl, ifT rfl ?_⟩⟩
      exact ifT rfl (q _ _ _ sc Kp.refl (Res.no sc.nd))
    | true =>
      obtain ⟨z, rfl⟩ := str_of hS
      have e : varX rs (.str z) = (nmB z && !decide (z ∈ rs)) := rfl
      rw [e] at q
      refine ⟨_, rfl, .str z, rfl, .inl ⟨z, rfl, wt.str_inv, fun H1 s1 => ⟨_, rfl, ?_⟩⟩⟩
      have sc1 := sc.sm s1
      cases hn : nmB z with
      | false =>
        rw [hn, Bool.false_and] at q
        exact ifT rfl (ifT rfl (q _ _ _ sc1 (Kp.of_same s1) (Res.no sc.nd)))
      | true =>
        rw [hn, Bool.true_and] at q
        refine ifF rfl ?_
        obtain ⟨dx, e1⟩ := sc1.ob
        refine ⟨_, rfl, _, rfl, B.p, _, dx, _, _, rfl, e1, T.cl_Scope, T.no_Scope_rows, scF_rows _ _ _ _, B.r, _, rfl, .inl (.of sc1.rk), rfl, flat_strs rs, _, rfl, ?_⟩
        have hin : inV (Tr.str z).v (rs.map V.str) = decide (z ∈ rs) := in_strs
        by_cases hr' : z ∈ rs
        · rw [decide_eq_true hr'] at q
          refine ifT (by exact hin.trans (decide_eq_true hr')) (q _ _ _ sc1 (Kp.of_same s1) (Res.no sc.nd))
        rw [decide_eq_false hr'] at q
        refine ifF (by exact hin.trans (decide_eq_false hr')) ?_
        have nd2 : (if z ∈ ks then ks else ks ++ [z]).Nodup := (un_spec [z] ks sc.nd).1
        obtain ⟨sc2, k2⟩ := sc1.setK nd2
        obtain ⟨dx2, e2⟩ := sc2.ob
        refine ⟨_, rfl, B.p, _, dx, _, _, rfl, e1, T.cl_Scope, T.no_Scope_known, scF_known _ _ _ _, _, rfl, B.k, _, rfl, .inl ⟨_, .inr z, sc1.kk, rfl, by rw [len_knD, sizeLine_eq]; omega, rfl⟩, ?_⟩
        rw [put_kn]
        refine ⟨_, rfl, B.p, _, dx2, _, _, rfl, e2, T.cl_Scope, T.no_Scope_known, scF_known _ _ _ _, B.k, _, rfl, upd_same, _, _, rfl, rfl, ?_⟩
        rw [len_knD]
        have hv := Res.var (m := m) (z := z) sc.nd
        have e3 : decide (((if z ∈ ks then ks else ks ++ [z]).length : Int) ≤ 12) = decide ((if z ∈ ks then ks else ks ++ [z]).length ≤ 12) := by
          by_cases c : (if z ∈ ks then ks else ks ++ [z]).length ≤ 12
          · rw [decide_eq_true c, decide_eq_true (by omega)]
          · rw [decide_eq_false c, decide_eq_false (by omega)]
        show Q (.bl (decide (((if z ∈ ks then ks else ks ++ [z]).length : Int) ≤ 12))) _
        rw [e3]
        have et : txs (.str z) = [z] := by rw [txs]
        rw [et] at q
        exact q _ _ _ sc2 ((Kp.of_same s1).trans k2) hv
def sp_rowX (K : PySem.W.Frag) : Sp := fun vs H Q _ => ∃ (A : ScA) (t : Tr) (H0 : Hp) (rs : List Str) (hds : List (Str × Nat)) (ks : List Str) (m : Nat), vs = [.ref A.p, t.v] ∧ SX K H0 H A rs hds ks m ∧ Wt K H0 t ∧ Q (.bl (rowX rs t)) H
theorem ok_rowX (T : Top K mg) : FnOk P w K mg base CX0 1 (He.ma K (He.ga K "Scope") "is_row") T.fd_Scope_is_row ["self", "thing"] (sp_rowX K) := by
  refine T.F_Scope_is_row.ok sc_Scope_is_row (fun vs H Q E h => ?_) (fun cdv A outer s H vs Q E hr h => ?_)
  · obtain ⟨A, t, H0, rs, hds, ks, m, rfl, _⟩ := h
    rfl
  · obtain ⟨B, t, H0, rs, hds, ks, m, rfl, sc, wt, q⟩ := h
    refine ⟨_, PSs.nox (pss_one (ps_ret (pe_and (pe_callB call_isi (by rfl) T.m_isinstance (by decide +kernel) (pa_cons (pv 1) (pa_cons (pe_bltn (v := .ty "str") (by rfl) T.m_str (by decide +kernel) rfl) pa_nil))) (pe_one (pe_cmpR op_in_seq (pv 1) (pe_fld (pv 0) rfl) (by rfl)))))), ?_⟩
    obtain ⟨dx, e1⟩ := sc.ob
    refine ⟨_, rfl, _, _, _, _, isS t.pd, rfl, .ty _, (wt.sm sc.s0).ty, kit_str t.pd, _, rfl, ?_⟩
    cases hS : isS t.pd with
    | false =>
      have e : rowX rs t = false := by cases t <;> first | rfl | (simp [isS, Tr.pd] at hS)
      rw [e] at q
      exact ifF rfl q
    | true =>
      obtain ⟨z, rfl⟩ := str_of hS
      refine ifT rfl ⟨_, rfl, _, rfl, B.p, _, dx, _, _, rfl, e1, T.cl_Scope, T.no_Scope_rows, scF_rows _ _ _ _, B.r, _, rfl, .inl (.of sc.rk), rfl, flat_strs rs, ?_⟩
      have hin : inV (Tr.str z).v (rs.map V.str) = decide (z ∈ rs) := in_strs
      show Q (.bl (inV (Tr.str z).v (rs.map V.str))) H
      rw [hin]
      exact q
def sp_takeX (K : PySem.W.Frag) : Sp := fun vs H Q _ => ∃ (A : ScA) (H0 : Hp) (rs : List Str) (hds : List (Str × Nat)) (ks : List Str) (m : Nat), vs = [.ref A.p] ∧ SX K H0 H A rs hds ks m ∧ ∀ H', SX K H0 H' A rs hds ks (m + 1) → Kp (scS A) H H' → Q (.bl (decide (m + 1 ≤ 25))) H'
theorem ok_takeX (T : Top K mg) : FnOk P w K mg base CX0 1 (He.ma K (He.ga K "Scope") "takes_one") T.fd_Scope_takes_one ["self"] (sp_takeX K) := by
  refine T.F_Scope_takes_one.ok sc_Scope_takes_one (fun vs H Q E h => ?_) (fun cdv A outer s H vs Q E hr h => ?_)
  · obtain ⟨A, H0, rs, hds, ks, m, rfl, _⟩ := h
    rfl
  · obtain ⟨B, H0, rs, hds, ks, m, rfl, sc, q⟩ := h
    refine ⟨_, PSs.nox (pss_cons (ps_fldaug (pv 0) pe_int in_add)
        (pss_one (ps_ret (pe_cmpR op_le (pe_fld (pv 0) rfl) (pe_glob (v := .int 25) (by rfl) T.c_MOST_STATEMENTS ⟨_, rfl⟩) (nomark _))))), ?_⟩
    obtain ⟨dx, e1⟩ := sc.ob
    obtain ⟨kvs, eh, fh⟩ := sc.hk
    refine ⟨_, rfl, B.p, _, dx, _, _, rfl, e1, T.cl_Scope, T.no_Scope_many, scF_many _ _ _ _, _, _, rfl, rfl, _, _, e1, (by show 4 < 1000; decide), ?_⟩
    rw [scF_put]
    have hl : ((m : Nat) : Int) + 1 = ((m + 1 : Nat) : Int) := rfl
    rw [hl]
    have kU : Kp (scS B) H (upd H B.p (.ins (He.ga K "Scope") dx (scF B.r B.h B.k ((m + 1 : Nat) : Int)))) := Kp.upd e1 trivial (.inr rfl)
    refine ⟨_, rfl, B.p, _, dx, _, _, rfl, upd_same, T.cl_Scope, T.no_Scope_many, scF_many _ _ _ _, _, _, rfl, rfl, ?_⟩
    have e3 : decide (((m + 1 : Nat) : Int) ≤ 25) = decide (m + 1 ≤ 25) := by
      by_cases c : m + 1 ≤ 25
      · rw [decide_eq_true c, decide_eq_true (by omega)]
      · rw [decide_eq_false c, decide_eq_false (by omega)]
    show Q (.bl (decide (((m + 1 : Nat) : Int) ≤ 25))) _
    rw [e3]
    refine q _ ⟨⟨dx, upd_same⟩, ?_, ⟨kvs, ?_, fh⟩, ?_, sc.nd, sc.ne, same_upd sc.s0 sc.f1, sc.f1, sc.f2⟩ kU
    · rw [upd_ne (fun z => by rw [← z, sc.rk] at e1; cases e1)]
      exact sc.rk
    · rw [upd_ne (fun z => by rw [← z, eh] at e1; cases e1)]
      exact eh
    · rw [upd_ne sc.pk.symm]
      exact sc.kk
end

/-! expressions: what the looks come to, case by case -/
theorem exX_len {rs : List Str} {d : Nat} {p : Addr} {ts : List Tr} (h : ts.length ≠ 2 ∧ ts.length ≠ 3) : exX rs d (.nd p ts) = false := by
  cases d with
  | zero => rfl
  | succ d =>
    match ts, h with
    | [], _ => rfl
    | [a], _ => cases a <;> rfl
    | [a, b], h => exact absurd rfl h.1
    | [a, b, c], h => exact absurd rfl h.2
    | a :: b :: c :: e :: r, _ => cases a <;> rfl
theorem exX_noT {rs : List Str} {d : Nat} {t : Tr} (h : isT t.pd = false) : exX rs d t = false := by
  cases d with
  | zero => rfl
  | succ d => cases t <;> first | rfl | cases h
theorem exX_noS {rs : List Str} {d : Nat} {p : Addr} {a : Tr} {r : List Tr} (h : isS a.pd = false) : exX rs d (.nd p (a :: r)) = false := by
  cases d with
  | zero => rfl
  | succ d =>
    cases a with
    | str z => cases h
    | _ => cases r with
      | nil => rfl
      | cons b r => cases r with
        | nil => rfl
        | cons c r => cases r <;> rfl
theorem exX2 {rs : List Str} {d : Nat} {p : Addr} {w : Str} {a : Tr} : exX rs (d + 1) (.nd p [.str w, a]) = if w = "number" then numX (-2147483648) 2147483647 a else if w = "name" then varX rs a else if w = "not" then exX rs d a else false := rfl
theorem exN2 {d : Nat} {p : Addr} {w : Str} {a : Tr} : exN (d + 1) (.nd p [.str w, a]) = if w = "name" then varN a else if w = "not" then exN d a else [] := rfl
theorem exX3 {rs : List Str} {d : Nat} {p : Addr} {w : Str} {a b : Tr} : exX rs (d + 1) (.nd p [.str w, a, b]) = if w = "number" ∨ w = "name" ∨ w = "not" then false else if w = "at" then rowX rs a && exX rs d b else decide (w ∈ wds7) && (exX rs d a && exX rs d b) := rfl
theorem exN3 {d : Nat} {p : Addr} {w : Str} {a b : Tr} : exN (d + 1) (.nd p [.str w, a, b]) = if w = "at" then exN d b else exN d a ++ exN d b := rfl
theorem len_ge2 {ts : List Tr} (h : 2 ≤ ts.length) : ∃ a b r, ts = a :: b :: r := by
  match ts, h with
  | a :: b :: r, _ => exact ⟨a, b, r, rfl⟩
theorem len_1 {ts : List Tr} (h : ts.length = 1) : ∃ a, ts = [a] := by
  match ts, h with
  | [a], _ => exact ⟨a, rfl⟩
theorem len_2 {ts : List Tr} (h : ts.length = 2) : ∃ a b, ts = [a, b] := by
  match ts, h with
  | [a, b], _ => exact ⟨a, b, rfl⟩
theorem len_3 {ts : List Tr} (h : ts.length = 3) : ∃ a b c, ts = [a, b, c] := by
  match ts, h with
  | [a, b, c], _ => exact ⟨a, b, c, rfl⟩
theorem ne_int {a b : Int} (h : a ≠ b) : ¬ V.int a = V.int b := fun e => h (V.int.inj e)
theorem txs_nd {p : Addr} {ts : List Tr} : txs (.nd p ts) = txsL ts := by rw [txs]
theorem txs_str {z : Str} : txs (.str z) = [z] := by rw [txs]
theorem txs_in {p : Addr} {ts : List Tr} {t : Tr} (h : t ∈ ts) : ∀ z ∈ txs t, z ∈ txs (.nd p ts) := by
  rw [txs_nd]
  exact txsL_mem h
theorem txs_len {p : Addr} {ts : List Tr} {t : Tr} (h : t ∈ ts) : (txs t).length ≤ (txs (.nd p ts)).length := by
  rw [txs_nd]
  exact txsL_len h
section
variable {P : Program} {w : World} {K : PySem.W.Frag} {mg : Str → Option Value} {base : Heap}
def sp_exX (K : PySem.W.Frag) (D : Nat) : Sp := fun vs H Q _ => ∃ (d : Nat) (A : ScA) (t : Tr) (H0 : Hp) (rs : List Str) (hds : List (Str × Nat)) (ks : List Str) (m : Nat) (deep : Int), D = d + 1 ∧ vs = [.ref A.p, t.v, .int deep] ∧ SX K H0 H A rs hds ks m ∧ Wt K H0 t ∧ ks.length + (txs t).length ≤ 1000000 ∧ deep + d = 5 ∧
  ∀ H' b ks', SX K H0 H' A rs hds ks' m → Kp (scS A) H H' → Res (txs t) (exX rs d t) (exN d t) 0 ks m b ks' m → Q (.bl b) H'
theorem ok_exX (T : Top K mg) : ∀ D : Nat, FnOk P w K mg base CX0 (D + 3) (He.ma K (He.ga K "Scope") "is_expression") T.fd_Scope_is_expression ["self", "thing", "deep"] (sp_exX K D)
  | 0 => by
    refine T.F_Scope_is_expression.ok sc_Scope_is_expression (fun vs H Q E h => ?_) (fun cdv A outer s H vs Q E hr h => ?_)
    · obtain ⟨d, A, t, H0, rs, hds, ks, m, deep, z, _⟩ := h
      omega
    · obtain ⟨d, A, t, H0, rs, hds, ks, m, deep, z, _⟩ := h
      omega
  | D + 1 => by
    have G_Scope_is_expression := ok_exX T D
    have G_is_number := ok_is_numberX (P := P) (w := w) (base := base) T
    have G_Scope_is_variable := ok_varX (P := P) (w := w) (base := base) T
    have G_Scope_is_row := ok_rowX (P := P) (w := w) (base := base) T
    refine T.F_Scope_is_expression.ok sc_Scope_is_expression (fun vs H Q E h => ?_) (fun cdv A outer s H vs Q E hr h => ?_)
    · obtain ⟨d, A, t, H0, rs, hds, ks, m, deep, _, rfl, _⟩ := h
      rfl
    · obtain ⟨d, B, t, H0, rs, hds, ks, m, deep, hD, rfl, sc, wt, lb, hd, q⟩ := h
      obtain rfl : D = d := by omega
      refine ⟨_, PSs.nox (pss_cons (ps_if (PW.pt (pw_or (pt_not (pt_val (pe_callB call_isi (by rfl) T.m_isinstance (by decide +kernel) (pa_cons (pv 1) (pa_cons (pe_bltn (v := .ty "tuple") (by rfl) T.m_tuple (by decide +kernel) rfl) pa_nil))))) (pw_or (pt_not (pt_chain op_le op_le pe_int (pe_callB call_len_seq (by rfl) T.m_len (by decide +kernel) (pa_cons (pv 1) pa_nil)) pe_int)) (pw_or1 (pt_cmpR op_gt (pv 2) (pe_glob (v := .int 4) (by rfl) T.c_MOST_DEEP ⟨_, rfl⟩) (nomark _)))))) (pss_one (ps_ret pe_bl)) pss_nil)
        (pss_cons (ps_set (i := 3) sc_Scope_is_expression.nd rfl (Or.inl rfl) (pe_ix ix_tup (pv 1) pe_int (fun _ _ => rfl)))
        (pss_cons (ps_if (pt_not (pt_val (pe_callB call_isi (by rfl) T.m_isinstance (by decide +kernel) (pa_cons (pv 3) (pa_cons (pe_bltn (v := .ty "str") (by rfl) T.m_str (by decide +kernel) rfl) pa_nil))))) (pss_one (ps_ret pe_bl)) pss_nil)
        (pss_cons (ps_if (pt_cmpR op_eq (pv 3) pe_str (nomark _)) (pss_one (ps_ret (pe_and (pe_cmpR op_eq (pe_callB call_len_seq (by rfl) T.m_len (by decide +kernel) (pa_cons (pv 1) pa_nil)) pe_int (nomark _)) (pe_one (pe_call G_is_number (hr.mono (by omega)) (by rfl) T.g_is_number T.F_is_number.kp T.b_is_number .nil pass0 (pa_cons (pe_ix ix_tup (pv 1) pe_int (fun _ _ => rfl)) pa_nil)))))) pss_nil)
        (pss_cons (ps_if (pt_cmpR op_eq (pv 3) pe_str (nomark _)) (pss_one (ps_ret (pe_and (pe_cmpR op_eq (pe_callB call_len_seq (by rfl) T.m_len (by decide +kernel) (pa_cons (pv 1) pa_nil)) pe_int (nomark _)) (pe_one (pe_meth (pv 0) T.cl_Scope T.me_Scope_is_variable G_Scope_is_variable (hr.mono (by omega)) T.b_Scope_is_variable .nil pass0 (pa_cons (pe_ix ix_tup (pv 1) pe_int (fun _ _ => rfl)) pa_nil)))))) pss_nil)
        (pss_cons (ps_if (pt_cmpR op_eq (pv 3) pe_str (nomark _)) (pss_one (ps_ret (pe_and (pe_cmpR op_eq (pe_callB call_len_seq (by rfl) T.m_len (by decide +kernel) (pa_cons (pv 1) pa_nil)) pe_int (nomark _)) (pe_one (pe_meth (pv 0) T.cl_Scope T.me_Scope_is_expression G_Scope_is_expression (hr.mono (by omega)) T.b_Scope_is_expression.choose_spec.2 T.b_Scope_is_expression.choose_spec.1 pass0 (pa_cons (pe_ix ix_tup (pv 1) pe_int (fun _ _ => rfl)) (pa_cons (pe_op op_add (pv 2) pe_int) pa_nil))))))) pss_nil)
        (pss_cons (ps_if (PW.pt (pw_or (pt_cmpR op_ne (pe_callB call_len_seq (by rfl) T.m_len (by decide +kernel) (pa_cons (pv 1) pa_nil)) pe_int (nomark _)) (pw_or1 (pt_not (pt_val (pe_meth (pv 0) T.cl_Scope T.me_Scope_is_expression G_Scope_is_expression (hr.mono (by omega)) T.b_Scope_is_expression.choose_spec.2 T.b_Scope_is_expression.choose_spec.1 pass0 (pa_cons (pe_ix ix_tup (pv 1) pe_int (fun _ _ => rfl)) (pa_cons (pe_op op_add (pv 2) pe_int) pa_nil)))))))) (pss_one (ps_ret pe_bl)) pss_nil)
        (pss_cons (ps_if (pt_cmpR op_eq (pv 3) pe_str (nomark _)) (pss_one (ps_ret (pe_meth (pv 0) T.cl_Scope T.me_Scope_is_row G_Scope_is_row (hr.mono (by omega)) T.b_Scope_is_row .nil pass0 (pa_cons (pe_ix ix_tup (pv 1) pe_int (fun _ _ => rfl)) pa_nil)))) pss_nil)
        (pss_one (ps_ret (pe_and (pe_cmpR op_in_seq (pv 3) (pe_glob (v := .ref (He.ga K "WORDS")) (by rfl) T.c_WORDS rfl) (by rfl)) (pe_one (pe_meth (pv 0) T.cl_Scope T.me_Scope_is_expression G_Scope_is_expression (hr.mono (by omega)) T.b_Scope_is_expression.choose_spec.2 T.b_Scope_is_expression.choose_spec.1 pass0 (pa_cons (pe_ix ix_tup (pv 1) pe_int (fun _ _ => rfl)) (pa_cons (pe_op op_add (pv 2) pe_int) pa_nil))))))))))))))), ?_⟩
      obtain ⟨dx, ob⟩ := sc.ob
      have no : exX rs D t = false → Q (.bl false) H := fun e => q _ false _ sc Kp.refl (by rw [e]; exact Res.no sc.nd)
      refine ⟨_, rfl, _, _, _, _, isT t.pd, rfl, .ty _, (wt.sm sc.s0).ty, kit_tup t.pd, _, rfl, ?_⟩
      cases hT : isT t.pd with
      | false => exact ifT rfl (no (exX_noT hT))
      | true =>
        obtain ⟨p, ts, rfl⟩ := tup_of hT
        obtain ⟨hp0, lts, wts⟩ := wt.nd_inv
        have hp := sqT_sm sc.s0 hp0
        have ll : (ts.map Tr.v).length = ts.length := List.length_map ..
        refine ifF rfl ⟨_, rfl, p, _, rfl, .inr hp, _, _, rfl, rfl, _, rfl, ?_⟩
        by_cases l2 : 2 ≤ ts.length
        case neg => exact ifN (by omega) ⟨_, rfl, ifT rfl (no (exX_len (by omega)))⟩
        refine ifD (by omega) ⟨_, _, rfl, rfl, _, rfl, ?_⟩
        by_cases l3 : ts.length ≤ 3
        case neg => exact ifNT (by omega) (no (exX_len (by omega)))
        refine ifNF (by omega) ⟨_, rfl, _, _, rfl, rfl, _, rfl, ?_⟩
        cases D with
        | zero => exact ifD (by omega) (no rfl)
        | succ D =>
        refine ifN (by omega) ?_
        obtain ⟨a, b, r, rfl⟩ := len_ge2 l2
        have ha := wts a (List.mem_cons_self ..)
        have hb := wts b (by simp)
        refine ⟨_, rfl, p, _, 0, _, rfl, rfl, hp, atI_nat (j := 0) rfl, ?_⟩
        dsimp only [gName, List.set]
        refine ⟨_, rfl, _, _, _, _, isS a.pd, rfl, .ty _, (ha.sm sc.s0).ty, kit_str a.pd, _, rfl, ?_⟩
        cases hS : isS a.pd with
        | false => exact ifT rfl (no (exX_noS hS))
        | true =>
          obtain ⟨wd, rfl⟩ := str_of hS
          refine ifF rfl ⟨_, rfl, rfl, _, rfl, ?_⟩
          have neV : ∀ x : Str, wd ≠ x → V.str wd ≠ V.str x := fun x n e => n (V.str.inj e)
          cases r with
          | nil =>
            rw [exX2, exN2] at q
            by_cases c1 : wd = "number"
            · subst c1
              rw [if_pos rfl, if_neg (by decide +kernel), if_neg (by decide +kernel)] at q
              exact ifD rfl ⟨_, rfl, p, _, rfl, .inr hp, rfl, _, rfl, ifD rfl ⟨_, rfl, p, _, 1, _, rfl, rfl, hp, atI_nat (j := 1) rfl, b, rfl, hb.sm sc.s0, q _ _ _ sc Kp.refl (Res.plain sc.nd)⟩⟩
            rw [if_neg c1] at q
            refine ifN (neV _ c1) ⟨_, rfl, rfl, _, rfl, ?_⟩
            by_cases c2 : wd = "name"
            · subst c2
              rw [if_pos rfl, if_pos rfl] at q
              exact ifD rfl ⟨_, rfl, p, _, rfl, .inr hp, rfl, _, rfl, ifD rfl ⟨_, rfl, B.p, dx, _, rfl, ob, scF_no (by decide +kernel) (by decide +kernel) (by decide +kernel) (by decide +kernel), _, rfl, p, _, 1, _, rfl, rfl, hp, atI_nat (j := 1) rfl, B, b, H0, rs, hds, ks, m, rfl, sc, hb, Nat.le_trans (Nat.add_le_add_left (txs_len (by simp)) _) lb, fun H1 b1 ks1 sc1 k1 r1 => q _ _ _ sc1 k1 (r1.cong sc.nd (txs_in (by simp)) fun _ => Iff.rfl)⟩⟩
            rw [if_neg c2, if_neg c2] at q
            refine ifN (neV _ c2) ⟨_, rfl, rfl, _, rfl, ?_⟩
            by_cases c3 : wd = "not"
            · subst c3
              rw [if_pos rfl, if_pos rfl] at q
              exact ifD rfl ⟨_, rfl, p, _, rfl, .inr hp, rfl, _, rfl, ifD rfl ⟨_, rfl, B.p, dx, _, rfl, ob, scF_no (by decide +kernel) (by decide +kernel) (by decide +kernel) (by decide +kernel), _, rfl, p, _, 1, _, rfl, rfl, hp, atI_nat (j := 1) rfl, _, rfl, _, _, rfl, rfl, D, B, b, H0, rs, hds, ks, m, deep + 1, rfl, rfl, sc, hb, Nat.le_trans (Nat.add_le_add_left (txs_len (by simp)) _) lb, by omega, fun H1 b1 ks1 sc1 k1 r1 => q _ _ _ sc1 k1 (r1.cong sc.nd (txs_in (by simp)) fun _ => Iff.rfl)⟩⟩
            rw [if_neg c3, if_neg c3] at q
            exact ifN (neV _ c3) ⟨_, rfl, p, _, rfl, .inr hp, rfl, _, rfl, ifNT (ne_int (by show (2 : Int) ≠ 3; decide)) (q _ _ _ sc Kp.refl (Res.no sc.nd))⟩
          | cons c r =>
            have r0 : r = [] := by
              cases r with
              | nil => rfl
              | cons x y => simp only [List.length_cons] at l3; omega
            subst r0
            have hc := wts c (by simp)
            rw [exX3, exN3] at q
            by_cases c1 : wd = "number"
            · subst c1
              rw [if_pos (.inl rfl)] at q
              exact ifD rfl ⟨_, rfl, p, _, rfl, .inr hp, rfl, _, rfl, ifN (ne_int (by show (3 : Int) ≠ 2; decide)) (q _ _ _ sc Kp.refl (Res.no sc.nd))⟩
            refine ifN (neV _ c1) ⟨_, rfl, rfl, _, rfl, ?_⟩
            by_cases c2 : wd = "name"
            · subst c2
              rw [if_pos (.inr (.inl rfl))] at q
              exact ifD rfl ⟨_, rfl, p, _, rfl, .inr hp, rfl, _, rfl, ifN (ne_int (by show (3 : Int) ≠ 2; decide)) (q _ _ _ sc Kp.refl (Res.no sc.nd))⟩
            refine ifN (neV _ c2) ⟨_, rfl, rfl, _, rfl, ?_⟩
            by_cases c3 : wd = "not"
            · subst c3
              rw [if_pos (.inr (.inr rfl))] at q
              exact ifD rfl ⟨_, rfl, p, _, rfl, .inr hp, rfl, _, rfl, ifN (ne_int (by show (3 : Int) ≠ 2; decide)) (q _ _ _ sc Kp.refl (Res.no sc.nd))⟩
            rw [if_neg (fun z => z.elim c1 fun z => z.elim c2 c3)] at q
            refine ifN (neV _ c3) ⟨_, rfl, p, _, rfl, .inr hp, rfl, _, rfl, ifNF rfl ?_⟩
            have lt : (txs (.nd p [.str wd, b, c])).length = 1 + (txs b).length + (txs c).length := by
              rw [txs_nd, txsL, txsL, txsL, txsL, txs_str]
              simp only [List.length_append, List.length_cons, List.length_nil]
              omega
            refine ⟨_, rfl, B.p, dx, _, rfl, ob, scF_no (by decide +kernel) (by decide +kernel) (by decide +kernel) (by decide +kernel), _, rfl, p, _, 2, _, rfl, rfl, hp, atI_nat (j := 2) rfl, _, rfl, _, _, rfl, rfl, D, B, c, H0, rs, hds, ks, m, deep + 1, rfl, rfl, sc, hc, by omega, by omega, fun H1 b1 ks1 sc1 k1 r1 => ⟨_, rfl, ?_⟩⟩
            have lk := r1.len sc.nd
            have inS : ∀ (xs : List Str), (∀ z ∈ xs, z ∈ txs b) → ∀ z ∈ txs c ++ xs, z ∈ txs (.nd p [.str wd, b, c]) := fun xs hx z hz => (List.mem_append.mp hz).elim (txs_in (by simp) z) fun h => txs_in (t := b) (by simp) z (hx z h)
            cases b1 with
            | false =>
              refine ifT rfl (q _ _ _ sc1 k1 ?_)
              by_cases c4 : wd = "at"
              · rw [if_pos c4, if_pos c4, Bool.and_comm]
                have := (r1.stop (T := []) (ns := exN D c) (ms := []) (ok2 := rowX rs b) (d := 0) sc.nd).cong sc.nd (inS [] fun _ h => nomatch h) (ns' := exN D c) fun z => by rw [List.append_nil]
                exact this
              · rw [if_neg c4, if_neg c4, Bool.and_comm (exX rs D b), Bool.and_left_comm]
                exact (r1.stop (T := []) (ms := exN D b) (ok2 := decide (wd ∈ wds7) && exX rs D b) (d := 0) sc.nd).cong sc.nd (inS [] fun _ h => nomatch h) fun z => by rw [List.mem_append, List.mem_append, or_comm]
            | true =>
              refine ifF rfl ⟨_, rfl, rfl, _, rfl, ?_⟩
              obtain ⟨dx1, ob1⟩ := sc1.ob
              have hp1 := sqT_sm sc1.s0 hp0
              by_cases c4 : wd = "at"
              · rw [if_pos c4, if_pos c4, Bool.and_comm] at q
                refine ifD (congrArg V.str c4) ⟨_, rfl, B.p, dx1, _, rfl, ob1, scF_no (by decide +kernel) (by decide +kernel) (by decide +kernel) (by decide +kernel), _, rfl, p, _, 1, _, rfl, rfl, hp1, atI_nat (j := 1) rfl, B, b, H0, rs, hds, ks1, m, rfl, sc1, hb, ?_⟩
                refine q _ _ _ sc1 k1 ?_
                exact (r1.cons sc.nd (Res.plain (S := []) r1.nd)).cong sc.nd (inS [] fun _ h => nomatch h) fun z => by rw [List.append_nil]
              · rw [if_neg c4, if_neg c4, Bool.and_comm (exX rs D b), Bool.and_left_comm] at q
                have qW : ∀ H', SqT K H' (He.ga K "WORDS") (wds7.map V.str) := fun H' => T.q_WORDS H'
                have inW : inV (V.str wd) (wds7.map V.str) = decide (wd ∈ wds7) := in_strs
                refine ifN (neV _ c4) ⟨_, rfl, _, _, rfl, .inr (qW _), rfl, flat_strs wds7, _, rfl, ?_⟩
                by_cases c5 : wd ∈ wds7
                · rw [decide_eq_true c5, Bool.true_and] at q
                  refine ifT (by exact inW.trans (decide_eq_true c5)) ⟨_, rfl, B.p, dx1, _, rfl, ob1, scF_no (by decide +kernel) (by decide +kernel) (by decide +kernel) (by decide +kernel), _, rfl, p, _, 1, _, rfl, rfl, hp1, atI_nat (j := 1) rfl, _, rfl, _, _, rfl, rfl, D, B, b, H0, rs, hds, ks1, m, deep + 1, rfl, rfl, sc1, hb, by omega, by omega, fun H2 b2 ks2 sc2 k2 r2 => q _ _ _ sc2 (k1.trans k2) ?_⟩
                  exact (r1.cons sc.nd r2).cong sc.nd (inS _ fun _ h => h) fun z => by rw [List.mem_append, List.mem_append, or_comm]
                · rw [decide_eq_false c5, Bool.false_and, Bool.and_false] at q
                  refine ifF (by exact inW.trans (decide_eq_false c5)) (q _ _ _ sc1 k1 (r1.fail (txs_in (by simp))))
end

/-! calls and statements without others in them -/
theorem txsL_take {ts : List Tr} {j : Nat} {t : Tr} (h : ts[j]? = some t) : txsL (ts.take (j + 1)) = txsL (ts.take j) ++ txs t := by
  rw [take_one h, txsL_app, txsL, txsL, List.append_nil]
theorem Res.snoc {ts : List Tr} {j : Nat} {t : Tr} {f : Tr → Bool} {g : Tr → List Str} {c : Tr → Nat} {ks k1 k2 : List Str} {m m1 m2 : Nat} {b b2 : Bool} (ht : ts[j]? = some t) (nd : ks.Nodup)
    (h : Res (txsL (ts.take j)) ((ts.take j).all f) ((ts.take j).flatMap g) ((ts.take j).map c).sum ks m b k1 m1) (r : Res (txs t) (f t) (g t) (c t) k1 m1 b2 k2 m2) :
    Res (txsL (ts.take (j + 1))) ((ts.take (j + 1)).all f) ((ts.take (j + 1)).flatMap g) ((ts.take (j + 1)).map c).sum ks m (b && b2) k2 m2 := by
  have := h.all nd r
  rw [txsL_take ht, take_one ht, List.all_append, List.flatMap_append, List.map_append, List.sum_append]
  simpa using this
theorem sum0 : ∀ l : List Tr, (l.map fun _ => (0 : Nat)).sum = 0
  | [] => rfl
  | _ :: r => by
    rw [List.map_cons, List.sum_cons, sum0 r]
def hdB : Option Nat → Nat → Bool
  | some k, n => decide (n = k)
  | none, _ => false
def argX (rs : List Str) (hds : List (Str × Nat)) : Tr → Tr → Bool
  | .str g, .nd _ l => hdB (hds.lookup g) l.length && l.all (exX rs 4)
  | _, _ => false
def esN : Tr → List Str
  | .nd _ l => l.flatMap (exN 4)
  | _ => []
def callX (rs : List Str) (hds : List (Str × Nat)) (x g es : Tr) : Bool := varX rs x && argX rs hds g es
def callN (x es : Tr) : List Str := varN x ++ esN es
theorem argX_noS {rs : List Str} {hds : List (Str × Nat)} {g es : Tr} (h : isS g.pd = false) : argX rs hds g es = false := by
  cases g <;> first | rfl | cases h
theorem argX_noT {rs : List Str} {hds : List (Str × Nat)} {g es : Tr} (h : isT es.pd = false) : argX rs hds g es = false := by
  cases g <;> first | rfl | (cases es <;> first | rfl | cases h)
section
variable {P : Program} {w : World} {K : PySem.W.Frag} {mg : Str → Option Value} {base : Heap}
/-- a list made anew changes -/
theorem SX.lst {H0 H : Hp} {A : ScA} {rs : List Str} {hds : List (Str × Nat)} {ks : List Str} {m : Nat} {D : Addr} {xs ys : List V} (h : SX K H0 H A rs hds ks m) (e : H D = some (.lst xs)) (n0 : H0 D = none) (nr : A.r ≠ D) : SX K H0 (upd H D (.lst ys)) A rs hds ks m := by
  obtain ⟨dx, ob⟩ := h.ob
  obtain ⟨kvs, e2, f⟩ := h.hk
  have ne : ∀ {b : Addr} {o : HO}, H b = some o → (∀ zs, o ≠ .lst zs) → b ≠ D := fun e' n z => by
    rw [z, e] at e'
    cases e'
    exact n _ rfl
  refine ⟨⟨dx, (upd_ne (ne ob fun _ z => nomatch z)).trans ob⟩, (upd_ne nr).trans h.rk, ⟨kvs, (upd_ne (ne e2 fun _ z => nomatch z)).trans e2, f⟩, (upd_ne (ne h.kk fun _ z => nomatch z)).trans h.kk, h.nd, h.ne, same_upd h.s0 n0, h.f1, h.f2⟩
theorem none_of {H0 H : Hp} {D : Addr} (s : Same H0 H) (n : H D = none) : H0 D = none := by
  cases z : H0 D with
  | none => rfl
  | some o => rw [s _ _ z] at n; cases n
theorem none_kp {S : Addr → Prop} {H0 H : Hp} {D : Addr} (s : Kp S H0 H) (ns : ¬ S D) (n : H D = none) : H0 D = none := by
  cases z : H0 D with
  | none => rfl
  | some o => rw [s _ _ z fun y => absurd y ns] at n; cases n
theorem SX.nS {H0 H : Hp} {A : ScA} {rs : List Str} {hds : List (Str × Nat)} {ks : List Str} {m : Nat} {D : Addr} (h : SX K H0 H A rs hds ks m) (n : H D = none) : ¬ scS A D := fun z => by
  obtain ⟨dx, ob⟩ := h.ob
  rcases z with z | z
  · rw [z, h.kk] at n; cases n
  · rw [z, ob] at n; cases n
def sp_callX (K : PySem.W.Frag) : Sp := fun vs H Q _ => ∃ (A : ScA) (p : Addr) (a x g es : Tr) (H0 : Hp) (rs : List Str) (hds : List (Str × Nat)) (ks : List Str) (m : Nat), vs = [.ref A.p, .ref p] ∧ SX K H0 H A rs hds ks m ∧ Wt K H0 (.nd p [a, x, g, es]) ∧ ks.length + (txs (.nd p [a, x, g, es])).length ≤ 1000000 ∧
  ∀ H' b ks', SX K H0 H' A rs hds ks' m → Kp (scS A) H H' → Res (txs (.nd p [a, x, g, es])) (callX rs hds x g es) (callN x es) 0 ks m b ks' m → Q (.bl b) H'
theorem ok_callX (T : Top K mg) : FnOk P w K mg base CX0 9 (He.ma K (He.ga K "Scope") "is_call") T.fd_Scope_is_call ["self", "thing"] (sp_callX K) := by
  have G_Scope_is_variable := ok_varX (P := P) (w := w) (base := base) T
  have G_Scope_is_expression := ok_exX (P := P) (w := w) (base := base) T 5
  refine T.F_Scope_is_call.ok sc_Scope_is_call (fun vs H Q E h => ?_) (fun cdv A outer s H vs Q E hr h => ?_)
  · obtain ⟨A, p, a, x, g, es, H0, rs, hds, ks, m, rfl, _⟩ := h
    rfl
  · obtain ⟨B, p, a, x, g, es, H0, rs, hds, ks, m, rfl, sc, wt, lb, q⟩ := h
    refine ⟨_, PSs.nox (pss_cons (ps_if (PW.pt (pw_or (pt_not (pt_val (pe_meth (pv 0) T.cl_Scope T.me_Scope_is_variable G_Scope_is_variable (hr.mono (by omega)) T.b_Scope_is_variable .nil pass0 (pa_cons (pe_ix ix_tup (pv 1) pe_int (fun _ _ => rfl)) pa_nil)))) (pw_or (pt_not (pt_val (pe_callB call_isi (by rfl) T.m_isinstance (by decide +kernel) (pa_cons (pe_ix ix_tup (pv 1) pe_int (fun _ _ => rfl)) (pa_cons (pe_bltn (v := .ty "str") (by rfl) T.m_str (by decide +kernel) rfl) pa_nil))))) (pw_or1 (pt_cmp (pc_dnotin (hu_of hr) (pe_ix ix_tup (pv 1) pe_int (fun _ _ => rfl)) (pe_fld (pv 0) rfl))))))) (pss_one (ps_ret pe_bl)) pss_nil)
        (pss_cons (ps_if (PW.pt (pw_or (pt_not (pt_val (pe_callB call_isi (by rfl) T.m_isinstance (by decide +kernel) (pa_cons (pe_ix ix_tup (pv 1) pe_int (fun _ _ => rfl)) (pa_cons (pe_bltn (v := .ty "tuple") (by rfl) T.m_tuple (by decide +kernel) rfl) pa_nil))))) (pw_or1 (pt_cmpR op_ne (pe_callB call_len_seq (by rfl) T.m_len (by decide +kernel) (pa_cons (pe_ix ix_tup (pv 1) pe_int (fun _ _ => rfl)) pa_nil)) (pe_dget (hu_of hr) (pe_fld (pv 0) rfl) (pe_ix ix_tup (pv 1) pe_int (fun _ _ => rfl)) (fun _ _ => rfl)) (nomark _))))) (pss_one (ps_ret pe_bl)) pss_nil)
        (pss_one (ps_ret (pe_callB (cr_all (by rfl)) (by rfl) T.m_all (by decide +kernel) (pa_cons (pe_lc (own := [("one", 2)]) (by rfl) sc_Scope_is_call.nd (pi_tup (pe_ix ix_tup (pv 1) pe_int (fun _ _ => rfl))) (blkOk_by (own := [("one", 2)]) (N := N_Scope_is_call) (sc := defScope s_Scope_is_call) (by decide +kernel)) (fun _ _ _ _ _ => (pg_name (i := 2) sc_Scope_is_call.nd rfl (Or.inl rfl))) (fun _ _ _ _ _ => pts_nil) (fun _ _ _ _ _ => (pe_meth (pv 0) T.cl_Scope T.me_Scope_is_expression G_Scope_is_expression (hr.mono (by omega)) T.b2_Scope_is_expression.choose_spec.2 T.b2_Scope_is_expression.choose_spec.1 pass0 (pa_cons (pv 2) pa_nil)))) pa_nil)))))), ?_⟩
    obtain ⟨hp0, _, wts⟩ := wt.nd_inv
    have hp := sqT_sm sc.s0 hp0
    have wx := wts x (by simp)
    have wg := wts g (by simp)
    have we := wts es (by simp)
    have lS : (txs (.nd p [a, x, g, es])).length = (txs a).length + (txs x).length + (txs g).length + (txs es).length := by
      rw [txs_nd, txsL, txsL, txsL, txsL, txsL]
      simp only [List.length_append, List.length_nil]
      omega
    obtain ⟨dx, ob⟩ := sc.ob
    refine ⟨_, rfl, B.p, dx, _, rfl, ob, scF_no (by decide +kernel) (by decide +kernel) (by decide +kernel) (by decide +kernel), _, rfl, p, _, 1, _, rfl, rfl, hp, atI_nat (j := 1) rfl, B, x, H0, rs, hds, ks, m, rfl, sc, wx, by omega, fun H1 b1 ks1 sc1 k1 r1 => ⟨_, rfl, ?_⟩⟩
    have lk := r1.len sc.nd
    have inX : ∀ z ∈ txs x, z ∈ txs (.nd p [a, x, g, es]) := txs_in (by simp)
    cases b1 with
    | false =>
      refine ifT rfl (q _ _ _ sc1 k1 ?_)
      exact (r1.stop (T := []) (ms := esN es) (ok2 := argX rs hds g es) (d := 0) sc.nd).cong sc.nd (fun z hz => inX z (by rwa [List.append_nil] at hz)) fun z => Iff.rfl
    | true =>
      refine ifF rfl ?_
      have no : argX rs hds g es = false → Q (.bl false) H1 := fun e => q _ _ _ sc1 k1 (by
        have : callX rs hds x g es = false := by unfold callX; rw [e, Bool.and_false]
        rw [this]
        exact r1.fail inX)
      have hp1 := sqT_sm sc1.s0 hp0
      refine ⟨_, rfl, p, _, 2, _, rfl, rfl, hp1, atI_nat (j := 2) rfl, _, _, _, _, isS g.pd, rfl, .ty _, (wg.sm sc1.s0).ty, kit_str g.pd, _, rfl, ?_⟩
      cases hS : isS g.pd with
      | false => exact ifT rfl (no (argX_noS hS))
      | true =>
        obtain ⟨z, rfl⟩ := str_of hS
        refine ifF rfl ?_
        obtain ⟨dx1, ob1⟩ := sc1.ob
        obtain ⟨kvs, eh, fh⟩ := sc1.hk
        refine ⟨_, rfl, p, _, 2, _, rfl, rfl, hp1, atI_nat (j := 2) rfl, ?_⟩
        have hget : DGet H1 B.h (.str z) ((hds.lookup z).map fun n => V.int (n : Nat)) := by
          have := DGet.k (k := .inr z) eh
          rw [fh z] at this
          exact this
        refine ⟨_, rfl, B.p, _, dx1, _, _, rfl, ob1, T.cl_Scope, T.no_Scope_heads, scF_heads _ _ _ _, B.h, _, rfl, hget, _, rfl, ?_⟩
        cases hl : hds.lookup z with
        | none =>
          refine ifT rfl (no ?_)
          cases es <;> first | rfl | (show (hdB (hds.lookup z) _ && _) = false; rw [hl]; rfl)
        | some n =>
          rw [hl] at hget
          refine ifF rfl ?_
          refine ⟨_, rfl, p, _, 3, _, rfl, rfl, hp1, atI_nat (j := 3) rfl, _, _, _, _, isT es.pd, rfl, .ty _, (we.sm sc1.s0).ty, kit_tup es.pd, _, rfl, ?_⟩
          cases hT : isT es.pd with
          | false => exact ifT rfl (no (argX_noT hT))
          | true =>
            obtain ⟨pe, l, rfl⟩ := tup_of hT
            obtain ⟨he0, ll, wl⟩ := we.nd_inv
            have he1 := sqT_sm sc1.s0 he0
            have lys : (l.map Tr.v).length = l.length := List.length_map ..
            have eA : argX rs hds (.str z) (.nd pe l) = (decide (l.length = n) && l.all (exX rs 4)) := by
              show (hdB (hds.lookup z) _ && _) = _
              rw [hl]
              rfl
            refine ifF rfl ?_
            refine ⟨_, rfl, p, _, 3, _, rfl, rfl, hp1, atI_nat (j := 3) rfl, pe, _, rfl, .inr he1, ?_⟩
            refine ⟨_, rfl, B.p, _, dx1, _, _, rfl, ob1, T.cl_Scope, T.no_Scope_heads, scF_heads _ _ _ _, _, rfl, p, _, 2, _, rfl, rfl, hp1, atI_nat (j := 2) rfl, B.h, _, rfl, hget, rfl, _, rfl, ?_⟩
            by_cases c : l.length = n
            case neg => exact ifNT (fun z => c (by have := V.int.inj z; omega)) (no (by rw [eA, decide_eq_false c, Bool.false_and]))
            rw [decide_eq_true c, Bool.true_and] at eA
            refine ifNF (by rw [lys, c]) ?_
            refine ⟨_, rfl, p, _, 3, _, rfl, rfl, hp1, atI_nat (j := 3) rfl, pe, rfl, ⟨_, he1⟩, fun D nD => ?_⟩
            have s2 := same_new (o := .lst []) nD
            have nD0 := none_of sc1.s0 nD
            have nDS := sc1.nS nD
            have nDH := none_kp k1 nDS nD
            have nDr : B.r ≠ D := ne_of_none sc1.rk nD
            have lx : ∀ {j : Nat} {t : Tr}, l[j]? = some t → (txsL (l.take j)).length + (txs t).length ≤ (txsL l).length := fun {j t} ht => by
              have e := List.take_append_drop (j + 1) l
              have : (txsL l).length = (txsL (l.take (j + 1))).length + (txsL (l.drop (j + 1))).length := by
                conv => lhs; rw [← e, txsL_app, List.length_append]
              rw [txsL_take ht, List.length_append] at this
              omega
            rw [txs_nd (p := pe)] at lS
            refine lc_tup (K := K) (a := pe) (xs := l.map Tr.v) (fun j H' => Kp (scS B) H H' ∧ ∃ (ksj : List Str) (bs : List Bool), SX K H0 H' B rs hds ksj m ∧ bs.length = j ∧ H' D = some (.lst (bs.map V.bl)) ∧ Res (txsL (l.take j)) ((l.take j).all (exX rs 4)) ((l.take j).flatMap (exN 4)) ((l.take j).map fun _ => 0).sum ks1 m (bs.all id) ksj m) ?_ ?_ ?_ ?_
            · exact ⟨k1.trans (.of_same s2), ks1, [], sc1.sm s2, rfl, upd_same, Res.plain sc1.nd⟩
            · rintro j H' _ ⟨_, ksj, bs, scj, _⟩
              exact sqT_sm scj.s0 he0
            · rintro j y H2 hy ⟨k2, ksj, bs, sc2, lj, e2, r2⟩
              obtain ⟨t, ht, rfl⟩ := tr_at hy
              have jl : j < l.length := (List.getElem?_eq_some_iff.mp ht).1
              have lj2 := r2.len sc1.nd
              have lx2 := lx ht
              obtain ⟨dx2, ob2⟩ := sc2.ob
              refine ⟨rfl, _, rfl, B.p, dx2, _, rfl, ob2, scF_no (by decide +kernel) (by decide +kernel) (by decide +kernel) (by decide +kernel), _, rfl, 4, B, t, H0, rs, hds, ksj, m, 1, rfl, rfl, sc2, wl t (List.mem_of_getElem? ht), by omega, rfl, fun H3 b3 ks3 sc3 k3 r3 => ?_⟩
              have e3 := k3 _ _ e2 fun z => absurd z nDS
              refine ⟨_, e3, by rw [List.length_map, sizeLine_eq]; omega, kp_at (k2.trans k3) nDH, ks3, bs ++ [b3], sc3.lst e3 nD0 nDr, by rw [List.length_append, lj]; rfl, by rw [upd_same, List.map_append]; rfl, ?_⟩
              have := Res.snoc (c := fun _ => 0) ht sc1.nd r2 r3
              rw [List.all_append]
              simpa using this
            · rintro H2 ⟨k2, ksj, bs, sc2, lj, e2, r2⟩
              rw [lys, List.take_length] at r2
              refine ⟨D, _, rfl, .inl (.inl e2), ?_⟩
              refine q _ _ _ sc2 k2 ?_
              rw [sum0] at r2
              have := r1.cons sc.nd r2
              unfold callX
              rw [eA]
              refine this.cong sc.nd (fun z hz => ?_) fun z => Iff.rfl
              rcases List.mem_append.mp hz with h | h
              · exact inX z h
              · exact txs_in (t := .nd pe l) (by simp) z (by rw [txs_nd]; exact h)
end

/-! statements without others in them -/
def plainX (rs : List Str) (hds : List (Str × Nat)) : Tr → Bool
  | .nd _ [.str w, a] => if w = "fail" then numX 0 99 a else decide (w ∈ (["tell", "give"] : List Str)) && exX rs 4 a
  | .nd _ [.str w, a, b] => decide (w = "set") && (varX rs a && exX rs 4 b)
  | .nd _ [.str w, a, b, c] => if w = "put" then rowX rs a && (exX rs 4 b && exX rs 4 c) else decide (w = "call") && callX rs hds a b c
  | _ => false
def plainN : Tr → List Str
  | .nd _ [.str w, a] => if w = "fail" then [] else exN 4 a
  | .nd _ [.str _, a, b] => varN a ++ exN 4 b
  | .nd _ [.str w, a, b, c] => if w = "put" then exN 4 b ++ exN 4 c else callN a c
  | _ => []
theorem plX_false {rs : List Str} {hds : List (Str × Nat)} {p : Addr} {w : Str} {r : List Tr} (h1 : r.length = 1 → w ≠ "fail" ∧ w ≠ "tell" ∧ w ≠ "give") (h2 : r.length = 2 → w ≠ "set") (h3 : r.length = 3 → w ≠ "put" ∧ w ≠ "call") : plainX rs hds (.nd p (.str w :: r)) = false := by
  match r, h1, h2, h3 with
  | [], _, _, _ => rfl
  | [a], h, _, _ =>
    obtain ⟨x, y, z⟩ := h rfl
    show (if w = "fail" then numX 0 99 a else decide (w ∈ (["tell", "give"] : List Str)) && exX rs 4 a) = false
    rw [if_neg x, decide_eq_false (by simp [y, z]), Bool.false_and]
  | [a, b], _, h, _ =>
    show (decide (w = "set") && _) = false
    rw [decide_eq_false (h rfl), Bool.false_and]
  | [a, b, c], _, _, h =>
    show (if w = "put" then _ else _) = false
    rw [if_neg (h rfl).1, decide_eq_false (h rfl).2, Bool.false_and]
  | a :: b :: c :: d :: r, _, _, _ => rfl
theorem numX_99 {a : Tr} : numX 0 99 a = (numX (-2147483648) 2147483647 a && numX 0 99 a) := by
  cases a with
  | int i =>
    show (decide (0 ≤ i) && decide (i ≤ 99)) = ((decide (-2147483648 ≤ i) && decide (i ≤ 2147483647)) && (decide (0 ≤ i) && decide (i ≤ 99)))
    by_cases h0 : 0 ≤ i
    · by_cases h1 : i ≤ 99
      · rw [decide_eq_true h0, decide_eq_true h1, decide_eq_true (show -2147483648 ≤ i by omega), decide_eq_true (show i ≤ 2147483647 by omega)]
        rfl
      · rw [decide_eq_false h1, Bool.and_false, Bool.and_false]
    · rw [decide_eq_false h0, Bool.false_and, Bool.and_false]
  | _ => rfl
section
variable {P : Program} {w : World} {K : PySem.W.Frag} {mg : Str → Option Value} {base : Heap}
def sp_plX (K : PySem.W.Frag) : Sp := fun vs H Q _ => ∃ (A : ScA) (p : Addr) (wd : Str) (r : List Tr) (H0 : Hp) (rs : List Str) (hds : List (Str × Nat)) (ks : List Str) (m : Nat), vs = [.ref A.p, .ref p] ∧ SX K H0 H A rs hds ks m ∧ Wt K H0 (.nd p (.str wd :: r)) ∧ ks.length + (txs (.nd p (.str wd :: r))).length ≤ 1000000 ∧
  ∀ H' b ks', SX K H0 H' A rs hds ks' m → Kp (scS A) H H' → Res (txs (.nd p (.str wd :: r))) (plainX rs hds (.nd p (.str wd :: r))) (plainN (.nd p (.str wd :: r))) 0 ks m b ks' m → Q (.bl b) H'
theorem ok_plX (T : Top K mg) : FnOk P w K mg base CX0 10 (He.ma K (He.ga K "Scope") "is_plain") T.fd_Scope_is_plain ["self", "thing"] (sp_plX K) := by
  have G_Scope_is_variable := ok_varX (P := P) (w := w) (base := base) T
  have G_Scope_is_row := ok_rowX (P := P) (w := w) (base := base) T
  have G_Scope_is_expression := ok_exX (P := P) (w := w) (base := base) T 5
  have G_Scope_is_call := ok_callX (P := P) (w := w) (base := base) T
  have G_is_number := ok_is_numberX (P := P) (w := w) (base := base) T
  refine T.F_Scope_is_plain.ok sc_Scope_is_plain (fun vs H Q E h => ?_) (fun cdv A outer s H vs Q E hr h => ?_)
  · obtain ⟨A, p, wd, r, H0, rs, hds, ks, m, rfl, _⟩ := h
    rfl
  · obtain ⟨B, p, wd, r, H0, rs, hds, ks, m, rfl, sc, wt, lb, q⟩ := h
    refine ⟨_, PSs.nox (pss_cons (ps_set (i := 2) sc_Scope_is_plain.nd rfl (Or.inl rfl) (pe_ix ix_tup (pv 1) pe_int (fun _ _ => rfl)))
        (pss_cons (ps_if (pt_cmpR op_eq (pv 2) pe_str (nomark _)) (pss_one (ps_ret (pe_and (pe_cmpR op_eq (pe_callB call_len_seq (by rfl) T.m_len (by decide +kernel) (pa_cons (pv 1) pa_nil)) pe_int (nomark _)) (pe_and (pe_meth (pv 0) T.cl_Scope T.me_Scope_is_variable G_Scope_is_variable (hr.mono (by omega)) T.b_Scope_is_variable .nil pass0 (pa_cons (pe_ix ix_tup (pv 1) pe_int (fun _ _ => rfl)) pa_nil)) (pe_one (pe_meth (pv 0) T.cl_Scope T.me_Scope_is_expression G_Scope_is_expression (hr.mono (by omega)) T.b2_Scope_is_expression.choose_spec.2 T.b2_Scope_is_expression.choose_spec.1 pass0 (pa_cons (pe_ix ix_tup (pv 1) pe_int (fun _ _ => rfl)) pa_nil))))))) pss_nil)
        (pss_cons (ps_if (pt_cmpR op_eq (pv 2) pe_str (nomark _)) (pss_cons (ps_if (PW.pt (pw_or (pt_cmpR op_ne (pe_callB call_len_seq (by rfl) T.m_len (by decide +kernel) (pa_cons (pv 1) pa_nil)) pe_int (nomark _)) (pw_or1 (pt_not (pt_val (pe_meth (pv 0) T.cl_Scope T.me_Scope_is_row G_Scope_is_row (hr.mono (by omega)) T.b_Scope_is_row .nil pass0 (pa_cons (pe_ix ix_tup (pv 1) pe_int (fun _ _ => rfl)) pa_nil))))))) (pss_one (ps_ret pe_bl)) pss_nil)
        (pss_one (ps_ret (pe_and (pe_meth (pv 0) T.cl_Scope T.me_Scope_is_expression G_Scope_is_expression (hr.mono (by omega)) T.b2_Scope_is_expression.choose_spec.2 T.b2_Scope_is_expression.choose_spec.1 pass0 (pa_cons (pe_ix ix_tup (pv 1) pe_int (fun _ _ => rfl)) pa_nil)) (pe_one (pe_meth (pv 0) T.cl_Scope T.me_Scope_is_expression G_Scope_is_expression (hr.mono (by omega)) T.b2_Scope_is_expression.choose_spec.2 T.b2_Scope_is_expression.choose_spec.1 pass0 (pa_cons (pe_ix ix_tup (pv 1) pe_int (fun _ _ => rfl)) pa_nil))))))) pss_nil)
        (pss_cons (ps_if (pt_cmpR op_eq (pv 2) pe_str (nomark _)) (pss_one (ps_ret (pe_and (pe_cmpR op_eq (pe_callB call_len_seq (by rfl) T.m_len (by decide +kernel) (pa_cons (pv 1) pa_nil)) pe_int (nomark _)) (pe_one (pe_meth (pv 0) T.cl_Scope T.me_Scope_is_call G_Scope_is_call (hr.mono (by omega)) T.b_Scope_is_call .nil pass0 (pa_cons (pv 1) pa_nil)))))) pss_nil)
        (pss_cons (ps_if (pt_cmpR op_ne (pe_callB call_len_seq (by rfl) T.m_len (by decide +kernel) (pa_cons (pv 1) pa_nil)) pe_int (nomark _)) (pss_one (ps_ret pe_bl)) pss_nil)
        (pss_cons (ps_if (pt_cmpR op_eq (pv 2) pe_str (nomark _)) (pss_one (ps_ret (pe_and (pe_call G_is_number (hr.mono (by omega)) (by rfl) T.g_is_number T.F_is_number.kp T.b_is_number .nil pass0 (pa_cons (pe_ix ix_tup (pv 1) pe_int (fun _ _ => rfl)) pa_nil)) (pe_one (pe_chain op_le op_le pe_int (pe_ix ix_tup (pv 1) pe_int (fun _ _ => rfl)) (pe_glob (v := .int 99) (by rfl) T.c_MOST_FAIL ⟨_, rfl⟩)))))) pss_nil)
        (pss_one (ps_ret (pe_and (pe_cmpR op_in_seq (pv 2) (pe_tup (pa_cons pe_str (pa_cons pe_str pa_nil))) (by rfl)) (pe_one (pe_meth (pv 0) T.cl_Scope T.me_Scope_is_expression G_Scope_is_expression (hr.mono (by omega)) T.b2_Scope_is_expression.choose_spec.2 T.b2_Scope_is_expression.choose_spec.1 pass0 (pa_cons (pe_ix ix_tup (pv 1) pe_int (fun _ _ => rfl)) pa_nil)))))))))))), ?_⟩
    obtain ⟨dx, ob⟩ := sc.ob
    obtain ⟨hp0, lts, wts⟩ := wt.nd_inv
    have hp := sqT_sm sc.s0 hp0
    have ll : ((Tr.str wd :: r).map Tr.v).length = r.length + 1 := by rw [List.length_map, List.length_cons]
    have lS : (txs (.nd p (.str wd :: r))).length = 1 + (txsL r).length := by
      rw [txs_nd, txsL, txs_str, List.length_append, List.length_cons, List.length_nil]
    have no : plainX rs hds (.nd p (.str wd :: r)) = false → Q (.bl false) H := fun e => q _ false _ sc Kp.refl (by rw [e]; exact Res.no sc.nd)
    have neV : ∀ x : Str, wd ≠ x → V.str wd ≠ V.str x := fun x n e => n (V.str.inj e)
    refine ⟨_, rfl, p, _, 0, _, rfl, rfl, hp, atI_nat (j := 0) rfl, ?_⟩
    dsimp only [gName, List.set]
    refine ⟨_, rfl, rfl, _, rfl, ?_⟩
    by_cases c1 : wd = "set"
    · subst c1
      refine ifD rfl ⟨_, rfl, p, _, rfl, .inr hp, rfl, _, rfl, ?_⟩
      by_cases l : r.length = 2
      case neg => exact ifN (fun z => l (by have := V.int.inj z; omega)) (no (plX_false (fun _ => ⟨by decide +kernel, by decide +kernel, by decide +kernel⟩) (fun z => absurd z l) fun _ => ⟨by decide +kernel, by decide +kernel⟩))
      obtain ⟨a, b, rfl⟩ := len_2 l
      have ha := wts a (by simp)
      have hb := wts b (by simp)
      rw [txsL, txsL, txsL, List.append_nil, List.length_append] at lS
      have eX : plainX rs hds (.nd p [.str "set", a, b]) = (varX rs a && exX rs 4 b) := rfl
      have eN : plainN (.nd p [.str "set", a, b]) = varN a ++ exN 4 b := rfl
      rw [eX, eN] at q
      refine ifD rfl ⟨_, rfl, B.p, dx, _, rfl, ob, scF_no (by decide +kernel) (by decide +kernel) (by decide +kernel) (by decide +kernel), _, rfl, p, _, 1, _, rfl, rfl, hp, atI_nat (j := 1) rfl, B, a, H0, rs, hds, ks, m, rfl, sc, ha, by omega, fun H1 b1 ks1 sc1 k1 r1 => ⟨_, rfl, ?_⟩⟩
      have lk := r1.len sc.nd
      cases b1 with
      | false => exact ifF rfl (q _ _ _ sc1 k1 ((r1.stop (T := []) (ms := exN 4 b) (ok2 := exX rs 4 b) (d := 0) sc.nd).cong sc.nd (fun z hz => txs_in (t := a) (by simp) z (by rwa [List.append_nil] at hz)) fun z => Iff.rfl))
      | true =>
        obtain ⟨dx1, ob1⟩ := sc1.ob
        refine ifT rfl ⟨_, rfl, B.p, dx1, _, rfl, ob1, scF_no (by decide +kernel) (by decide +kernel) (by decide +kernel) (by decide +kernel), _, rfl, p, _, 2, _, rfl, rfl, (sqT_sm sc1.s0 hp0), atI_nat (j := 2) rfl, 4, B, b, H0, rs, hds, ks1, m, 1, rfl, rfl, sc1, hb, by omega, rfl, fun H2 b2 ks2 sc2 k2 r2 => q _ _ _ sc2 (k1.trans k2) ?_⟩
        exact (r1.cons sc.nd r2).cong sc.nd (fun z hz => (List.mem_append.mp hz).elim (txs_in (by simp) z) (txs_in (by simp) z)) fun z => Iff.rfl
    refine ifN (neV _ c1) ⟨_, rfl, rfl, _, rfl, ?_⟩
    by_cases c2 : wd = "put"
    · subst c2
      refine ifD rfl ⟨_, rfl, p, _, rfl, .inr hp, rfl, _, rfl, ?_⟩
      by_cases l : r.length = 3
      case neg => exact ifNT (fun z => l (by have := V.int.inj z; omega)) (no (plX_false (fun _ => ⟨by decide +kernel, by decide +kernel, by decide +kernel⟩) (fun _ => by decide +kernel) fun z => absurd z l))
      obtain ⟨a, b, c, rfl⟩ := len_3 l
      have ha := wts a (by simp)
      have hb := wts b (by simp)
      have hc := wts c (by simp)
      rw [txsL, txsL, txsL, txsL, List.append_nil, List.length_append, List.length_append] at lS
      have eX : plainX rs hds (.nd p [.str "put", a, b, c]) = (rowX rs a && (exX rs 4 b && exX rs 4 c)) := rfl
      have eN : plainN (.nd p [.str "put", a, b, c]) = exN 4 b ++ exN 4 c := rfl
      rw [eX, eN] at q
      refine ifNF rfl ⟨_, rfl, B.p, dx, _, rfl, ob, scF_no (by decide +kernel) (by decide +kernel) (by decide +kernel) (by decide +kernel), _, rfl, p, _, 1, _, rfl, rfl, hp, atI_nat (j := 1) rfl, B, a, H0, rs, hds, ks, m, rfl, sc, ha, _, rfl, ?_⟩
      cases hr' : rowX rs a with
      | false =>
        rw [hr', Bool.false_and] at q
        exact ifT rfl (q _ _ _ sc Kp.refl (Res.no sc.nd))
      | true =>
        rw [hr', Bool.true_and] at q
        refine ifF rfl ⟨_, rfl, B.p, dx, _, rfl, ob, scF_no (by decide +kernel) (by decide +kernel) (by decide +kernel) (by decide +kernel), _, rfl, p, _, 2, _, rfl, rfl, hp, atI_nat (j := 2) rfl, 4, B, b, H0, rs, hds, ks, m, 1, rfl, rfl, sc, hb, by omega, rfl, fun H1 b1 ks1 sc1 k1 r1 => ⟨_, rfl, ?_⟩⟩
        have lk := r1.len sc.nd
        cases b1 with
        | false => exact ifF rfl (q _ _ _ sc1 k1 ((r1.stop (T := []) (ms := exN 4 c) (ok2 := exX rs 4 c) (d := 0) sc.nd).cong sc.nd (fun z hz => txs_in (t := b) (by simp) z (by rwa [List.append_nil] at hz)) fun z => Iff.rfl))
        | true =>
          obtain ⟨dx1, ob1⟩ := sc1.ob
          refine ifT rfl ⟨_, rfl, B.p, dx1, _, rfl, ob1, scF_no (by decide +kernel) (by decide +kernel) (by decide +kernel) (by decide +kernel), _, rfl, p, _, 3, _, rfl, rfl, (sqT_sm sc1.s0 hp0), atI_nat (j := 3) rfl, 4, B, c, H0, rs, hds, ks1, m, 1, rfl, rfl, sc1, hc, by omega, rfl, fun H2 b2 ks2 sc2 k2 r2 => q _ _ _ sc2 (k1.trans k2) ?_⟩
          exact (r1.cons sc.nd r2).cong sc.nd (fun z hz => (List.mem_append.mp hz).elim (txs_in (by simp) z) (txs_in (by simp) z)) fun z => Iff.rfl
    refine ifN (neV _ c2) ⟨_, rfl, rfl, _, rfl, ?_⟩
    by_cases c3 : wd = "call"
    · subst c3
      refine ifD rfl ⟨_, rfl, p, _, rfl, .inr hp, rfl, _, rfl, ?_⟩
      by_cases l : r.length = 3
      case neg => exact ifN (fun z => l (by have := V.int.inj z; omega)) (no (plX_false (fun _ => ⟨by decide +kernel, by decide +kernel, by decide +kernel⟩) (fun _ => by decide +kernel) fun z => absurd z l))
      obtain ⟨a, b, c, rfl⟩ := len_3 l
      have eX : plainX rs hds (.nd p [.str "call", a, b, c]) = callX rs hds a b c := rfl
      have eN : plainN (.nd p [.str "call", a, b, c]) = callN a c := rfl
      rw [eX, eN] at q
      exact ifD rfl ⟨_, rfl, B.p, dx, _, rfl, ob, scF_no (by decide +kernel) (by decide +kernel) (by decide +kernel) (by decide +kernel), _, rfl, B, p, .str "call", a, b, c, H0, rs, hds, ks, m, rfl, sc, wt, lb, q⟩
    refine ifN (neV _ c3) ⟨_, rfl, p, _, rfl, .inr hp, rfl, _, rfl, ?_⟩
    by_cases l : r.length = 1
    case neg => exact ifNT (fun z => l (by have := V.int.inj z; omega)) (no (plX_false (fun z => absurd z l) (fun _ => c1) fun _ => ⟨c2, c3⟩))
    obtain ⟨a, rfl⟩ := len_1 l
    have ha := wts a (by simp)
    rw [txsL, txsL, List.append_nil] at lS
    have eX : plainX rs hds (.nd p [.str wd, a]) = if wd = "fail" then numX 0 99 a else decide (wd ∈ (["tell", "give"] : List Str)) && exX rs 4 a := rfl
    have eN : plainN (.nd p [.str wd, a]) = if wd = "fail" then [] else exN 4 a := rfl
    rw [eX, eN] at q
    refine ifNF rfl ⟨_, rfl, rfl, _, rfl, ?_⟩
    by_cases c4 : wd = "fail"
    · rw [if_pos c4, if_pos c4] at q
      refine ifD (congrArg V.str c4) ⟨_, rfl, p, _, 1, _, rfl, rfl, hp, atI_nat (j := 1) rfl, a, rfl, ha.sm sc.s0, _, rfl, ?_⟩
      cases hn : numX (-2147483648) 2147483647 a with
      | false =>
        rw [numX_99, hn, Bool.false_and] at q
        exact ifF rfl (q _ _ _ sc Kp.refl (Res.no sc.nd))
      | true =>
        cases a with
        | int i =>
          have e : numX 0 99 (.int i) = (decide (0 ≤ i) && decide (i ≤ 99)) := rfl
          rw [e] at q
          refine ifT rfl ⟨_, rfl, p, _, 1, _, rfl, rfl, hp, atI_nat (j := 1) rfl, _, _, rfl, rfl, _, rfl, ?_⟩
          by_cases h0 : 0 ≤ i
          · rw [decide_eq_true h0, Bool.true_and] at q
            exact ifD h0 ⟨_, _, rfl, rfl, q _ _ _ sc Kp.refl (Res.plain sc.nd)⟩
          · rw [decide_eq_false h0, Bool.false_and] at q
            exact ifN h0 (q _ _ _ sc Kp.refl (Res.no sc.nd))
        | _ => cases hn
    rw [if_neg c4, if_neg c4] at q
    refine ifN (neV _ c4) ⟨_, rfl, (by show 2 ≤ sizeLine; rw [sizeLine_eq]; decide), fun pl npl => ⟨pl, _, rfl, .inr (.of upd_same), rfl, (by decide +kernel), ?_⟩⟩
    have sl := same_new (o := .tup [V.str "tell", .str "give"]) npl
    have inW : inV (V.str wd) [V.str "tell", .str "give"] = decide (wd ∈ (["tell", "give"] : List Str)) := in_strs (ws := ["tell", "give"])
    refine ⟨_, rfl, ?_⟩
    by_cases c5 : wd ∈ (["tell", "give"] : List Str)
    · rw [decide_eq_true c5, Bool.true_and] at q
      refine ifT (by exact inW.trans (decide_eq_true c5)) ⟨_, rfl, B.p, dx, _, rfl, (sl _ _ ob), scF_no (by decide +kernel) (by decide +kernel) (by decide +kernel) (by decide +kernel), _, rfl, p, _, 1, _, rfl, rfl, (sqT_sm sl hp), atI_nat (j := 1) rfl, 4, B, a, H0, rs, hds, ks, m, 1, rfl, rfl, sc.sm sl, ha, by omega, rfl, fun H1 b1 ks1 sc1 k1 r1 => q _ _ _ sc1 ((Kp.of_same sl).trans k1) (r1.cong sc.nd (txs_in (by simp)) fun _ => Iff.rfl)⟩
    · rw [decide_eq_false c5, Bool.false_and] at q
      exact ifF (by exact inW.trans (decide_eq_false c5)) (q _ _ _ (sc.sm sl) (Kp.of_same sl) (Res.no sc.nd))
end

/-! enumerate(t), t a tuple -/
namespace EnT
open PySem PySem.Spec PyProof.Rows L2
set_option maxHeartbeats 2000000 in
theorem meets_new {v : Value} {o : Obj} {H : Heap → Prop} (B : Begins v o H) :
    Meets (Builtin.«enumerate.__new__» ⟨[.type "enumerate", v], []⟩) (fun _ R s => H s.heap ∧
      R (.ok (.ret (.ref (s.heap.push o).objs.size))) { s with heap := (s.heap.push o).push { cls := .type "enumerate", data := .fields #[.none, .bool false, .ref s.heap.objs.size, rawInt 0, .none, .none] } }) :=
  .of_wp fun prog w A R s h => by
    obtain ⟨hp, g, d, tk, os⟩ := s; obtain ⟨h1, h⟩ := h
    have hsub := sub_enumerate
    have q1 : ∀ {A' : Around} {E : Value → Shared → Prop} {Q : Value → Shared → Prop}, Q (.ref hp.objs.size) ⟨hp.push o, g, d, tk, os⟩ → wpAny (model prog w) A' (pyIter v) Q E ⟨hp, g, d, tk, os⟩ :=
      fun q => B.iter prog w _ _ ⟨hp, g, d, tk, os⟩ _ h1 q
    wp_walk using q1
    refine wpAny_stack_any fun st => wpAny_pure ?_
    split
    · rename_i c _ _ _ _ _
      cases (c == Value.type "enumerate")
      · wp_walk using q1
        exact ⟨_, rfl, h⟩
      · wp_walk using q1
        exact ⟨_, rfl, h⟩
    · wp_walk using q1
      exact ⟨_, rfl, h⟩
section
variable {prog : Program} {w : World} {A : Around} {E : Value → Shared → Prop} {s : Shared}
theorem call_begins {v : Value} {o : Obj} {H : Heap → Prop} {Q : Value → Shared → Prop} (B : Begins v o H) (h1 : H s.heap)
    (h : ∀ h', IsEnum h' (s.heap.objs.size + 1) s.heap.objs.size 0 .none → h'.get? s.heap.objs.size = some o → h'.objs.size = s.heap.objs.size + 2 →
      (∀ b o, s.heap.get? b = some o → h'.get? b = some o) → Q (.ref (s.heap.objs.size + 1)) { s with heap := h' }) :
    wpAny (model prog w) A (call (.type "enumerate") [v]) Q E s := by
  refine callType_new F.called_enumerate (by decide) (F.typeCall_enumerate_1 _) (F.newCall_enumerate_1 _) (fun obj => F.args_object_init_2 obj _) F.entry_enumerate_new
    (meets_new B) ⟨h1, ?_⟩
  have hz : (s.heap.push o).objs.size = s.heap.objs.size + 1 := Heap.size_push ..
  show _ ∧ _
  rw [hz]
  have he : IsEnum ((s.heap.push o).push { cls := .type "enumerate", data := .fields #[.none, .bool false, .ref s.heap.objs.size, rawInt 0, .none, .none] }) (s.heap.objs.size + 1) s.heap.objs.size 0 .none := by
    have := Heap.get?_push_size (s.heap.push o) (o := { cls := .type "enumerate", data := .fields #[.none, .bool false, .ref s.heap.objs.size, rawInt 0, .none, .none] }) rfl
    rw [hz] at this; exact this
  refine ⟨⟨_, he, rfl⟩, h _ he (Heap.get?_push_of_some _ (Heap.get?_push_size _ B.free)) (by rw [Heap.size_push, hz]) fun b o x => Heap.get?_push_of_some _ (Heap.get?_push_of_some _ x)⟩
end
/-- the tuple at a, each item in a new pair -/
def Ite (K : PySem.W.Frag) (a : Addr) : It :=
  ⟨fun i H => ∃ (xs : List V) (x : V), SqT K H a xs ∧ xs[i]? = some x, fun i H v H' => ∃ T x, v = .ref T ∧ H T = none ∧ H' = upd H T (.tup [.int (i : Nat), x]) ∧ ∀ xs, SqT K H a xs → xs[i]? = some x, fun i H => ∃ xs : List V, SqT K H a xs ∧ xs.length = i⟩
theorem turn {P : Program} {w : World} {K : PySem.W.Frag} {elts : List Expr} {kk : Nat} {tpos : Pos} (a e it : Addr) :
    Turn P w K (.Tuple elts kk tpos) (Ite K a) [e, it] e (fun i h => (∃ old, IsEnum h e it ((i : Nat) : Int) old) ∧ h.IsTupleIter it a i ∧ e ≠ it) where
  mem := by simp
  obj := fun i h st b hb => by
    obtain ⟨⟨old, he⟩, ⟨o, ho, hc, hd⟩, _⟩ := st
    have e' : b = e ∨ b = it := by simpa using hb
    rcases e' with z | z
    · rw [z]; exact ⟨_, he, fun v q => nomatch q⟩
    · rw [z]; exact ⟨o, ho, fun v q => by rw [hd] at q; cases q⟩
  keep := fun i h h' st k => let ⟨⟨old, he⟩, hi, hne⟩ := st; ⟨⟨old, k e (by simp) _ he⟩, hi.at fun o q => k it (by simp) o q, hne⟩
  item := by
    intro X hP hw hK hc i pins s σ H E I hf st hg
    subst hP hw hK
    obtain ⟨⟨old, he⟩, hit, hne⟩ := st
    obtain ⟨xs, x, hq, hx⟩ := hg
    obtain ⟨its, rv, p, hz⟩ := I.tuple hq
    obtain ⟨u, hu, ru⟩ := rv.get hx
    have hel : e < s.heap.objs.size := Heap.lt_size he
    have hil : it < s.heap.objs.size := by obtain ⟨_, q, _⟩ := hit; exact Heap.lt_size q
    have p' : s.heap.IsTuple a its.toArray := p
    have ai : a ≠ it := fun z => by
      obtain ⟨o1, h1, c1, _⟩ := p
      obtain ⟨o2, h2, c2, _⟩ := hit
      rw [z, h2] at h1
      cases h1
      rw [c1] at c2
      exact absurd c2 (by decide)
    have ae : e ≠ a := fun z => by
      obtain ⟨o1, h1, c1, _⟩ := p
      have h2 : s.heap.get? e = some _ := he
      rw [z, h1] at h2
      cases h2
      exact absurd (show Value.type "enumerate" = Value.type "tuple" from c1) (by decide)
    have D := Draws.tuple (prog := X.prog) (w := X.w) (A := X.A.in1) (I.ok.hd hc) it a ai its.toArray
    have hlt : i < its.toArray.size := by
      have := (List.getElem?_eq_some_iff.mp hu).1
      simpa using this
    refine wpAny_pyNext_enum_itemD D he ⟨hit, p'⟩ hlt hne (by simp [hne, ae]) fun y h' tk hP ho hs' hT hsz hk => ?_
    have hy : y = u := by
      have hP' : its.toArray[i]? = some y := hP
      have : its[i]? = some y := by simpa using hP'
      rw [hu] at this
      cases this
      rfl
    subst hy
    refine ⟨_, rfl, wpAny_letOwnedTupleGo_enum (s := { s with heap := h', toks := tk + 1 }) ho fun h'' he' sb => ?_⟩
    have hT2 : h''.get? s.heap.objs.size = some { cls := .type "tuple", data := .seq #[.int i tk, y] } := (sb.2 _ (Nat.ne_of_gt hel)).trans hT
    have new : ObjOk X.prog X.w (upd H s.heap.objs.size (.tup [.int (i : Nat), x])) h'' s.heap.objs.size (.tup [.int (i : Nat), x]) :=
      ⟨by show 2 ≤ sizeLine; decide, [.int i tk, y], .cons ⟨_, rfl⟩ (.cons ru .nil), ⟨_, hT2, rfl, _, rfl⟩⟩
    have I1 : Inv X pins σ (upd H s.heap.objs.size (.tup [.int (i : Nat), x])) { s with heap := h'', toks := tk + 1 } :=
      I.turnedNew (ch := [e, it]) (fun b ob hb q => (sb.2 b (fun z => hb (by simp [z]))).trans (hk b ob (fun z => hb (by simp [z])) (fun z => hb (by simp [z])) q)) hf (Nat.le_refl _) new
    refine ⟨.ref s.heap.objs.size, _, I1, rfl, ⟨_, x, rfl, I.hok.fresh (Nat.le_refl _), rfl, fun ys hy => by rw [I.tuple_inj hy hq]; exact hx⟩, ⟨⟨y, ?_⟩, hs'.1.at fun o q => (sb.2 it (Ne.symm hne)).trans q, hne⟩, fun b hb => ?_⟩
    · have e1 : ((i + 1 : Nat) : Int) = (i : Int) + 1 := by omega
      rw [e1]; exact he'
    · have hb' : b < s.heap.objs.size := by
        have e' : b = e ∨ b = it := by simpa using hb
        rcases e' with z | z
        · rw [z]; exact hel
        · rw [z]; exact hil
      rw [upd_ne (Nat.ne_of_lt hb')]
      exact (hf b hb).1
  done := by
    intro X hP hw hK hc i pins s σ H E I hf st hg
    subst hP hw hK
    obtain ⟨⟨old, he⟩, hit, hne⟩ := st
    obtain ⟨xs, hq, hx⟩ := hg
    obtain ⟨its, rv, p, hz⟩ := I.tuple hq
    obtain ⟨f0, f1, f2, f3, f4, f5⟩ := hf it (by simp)
    have hl := rv.length
    have ai : a ≠ it := fun z => by
      obtain ⟨o1, h1, c1, _⟩ := p
      obtain ⟨o2, h2, c2, _⟩ := hit
      rw [z, h2] at h1
      cases h1
      rw [c1] at c2
      exact absurd c2 (by decide)
    have D := Draws.tuple (prog := X.prog) (w := X.w) (A := X.A.in1) (I.ok.hd hc) it a ai its.toArray
    have e9 : its.toArray.size = i := by
      simp
      omega
    refine wpAny_pyNext_enum_endD D he (by rw [e9]; exact ⟨hit, p⟩) fun h' eb => ⟨rfl, I.turned (t' := s.toks) (fun b o hb q => eb b o hb q) f0 f1 f3 f4 f5⟩
  self := fun A i s Q E st h => let ⟨⟨_, he⟩, _⟩ := st; wpAny_pyIter_enum he h
def iEnumT (K : PySem.W.Frag) (ta : TA) : TI := fun σ H R => ta σ H fun vs H1 => ∃ a xs, vs = [.ref a] ∧ SqT K H1 a xs ∧ R (Ite K a) H1
theorem pi_enumT {X : Cx} {e : Expr} {ta : TA} {p pos tpos : Pos} {elts : List Expr} {kk : Nat} (hg : Gl X "enumerate") (hm : X.mg "enumerate" = none) (ha : PA X [e] ta) (hs : starEach [e] X.env = [(false, eval e X.env)] := by rfl) :
    PI X (.Tuple elts kk tpos) (.Call (.Name "enumerate" p) [e] [] pos) (iEnumT X.K ta) := by
  refine ⟨fun pins s σ H R I h => ?_⟩
  refine Call_ (ld_blt I hg hm boot_enumerate (PyProof.Rows.callWith_type1 (thn (ha.run pos pins s σ H _ I h) fun us s1 ⟨vs, H1, I1, r1, q1⟩ => ?_) hs rfl))
  obtain ⟨a, xs, ex, hq, q⟩ := q1
  subst ex
  cases r1 with
  | cons r rr =>
    cases rr
    cases r
    obtain ⟨its, rv, p', hz⟩ := I1.tuple hq
    refine call_begins (begins_tuple a its.toArray) p' fun h' he hit hsz hk => wpAny_pyIter_enum he ?_
    have I2 : Inv X pins σ H1 { s1 with heap := h' } := I1.kept (t' := s1.toks) hk
    refine ⟨s1.heap.objs.size + 1, [s1.heap.objs.size + 1, s1.heap.objs.size], _, _, H1, rfl, I2, turn a (s1.heap.objs.size + 1) s1.heap.objs.size, ⟨⟨.none, he⟩, ⟨_, hit, rfl, rfl⟩, Nat.succ_ne_self _⟩, fun b hb => ?_, q⟩
    have e' : b = s1.heap.objs.size + 1 ∨ b = s1.heap.objs.size := by simpa using hb
    have hle : s1.heap.objs.size ≤ b := by
      rcases e' with z | z
      · rw [z]; exact Nat.le_add_right _ _
      · rw [z]; exact Nat.le_refl _
    exact I1.fpOk hle (I1.hok.fresh hle)
theorem walk {K : PySem.W.Frag} {a : Addr} {xs : List V} : Walk (Ite K a) xs.length (fun H => SqT K H a xs) (YPair (fun i => some (.int (i : Nat))) (fun i => xs[i]?)) := by
  refine ⟨fun i _ hi q => ⟨xs, xs[i], q, by simp [hi]⟩, fun _ q => ⟨xs, q, rfl⟩, fun i H v H' _ q y => ?_⟩
  obtain ⟨T, x, h1, h2, h3, h4⟩ := y
  exact ⟨T, .int (i : Nat), x, h1, h2, h3, rfl, h4 xs q⟩
end EnT

/-! statements and bodies -/
def endX : Tr → Bool
  | .nd _ (.str w :: _) => decide (w ∈ (["give", "fail"] : List Str))
  | _ => false
def ifn (w : Str) : Nat := if w = "if" then 2 else 1
def ifX (ex bd : Tr → Bool) (w : Str) : List Tr → Bool
  | e :: bs => decide (bs.length = ifn w) && (ex e && bs.all bd)
  | [] => false
def stX (pl ex bd : Tr → Bool) : Tr → Bool
  | .nd p (.str w :: r) => if w = "if" ∨ w = "while" then ifX ex bd w r else pl (.nd p (.str w :: r))
  | _ => false
def ifNs (en bn : Tr → List Str) : List Tr → List Str
  | e :: bs => en e ++ bs.flatMap bn
  | [] => []
def stN (pn en bn : Tr → List Str) : Tr → List Str
  | .nd p (.str w :: r) => if w = "if" ∨ w = "while" then ifNs en bn r else pn (.nd p (.str w :: r))
  | _ => []
def ifC (bc : Tr → Nat) : List Tr → Nat
  | _ :: bs => (bs.map bc).sum
  | [] => 0
def stC (bc : Tr → Nat) : Tr → Nat
  | .nd _ (.str w :: r) => 1 + (if w = "if" ∨ w = "while" then ifC bc r else 0)
  | _ => 0
def okT (st : Tr → Bool) (n j : Nat) (t : Tr) : Bool := st t && (!endX t || decide (j + 1 = n))
def preX (st : Tr → Bool) (l : List Tr) (i : Nat) : Bool := (l.take i).zipIdx.all fun q => okT st l.length q.2 q.1
def bodyX (st : Tr → Bool) : Tr → Bool
  | .nd _ l => preX st l l.length
  | _ => false
def bodyN (f : Tr → List Str) : Tr → List Str
  | .nd _ l => l.flatMap f
  | _ => []
def bodyC (f : Tr → Nat) : Tr → Nat
  | .nd _ l => (l.map f).sum
  | _ => 0
def bdX (rs : List Str) (hds : List (Str × Nat)) : Nat → Tr → Bool
  | 0, _ => false
  | D + 1, t => bodyX (stX (plainX rs hds) (exX rs 4) (bdX rs hds D)) t
def bdN : Nat → Tr → List Str
  | 0, _ => []
  | D + 1, t => bodyN (stN plainN (exN 4) (bdN D)) t
def bdC : Nat → Tr → Nat
  | 0, _ => 0
  | D + 1, t => bodyC (stC (bdC D)) t
/-- a statement with bodies of D levels in it -/
def smX (rs : List Str) (hds : List (Str × Nat)) (D : Nat) : Tr → Bool := stX (plainX rs hds) (exX rs 4) (bdX rs hds D)
def smN (D : Nat) : Tr → List Str := stN plainN (exN 4) (bdN D)
def smC (D : Nat) : Tr → Nat := stC (bdC D)
theorem preX_succ {st : Tr → Bool} {l : List Tr} {i : Nat} {t : Tr} (h : l[i]? = some t) : preX st l (i + 1) = (preX st l i && okT st l.length i t) := by
  have hi := (List.getElem?_eq_some_iff.mp h).1
  unfold preX
  rw [take_one h, List.zipIdx_append, List.all_append, List.length_take, Nat.min_eq_left (by omega)]
  simp
theorem preX_le {st : Tr → Bool} {l : List Tr} {i j : Nat} (h : i ≤ j) (e : preX st l j = true) : preX st l i = true := by
  unfold preX at *
  rw [List.all_eq_true] at *
  intro q hq
  refine e q ?_
  have : l.take i = (l.take j).take i := by rw [List.take_take, Nat.min_eq_left h]
  rw [this] at hq
  rw [← List.take_append_drop i (l.take j), List.zipIdx_append]
  exact List.mem_append_left _ hq
theorem preX_and {st : Tr → Bool} {l : List Tr} {i j : Nat} (h : i ≤ j) : preX st l j = (preX st l i && preX st l j) := by
  cases e : preX st l j with
  | false => rw [Bool.and_false]
  | true => rw [preX_le h e]; rfl
theorem stX_noS {pl ex bd : Tr → Bool} {t : Tr} (h : ∀ p w r, t ≠ .nd p (.str w :: r)) : stX pl ex bd t = false := by
  cases t with
  | nd p ts =>
    cases ts with
    | nil => rfl
    | cons a r =>
      cases a with
      | str w => exact absurd rfl (h p w r)
      | _ => rfl
  | _ => rfl
theorem Res.one {ks : List Str} {m : Nat} (nd : ks.Nodup) : Res [] true [] 1 ks m (decide (m + 1 ≤ 25)) ks (m + 1) := by
  refine ⟨nd, fun _ h => h, fun _ h => .inl h, by omega, fun a b => ?_, fun _ _ _ => ⟨fun z => ⟨.inl, fun h => h.resolve_right fun x => nomatch x⟩, rfl⟩⟩
  rw [decide_eq_true_eq]
  exact ⟨fun h => ⟨rfl, a, h⟩, fun h => h.2.2⟩
theorem Res.ok {S ns ks ks' : List Str} {ok ok' b : Bool} {c m m' : Nat} (h : Res S ok ns c ks m b ks' m') (e : ok = ok') : Res S ok' ns c ks m b ks' m' := e ▸ h
section
variable {P : Program} {w : World} {K : PySem.W.Frag} {mg : Str → Option Value} {base : Heap}
def HdS (t : Tr) : Prop := ∃ p w r, t = .nd p (.str w :: r)
def sp_stX (K : PySem.W.Frag) (D : Nat) : Sp := fun vs H Q _ => ∃ (A : ScA) (t : Tr) (H0 : Hp) (rs : List Str) (hds : List (Str × Nat)) (ks : List Str) (m : Nat) (deep : Int), vs = [.ref A.p, t.v, .int deep] ∧ SX K H0 H A rs hds ks m ∧ Wt K H0 t ∧ ks.length + (txs t).length ≤ 1000000 ∧ deep + D = 4 ∧
  ∀ H' b ks' m', SX K H0 H' A rs hds ks' m' → Kp (scS A) H H' → Res (txs t) (smX rs hds D t) (smN D t) (smC D t) ks m b ks' m' → (b = true → HdS t) → Q (.bl b) H'
def sp_bdX (K : PySem.W.Frag) (D : Nat) : Sp := fun vs H Q _ => ∃ (A : ScA) (t : Tr) (H0 : Hp) (rs : List Str) (hds : List (Str × Nat)) (ks : List Str) (m : Nat) (deep : Int), 1 ≤ D ∧ vs = [.ref A.p, t.v, .int deep] ∧ SX K H0 H A rs hds ks m ∧ Wt K H0 t ∧ ks.length + (txs t).length ≤ 1000000 ∧ deep + D = 5 ∧
  ∀ H' b ks' m', SX K H0 H' A rs hds ks' m' → Kp (scS A) H H' → Res (txs t) (bdX rs hds D t) (bdN D t) (bdC D t) ks m b ks' m' → Q (.bl b) H'
def sp_endX (K : PySem.W.Frag) : Sp := fun vs H Q _ => ∃ t : Tr, vs = [t.v] ∧ Wt K H t ∧ HdS t ∧ ∀ H', Same H H' → Q (.bl (endX t)) H'
theorem ok_endX (T : Top K mg) : FnOk P w K mg base CX0 1 (He.ga K "ends_there") T.fd_ends_there ["statement"] (sp_endX K) := by
  refine T.F_ends_there.ok sc_ends_there (fun vs H Q E h => ?_) (fun cdv A outer s H vs Q E hr h => ?_)
  · obtain ⟨t, rfl, _⟩ := h
    rfl
  · obtain ⟨t, rfl, wt, ⟨p, wd, r, rfl⟩, q⟩ := h
    refine ⟨_, PSs.nox (pss_one (ps_ret (pe_cmpR op_in_seq (pe_ix ix_tup (pv 0) pe_int (fun _ _ => rfl)) (pe_tup (pa_cons pe_str (pa_cons pe_str pa_nil))) (by rfl)))), ?_⟩
    obtain ⟨hs, _, _⟩ := wt.nd_inv
    refine ⟨_, rfl, p, _, 0, _, rfl, rfl, hs, atI_nat (j := 0) rfl, (by show 2 ≤ sizeLine; rw [sizeLine_eq]; decide), fun pl npl => ?_⟩
    refine ⟨pl, _, rfl, .inr (.of upd_same), rfl, by decide +kernel, ?_⟩
    have inW : inV (V.str wd) [V.str "give", .str "fail"] = decide (wd ∈ (["give", "fail"] : List Str)) := in_strs (ws := ["give", "fail"])
    show Q (.bl (inV (V.str wd) [V.str "give", .str "fail"])) _
    rw [inW]
    exact q _ (same_new npl)
theorem txsL_take_le {l : List Tr} {j : Nat} {t : Tr} (ht : l[j]? = some t) : (txsL (l.take j)).length + (txs t).length ≤ (txsL l).length := by
  have : (txsL l).length = (txsL (l.take (j + 1))).length + (txsL (l.drop (j + 1))).length := by
    conv => lhs; rw [← List.take_append_drop (j + 1) l, txsL_app, List.length_append]
  rw [txsL_take ht, List.length_append] at this
  omega
theorem ok_bdX1 (T : Top K mg) (D N : Nat) (G : FnOk P w K mg base CX0 N (He.ma K (He.ga K "Scope") "is_statement") T.fd_Scope_is_statement ["self", "thing", "deep"] (sp_stX K D)) (hN : 4 ≤ N) : FnOk P w K mg base CX0 (N + 1) (He.ma K (He.ga K "Scope") "is_body") T.fd_Scope_is_body ["self", "thing", "deep"] (sp_bdX K (D + 1)) := by
  have G_Scope_is_statement := G
  have G_ends_there := ok_endX (P := P) (w := w) (base := base) T
  refine T.F_Scope_is_body.ok sc_Scope_is_body (fun vs H Q E h => ?_) (fun cdv A outer s H vs Q E hr h => ?_)
  · obtain ⟨A, t, H0, rs, hds, ks, m, deep, _, rfl, _⟩ := h
    rfl
  · obtain ⟨A, t, H0, rs, hds, ks, m, deep, _, rfl, sc, wt, lb, hd, q⟩ := h
    refine ⟨_, PSs.nox (pss_cons (ps_if (pt_not (pt_val (pe_callB call_isi (by rfl) T.m_isinstance (by decide +kernel) (pa_cons (pv 1) (pa_cons (pe_bltn (v := .ty "tuple") (by rfl) T.m_tuple (by decide +kernel) rfl) pa_nil))))) (pss_one (ps_ret pe_bl)) pss_nil)
        (pss_cons (ps_for PassesOwn.never (by rfl) (EnT.pi_enumT (by rfl) T.m_enumerate (pa_cons (pv 1) pa_nil)) (pg_tup (n := 2) (by rfl) (pgs_cons (pg_name (i := 3) sc_Scope_is_body.nd rfl (Or.inl rfl)) (pgs_cons (pg_name (i := 4) sc_Scope_is_body.nd rfl (Or.inl rfl)) pgs_nil))) (pss_cons (ps_if (pt_not (pt_val (pe_meth (pv 0) T.cl_Scope T.me_Scope_is_statement G_Scope_is_statement (hr.mono (by omega)) T.b_Scope_is_statement .nil pass0 (pa_cons (pv 4) (pa_cons (pv 2) pa_nil))))) (pss_one (ps_ret pe_bl)) pss_nil)
        (pss_one (ps_if (PW.pt (pw_and (pt_val (pe_call G_ends_there (hr.mono (by omega)) (by rfl) T.g_ends_there T.F_ends_there.kp T.b_ends_there .nil pass0 (pa_cons (pv 4) pa_nil))) (pw_and1 (pt_cmpR op_lt (pv 3) (pe_op op_sub (pe_callB call_len_seq (by rfl) T.m_len (by decide +kernel) (pa_cons (pv 1) pa_nil)) pe_int) (nomark _))))) (pss_one (ps_ret pe_bl)) pss_nil))))
        (pss_one (ps_ret pe_bl)))), ?_⟩
    refine ⟨_, rfl, _, _, _, _, isT t.pd, rfl, .ty _, (wt.sm sc.s0).ty, kit_tup t.pd, _, rfl, ?_⟩
    cases hT : isT t.pd with
    | false =>
      have e : bdX rs hds (D + 1) t = false := by cases t <;> first | rfl | cases hT
      exact ifT rfl (q _ false _ _ sc Kp.refl (by rw [e]; exact Res.no sc.nd))
    | true =>
      obtain ⟨p, l, rfl⟩ := tup_of hT
      obtain ⟨hp0, lts, wts⟩ := wt.nd_inv
      have hp := sqT_sm sc.s0 hp0
      have ll : (l.map Tr.v).length = l.length := List.length_map ..
      have eX : bdX rs hds (D + 1) (.nd p l) = preX (smX rs hds D) l l.length := rfl
      have eN : bdN (D + 1) (.nd p l) = l.flatMap (smN D) := rfl
      have eC : bdC (D + 1) (.nd p l) = (l.map (smC D)).sum := rfl
      rw [eX, eN, eC, txs_nd] at q
      rw [txs_nd] at lb
      refine ifF rfl ⟨_, rfl, p, _, rfl, hp, ?_⟩
      refine for_it (EnT.walk (K := K) (a := p) (xs := l.map Tr.v)) (fun i σ' H' => Kp (scS A) H H' ∧ ∃ ksi mi, SX K H0 H' A rs hds ksi mi ∧ Res (txsL (l.take i)) (preX (smX rs hds D) l i) ((l.take i).flatMap (smN D)) ((l.take i).map (smC D)).sum ks m true ksi mi ∧ ∃ x3 x4, σ' = [some (.ref A.p), some (.ref p), some (.int deep), x3, x4]) ?_ ?_ ?_ ?_
      · exact ⟨Kp.refl, ks, m, sc, Res.plain sc.nd, none, none, rfl⟩
      · rintro i σ' H' _ ⟨_, ksi, mi, sci, _⟩
        exact sqT_sm sci.s0 hp0
      · rintro i x σ' H3 H4 hi ⟨k3, ksi, mi, sc3, r3, x3, x4, rfl⟩ ⟨Tn, y1, y2, rfl, nT, rfl, c1, c2⟩
        cases c1
        obtain ⟨t, ht, rfl⟩ := tr_at c2
        have hil := (List.getElem?_eq_some_iff.mp ht).1
        have s34 := same_new (o := .tup [.int (i : Nat), t.v]) nT
        have sc4 := sc3.sm s34
        have k4 : Kp (scS A) H (upd H3 Tn (.tup [.int (i : Nat), t.v])) := k3.trans (Kp.of_same s34)
        have e4 : upd H3 Tn (.tup [.int (i : Nat), t.v]) Tn = some (.tup [.int (i : Nat), t.v]) := upd_same
        generalize upd H3 Tn (.tup [.int (i : Nat), t.v]) = H4 at sc4 k4 e4
        have wtt := wts t (List.mem_of_getElem? ht)
        have lk := r3.len sc.nd
        have lx := txsL_take_le ht
        refine ⟨Tn, _, rfl, .of e4, rfl, _, _, rfl, _, _, rfl, rfl, ?_⟩
        dsimp only [gName, List.set]
        obtain ⟨dx4, ob4⟩ := sc4.ob
        have eD : l.take i ++ t :: l.drop (i + 1) = l := by
          have := List.take_append_drop i l
          rw [List.drop_eq_getElem_cons hil] at this
          rw [(List.getElem?_eq_some_iff.mp ht).2] at this
          exact this
        have inS : ∀ z ∈ txsL (l.take i) ++ txs t, z ∈ txsL l := fun z hz => by
          rw [← txsL_take ht] at hz
          have : txsL l = txsL (l.take (i + 1)) ++ txsL (l.drop (i + 1)) := by rw [← txsL_app, List.take_append_drop]
          rw [this]
          exact List.mem_append_left _ hz
        have flE : ∀ f : Tr → List Str, l.flatMap f = (l.take i).flatMap f ++ (f t ++ (l.drop (i + 1)).flatMap f) := fun f => by
          conv => lhs; rw [← eD]
          rw [List.flatMap_append, List.flatMap_cons]
        have smE : ∀ f : Tr → Nat, (l.map f).sum = ((l.take i).map f).sum + (f t + ((l.drop (i + 1)).map f).sum) := fun f => by
          conv => lhs; rw [← eD]
          rw [List.map_append, List.sum_append, List.map_cons, List.sum_cons]
        refine ⟨_, rfl, A.p, dx4, _, rfl, ob4, scF_no (by decide +kernel) (by decide +kernel) (by decide +kernel) (by decide +kernel), _, rfl, _, rfl, A, t, H0, rs, hds, ksi, mi, deep, rfl, sc4, wtt, by omega, by omega, fun H5 b5 ks5 m5 sc5 k5 r5 hd5 => ⟨_, rfl, ?_⟩⟩
        have rr := r3.cons sc.nd r5
        cases b5 with
        | false =>
          refine ifT rfl (q _ _ _ _ sc5 (k4.trans k5) ?_)
          have := (rr.stop (T := []) (ok2 := preX (smX rs hds D) l l.length) (ms := (l.drop (i + 1)).flatMap (smN D)) (d := ((l.drop (i + 1)).map (smC D)).sum) sc.nd)
          rw [flE, smE, ← Nat.add_assoc, ← List.append_assoc]
          refine (this.cong sc.nd (fun z hz => inS z (by rwa [List.append_nil] at hz)) fun z => Iff.rfl).ok ?_
          cases e : preX (smX rs hds D) l l.length with
          | false => rw [Bool.and_false]
          | true =>
            have h1 := preX_le (show i + 1 ≤ l.length by omega) e
            rw [preX_succ ht, Bool.and_eq_true] at h1
            unfold okT at h1
            rw [Bool.and_eq_true] at h1
            rw [h1.1, h1.2.1]
            rfl
        | true =>
          refine ifF rfl ⟨_, rfl, t, rfl, wtt.sm sc5.s0, hd5 rfl, fun H6 s6 => ⟨_, rfl, ?_⟩⟩
          have k6 := (k4.trans k5).trans (Kp.of_same s6)
          have sc6 := sc5.sm s6
          have fin : (!endX t || decide (i + 1 = l.length)) = true → Kp (scS A) H H6 ∧ ∃ ksi mi, SX K H0 H6 A rs hds ksi mi ∧ Res (txsL (l.take (i + 1))) (preX (smX rs hds D) l (i + 1)) ((l.take (i + 1)).flatMap (smN D)) ((l.take (i + 1)).map (smC D)).sum ks m true ksi mi ∧ ∃ x3 x4, [some (V.ref A.p), some (.ref p), some (.int deep), some (.int (i : Nat)), some t.v] = [some (.ref A.p), some (.ref p), some (.int deep), x3, x4] := fun e => by
            refine ⟨k6, ks5, m5, sc6, ?_, _, _, rfl⟩
            rw [txsL_take ht, preX_succ ht, take_one ht, List.flatMap_append, List.map_append, List.sum_append]
            unfold okT
            rw [e, Bool.and_true]
            simpa using rr
          cases he : endX t with
          | false => exact ifF rfl (fin (by rw [he]; rfl))
          | true =>
            refine ifT rfl ⟨_, rfl, _, rfl, p, _, rfl, .inr (sqT_sm sc6.s0 hp0), _, _, rfl, rfl, _, _, rfl, rfl, _, rfl, ?_⟩
            by_cases hl : i + 1 = l.length
            · exact ifN (by omega) (fin (by rw [he, decide_eq_true hl]; rfl))
            · refine ifD (by omega) (q _ _ _ _ sc6 k6 ?_)
              have ef : preX (smX rs hds D) l l.length = false := by
                cases e : preX (smX rs hds D) l l.length with
                | false => rfl
                | true =>
                  have h1 := preX_le (show i + 1 ≤ l.length by omega) e
                  rw [preX_succ ht] at h1
                  unfold okT at h1
                  rw [he, decide_eq_false hl, Bool.not_true, Bool.false_or, Bool.and_false, Bool.and_false] at h1
                  cases h1
              rw [ef]
              exact rr.fail inS
      · rintro σ' H3 ⟨k3, ksi, mi, sc3, r3, x3, x4, rfl⟩
        rw [ll, List.take_length] at r3
        exact q _ _ _ _ sc3 k3 r3
end

theorem txsL_drop1 {a : Tr} {r : List Tr} : txsL (a :: r) = txs a ++ txsL r := by rw [txsL]
def kvIf : List (Key × V) := [(.inr "if", .int 4), (.inr "while", .int 3)]
section
variable {P : Program} {w : World} {K : PySem.W.Frag} {mg : Str → Option Value} {base : Heap}
theorem ok_stX1 (T : Top K mg) (D N : Nat) (G : FnOk P w K mg base CX0 N (He.ma K (He.ga K "Scope") "is_body") T.fd_Scope_is_body ["self", "thing", "deep"] (sp_bdX K D)) (hN : 10 ≤ N) : FnOk P w K mg base CX0 (N + 1) (He.ma K (He.ga K "Scope") "is_statement") T.fd_Scope_is_statement ["self", "thing", "deep"] (sp_stX K D) := by
  have G_Scope_is_body := G
  have G_Scope_takes_one := ok_takeX (P := P) (w := w) (base := base) T
  have G_Scope_is_plain := ok_plX (P := P) (w := w) (base := base) T
  have G_Scope_is_expression := ok_exX (P := P) (w := w) (base := base) T 5
  refine T.F_Scope_is_statement.ok sc_Scope_is_statement (fun vs H Q E h => ?_) (fun cdv A outer s H vs Q E hr h => ?_)
  · obtain ⟨A, t, H0, rs, hds, ks, m, deep, rfl, _⟩ := h
    rfl
  · obtain ⟨A, t, H0, rs, hds, ks, m, deep, rfl, sc, wt, lb, hd, q⟩ := h
    refine ⟨_, PSs.nox (pss_cons (ps_if (PW.pt (pw_or (pt_not (pt_val (pe_callB call_isi (by rfl) T.m_isinstance (by decide +kernel) (pa_cons (pv 1) (pa_cons (pe_bltn (v := .ty "tuple") (by rfl) T.m_tuple (by decide +kernel) rfl) pa_nil))))) (pw_or (pt_cmpR op_eq (pe_callB call_len_seq (by rfl) T.m_len (by decide +kernel) (pa_cons (pv 1) pa_nil)) pe_int (nomark _)) (pw_or (pt_not (pt_val (pe_callB call_isi (by rfl) T.m_isinstance (by decide +kernel) (pa_cons (pe_ix ix_tup (pv 1) pe_int (fun _ _ => rfl)) (pa_cons (pe_bltn (v := .ty "str") (by rfl) T.m_str (by decide +kernel) rfl) pa_nil))))) (pw_or1 (pt_not (pt_val (pe_meth0 (pv 0) T.cl_Scope T.me_Scope_takes_one G_Scope_takes_one (hr.mono (by omega)) T.b_Scope_takes_one .nil pass0)))))))) (pss_one (ps_ret pe_bl)) pss_nil)
        (pss_cons (ps_if (pt_cmpR op_notIn_seq (pe_ix ix_tup (pv 1) pe_int (fun _ _ => rfl)) (pe_tup (pa_cons pe_str (pa_cons pe_str pa_nil))) (by rfl)) (pss_one (ps_ret (pe_meth (pv 0) T.cl_Scope T.me_Scope_is_plain G_Scope_is_plain (hr.mono (by omega)) T.b_Scope_is_plain .nil pass0 (pa_cons (pv 1) pa_nil)))) pss_nil)
        (pss_cons (ps_set (i := 3) sc_Scope_is_statement.nd rfl (Or.inl rfl) (pe_dget (hu_of hr) (pe_disp (pps_cons pe_str pe_int (pps_cons pe_str pe_int pps_nil)) (by rfl) (by rfl) (fun z => by cases z) (by decide)) (pe_ix ix_tup (pv 1) pe_int (fun _ _ => rfl)) (fun _ _ => rfl)))
        (pss_cons (ps_if (PW.pt (pw_or (pt_cmpR op_eq (pv 2) (pe_glob (v := .int 4) (by rfl) T.c_MOST_DEEP ⟨_, rfl⟩) (nomark _)) (pw_or (pt_cmpR op_ne (pe_callB call_len_seq (by rfl) T.m_len (by decide +kernel) (pa_cons (pv 1) pa_nil)) (pv 3) (nomark _)) (pw_or1 (pt_not (pt_val (pe_meth (pv 0) T.cl_Scope T.me_Scope_is_expression G_Scope_is_expression (hr.mono (by omega)) T.b2_Scope_is_expression.choose_spec.2 T.b2_Scope_is_expression.choose_spec.1 pass0 (pa_cons (pe_ix ix_tup (pv 1) pe_int (fun _ _ => rfl)) pa_nil)))))))) (pss_one (ps_ret pe_bl)) pss_nil)
        (pss_one (ps_ret (pe_callB (cr_all (by rfl)) (by rfl) T.m_all (by decide +kernel) (pa_cons (pe_lc (own := [("body", 4)]) (by rfl) sc_Scope_is_statement.nd (pi_tup (pe_slice sl_tupA (pv 1) (po_some pe_int) po_none)) (blkOk_by (own := [("body", 4)]) (N := N_Scope_is_statement) (sc := defScope s_Scope_is_statement) (by decide +kernel)) (fun _ _ _ _ _ => (pg_name (i := 4) sc_Scope_is_statement.nd rfl (Or.inl rfl))) (fun _ _ _ _ _ => pts_nil) (fun _ _ _ _ _ => (pe_meth (pv 0) T.cl_Scope T.me_Scope_is_body G_Scope_is_body (hr.mono (by omega)) T.b_Scope_is_body.choose_spec.2 T.b_Scope_is_body.choose_spec.1 pass0 (pa_cons (pv 4) (pa_cons (pe_op op_add (pv 2) pe_int) pa_nil))))) pa_nil)))))))), ?_⟩
    have big : ∀ n : Nat, n ≤ 10000 → n ≤ sizeLine := fun n h => by rw [sizeLine_eq]; omega
    have no : smX rs hds D t = false → Q (.bl false) H := fun e => q _ false _ _ sc Kp.refl (by rw [e]; exact Res.no sc.nd) fun z => nomatch z
    refine ⟨_, rfl, _, _, _, _, isT t.pd, rfl, .ty _, (wt.sm sc.s0).ty, kit_tup t.pd, _, rfl, ?_⟩
    cases hT : isT t.pd with
    | false => exact ifT rfl (no (stX_noS fun p w r z => by rw [z] at hT; cases hT))
    | true =>
    obtain ⟨p, ts, rfl⟩ := tup_of hT
    obtain ⟨hp0, lts, wts⟩ := wt.nd_inv
    have hp := sqT_sm sc.s0 hp0
    have ll : (ts.map Tr.v).length = ts.length := List.length_map ..
    refine ifF rfl ⟨_, rfl, p, _, rfl, .inr hp, rfl, _, rfl, ?_⟩
    cases ts with
    | nil => exact ifD rfl (no rfl)
    | cons a r =>
    refine ifN (ne_int (by rw [ll, List.length_cons]; omega)) ?_
    have ha := wts a (List.mem_cons_self ..)
    refine ⟨_, rfl, p, _, 0, _, rfl, rfl, hp, atI_nat (j := 0) rfl, _, _, _, _, isS a.pd, rfl, .ty _, (ha.sm sc.s0).ty, kit_str a.pd, _, rfl, ?_⟩
    cases hS : isS a.pd with
    | false => exact ifT rfl (no (stX_noS fun p w r z => by injection z with _ z; injection z with z; rw [z] at hS; cases hS))
    | true =>
    obtain ⟨wd, rfl⟩ := str_of hS
    obtain ⟨dx, ob⟩ := sc.ob
    have neV : ∀ x : Str, wd ≠ x → V.str wd ≠ V.str x := fun x n e => n (V.str.inj e)
    refine ifF rfl ⟨_, rfl, A.p, dx, _, rfl, ob, scF_no (by decide +kernel) (by decide +kernel) (by decide +kernel) (by decide +kernel), A, H0, rs, hds, ks, m, rfl, sc, fun H1 sc1 k1 => ⟨_, rfl, ?_⟩⟩
    have r0 : Res [] true [] 1 ks m (decide (m + 1 ≤ 25)) ks (m + 1) := Res.one sc.nd
    have hdS : HdS (.nd p (.str wd :: r)) := ⟨_, _, _, rfl⟩
    have eX : smX rs hds D (.nd p (.str wd :: r)) = if wd = "if" ∨ wd = "while" then ifX (exX rs 4) (bdX rs hds D) wd r else plainX rs hds (.nd p (.str wd :: r)) := rfl
    have eN : smN D (.nd p (.str wd :: r)) = if wd = "if" ∨ wd = "while" then ifNs (exN 4) (bdN D) r else plainN (.nd p (.str wd :: r)) := rfl
    have eC : smC D (.nd p (.str wd :: r)) = 1 + (if wd = "if" ∨ wd = "while" then ifC (bdC D) r else 0) := rfl
    by_cases cm : m + 1 ≤ 25
    case neg =>
      rw [decide_eq_false cm] at r0
      refine ifNT cm (q _ _ _ _ sc1 k1 ?_ fun z => nomatch z)
      rw [eC]
      refine ((r0.stop (T := []) (ok2 := smX rs hds D (.nd p (.str wd :: r))) (ms := smN D (.nd p (.str wd :: r))) (d := if wd = "if" ∨ wd = "while" then ifC (bdC D) r else 0) sc.nd).cong sc.nd (fun z hz => nomatch hz) fun z => Iff.rfl).ok (Bool.true_and _)
    rw [decide_eq_true cm] at r0
    refine ifNF cm ?_
    have hp1 := sqT_sm sc1.s0 hp0
    obtain ⟨dx1, ob1⟩ := sc1.ob
    refine ⟨_, rfl, p, _, 0, _, rfl, rfl, hp1, atI_nat (j := 0) rfl, big 2 (by decide), fun t1 n1 => ?_⟩
    have u1 := same_new (o := .tup [.str "if", .str "while"]) n1
    have sc2 := sc1.sm u1
    have k2 : Kp (scS A) H (upd H1 t1 (.tup [.str "if", .str "while"])) := k1.trans (Kp.of_same u1)
    have hp2 := sqT_sm sc2.s0 hp0
    have e2 : upd H1 t1 (.tup [.str "if", .str "while"]) t1 = some (.tup [.str "if", .str "while"]) := upd_same
    generalize upd H1 t1 (.tup [.str "if", .str "while"]) = H2 at sc2 k2 hp2 e2 ⊢
    refine ⟨t1, _, rfl, .inr (.of e2), rfl, rfl, _, rfl, ?_⟩
    have inW : inV (V.str wd) [V.str "if", .str "while"] = decide (wd ∈ (["if", "while"] : List Str)) := in_strs (ws := ["if", "while"])
    show if (if true = true then !inV (V.str wd) [V.str "if", .str "while"] else inV (V.str wd) [V.str "if", .str "while"]) = true then _ else _
    rw [if_pos rfl, inW]
    obtain ⟨dx2, ob2⟩ := sc2.ob
    by_cases cw : wd = "if" ∨ wd = "while"
    case neg =>
      rw [eX, eN, eC, if_neg cw, if_neg cw, if_neg cw] at q
      refine ifNT (fun z => cw (by simpa using z)) ⟨_, rfl, A.p, dx2, _, rfl, ob2, scF_no (by decide +kernel) (by decide +kernel) (by decide +kernel) (by decide +kernel), _, rfl, A, p, wd, r, H0, rs, hds, ks, m + 1, rfl, sc2, wt, lb, fun H3 b3 ks3 sc3 k3 r3 => q _ _ _ _ sc3 (k2.trans k3) ?_ fun _ => hdS⟩
      exact r0.cons sc.nd r3
    rw [eX, eN, eC, if_pos cw, if_pos cw, if_pos cw] at q
    refine ifNF (by simpa using cw) ?_
    show tSeq _ _ _ _ _
    intro p2 np2
    have hget : ∃ n : Nat, valV (mergeK [] kvIf) (.inr wd) = some (.int (n : Int)) ∧ n = 2 + ifn wd := by
      rcases cw with rfl | rfl
      · exact ⟨4, rfl, rfl⟩
      · exact ⟨3, rfl, rfl⟩
    obtain ⟨n, hget, hn⟩ := hget
    have s3 : Same H2 (upd (upd H2 p2 (.dK [])) p2 (.dK (mergeK [] kvIf))) := fun c x e => by
      rw [upd_ne (ne_of_none e np2), upd_ne (ne_of_none e np2)]; exact e
    have hp3 := sqT_sm s3 hp2
    have hdg := DGet.k (H := upd (upd H2 p2 (.dK [])) p2 (.dK (mergeK [] kvIf))) (k := .inr wd) upd_same
    rw [hget] at hdg
    refine ⟨upd_same, kvIf, rfl, by decide, _, rfl, p, _, 0, _, rfl, rfl, hp3, atI_nat (j := 0) rfl, p2, _, rfl, hdg, ?_⟩
    have sc3 := sc2.sm s3
    have k3 : Kp (scS A) H (upd (upd H2 p2 (.dK [])) p2 (.dK (mergeK [] kvIf))) := k2.trans (Kp.of_same s3)
    generalize upd (upd H2 p2 (.dK [])) p2 (.dK (mergeK [] kvIf)) = H3 at sc3 k3 hp3 ⊢
    dsimp only [gName, List.set]
    obtain ⟨dx3, ob3⟩ := sc3.ob
    have no3 : ifX (exX rs 4) (bdX rs hds D) wd r = false → Q (.bl false) H3 := fun e => q _ _ _ _ sc3 k3 ((r0.fail fun z hz => nomatch hz).ok e.symm) fun z => nomatch z
    refine ⟨_, rfl, rfl, _, rfl, ?_⟩
    cases D with
    | zero =>
      refine ifD (by congr 1; omega) (no3 ?_)
      cases r with
      | nil => rfl
      | cons e bs =>
        show (decide (bs.length = ifn wd) && (exX rs 4 e && bs.all fun _ => false)) = false
        cases bs with
        | nil => rw [decide_eq_false (by unfold ifn; split <;> simp), Bool.false_and]
        | cons b bs => rw [List.all_cons, Bool.false_and, Bool.and_false, Bool.and_false]
    | succ D =>
    refine ifN (ne_int (by omega)) ⟨_, rfl, p, _, rfl, .inr hp3, _, rfl, rfl, _, rfl, ?_⟩
    have l1 : ((Tr.str wd :: r).map Tr.v).length = r.length + 1 := by rw [List.length_map, List.length_cons]
    by_cases cl : r.length = 1 + ifn wd
    case neg =>
      refine ifNT (fun z => cl (by have := V.int.inj z; omega)) (no3 ?_)
      cases r with
      | nil => rfl
      | cons e bs =>
        show (decide (bs.length = ifn wd) && _) = false
        rw [decide_eq_false (fun z => cl (by rw [List.length_cons, z]; omega)), Bool.false_and]
    obtain ⟨e, bs, rfl⟩ : ∃ e bs, r = e :: bs := by
      cases r with
      | nil => rw [List.length_nil] at cl; omega
      | cons e bs => exact ⟨e, bs, rfl⟩
    have lbs : bs.length = ifn wd := by rw [List.length_cons] at cl; omega
    have eI : ifX (exX rs 4) (bdX rs hds (D + 1)) wd (e :: bs) = (exX rs 4 e && bs.all (bdX rs hds (D + 1))) := by
      show (decide (bs.length = ifn wd) && _) = _
      rw [decide_eq_true lbs, Bool.true_and]
    have eI2 : ifNs (exN 4) (bdN (D + 1)) (e :: bs) = exN 4 e ++ bs.flatMap (bdN (D + 1)) := rfl
    have eI3 : ifC (bdC (D + 1)) (e :: bs) = (bs.map (bdC (D + 1))).sum := rfl
    rw [eI, eI2, eI3] at q
    have lS : (txs (.nd p (.str wd :: e :: bs))).length = 1 + (txs e).length + (txsL bs).length := by
      rw [txs_nd, txsL, txsL, txs_str]
      simp only [List.length_append, List.length_cons, List.length_nil]
      omega
    have we := wts e (by simp)
    refine ifNF (by congr 1; omega) ⟨_, rfl, A.p, dx3, _, rfl, ob3, scF_no (by decide +kernel) (by decide +kernel) (by decide +kernel) (by decide +kernel), _, rfl, p, _, 1, _, rfl, rfl, hp3, atI_nat (j := 1) rfl, 4, A, e, H0, rs, hds, ks, m + 1, 1, rfl, rfl, sc3, we, by omega, rfl, fun H4 b4 ks4 sc4 k4 r4 => ⟨_, rfl, ?_⟩⟩
    have k4 := k3.trans k4
    have inS : ∀ z ∈ txs e, z ∈ txs (.nd p (.str wd :: e :: bs)) := txs_in (by simp)
    have inS2 : ∀ z ∈ txsL bs, z ∈ txs (.nd p (.str wd :: e :: bs)) := fun z hz => by
      rw [txs_nd, txsL_drop1, txsL_drop1]
      exact List.mem_append_right _ (List.mem_append_right _ hz)
    have lk := r4.len sc.nd
    have r04 := r0.cons sc.nd r4
    cases b4 with
    | false =>
      refine ifT rfl (q _ _ _ _ sc4 k4 ?_ fun z => nomatch z)
      have := r04.stop (T := []) (ok2 := bs.all (bdX rs hds (D + 1))) (ms := bs.flatMap (bdN (D + 1))) (d := (bs.map (bdC (D + 1))).sum) sc.nd
      exact (this.cong sc.nd (fun z hz => inS z (by simpa using hz)) fun z => Iff.rfl).ok (by rw [Bool.true_and])
    | true =>
    have hp4 := sqT_sm sc4.s0 hp0
    refine ifF rfl ⟨_, rfl, 2, rfl, p, _, rfl, hp4, fun z => ?_, fun _ S nS => ?_⟩
    · have := z.1
      rw [show (2 : Int) = ((2 : Nat) : Int) from rfl, HT.sIx_nat] at this
      simp only [List.length_map, List.length_cons] at this
      have h1 : 1 ≤ bs.length := by rw [lbs]; unfold ifn; split <;> omega
      omega
    rw [show (2 : Int) = ((2 : Nat) : Int) from rfl, cutV_from]
    have u5 := same_new (o := .tup (bs.map Tr.v)) nS
    have sc5 := sc4.sm u5
    have k5 : Kp (scS A) H (upd H4 S (.tup (bs.map Tr.v))) := k4.trans (Kp.of_same u5)
    have hS5 : SqT K (upd H4 S (.tup (bs.map Tr.v))) S (bs.map Tr.v) := .of upd_same
    show ∃ _, _
    refine ⟨S, rfl, ⟨_, hS5⟩, fun Dl nD => ?_⟩
    have nD : upd H4 S (.tup (bs.map Tr.v)) Dl = none := nD
    have sD := same_new (o := .lst []) nD
    have nD0 := none_of sc5.s0 nD
    have nDS := sc5.nS nD
    have nDr : A.r ≠ Dl := ne_of_none sc5.rk nD
    have nDH := none_kp k5 nDS nD
    have lys : (bs.map Tr.v).length = bs.length := List.length_map ..
    have lb2 : bs.length ≤ 2 := by rw [lbs]; unfold ifn; split <;> omega
    refine lc_tup (K := K) (a := S) (xs := bs.map Tr.v) (fun j H' => Kp (scS A) (upd H4 S (.tup (bs.map Tr.v))) H' ∧ ∃ (ksj : List Str) (mj : Nat) (bl : List Bool), SX K H0 H' A rs hds ksj mj ∧ bl.length = j ∧ H' Dl = some (.lst (bl.map V.bl)) ∧ Res (txsL (bs.take j)) ((bs.take j).all (bdX rs hds (D + 1))) ((bs.take j).flatMap (bdN (D + 1))) ((bs.take j).map (bdC (D + 1))).sum ks4 (m + 1) (bl.all id) ksj mj) ?_ ?_ ?_ ?_
    · exact ⟨Kp.of_same sD, ks4, m + 1, [], sc5.sm sD, rfl, upd_same, Res.plain sc4.nd⟩
    · rintro j H' _ ⟨k', _⟩
      exact sqT_kp k' hS5
    · rintro j y H6 hy ⟨k6, ksj, mj, bl, sc6, lj, e6, r6⟩
      obtain ⟨t, ht, rfl⟩ := tr_at hy
      have jl : j < bs.length := (List.getElem?_eq_some_iff.mp ht).1
      have lj2 := r6.len sc4.nd
      have lx2 := txsL_take_le ht
      have wtt := wts t (List.mem_cons_of_mem _ (List.mem_cons_of_mem _ (List.mem_of_getElem? ht)))
      obtain ⟨dx6, ob6⟩ := sc6.ob
      refine ⟨rfl, _, rfl, A.p, dx6, _, rfl, ob6, scF_no (by decide +kernel) (by decide +kernel) (by decide +kernel) (by decide +kernel), _, rfl, _, rfl, _, _, rfl, rfl, A, t, H0, rs, hds, ksj, mj, deep + 1, by omega, rfl, sc6, wtt, by omega, by omega, fun H7 b7 ks7 m7 sc7 k7 r7 => ?_⟩
      have e7 := k7 _ _ e6 fun z => absurd z nDS
      refine ⟨_, e7, by rw [List.length_map, sizeLine_eq]; omega, kp_at (k6.trans k7) nD, ks7, m7, bl ++ [b7], sc7.lst e7 nD0 nDr, by rw [List.length_append, lj]; rfl, by rw [upd_same, List.map_append]; rfl, ?_⟩
      have := Res.snoc ht sc4.nd r6 r7
      rw [List.all_append]
      simpa using this
    · rintro H6 ⟨k6, ksj, mj, bl, sc6, lj, e6, r6⟩
      rw [lys, List.take_length] at r6
      refine ⟨Dl, _, rfl, .inl (.of e6), ?_⟩
      refine q _ _ _ _ sc6 (k5.trans k6) ?_ fun _ => hdS
      have := r04.cons sc.nd r6
      exact ((this.cong sc.nd (fun z hz => by
        rcases List.mem_append.mp hz with h | h
        · exact inS z (by simpa using h)
        · exact inS2 z h) fun z => Iff.rfl).ok (by rw [Bool.true_and]))
theorem ok_smX (T : Top K mg) : ∀ D : Nat, FnOk P w K mg base CX0 (2 * D + 12) (He.ma K (He.ga K "Scope") "is_statement") T.fd_Scope_is_statement ["self", "thing", "deep"] (sp_stX K D)
  | 0 => by
    refine ok_stX1 T 0 11 ?_ (by omega)
    refine T.F_Scope_is_body.ok sc_Scope_is_body (fun vs H Q E h => ?_) (fun cdv A outer s H vs Q E hr h => ?_)
    · obtain ⟨A, t, H0, rs, hds, ks, m, deep, z, _⟩ := h
      omega
    · obtain ⟨A, t, H0, rs, hds, ks, m, deep, z, _⟩ := h
      omega
  | D + 1 => ok_stX1 T (D + 1) (2 * D + 13) (ok_bdX1 T D (2 * D + 12) (ok_smX T D) (by omega)) (by omega)
theorem ok_bdX (T : Top K mg) : FnOk P w K mg base CX0 21 (He.ma K (He.ga K "Scope") "is_body") T.fd_Scope_is_body ["self", "thing", "deep"] (sp_bdX K 5) := ok_bdX1 T 4 20 (ok_smX T 4) (by omega)
end

namespace SetD
open PySem PySem.Spec PyProof.Rows
theorem strs_at {us : List Value} {xs : List Str} (h : StrsAre us xs) : ∀ (i : Nat) (v : Value), us[i]? = some v → ∃ t, v = .str (xs.getD i Str.empty) t := by
  induction h with
  | nil => intro i v e; cases e
  | cons n t _ ih =>
    intro i v e
    cases i with
    | zero => cases e; exact ⟨t, rfl⟩
    | succ i => exact ih i v e
theorem strsAre_of : ∀ {ys : List Str} {us : List Value}, Vals (ys.map V.str) us → StrsAre us ys
  | [], _, h => by cases h; exact .nil
  | _ :: ys, _, h => by
    cases h with
    | cons r t =>
      obtain ⟨k, rfl⟩ := r
      exact .cons _ k (strsAre_of t)
theorem un_snoc (ks l : List Str) (x : Str) : un ks (l ++ [x]) = if x ∈ un ks l then un ks l else un ks l ++ [x] := by
  unfold un
  rw [List.foldl_append]
  rfl
theorem un_mem (l : List Str) (x : Str) : x ∈ un [] l ↔ x ∈ l := by
  rw [(un_spec l [] List.nodup_nil).2]
  simp
theorem un_len (l : List Str) : (un [] l).length ≤ l.length := len_le (un_spec l [] List.nodup_nil).1 fun z hz => (un_mem l z).mp hz
theorem un_any (l : List Str) (x : Str) : l.any (· == x) = decide (x ∈ l) := by
  rw [Bool.eq_iff_iff, List.any_eq_true, decide_eq_true_eq]
  constructor
  · rintro ⟨y, hy, e⟩
    rw [← eq_of_beq e]
    exact hy
  · exact fun h => ⟨x, h, beq_self_eq_true _⟩
section
variable {prog : Program} {w : World} {A : Around} {R : Result → Shared → Prop} {I : Addr} {fp wr : List Addr} {G : Array GenState → Array GenState → Prop} {n : Nat} {P : Nat → Value → Prop} {St : Nat → Shared → Prop}
theorem loopD (W : WalksS prog w A.in1 I fp wr G n P St) (S : Addr) (hSf : S ∉ fp) (xs : List Str) (hsz : xs.length = n) (hn1 : n ≤ 60)
    (hval : ∀ i v, P i v → ∃ t, v = .str (xs.getD i Str.empty) t) :
    ∀ (k i : Nat) (s : Shared), n - i = k → i ≤ n → St i s →
      s.heap.SetOf (PySem.strKind prog w) S (fun k' => (xs.take i).any (· == k')) (un [] (xs.take i)).length →
      (∀ s', Moved (S :: wr) G s s' → s'.heap.SetOf (PySem.strKind prog w) S (fun k' => (xs.take n).any (· == k')) (un [] (xs.take n)).length → R (.ok (.ret .none)) s') →
      codeAny (model prog w) A (.builtin "set.update.loop" ⟨[.ref S, .ref I], []⟩) R s := by
  have hSw : S ∉ wr := fun h => hSf (W.sub _ h)
  have hsub : ∀ b ∈ wr, b ∈ S :: wr := fun b hb => List.mem_cons_of_mem _ hb
  intro k
  induction k with
  | zero =>
    intro i s hk hi hst hS hR
    have hin : i = n := by omega
    subst hin
    refine codeAny_builtin PyProof.Rows.F.entry_set_update_loop ?_
    rw [Around.under_plainId PyProof.Rows.F.plain_set_update_loop _]
    show wpAny _ A.in1 (pyNext (.ref I) >>= _) _ _ s
    refine wpAny_bind (W.done s _ _ hst fun s' hm => ?_)
    show wpAny _ A.in1 (ret Value.none) _ _ s'
    exact wpAny_pure (hR s' (hm.mono hsub) (by
      obtain ⟨o, es, ep, t, ho, rest⟩ := hS
      exact ⟨o, es, ep, t, hm.heap S _ hSw ho, rest⟩))
  | succ k ih =>
    intro i s hk hi hst hS hR
    have hlt : i < n := by omega
    refine codeAny_builtin PyProof.Rows.F.entry_set_update_loop ?_
    rw [Around.under_plainId PyProof.Rows.F.plain_set_update_loop _]
    show wpAny _ A.in1 (pyNext (.ref I) >>= _) _ _ s
    refine wpAny_bind (W.item i s _ _ hlt hst fun v s' hP hst' hm => ?_)
    obtain ⟨t, rfl⟩ := hval i v hP
    have hS' : s'.heap.SetOf (PySem.strKind prog w) S (fun k' => (xs.take i).any (· == k')) (un [] (xs.take i)).length := by
      obtain ⟨o, es, ep, tb, ho, rest⟩ := hS
      exact ⟨o, es, ep, tb, hm.heap S _ hSw ho, rest⟩
    show wpAny _ A.in1 (holding [Value.str (xs.getD i Str.empty) t] (setAdd S (.str (xs.getD i Str.empty) t)) >>= _) _ _ s'
    refine wpAny_bind (wpAny_holding ?_)
    unfold setAdd
    refine wpAny_holding ?_
    refine wpAny_bind ((PySem.strKind prog w).pyHash (k := xs.getD i Str.empty) (strKind_is _ _ _ _) ?_)
    refine wpAny_setAddHashed_of (knd := PySem.strKind prog w) (s := { s' with toks := s'.toks + 1 }) (strKind_is _ _ _ _) rfl hS' (by have := un_len (xs.take i); rw [List.length_take] at this; unfold scanBound; omega) fun h' hsb hS2 => ?_
    have hSi : h'.SetOf (PySem.strKind prog w) S (fun k' => (xs.take (i + 1)).any (· == k')) (un [] (xs.take (i + 1))).length := by
      have hlx : i < xs.length := by omega
      have eg : xs.getD i Str.empty = xs[i] := by rw [List.getD_eq_getElem?_getD, List.getElem?_eq_getElem hlx] <;> rfl
      have cnt : (if (xs.take i).any (· == xs.getD i Str.empty) = true then (un [] (xs.take i)).length else (un [] (xs.take i)).length + 1) = (un [] (xs.take (i + 1))).length := by
        rw [List.take_succ, List.getElem?_eq_getElem hlx, eg, un_any]
        show _ = (un [] (xs.take i ++ [xs[i]])).length
        rw [un_snoc]
        by_cases c : xs[i] ∈ xs.take i
        · rw [if_pos (decide_eq_true c), if_pos ((un_mem _ _).mpr c)]
        · rw [if_neg (by rw [decide_eq_false c]; exact Bool.false_ne_true), if_neg (fun z => c ((un_mem _ _).mp z)), List.length_append]
          rfl
      refine SetOf_congr hS2 (fun k' => ?_) cnt
      rw [List.take_succ, List.getElem?_eq_getElem hlx, List.any_append, eg]
      show (_ || decide (k' = xs[i])) = (_ || [xs[i]].any (· == k'))
      rw [List.any_cons, List.any_nil, Bool.or_false]
      congr 1
      by_cases e : k' = xs[i]
      · rw [e, decide_eq_true rfl]
        exact (beq_self_eq_true _).symm
      · rw [decide_eq_false e]
        exact (beq_eq_false_iff_ne.mpr fun q => e q.symm).symm
    refine wpAny_pure ⟨plainId_quiet PyProof.Rows.F.plain_set_update_loop _, ih (i + 1) _ (by omega) hlt (W.frame _ s' _ _ hst' (Nat.le_succ _) fun b hb o e => ?_) hSi fun s'' hm'' hS'' => ?_⟩
    · rw [hsb.2 b (fun h : b = S => hSf (by rw [← h]; exact hb))]; exact e
    · refine hR s'' (Moved.trans W.gtrans ((hm.mono hsub).then_heap (Nat.le_succ _) fun b o hb e => ?_) hm'') hS''
      rw [hsb.2 b (fun h : b = S => hb (by rw [h]; exact List.mem_cons_self))]; exact e
end

section
variable {prog : Program} {w : World} {A : Around} {E : Value → Shared → Prop} {s : Shared}
set_option maxHeartbeats 3200000 in
theorem call_set_tupleD {l : Addr} {items : Array Value} {xs : List Str} {Q : Value → Shared → Prop}
    (hh : A.handled = none) (hl : s.heap.IsTuple l items) (hi : PyProof.Rows.StrsAre items.toList xs) (hn1 : xs.length ≤ 60)
    (h : ∀ (h' : Heap) (tk : Nat), h'.SetOf (PySem.strKind prog w) s.heap.objs.size (fun k' => (xs.take items.size).any (· == k')) (un [] (xs.take items.size)).length →
      (∀ b o, b < s.heap.objs.size → s.heap.get? b = some o → h'.get? b = some o) → Q (.ref s.heap.objs.size) { s with heap := h', toks := tk }) :
    wpAny (model prog w) A (call (.type "set") [.ref l]) Q E s := by
  obtain ⟨c, tl, hmro⟩ := PySem.F.called_set.mro
  have hmade := PySem.F.called_set.made
  have hsub := PySem.F.called_set.sub
  refine wpAny_call (codeAny_of_tree ?_)
  show wpAny _ _ (callAny (.type "set") _) _ _ _
  refine wpAny_pure ⟨Code.quiet_builtin _ (by decide +kernel), codeAny_builtin PySem.F.entry_type_call ?_⟩
  rw [Around.under_plain (weight_type_call_type "set" [.ref l] []) rfl]
  have h1 := PySem.F.called_set.notType
  have h2 := PySem.F.called_set.canCreate
  have hct := PySem.F.typeCall_set_1 (.ref l)
  repeat (any_goals (first | assumption | wp_step))

  refine codeAny_mono (code_set_new_1 (.ref l) (E := E) (Q₁ := fun obj s₁ => ∃ led : Bool, obj = .ref s.heap.objs.size ∧ s₁ = { s with heap := s.heap.push { cls := .type "set", dict := none, data := .set #[] 0 (.fresh 0 0 led) } }) fun led => ⟨led, rfl, rfl⟩) fun r s₁ hr => ?_
  cases r with
  | error e => exact hr
  | ok fl =>
    cases fl with
    | ret obj =>
      obtain ⟨led, rfl, rfl⟩ := hr
      have hS : (s.heap.push { cls := .type "set", dict := none, data := .set #[] 0 (.fresh 0 0 led) }).get? s.heap.objs.size = some { cls := .type "set", dict := none, data := .set #[] 0 (.fresh 0 0 led) } := Heap.get?_push_size _ rfl
      have hT : Shared.TypeIs { s with heap := s.heap.push { cls := .type "set", dict := none, data := .set #[] 0 (.fresh 0 0 led) } } (.ref s.heap.objs.size) "set" := ⟨_, hS, rfl⟩
      have hli := PySem.F.called_set.init.lookup
      have hbi := PySem.F.called_set.init.bind (.ref s.heap.objs.size)
      repeat (any_goals (first | assumption | wp_step))

      refine codeAny_mono (codeAny_call_builtin (R := wants (fun r s₂ => r = .none ∧ ∃ h' tk, s₂ = { s with heap := h', toks := tk } ∧
          h'.SetOf (PySem.strKind prog w) s.heap.objs.size (fun k' => (xs.take items.size).any (· == k')) (un [] (xs.take items.size)).length ∧
          (∀ b o, b < s.heap.objs.size → s.heap.get? b = some o → h'.get? b = some o)) E) PySem.F.called_set.init.plain PySem.F.entry_set_init (check_set_init_1 hT ?_)) fun r₂ s₂ hr₂ => ?_
      · obtain ⟨ol, hol, hcl, nl, hdl⟩ := hl
        obtain ⟨ocls, odict, odata, oslots⟩ := ol
        simp only at hcl hdl
        subst hcl; subst hdl
        have hol' : (s.heap.push { cls := .type "set", dict := none, data := .set #[] 0 (.fresh 0 0 led) }).get? l = some { cls := .type "tuple", dict := odict, data := .seq items nl, slots := oslots } := Heap.get?_push_of_some _ hol
        have hsls := PySem.F.sub_tuple_set
        have hslf := PySem.F.sub_tuple_frozenset
        have hne : (Value.type "tuple" == Value.type "dict") = false := by decide
        have hl1 : (s.heap.push { cls := .type "set", dict := none, data := .set #[] 0 (.fresh 0 0 led) }).IsTuple l items := ⟨_, hol', rfl, nl, rfl⟩
        unfold Builtin.«set.__init__» noKeywords Builtin.Frozenset.updateFrom
        generalize hPI : pyIter = PI
        wp_walk
        subst hPI

        refine wpAny_pyIter_tuple hl1 ?_
        refine wpAny_bind (wpAny_runValue ?_)
        have hlS : l < s.heap.objs.size := Heap.lt_size hol
        have hh3 : A.in1.in1.in1.handled = none := by simp [hh]
        have hneI : l ≠ (s.heap.push { cls := .type "set", dict := none, data := .set #[] 0 (.fresh 0 0 led) }).objs.size := by
          rw [Heap.size_push]; exact Nat.ne_of_lt (Nat.lt_succ_of_lt hlS)
        have hSf : s.heap.objs.size ∉ [(s.heap.push { cls := .type "set", dict := none, data := .set #[] 0 (.fresh 0 0 led) }).objs.size, l] := by
          rw [Heap.size_push]; simp only [List.mem_cons, List.mem_singleton, List.not_mem_nil, or_false, not_or]
          exact ⟨Nat.ne_of_lt (Nat.lt_succ_self _), Nat.ne_of_gt hlS⟩
        have hsz : xs.length = items.size := by rw [← _root_.PyProof.Rows.StrsAre.len_eq hi, Array.length_toList]
        have hval : ∀ (i : Nat) (v : Value), items[i]? = some v → ∃ t, v = .str (xs.getD i Str.empty) t := fun i v hv => strs_at hi i v (by rw [Array.getElem?_toList]; exact hv)
        refine loopD ((Walks.tuple hh3 _ l hneI items).toS) s.heap.objs.size
          hSf xs hsz (by rw [← hsz]; exact hn1) hval (items.size - 0) 0 _ (by omega) (Nat.zero_le _)
          ⟨⟨_, Heap.get?_push_size _ rfl, rfl, rfl⟩, (hl1.push _)⟩ ?hS0 ?hR
        case hS0 =>
          have hget : ((s.heap.push { cls := .type "set", dict := none, data := .set #[] 0 (.fresh 0 0 led) }).push { cls := .type "tuple_iterator", data := .fields #[.ref l, .int 0 0] }).get? s.heap.objs.size
              = some { cls := .type "set", dict := none, data := .set #[] 0 (.fresh 0 0 led) } := Heap.get?_push_of_some _ hS
          exact PyProof.Rows.SetOf_congr ((PyProof.Rows.setObjOf_fresh (knd := PySem.strKind prog w) led).setOf hget (by unfold scanBound; omega)) (fun _ => rfl) rfl
        case hR =>
          intro s' hm hS'
          obtain ⟨h', g', d', tk', os'⟩ := s'
          have eg : g' = s.gens := hm.gens
          have ed : d' = s.drawn := hm.drawn
          have eo : os' = s.os := hm.os
          subst eg; subst ed; subst eo
          show wpAny _ _ _ _ _ _
          refine wpAny_pure ?_
          show wpAny _ _ (ret Value.none) _ _ _
          refine wpAny_pure ⟨rfl, h', tk', rfl, hS', fun b o hb e => ?_⟩
          have hb1 : b ≠ s.heap.objs.size := Nat.ne_of_lt hb
          have hb2 : b ≠ (s.heap.push { cls := .type "set", dict := none, data := .set #[] 0 (.fresh 0 0 led) }).objs.size := by
            rw [Heap.size_push]; exact Nat.ne_of_lt (Nat.lt_succ_of_lt hb)
          exact hm.heap b o (by simp only [List.mem_cons, List.mem_singleton, List.not_mem_nil, or_false, not_or]; exact ⟨hb1, hb2⟩) (Heap.get?_push_of_some _ (Heap.get?_push_of_some _ e))

      · cases r₂ with
        | error e => exact hr₂
        | ok fl₂ =>
          cases fl₂ with
          | ret r =>
            obtain ⟨rfl, h', tk, rfl, hS', hk'⟩ := hr₂
            repeat (any_goals (first | assumption | wp_step))
            exact h _ _ hS' hk'
          | _ => exact hr₂.elim
    | _ => exact hr.elim

end

section
variable {X : Cx}
/-- len(set(xs)), xs a tuple of unlike texts -/
def tLenSetD (K : PySem.W.Frag) (ta : TE) : TE := fun σ H Q => ta σ H fun x H1 => ∃ l, ∃ xs : List Str, x = .ref l ∧ SqT K H1 l (xs.map V.str) ∧ xs.length ≤ 60 ∧ Q (.int (un [] xs).length) H1
theorem pe_lenSetD {a : Expr} {ta : TE} {p p2 q pos : Pos} (hc : X.calm = true) (hg : Gl X "len") (hm : X.mg "len" = none) (hg2 : Gl X "set") (hm2 : X.mg "set" = none) (ha : PE X a ta)
    (na : starEach [a] X.env = (false, eval a X.env) :: starEach [] X.env := by rfl) : PE X (.Call (.Name "len" p) [.Call (.Name "set" p2) [a] [] q] [] pos) (tLenSetD X.K ta) := by
  refine ⟨fun pins s σ H Q I h => ?_⟩
  refine Call_ (ld_blt I hg hm boot_len ?_)
  refine PyProof.Rows.callWith_builtin1 (PyProof.Rows.args_cons ?_ rfl) rfl rfl
  refine Call_ (ld_blt I hg2 hm2 boot_set ?_)
  refine PyProof.Rows.callWith_type1 (PyProof.Rows.args_cons (thn (ha.run pins s σ H _ I h) fun v s1 ⟨x, H1, I1, r1, q1⟩ => PyProof.Rows.args_nil ?_) na) na rfl
  obtain ⟨l, xs, rfl, hq, h1, q1⟩ := q1
  cases r1
  obtain ⟨its, r, pl, hz⟩ := I1.tuple hq
  refine call_set_tupleD (I1.ok.hd hc) pl (by simpa using strsAre_of r) h1 fun h' tk hS hk => ?_
  refine PyProof.Rows.args_nil ?_
  have hl : its.toArray.size = xs.length := by rw [List.size_toArray, ← r.length, List.length_map]
  rw [hl, List.take_length] at hS
  have hle := un_len xs
  obtain ⟨o, es, ep, t, ho, hex, hd, _, _, _, hf, hn⟩ := hS
  have I2 : Inv X pins σ H1 { s1 with heap := h', toks := tk } := I1.kept fun b o e => hk b o (Heap.lt_size e) e
  exact call_len_set ho hex hd hf (by rw [hn] <;> omega) ⟨.int (un [] xs).length, H1, I2.tok _, ⟨_, by rw [hn]⟩, q1⟩
end
end SetD

/-! programs: params, rows, helpers -/
def trS : Tr → Str
  | .str z => z
  | _ => ""
def parX : Tr → Bool
  | .nd _ l => decide (l.length ≤ 4) && (l.all nmX && decide ((l.map trS).Nodup))
  | _ => false
def parL : Tr → List Str
  | .nd _ l => l.map trS
  | _ => []
def rwS : Tr → Str
  | .nd _ (a :: _) => trS a
  | _ => ""
def rwsL : Tr → List Str
  | .nd _ l => l.map rwS
  | _ => []
def rowsGo : List Str → List Tr → Bool
  | _, [] => true
  | ns, .nd _ [a, s] :: r => (nmX a && (numX 1 8 s && !decide (trS a ∈ ns))) && rowsGo (ns ++ [trS a]) r
  | _, _ :: _ => false
def rowsX (ps : List Str) : Tr → Bool
  | .nd _ l => decide (l.length ≤ 3) && rowsGo ps l
  | _ => false
def bdV (rs : List Str) (hds : List (Str × Nat)) (ks : List Str) (b : Tr) : Bool := bdX rs hds 5 b && (decide ((un ks (bdN 5 b)).length ≤ 12) && decide (bdC 5 b ≤ 25))
def hpV (hds : List (Str × Nat)) (a ps b : Tr) : Bool := (nmX a && (hds.lookup (trS a)).isNone) && (parX ps && bdV [] hds (parL ps) b)
def hsGo : List (Str × Nat) → List Tr → Option (List (Str × Nat))
  | hds, [] => some hds
  | hds, .nd _ [a, ps, b] :: r => if hpV hds a ps b = true then hsGo (hds ++ [(trS a, (parL ps).length)]) r else none
  | _, _ :: _ => none
def hsX : Tr → Option (List (Str × Nat))
  | .nd _ l => if l.length ≤ 4 then hsGo [] l else none
  | _ => none
def progO (ps rw bd : Tr) : Option (List (Str × Nat)) → Bool
  | none => false
  | some hds => parX ps && (rowsX (parL ps) rw && bdV (rwsL rw) hds (parL ps) bd)
def progX : Tr → Bool
  | .nd _ [hs, ps, rw, bd] => progO ps rw bd (hsX hs)
  | _ => false
theorem Res.val {S ns ks ks' : List Str} {ok b : Bool} {c m' : Nat} (h : Res S ok ns c ks 0 b ks' m') (hk : ks.length ≤ 12) : b = (ok && (decide ((un ks ns).length ≤ 12) && decide (c ≤ 25))) := by
  have := h.iff hk (by omega)
  rw [Nat.zero_add] at this
  rw [Bool.eq_iff_iff, this, Bool.and_eq_true, Bool.and_eq_true, decide_eq_true_eq, decide_eq_true_eq]
theorem un_le (l : List Str) (ks : List Str) (nd : ks.Nodup) : (un ks l).length ≤ ks.length + l.length := by
  have := len_le (b := ks ++ l) (un_spec l ks nd).1 fun z hz => List.mem_append.mpr (((un_spec l ks nd).2 z).mp hz)
  rwa [List.length_append] at this
theorem un_eq : ∀ (l ks : List Str), ks.Nodup → ((un ks l).length = ks.length + l.length ↔ l.Nodup ∧ ∀ x ∈ l, x ∉ ks)
  | [], ks, _ => ⟨fun _ => ⟨List.nodup_nil, fun _ h => nomatch h⟩, fun _ => rfl⟩
  | a :: r, ks, nd => by
    have e : un ks (a :: r) = un (if a ∈ ks then ks else ks ++ [a]) r := rfl
    rw [e, List.length_cons]
    by_cases c : a ∈ ks
    · rw [if_pos c]
      have := un_le r ks nd
      exact ⟨fun h => by omega, fun h => absurd c (h.2 a (List.mem_cons_self ..))⟩
    · rw [if_neg c]
      have nd2 : (ks ++ [a]).Nodup := List.nodup_append.mpr ⟨nd, by simp, fun x hx b hb e => c (by rw [List.mem_singleton.mp hb] at e; exact e ▸ hx)⟩
      have ih := un_eq r (ks ++ [a]) nd2
      rw [List.length_append, List.length_singleton] at ih
      rw [show ks.length + (r.length + 1) = ks.length + 1 + r.length by omega, ih, List.nodup_cons]
      constructor
      · rintro ⟨h1, h2⟩
        refine ⟨⟨fun h => h2 a h (by simp), h1⟩, fun x hx hk => ?_⟩
        rcases List.mem_cons.mp hx with rfl | hx
        · exact c hk
        · exact h2 x hx (List.mem_append_left _ hk)
      · rintro ⟨⟨h1, h2⟩, h3⟩
        refine ⟨h2, fun x hx hk => ?_⟩
        rcases List.mem_append.mp hk with hk | hk
        · exact h3 x (List.mem_cons_of_mem _ hx) hk
        · rw [List.mem_singleton.mp hk] at hx
          exact h1 hx
theorem un_nodup {l : List Str} : (un [] l).length = l.length ↔ l.Nodup := by
  have := un_eq l [] List.nodup_nil
  rw [List.length_nil, Nat.zero_add] at this
  rw [this]
  exact ⟨fun h => h.1, fun h => ⟨h, fun _ _ z => nomatch z⟩⟩
theorem nmX_str {t : Tr} (h : nmX t = true) : t = .str (trS t) := by
  cases t <;> first | rfl | cases h
theorem names_v {l : List Tr} (h : l.all nmX = true) : l.map Tr.v = (l.map trS).map V.str := by
  rw [List.map_map]
  refine List.map_congr_left fun t ht => ?_
  rw [nmX_str (List.all_eq_true.mp h t ht)]
  rfl
theorem parX_inv {t : Tr} (h : parX t = true) : ∃ p l, t = .nd p l ∧ l.length ≤ 4 ∧ l.map Tr.v = (parL t).map V.str ∧ (parL t).Nodup ∧ (parL t).length = l.length := by
  cases t with
  | nd p l =>
    have h : (decide (l.length ≤ 4) && (l.all nmX && decide ((l.map trS).Nodup))) = true := h
    rw [Bool.and_eq_true, Bool.and_eq_true, decide_eq_true_eq, decide_eq_true_eq] at h
    exact ⟨p, l, rfl, h.1, names_v h.2.1, h.2.2, List.length_map ..⟩
  | _ => cases h
theorem row_inv : ∀ {l : List Tr} {ns : List Str}, rowsGo ns l = true → ∀ t ∈ l, ∃ p a s, t = .nd p [a, s] ∧ a = .str (trS a)
  | [], _, _ => fun _ h => nomatch h
  | t :: r, ns, h => by
    match t, h with
    | .nd p [a, s], h =>
      have h : ((nmX a && (numX 1 8 s && !decide (trS a ∈ ns))) && rowsGo (ns ++ [trS a]) r) = true := h
      rw [Bool.and_eq_true, Bool.and_eq_true] at h
      intro u hu
      rcases List.mem_cons.mp hu with rfl | hu
      · exact ⟨p, a, s, rfl, nmX_str h.1.1⟩
      · exact row_inv h.2 u hu
def hdKv (hds : List (Str × Nat)) : List (Key × V) := hds.map fun h => (.inr h.1, .int (h.2 : Nat))
theorem hdKv_get (x : Str) : ∀ hds : List (Str × Nat), valV (hdKv hds) (.inr x) = (hds.lookup x).map fun n => V.int (n : Nat)
  | [] => rfl
  | (y, n) :: r => by
    have ih := hdKv_get x r
    unfold valV at ih ⊢
    unfold hdKv at ih ⊢
    rw [List.map_cons, List.find?_cons, List.lookup_cons]
    by_cases c : y = x
    · rw [decide_eq_true (show (Sum.inr y : Key) = .inr x by rw [c]), show (x == y) = true by rw [c]; exact beq_self_eq_true _]
      rfl
    · rw [decide_eq_false (fun z => c (by injection z)), show (x == y) = false from beq_eq_false_iff_ne.mpr fun z => c z.symm]
      exact ih
theorem hdKv_put {hds : List (Str × Nat)} {x : Str} {n : Nat} (h : hds.lookup x = none) : putK (hdKv hds) (.inr x) (.int (n : Nat)) = hdKv (hds ++ [(x, n)]) := by
  unfold putK
  have : ((hdKv hds).any fun kv => decide (kv.1 = (.inr x : Key))) = false := by
    unfold hdKv
    rw [List.any_map]
    refine List.any_eq_false.mpr fun y hy e => ?_
    have := of_decide_eq_true (p := (Sum.inr y.1 : Key) = Sum.inr x) e
    injection this with this
    have h2 := List.lookup_eq_none_iff.mp h y hy
    rw [this] at h2
    simp at h2
  rw [this]
  show hdKv hds ++ [_] = _
  unfold hdKv
  rw [List.map_append]
  rfl
section
variable {P : Program} {w : World} {K : PySem.W.Frag} {mg : Str → Option Value} {base : Heap}
theorem isn_of {H : Hp} {t : Tr} {Q : VK} {E : XK} (wt : Wt K H t) (q : ∀ H', Same H H' → Q (.bl (nmX t)) H') : sp_isn K [t.v] H Q E := by
  refine ⟨t.v, rfl, ?_⟩
  cases hS : isS t.pd with
  | true =>
    obtain ⟨z, rfl⟩ := str_of hS
    exact .inl ⟨z, rfl, wt.str_inv, q⟩
  | false =>
    have e : nmX t = false := by cases t <;> first | rfl | cases hS
    rw [e] at q
    exact .inr ⟨noStr_of wt hS, q _ (Same.refl _)⟩
def sp_parX (K : PySem.W.Frag) : Sp := fun vs H Q _ => ∃ t : Tr, vs = [t.v] ∧ Wt K H t ∧ ∀ H', Same H H' → Q (.bl (parX t)) H'
theorem ok_parX (T : Top K mg) : FnOk P w K mg base CX0 2 (He.ga K "are_params") T.fd_are_params ["thing"] (sp_parX K) := by
  have G_is_name := ok_is_name (P := P) (w := w) (base := base) T
  refine T.F_are_params.ok sc_are_params (fun vs H Q E h => ?_) (fun cdv A outer s H vs Q E hr h => ?_)
  · obtain ⟨t, rfl, _⟩ := h
    rfl
  · obtain ⟨t, rfl, wt, q⟩ := h
    refine ⟨_, PSs.nox (pss_cons (ps_if (PW.pt (pw_or (pt_not (pt_val (pe_callB call_isi (by rfl) T.m_isinstance (by decide +kernel) (pa_cons (pv 0) (pa_cons (pe_bltn (v := .ty "tuple") (by rfl) T.m_tuple (by decide +kernel) rfl) pa_nil))))) (pw_or (pt_cmpR op_gt (pe_callB call_len_seq (by rfl) T.m_len (by decide +kernel) (pa_cons (pv 0) pa_nil)) (pe_glob (v := .int 4) (by rfl) T.c_MOST_PARAMS ⟨_, rfl⟩) (nomark _)) (pw_or1 (pt_not (pt_val (pe_callB (cr_all (by rfl)) (by rfl) T.m_all (by decide +kernel) (pa_cons (pe_lc (own := [("one", 1)]) (by rfl) sc_are_params.nd (pi_tup (pv 0)) (blkOk_by (own := [("one", 1)]) (N := N_are_params) (sc := defScope s_are_params) (by decide +kernel)) (fun _ _ _ _ _ => (pg_name (i := 1) sc_are_params.nd rfl (Or.inl rfl))) (fun _ _ _ _ _ => pts_nil) (fun _ _ _ _ _ => (pe_call G_is_name (hr.mono (by omega)) (by rfl) T.g_is_name T.F_is_name.kp T.b_is_name .nil pass0 (pa_cons (pv 1) pa_nil)))) pa_nil)))))))) (pss_one (ps_ret pe_bl)) pss_nil)
        (pss_one (ps_ret (pe_cmpR op_eq (SetD.pe_lenSetD (by rfl) (by rfl) T.m_len (by rfl) T.m_set (pv 0)) (pe_callB call_len_seq (by rfl) T.m_len (by decide +kernel) (pa_cons (pv 0) pa_nil)) (nomark _))))), ?_⟩
    refine ⟨_, rfl, _, _, _, _, isT t.pd, rfl, .ty _, wt.ty, kit_tup t.pd, _, rfl, ?_⟩
    cases hT : isT t.pd with
    | false =>
      have e : parX t = false := by cases t <;> first | rfl | cases hT
      rw [e] at q
      exact ifT rfl (q _ (Same.refl _))
    | true =>
    obtain ⟨p, l, rfl⟩ := tup_of hT
    obtain ⟨hp, lts, wts⟩ := wt.nd_inv
    have ll : (l.map Tr.v).length = l.length := List.length_map ..
    have eX : parX (.nd p l) = (decide (l.length ≤ 4) && (l.all nmX && decide ((l.map trS).Nodup))) := rfl
    rw [eX] at q
    refine ifF rfl ⟨_, rfl, p, _, rfl, .inr hp, _, _, rfl, rfl, _, rfl, ?_⟩
    by_cases c : l.length ≤ 4
    case neg =>
      rw [decide_eq_false c, Bool.false_and] at q
      exact ifD (by omega) (q _ (Same.refl _))
    rw [decide_eq_true c, Bool.true_and] at q
    refine ifN (by omega) ⟨_, rfl, p, rfl, ⟨_, hp⟩, fun D nD => ?_⟩
    have s1 := same_new (o := .lst []) nD
    refine lc_tup (K := K) (a := p) (xs := l.map Tr.v) (fun j H' => Same H H' ∧ ∃ bs : List Bool, bs.length = j ∧ H' D = some (.lst (bs.map V.bl)) ∧ bs.all id = (l.take j).all nmX) ?_ ?_ ?_ ?_
    · exact ⟨s1, [], rfl, upd_same, rfl⟩
    · intro j H' _ k
      exact sqT_sm k.1 hp
    · rintro j y H2 hy ⟨k2, bs, lj, e2, ea⟩
      obtain ⟨t, ht, rfl⟩ := tr_at hy
      have jl : j < l.length := (List.getElem?_eq_some_iff.mp ht).1
      refine ⟨rfl, _, rfl, ?_⟩
      dsimp only [tNil]
      refine isn_of ((wts t (List.mem_of_getElem? ht)).sm k2) fun H3 s3 => ?_
      have e3 := s3 _ _ e2
      refine ⟨_, e3, by rw [List.length_map, sizeLine_eq]; omega, ?_, bs ++ [nmX t], by rw [List.length_append, lj]; rfl, by rw [upd_same, List.map_append]; rfl, ?_⟩
      · exact fun c x e => by rw [upd_ne (ne_of_none e nD)]; exact (k2.trans s3) c x e
      · rw [take_one ht, List.all_append, List.all_append, ea]
        simp
    · rintro H2 ⟨k2, bs, lj, e2, ea⟩
      rw [ll, List.take_length] at ea
      refine ⟨D, _, rfl, .inl (.inl e2), ?_⟩
      rw [ea]
      cases hn : l.all nmX with
      | false =>
        rw [hn, Bool.false_and] at q
        exact ⟨_, rfl, ifT rfl (q _ k2)⟩
      | true =>
        rw [hn, Bool.true_and] at q
        have hp2 := sqT_sm k2 hp
        have hp3 := hp2
        rw [names_v hn] at hp3
        refine ⟨_, rfl, ifF rfl ⟨_, rfl, p, l.map trS, rfl, hp3, by rw [List.length_map]; omega, _, rfl, p, _, rfl, .inr hp2, rfl, ?_⟩⟩
        show Q (.bl (decide (V.int ((un [] (l.map trS)).length : Nat) = V.int ((l.map Tr.v).length : Nat)))) H2
        have e : decide (V.int ((un [] (l.map trS)).length : Nat) = V.int ((l.map Tr.v).length : Nat)) = decide ((l.map trS).Nodup) := by
          refine decide_eq_decide.mpr ?_
          rw [← un_nodup, List.length_map, List.length_map]
          exact ⟨fun z => by have := V.int.inj z; omega, fun z => by rw [z]⟩
        rw [e]
        exact q _ k2
def sp_sizeX (K : PySem.W.Frag) : Sp := fun vs H Q _ => ∃ t : Tr, vs = [t.v] ∧ Wt K H t ∧ Q (.bl (numX 1 8 t)) H
theorem numX_18 {a : Tr} : numX 1 8 a = (numX (-2147483648) 2147483647 a && numX 1 8 a) := by
  cases a with
  | int i =>
    show (decide (1 ≤ i) && decide (i ≤ 8)) = ((decide (-2147483648 ≤ i) && decide (i ≤ 2147483647)) && (decide (1 ≤ i) && decide (i ≤ 8)))
    by_cases h0 : 1 ≤ i
    · by_cases h1 : i ≤ 8
      · rw [decide_eq_true h0, decide_eq_true h1, decide_eq_true (show -2147483648 ≤ i by omega), decide_eq_true (show i ≤ 2147483647 by omega)]
        rfl
      · rw [decide_eq_false h1, Bool.and_false, Bool.and_false]
    · rw [decide_eq_false h0, Bool.false_and, Bool.and_false]
  | _ => rfl
theorem ok_sizeX (T : Top K mg) : FnOk P w K mg base CX0 2 (He.ga K "is_size") T.fd_is_size ["thing"] (sp_sizeX K) := by
  have G_is_number := ok_is_numberX (P := P) (w := w) (base := base) T
  refine T.F_is_size.ok sc_is_size (fun vs H Q E h => ?_) (fun cdv A outer s H vs Q E hr h => ?_)
  · obtain ⟨t, rfl, _⟩ := h
    rfl
  · obtain ⟨t, rfl, wt, q⟩ := h
    refine ⟨_, PSs.nox (pss_one (ps_ret (pe_and (pe_call G_is_number (hr.mono (by omega)) (by rfl) T.g_is_number T.F_is_number.kp T.b_is_number .nil pass0 (pa_cons (pv 0) pa_nil)) (pe_one (pe_chain op_le op_le pe_int (pv 0) (pe_glob (v := .int 8) (by rfl) T.c_MOST_SIZE ⟨_, rfl⟩)))))), ?_⟩
    refine ⟨_, rfl, t, rfl, wt, _, rfl, ?_⟩
    cases hn : numX (-2147483648) 2147483647 t with
    | false =>
      rw [numX_18, hn, Bool.false_and] at q
      exact ifF rfl q
    | true =>
      cases t with
      | int i =>
        have e : numX 1 8 (.int i) = (decide (1 ≤ i) && decide (i ≤ 8)) := rfl
        rw [e] at q
        refine ifT rfl ⟨_, rfl, _, _, rfl, rfl, _, rfl, ?_⟩
        by_cases h0 : 1 ≤ i
        · rw [decide_eq_true h0, Bool.true_and] at q
          exact ifD h0 ⟨_, _, rfl, rfl, q⟩
        · rw [decide_eq_false h0, Bool.false_and] at q
          exact ifN h0 q
      | _ => cases hn
def sp_rowsX (K : PySem.W.Frag) : Sp := fun vs H Q _ => ∃ (t : Tr) (pp : Addr) (ps : List Str), vs = [t.v, .ref pp] ∧ Wt K H t ∧ SqT K H pp (ps.map V.str) ∧ ps.length ≤ 4 ∧ ∀ H', Same H H' → Q (.bl (rowsX ps t)) H'
theorem ok_rowsX (T : Top K mg) : FnOk P w K mg base CX0 3 (He.ga K "are_rows") T.fd_are_rows ["thing", "params"] (sp_rowsX K) := by
  have G_is_name := ok_is_name (P := P) (w := w) (base := base) T
  have G_is_size := ok_sizeX (P := P) (w := w) (base := base) T
  refine T.F_are_rows.ok sc_are_rows (fun vs H Q E h => ?_) (fun cdv A outer s H vs Q E hr h => ?_)
  · obtain ⟨t, pp, ps, rfl, _⟩ := h
    rfl
  · obtain ⟨t, pp, ps, rfl, wt, ht, pl, q⟩ := h
    refine ⟨_, PSs.nox (pss_cons (ps_if (PW.pt (pw_or (pt_not (pt_val (pe_callB call_isi (by rfl) T.m_isinstance (by decide +kernel) (pa_cons (pv 0) (pa_cons (pe_bltn (v := .ty "tuple") (by rfl) T.m_tuple (by decide +kernel) rfl) pa_nil))))) (pw_or1 (pt_cmpR op_gt (pe_callB call_len_seq (by rfl) T.m_len (by decide +kernel) (pa_cons (pv 0) pa_nil)) (pe_glob (v := .int 3) (by rfl) T.c_MOST_ROWS ⟨_, rfl⟩) (nomark _))))) (pss_one (ps_ret pe_bl)) pss_nil)
        (pss_cons (ps_set (i := 2) sc_are_rows.nd rfl (Or.inl rfl) (pe_callTy call_list_of (by rfl) T.m_list (by decide +kernel) (pa_cons (pv 1) pa_nil)))
        (pss_cons (ps_for PassesOwn.never (by rfl) (pi_tup (pv 0)) (pg_name (i := 3) sc_are_rows.nd rfl (Or.inl rfl)) (pss_cons (ps_if (PW.pt (pw_or (pt_not (pt_val (pe_callB call_isi (by rfl) T.m_isinstance (by decide +kernel) (pa_cons (pv 3) (pa_cons (pe_bltn (v := .ty "tuple") (by rfl) T.m_tuple (by decide +kernel) rfl) pa_nil))))) (pw_or (pt_cmpR op_ne (pe_callB call_len_seq (by rfl) T.m_len (by decide +kernel) (pa_cons (pv 3) pa_nil)) pe_int (nomark _)) (pw_or (pt_not (pt_val (pe_call G_is_name (hr.mono (by omega)) (by rfl) T.g_is_name T.F_is_name.kp T.b_is_name .nil pass0 (pa_cons (pe_ix ix_tup (pv 3) pe_int (fun _ _ => rfl)) pa_nil)))) (pw_or1 (pt_not (pt_val (pe_call G_is_size (hr.mono (by omega)) (by rfl) T.g_is_size T.F_is_size.kp T.b_is_size .nil pass0 (pa_cons (pe_ix ix_tup (pv 3) pe_int (fun _ _ => rfl)) pa_nil))))))))) (pss_one (ps_ret pe_bl)) pss_nil)
        (pss_cons (ps_if (pt_cmpR op_in_seq (pe_ix ix_tup (pv 3) pe_int (fun _ _ => rfl)) (pv 2) (by rfl)) (pss_one (ps_ret pe_bl)) pss_nil)
        (pss_one (ps_expr (pe_bm PySem.F.plainAttrs_list PySem.F.slot_list_append PySem.F.type_list_append mt_append (pv 2) (pa_cons (pe_ix ix_tup (pv 3) pe_int (fun _ _ => rfl)) pa_nil)))))))
        (pss_one (ps_ret pe_bl))))), ?_⟩
    refine ⟨_, rfl, _, _, _, _, isT t.pd, rfl, .ty _, wt.ty, kit_tup t.pd, _, rfl, ?_⟩
    cases hT : isT t.pd with
    | false =>
      have e : rowsX ps t = false := by cases t <;> first | rfl | cases hT
      rw [e] at q
      exact ifT rfl (q _ (Same.refl _))
    | true =>
    obtain ⟨p, l, rfl⟩ := tup_of hT
    obtain ⟨hp, lts, wts⟩ := wt.nd_inv
    have ll : (l.map Tr.v).length = l.length := List.length_map ..
    have eX : rowsX ps (.nd p l) = (decide (l.length ≤ 3) && rowsGo ps l) := rfl
    rw [eX] at q
    refine ifF rfl ⟨_, rfl, p, _, rfl, .inr hp, _, _, rfl, rfl, _, rfl, ?_⟩
    by_cases c : l.length ≤ 3
    case neg =>
      rw [decide_eq_false c, Bool.false_and] at q
      exact ifD (by omega) (q _ (Same.refl _))
    rw [decide_eq_true c, Bool.true_and] at q
    refine ifN (by omega) ⟨_, rfl, pp, _, rfl, .inr ht, fun L nL => ?_⟩
    have s1 := same_new (o := .lst (ps.map V.str)) nL
    refine ⟨_, rfl, p, rfl, ⟨_, sqT_sm s1 hp⟩, for_tup (K := K) (xs := l.map Tr.v) (fun i σ' H' => Same H H' ∧ H' L = some (.lst ((ps ++ (l.take i).map rwS).map V.str)) ∧ rowsGo ps l = rowsGo (ps ++ (l.take i).map rwS) (l.drop i) ∧ ∃ x3, σ' = [some (.ref p), some (.ref pp), some (.ref L), x3]) ?_ ?_ ?_ ?_⟩
    · exact ⟨s1, by rw [upd_same]; simp, by simp, none, rfl⟩
    · rintro i σ' H' _ ⟨s', _⟩
      exact sqT_sm s' hp
    · rintro i y σ' H2 hy ⟨s2, e2, eg, x3, rfl⟩
      obtain ⟨t, hti, rfl⟩ := tr_at hy
      have il := (List.getElem?_eq_some_iff.mp hti).1
      have ed : l.drop i = t :: l.drop (i + 1) := by
        rw [List.drop_eq_getElem_cons il, (List.getElem?_eq_some_iff.mp hti).2]
      rw [ed] at eg
      have wtt := (wts t (List.mem_of_getElem? hti)).sm s2
      dsimp only [gName, List.set]
      refine ⟨_, rfl, _, _, _, _, isT t.pd, rfl, .ty _, wtt.ty, kit_tup t.pd, _, rfl, ?_⟩
      cases hT2 : isT t.pd with
      | false =>
        have e : rowsGo (ps ++ (l.take i).map rwS) (t :: l.drop (i + 1)) = false := by cases t <;> first | rfl | cases hT2
        rw [eg, e] at q
        exact ifT rfl (q _ s2)
      | true =>
      obtain ⟨py, ts, rfl⟩ := tup_of hT2
      obtain ⟨hw2, _, wt2⟩ := wtt.nd_inv
      refine ifF rfl ⟨_, rfl, py, _, rfl, .inr hw2, rfl, _, rfl, ?_⟩
      have l2e : (ts.map Tr.v).length = ts.length := List.length_map ..
      by_cases l2 : ts.length = 2
      case neg =>
        have e : rowsGo (ps ++ (l.take i).map rwS) (.nd py ts :: l.drop (i + 1)) = false := by
          match ts, l2 with
          | [], _ => rfl
          | [a], _ => rfl
          | [a, b], h => exact absurd rfl h
          | a :: b :: c :: r, _ => rfl
        rw [eg, e] at q
        exact ifNT (ne_int (by omega)) (q _ s2)
      obtain ⟨a, z, rfl⟩ := len_2 l2
      have e : rowsGo (ps ++ (l.take i).map rwS) (.nd py [a, z] :: l.drop (i + 1)) = ((nmX a && (numX 1 8 z && !decide (trS a ∈ ps ++ (l.take i).map rwS))) && rowsGo (ps ++ (l.take i).map rwS ++ [trS a]) (l.drop (i + 1))) := rfl
      rw [e] at eg
      rw [eg] at q
      refine ifNF rfl ⟨_, rfl, py, _, 0, _, rfl, rfl, hw2, atI_nat (j := 0) rfl, ?_⟩
      dsimp only [tNil]
      refine isn_of (wt2 a (by simp)) fun H3 s3 => ⟨_, rfl, ?_⟩
      have hw3 := sqT_sm s3 hw2
      cases hn : nmX a with
      | false =>
        rw [hn, Bool.false_and, Bool.false_and] at q
        exact ifT rfl (q _ (s2.trans s3))
      | true =>
      rw [hn, Bool.true_and] at q eg
      refine ifF rfl ⟨_, rfl, py, _, 1, _, rfl, rfl, hw3, atI_nat (j := 1) rfl, z, rfl, (wt2 z (by simp)).sm s3, _, rfl, ?_⟩
      cases hz : numX 1 8 z with
      | false =>
        rw [hz, Bool.false_and, Bool.false_and] at q
        exact ifT rfl (q _ (s2.trans s3))
      | true =>
      rw [hz, Bool.true_and] at q eg
      have ea := nmX_str hn
      generalize trS a = x at ea q eg
      subst ea
      have e3 := s3 _ _ e2
      refine ifF rfl ⟨_, rfl, py, _, 0, _, rfl, rfl, hw3, atI_nat (j := 0) rfl, _, rfl, L, _, rfl, .inl (.of e3), rfl, flat_strs _, _, rfl, ?_⟩
      have hin : inV (Tr.str x).v ((ps ++ (l.take i).map rwS).map V.str) = decide (x ∈ ps ++ (l.take i).map rwS) := in_strs
      by_cases cx : x ∈ ps ++ (l.take i).map rwS
      · rw [decide_eq_true cx, Bool.not_true, Bool.false_and] at q
        exact ifT (by exact hin.trans (decide_eq_true cx)) (q _ (s2.trans s3))
      · rw [decide_eq_false cx, Bool.not_false, Bool.true_and] at q eg
        refine ifF (by exact hin.trans (decide_eq_false cx)) ⟨_, rfl, .inl ⟨rfl, _, .of e3⟩, _, rfl, py, _, 0, _, rfl, rfl, hw3, atI_nat (j := 0) rfl, L, _, _, rfl, rfl, e3, ?_, same_upd (s2.trans s3) nL, ?_, ?_, _, rfl⟩
        · rw [List.length_map, List.length_append, List.length_map, List.length_take, sizeLine_eq]
          omega
        · rw [upd_same, take_one hti]
          simp [rwS, trS, Tr.v]
        · rw [take_one hti, List.map_append, ← List.append_assoc]
          rw [eg]
          rfl
    · rintro σ' H2 ⟨s2, e2, eg, x3, rfl⟩
      rw [ll, List.drop_length] at eg
      rw [eg] at q
      exact q _ s2
end

theorem same_made {H : Hp} {a dx C : Addr} (ha : H a = none) (hx : H dx = none) (ne : dx ≠ a) : Same H (upd (upd H dx (.own a)) a (.ins C dx [])) := fun c o e => by
  rw [upd_ne (ne_of_none e ha), upd_ne (ne_of_none e hx)]
  exact e
theorem none_sm {H H1 : Hp} {a : Addr} (s : Same H H1) (h : H1 a = none) : H a = none := by
  cases e : H a with
  | none => rfl
  | some o => rw [s a o e] at h; cases h
section
variable {P : Program} {w : World} {K : PySem.W.Frag} {mg : Str → Option Value} {base : Heap}
def sp_headsX (K : PySem.W.Frag) : Sp := fun vs H Q _ => ∃ t : Tr, vs = [t.v] ∧ Wt K H t ∧ (txs t).length ≤ 999000 ∧ (hsX t = none → ∀ H', Same H H' → Q .non H') ∧ ∀ hds, hsX t = some hds → ∀ H' d, Same H H' → H' d = some (.dK (hdKv hds)) → Q (.ref d) H'
theorem ok_headsX (T : Top K mg) : FnOk P w K mg base CX0 23 (He.ga K "heads_of") T.fd_heads_of ["thing"] (sp_headsX K) := by
  have G_is_name := ok_is_name (P := P) (w := w) (base := base) T
  have G_are_params := ok_parX (P := P) (w := w) (base := base) T
  have G_Scope___init__ := ok_Scope_init (P := P) (w := w) (base := base) T
  have G_Scope_is_body := ok_bdX (P := P) (w := w) (base := base) T
  refine T.F_heads_of.ok sc_heads_of (fun vs H Q E h => ?_) (fun cdv A outer s H vs Q E hr h => ?_)
  · obtain ⟨t, rfl, _⟩ := h
    rfl
  · obtain ⟨t, rfl, wt, lb, qn, q⟩ := h
    refine ⟨_, PSs.nox (pss_cons (ps_if (PW.pt (pw_or (pt_not (pt_val (pe_callB call_isi (by rfl) T.m_isinstance (by decide +kernel) (pa_cons (pv 0) (pa_cons (pe_bltn (v := .ty "tuple") (by rfl) T.m_tuple (by decide +kernel) rfl) pa_nil))))) (pw_or1 (pt_cmpR op_gt (pe_callB call_len_seq (by rfl) T.m_len (by decide +kernel) (pa_cons (pv 0) pa_nil)) (pe_glob (v := .int 4) (by rfl) T.c_MOST_HELPERS ⟨_, rfl⟩) (nomark _))))) (pss_one (ps_ret pe_non)) pss_nil)
        (pss_cons (ps_set (i := 1) sc_heads_of.nd rfl (Or.inl rfl) pe_dnewK)
        (pss_cons (ps_for PassesOwn.never (by rfl) (pi_tup (pv 0)) (pg_name (i := 2) sc_heads_of.nd rfl (Or.inl rfl)) (pss_cons (ps_if (PW.pt (pw_or (pt_not (pt_val (pe_callB call_isi (by rfl) T.m_isinstance (by decide +kernel) (pa_cons (pv 2) (pa_cons (pe_bltn (v := .ty "tuple") (by rfl) T.m_tuple (by decide +kernel) rfl) pa_nil))))) (pw_or (pt_cmpR op_ne (pe_callB call_len_seq (by rfl) T.m_len (by decide +kernel) (pa_cons (pv 2) pa_nil)) pe_int (nomark _)) (pw_or (pt_not (pt_val (pe_call G_is_name (hr.mono (by omega)) (by rfl) T.g_is_name T.F_is_name.kp T.b_is_name .nil pass0 (pa_cons (pe_ix ix_tup (pv 2) pe_int (fun _ _ => rfl)) pa_nil)))) (pw_or1 (pt_cmp (pc_din (hu_of hr) (pe_ix ix_tup (pv 2) pe_int (fun _ _ => rfl)) (pv 1)))))))) (pss_one (ps_ret pe_non)) pss_nil)
        (pss_cons (ps_if (PW.pt (pw_or (pt_not (pt_val (pe_call G_are_params (hr.mono (by omega)) (by rfl) T.g_are_params T.F_are_params.kp T.b_are_params .nil pass0 (pa_cons (pe_ix ix_tup (pv 2) pe_int (fun _ _ => rfl)) pa_nil)))) (pw_or1 (pt_not (pt_val (pe_meth (pe_make T.mk_Scope G_Scope___init__ (hr.mono (by omega)) (by rfl) T.g_Scope T.b_Scope___init__ .nil pass0 (pa_cons (pe_ix ix_tup (pv 2) pe_int (fun _ _ => rfl)) (pa_cons (pe_lst pa_nil) (pa_cons (pv 1) pa_nil)))) T.cl_Scope T.me_Scope_is_body G_Scope_is_body (hr.mono (by omega)) T.b2_Scope_is_body.choose_spec.2 T.b2_Scope_is_body.choose_spec.1 pass0 (pa_cons (pe_ix ix_tup (pv 2) pe_int (fun _ _ => rfl)) pa_nil))))))) (pss_one (ps_ret pe_non)) pss_nil)
        (pss_one (ps_dput (hu_of hr) (pv 1) (pe_ix ix_tup (pv 2) pe_int (fun _ _ => rfl)) (pe_callB call_len_seq (by rfl) T.m_len (by decide +kernel) (pa_cons (pe_ix ix_tup (pv 2) pe_int (fun _ _ => rfl)) pa_nil)) (by rfl))))))
        (pss_one (ps_ret (pv 1)))))), ?_⟩
    have big : ∀ n : Nat, n ≤ 10000 → n ≤ sizeLine := fun n h => by rw [sizeLine_eq]; omega
    refine ⟨_, rfl, _, _, _, _, isT t.pd, rfl, .ty _, wt.ty, kit_tup t.pd, _, rfl, ?_⟩
    cases hT : isT t.pd with
    | false =>
      have e : hsX t = none := by cases t <;> first | rfl | cases hT
      exact ifT rfl (qn e _ (Same.refl _))
    | true =>
    obtain ⟨p, l, rfl⟩ := tup_of hT
    obtain ⟨hp, lts, wts⟩ := wt.nd_inv
    have ll : (l.map Tr.v).length = l.length := List.length_map ..
    have eX : hsX (.nd p l) = if l.length ≤ 4 then hsGo [] l else none := rfl
    rw [eX] at q qn
    refine ifF rfl ⟨_, rfl, p, _, rfl, .inr hp, _, _, rfl, rfl, _, rfl, ?_⟩
    by_cases c : l.length ≤ 4
    case neg =>
      rw [if_neg c] at qn
      exact ifD (by omega) (qn rfl _ (Same.refl _))
    rw [if_pos c] at q qn
    refine ifN (by omega) ?_
    intro d nd0
    have s1 := same_new (o := .dK []) nd0
    refine ⟨_, rfl, p, rfl, ⟨_, sqT_sm s1 hp⟩, for_tup (K := K) (xs := l.map Tr.v) (fun i σ' H' => Same H H' ∧ (∃ hds : List (Str × Nat), hds.length = i ∧ H' d = some (.dK (hdKv hds)) ∧ hsGo [] l = hsGo hds (l.drop i)) ∧ ∃ x2, σ' = [some (.ref p), some (.ref d), x2]) ?_ ?_ ?_ ?_⟩
    · exact ⟨s1, ⟨[], rfl, upd_same, rfl⟩, none, rfl⟩
    · rintro i σ' H' _ ⟨s', _⟩
      exact sqT_sm s' hp
    · rintro i y σ' H2 hy ⟨s2, ⟨hds, lh, e2, eg⟩, x2, rfl⟩
      obtain ⟨t, hti, rfl⟩ := tr_at hy
      have il := (List.getElem?_eq_some_iff.mp hti).1
      have ed : l.drop i = t :: l.drop (i + 1) := by
        rw [List.drop_eq_getElem_cons il, (List.getElem?_eq_some_iff.mp hti).2]
      rw [ed] at eg
      have wtt0 := wts t (List.mem_of_getElem? hti)
      have wtt := wtt0.sm s2
      have ltt := txs_len (p := p) (List.mem_of_getElem? hti)
      dsimp only [gName, List.set]
      refine ⟨_, rfl, _, _, _, _, isT t.pd, rfl, .ty _, wtt.ty, kit_tup t.pd, _, rfl, ?_⟩
      cases hT2 : isT t.pd with
      | false =>
        have e : hsGo hds (t :: l.drop (i + 1)) = none := by cases t <;> first | rfl | cases hT2
        exact ifT rfl (qn (eg.trans e) _ s2)
      | true =>
      obtain ⟨py, ts, rfl⟩ := tup_of hT2
      obtain ⟨hw2, _, wt2⟩ := wtt.nd_inv
      refine ifF rfl ⟨_, rfl, py, _, rfl, .inr hw2, rfl, _, rfl, ?_⟩
      have l2e : (ts.map Tr.v).length = ts.length := List.length_map ..
      by_cases l3 : ts.length = 3
      case neg =>
        have e : hsGo hds (.nd py ts :: l.drop (i + 1)) = none := by
          match ts, l3 with
          | [], _ => rfl
          | [a], _ => rfl
          | [a, b], _ => rfl
          | [a, b, c], h => exact absurd rfl h
          | a :: b :: c :: d :: r, _ => rfl
        exact ifNT (ne_int (by omega)) (qn (eg.trans e) _ s2)
      obtain ⟨a, ps, bd, rfl⟩ := len_3 l3
      have e : hsGo hds (.nd py [a, ps, bd] :: l.drop (i + 1)) = if hpV hds a ps bd = true then hsGo (hds ++ [(trS a, (parL ps).length)]) (l.drop (i + 1)) else none := rfl
      rw [e] at eg
      have no : ∀ H', Same H H' → hpV hds a ps bd = false → Q .non H' := fun H' s' z => qn (by rw [eg, z]; rfl) _ s'
      refine ifNF rfl ⟨_, rfl, py, _, 0, _, rfl, rfl, hw2, atI_nat (j := 0) rfl, ?_⟩
      dsimp only [tNil]
      refine isn_of (wt2 a (by simp)) fun H3 s3 => ⟨_, rfl, ?_⟩
      have s03 := s2.trans s3
      have hw3 := sqT_sm s3 hw2
      cases hn : nmX a with
      | false => exact ifT rfl (no _ s03 (by unfold hpV; rw [hn, Bool.false_and, Bool.false_and]))
      | true =>
      have e3 := s3 _ _ e2
      have ea := nmX_str hn
      generalize ex : trS a = x at ea eg
      subst ea
      have hget : DGet H3 d (.str x) ((hds.lookup x).map fun n => V.int (n : Nat)) := by
        have := DGet.k (k := .inr x) e3
        rw [hdKv_get] at this
        exact this
      refine ifF rfl ⟨_, rfl, py, _, 0, _, rfl, rfl, hw3, atI_nat (j := 0) rfl, _, rfl, d, _, rfl, hget, _, rfl, ?_⟩
      have eV : hpV hds (.str x) ps bd = ((nmX (.str x) && (hds.lookup x).isNone) && (parX ps && bdV [] hds (parL ps) bd)) := rfl
      cases hl : hds.lookup x with
      | some n => exact ifT rfl (no _ s03 (by rw [eV, hl]; show ((nmX (.str x) && false) && _) = false; rw [Bool.and_false, Bool.false_and]))
      | none =>
      have eV2 : hpV hds (.str x) ps bd = (parX ps && bdV [] hds (parL ps) bd) := by
        rw [eV, hn, hl]
        rfl
      have wps := wt2 ps (by simp)
      have wbd := wt2 bd (by simp)
      refine ifF rfl ⟨_, rfl, py, _, 1, _, rfl, rfl, hw3, atI_nat (j := 1) rfl, ps, rfl, wps.sm s3, fun H4 s4 => ⟨_, rfl, ?_⟩⟩
      have s04 := s03.trans s4
      have s34 := s3.trans s4
      cases hpx : parX ps with
      | false => exact ifT rfl (no _ s04 (by rw [eV2, hpx, Bool.false_and]))
      | true =>
      obtain ⟨pp, lp, rfl, l4, hpv, pnd, pln⟩ := parX_inv hpx
      have wps4 := (wps.sm s34).nd_inv.1
      rw [hpv] at wps4
      have hw4 := sqT_sm s4 hw3
      have e4 := s4 _ _ e3
      refine ifF rfl ⟨_, rfl, py, _, 1, _, rfl, rfl, hw4, atI_nat (j := 1) rfl, Nat.zero_le _, fun rA nrA => ?_⟩
      have u5 := same_new (o := .lst []) nrA
      refine ⟨_, rfl, ?_⟩
      intro A dx nA ndx nex
      have u6 := same_made (C := He.ga K "Scope") nA ndx nex
      have s46 := u5.trans u6
      have nA4 : H4 A = none := none_sm u5 nA
      refine ⟨A, dx, pp, rA, d, parL (.nd pp lp), [], hdKv hds, rfl, upd_same, sqT_sm s46 wps4, u6 _ _ upd_same, s46 _ _ e4, pnd, by omega, fun H7 r hB kk k7 nr nh nk hne g1 g2 g3 g4 => ⟨rfl, A, dx, _, rfl, g1, scF_no (by decide +kernel) (by decide +kernel) (by decide +kernel) (by decide +kernel), ?_⟩⟩
      have s47 : Same H4 H7 := Kp.same s46 k7 fun b e => by rw [e]; exact nA4
      have nk4 : H4 kk = none := none_sm s46 nk
      have sc7 : SX K H4 H7 ⟨A, r, hB, kk⟩ [] hds (parL (.nd pp lp)) 0 := ⟨⟨dx, g1⟩, g2, ⟨_, g3, fun x => hdKv_get x hds⟩, g4, pnd, hne, s47, nA4, nk4⟩
      have lbd := txs_len (p := py) (ts := [.str x, .nd pp lp, bd]) (t := bd) (by simp)
      refine ⟨_, rfl, py, _, 2, _, rfl, rfl, sqT_sm s47 hw4, atI_nat (j := 2) rfl, ⟨A, r, hB, kk⟩, bd, H4, [], hds, parL (.nd pp lp), 0, 0, by decide, rfl, sc7, wbd.sm s34, by omega, rfl, fun H8 b8 ks8 m8 sc8 k8 r8 => ⟨_, rfl, ?_⟩⟩
      have s48 : Same H4 H8 := Kp.same s47 k8 fun b e => by
        rcases e with e | e
        · rw [e]; exact nk4
        · rw [e]; exact nA4
      have s08 := s04.trans s48
      have vb : b8 = bdV [] hds (parL (.nd pp lp)) bd := r8.val (by omega)
      cases b8 with
      | false => exact ifT rfl (no _ s08 (by rw [eV2, hpx, ← vb]; rfl))
      | true =>
      rw [eV2, hpx, ← vb, Bool.and_self, if_pos rfl] at eg
      have hw8 := sqT_sm s48 hw4
      have e8 := s48 _ _ e4
      refine ifF rfl ⟨_, rfl, py, _, 1, _, rfl, rfl, hw8, atI_nat (j := 1) rfl, pp, _, rfl, .inr (sqT_sm s48 wps4), _, rfl, _, rfl, py, _, 0, _, rfl, rfl, hw8, atI_nat (j := 0) rfl, d, _, rfl, .inl ⟨hdKv hds, .inr x, e8, rfl, ?_, rfl⟩, same_upd s08 nd0, ⟨hds ++ [(x, (parL (.nd pp lp)).length)], by rw [List.length_append, lh]; rfl, ?_, eg⟩, _, rfl⟩
      · unfold hdKv
        rw [List.length_map, sizeLine_eq]
        omega
      · rw [upd_same, List.length_map, hdKv_put hl]
    · rintro σ' H2 ⟨s2, ⟨hds, lh, e2, eg⟩, x2, rfl⟩
      rw [ll, List.drop_length] at eg
      exact ⟨_, rfl, q _ eg _ _ s2 e2⟩
end

theorem len_4 {ts : List Tr} (h : ts.length = 4) : ∃ a b c d, ts = [a, b, c, d] := by
  match ts, h with
  | [a, b, c, d], _ => exact ⟨a, b, c, d, rfl⟩
section
variable {P : Program} {w : World} {K : PySem.W.Frag} {mg : Str → Option Value} {base : Heap}
def sp_progX (K : PySem.W.Frag) : Sp := fun vs H Q _ => ∃ t : Tr, vs = [t.v] ∧ Wt K H t ∧ (txs t).length ≤ 999000 ∧ ∀ H', Same H H' → Q (.bl (progX t)) H'
theorem ok_progX (T : Top K mg) : FnOk P w K mg base CX0 24 (He.ga K "is_program") T.fd_is_program ["thing"] (sp_progX K) := by
  have G_heads_of := ok_headsX (P := P) (w := w) (base := base) T
  have G_are_params := ok_parX (P := P) (w := w) (base := base) T
  have G_are_rows := ok_rowsX (P := P) (w := w) (base := base) T
  have G_Scope___init__ := ok_Scope_init (P := P) (w := w) (base := base) T
  have G_Scope_is_body := ok_bdX (P := P) (w := w) (base := base) T
  refine T.F_is_program.ok sc_is_program (fun vs H Q E h => ?_) (fun cdv A outer s H vs Q E hr h => ?_)
  · obtain ⟨t, rfl, _⟩ := h
    rfl
  · obtain ⟨t, rfl, wt, lb, q⟩ := h
    refine ⟨_, PSs.nox (pss_cons (ps_if (PW.pt (pw_or (pt_not (pt_val (pe_callB call_isi (by rfl) T.m_isinstance (by decide +kernel) (pa_cons (pv 0) (pa_cons (pe_bltn (v := .ty "tuple") (by rfl) T.m_tuple (by decide +kernel) rfl) pa_nil))))) (pw_or1 (pt_cmpR op_ne (pe_callB call_len_seq (by rfl) T.m_len (by decide +kernel) (pa_cons (pv 0) pa_nil)) pe_int (nomark _))))) (pss_one (ps_ret pe_bl)) pss_nil)
        (pss_cons (ps_set (i := 1) sc_is_program.nd rfl (Or.inl rfl) (pe_call G_heads_of (hr.mono (by omega)) (by rfl) T.g_heads_of T.F_heads_of.kp T.b_heads_of .nil pass0 (pa_cons (pe_ix ix_tup (pv 0) pe_int (fun _ _ => rfl)) pa_nil)))
        (pss_cons (ps_if (PW.pt (pw_or (pt_cmpR op_isN (pv 1) pe_non (nomark _)) (pw_or (pt_not (pt_val (pe_call G_are_params (hr.mono (by omega)) (by rfl) T.g_are_params T.F_are_params.kp T.b_are_params .nil pass0 (pa_cons (pe_ix ix_tup (pv 0) pe_int (fun _ _ => rfl)) pa_nil)))) (pw_or1 (pt_not (pt_val (pe_call G_are_rows (hr.mono (by omega)) (by rfl) T.g_are_rows T.F_are_rows.kp T.b_are_rows .nil pass0 (pa_cons (pe_ix ix_tup (pv 0) pe_int (fun _ _ => rfl)) (pa_cons (pe_ix ix_tup (pv 0) pe_int (fun _ _ => rfl)) pa_nil))))))))) (pss_one (ps_ret pe_bl)) pss_nil)
        (pss_one (ps_ret (pe_meth (pe_make T.mk_Scope G_Scope___init__ (hr.mono (by omega)) (by rfl) T.g_Scope T.b_Scope___init__ .nil pass0 (pa_cons (pe_ix ix_tup (pv 0) pe_int (fun _ _ => rfl)) (pa_cons (pe_lc (own := [("row", 2)]) (by rfl) sc_is_program.nd (pi_tup (pe_ix ix_tup (pv 0) pe_int (fun _ _ => rfl))) (blkOk_by (own := [("row", 2)]) (N := N_is_program) (sc := defScope s_is_program) (by decide +kernel)) (fun _ _ _ _ _ => (pg_name (i := 2) sc_is_program.nd rfl (Or.inl rfl))) (fun _ _ _ _ _ => pts_nil) (fun _ _ _ _ _ => (pe_ix (ix_tupK (K := K) rfl) (pv 2) pe_int (fun _ _ => rfl)))) (pa_cons (pv 1) pa_nil)))) T.cl_Scope T.me_Scope_is_body G_Scope_is_body (hr.mono (by omega)) T.b2_Scope_is_body.choose_spec.2 T.b2_Scope_is_body.choose_spec.1 pass0 (pa_cons (pe_ix ix_tup (pv 0) pe_int (fun _ _ => rfl)) pa_nil))))))), ?_⟩
    refine ⟨_, rfl, _, _, _, _, isT t.pd, rfl, .ty _, wt.ty, kit_tup t.pd, _, rfl, ?_⟩
    cases hT : isT t.pd with
    | false =>
      have e : progX t = false := by cases t <;> first | rfl | cases hT
      rw [e] at q
      exact ifT rfl (q _ (Same.refl _))
    | true =>
    obtain ⟨p, l, rfl⟩ := tup_of hT
    obtain ⟨hp, lts, wts⟩ := wt.nd_inv
    have ll : (l.map Tr.v).length = l.length := List.length_map ..
    refine ifF rfl ⟨_, rfl, p, _, rfl, .inr hp, rfl, _, rfl, ?_⟩
    by_cases l4 : l.length = 4
    case neg =>
      have e : progX (.nd p l) = false := by
        match l, l4 with
        | [], _ => rfl
        | [a], _ => rfl
        | [a, b], _ => rfl
        | [a, b, c], _ => rfl
        | [a, b, c, d], h => exact absurd rfl h
        | a :: b :: c :: d :: e :: r, _ => rfl
      rw [e] at q
      exact ifNT (ne_int (by omega)) (q _ (Same.refl _))
    obtain ⟨hs, ps, rw', bd, rfl⟩ := len_4 l4
    have eX : progX (.nd p [hs, ps, rw', bd]) = progO ps rw' bd (hsX hs) := rfl
    rw [eX] at q
    have whs := wts hs (by simp)
    have wps := wts ps (by simp)
    have wrw := wts rw' (by simp)
    have wbd := wts bd (by simp)
    have lhs := txs_len (p := p) (ts := [hs, ps, rw', bd]) (t := hs) (by simp)
    have lbd := txs_len (p := p) (ts := [hs, ps, rw', bd]) (t := bd) (by simp)
    refine ifNF rfl ⟨_, rfl, p, _, 0, _, rfl, rfl, hp, atI_nat (j := 0) rfl, hs, rfl, whs, by omega, fun en H1 s1 => ?_, fun hds eh H1 d s1 e1 => ?_⟩
    · rw [en] at q
      dsimp only [gName, List.set]
      exact ⟨_, rfl, rfl, _, rfl, ifD rfl (q _ s1)⟩
    rw [eh] at q
    have eO : progO ps rw' bd (some hds) = (parX ps && (rowsX (parL ps) rw' && bdV (rwsL rw') hds (parL ps) bd)) := rfl
    rw [eO] at q
    dsimp only [gName, List.set]
    have h01 := sqT_sm s1 hp
    refine ⟨_, rfl, rfl, _, rfl, ifN (fun e => by cases e) ?_⟩
    refine ⟨_, rfl, p, _, 1, _, rfl, rfl, h01, atI_nat (j := 1) rfl, ps, rfl, wps.sm s1, fun H2 s2 => ⟨_, rfl, ?_⟩⟩
    have s02 := s1.trans s2
    have h02 := sqT_sm s02 hp
    cases hpx : parX ps with
    | false =>
      rw [hpx, Bool.false_and] at q
      exact ifT rfl (q _ s02)
    | true =>
    rw [hpx, Bool.true_and] at q
    obtain ⟨pp, lp, rfl, lp4, hpv, pnd, pln⟩ := parX_inv hpx
    have wps0 := wps.nd_inv.1
    rw [hpv] at wps0
    refine ifF rfl ⟨_, rfl, p, _, 2, _, rfl, rfl, h02, atI_nat (j := 2) rfl, _, rfl, p, _, 1, _, rfl, rfl, h02, atI_nat (j := 1) rfl, rw', pp, parL (.nd pp lp), rfl, wrw.sm s02, sqT_sm s02 wps0, by omega, fun H3 s3 => ⟨_, rfl, ?_⟩⟩
    have s03 := s02.trans s3
    have h03 := sqT_sm s03 hp
    cases hrx : rowsX (parL (.nd pp lp)) rw' with
    | false =>
      rw [hrx, Bool.false_and] at q
      exact ifT rfl (q _ s03)
    | true =>
    rw [hrx, Bool.true_and] at q
    obtain ⟨pr, lr, rfl⟩ : ∃ pr lr, rw' = .nd pr lr := by
      cases rw' with
      | nd pr lr => exact ⟨pr, lr, rfl⟩
      | _ => cases hrx
    have hrx : (decide (lr.length ≤ 3) && rowsGo (parL (.nd pp lp)) lr) = true := hrx
    rw [Bool.and_eq_true, decide_eq_true_eq] at hrx
    obtain ⟨lr3, hgo⟩ := hrx
    have rinv := row_inv hgo
    obtain ⟨hrr, _, wrr⟩ := wrw.nd_inv
    refine ifF rfl ⟨_, rfl, p, _, 1, _, rfl, rfl, h03, atI_nat (j := 1) rfl, _, rfl, p, _, 2, _, rfl, rfl, h03, atI_nat (j := 2) rfl, pr, rfl, ⟨_, sqT_sm s03 hrr⟩, fun D nD => ?_⟩
    have llr : (lr.map Tr.v).length = lr.length := List.length_map ..
    refine lc_tup (K := K) (a := pr) (xs := lr.map Tr.v) (fun j H' => Same H3 H' ∧ H' D = some (.lst (((lr.take j).map rwS).map V.str))) ?_ ?_ ?_ ?_
    · exact ⟨same_new nD, upd_same⟩
    · rintro j H' _ ⟨s', _⟩
      exact sqT_sm (s03.trans s') hrr
    · rintro j y H' hy ⟨s', e'⟩
      obtain ⟨t, ht, rfl⟩ := tr_at hy
      have il := (List.getElem?_eq_some_iff.mp ht).1
      obtain ⟨py, a, z, rfl, ea⟩ := rinv t (List.mem_of_getElem? ht)
      have hw := (wrr _ (List.mem_of_getElem? ht)).nd_inv.1
      generalize ex : trS a = x at ea
      subst ea
      refine ⟨rfl, _, rfl, py, _, 0, _, rfl, rfl, sqT_sm (s03.trans s') hw, atI_nat (j := 0) rfl, _, e', ?_, same_upd s' nD, ?_⟩
      · rw [List.length_map, List.length_map, List.length_take, sizeLine_eq]
        omega
      · rw [upd_same, take_one ht]
        simp [rwS, trS, Tr.v]
    rintro H4 ⟨s4, e4⟩
    rw [llr, List.take_length] at e4
    refine ⟨_, rfl, ?_⟩
    intro A dx nA ndx nex
    have u6 := same_made (C := He.ga K "Scope") nA ndx nex
    have s04 := s03.trans s4
    have e1' := s4 _ _ (s3 _ _ (s2 _ _ e1))
    refine ⟨A, dx, pp, D, d, parL (.nd pp lp), (lr.map rwS).map V.str, hdKv hds, rfl, upd_same, sqT_sm (s04.trans u6) wps0, u6 _ _ e4, u6 _ _ e1', pnd, by omega, fun H7 r hB kk k7 nr nh nk hne g1 g2 g3 g4 => ⟨rfl, A, dx, _, rfl, g1, scF_no (by decide +kernel) (by decide +kernel) (by decide +kernel) (by decide +kernel), ?_⟩⟩
    have s47 : Same H4 H7 := Kp.same u6 k7 fun b e => by rw [e]; exact nA
    have nk4 : H4 kk = none := none_sm u6 nk
    have sc7 : SX K H4 H7 ⟨A, r, hB, kk⟩ (rwsL (.nd pr lr)) hds (parL (.nd pp lp)) 0 := ⟨⟨dx, g1⟩, g2, ⟨_, g3, fun x => hdKv_get x hds⟩, g4, pnd, hne, s47, nA, nk4⟩
    refine ⟨_, rfl, p, _, 3, _, rfl, rfl, sqT_sm (s04.trans s47) hp, atI_nat (j := 3) rfl, ⟨A, r, hB, kk⟩, bd, H4, rwsL (.nd pr lr), hds, parL (.nd pp lp), 0, 0, by decide, rfl, sc7, wbd.sm s04, by omega, rfl, fun H8 b8 ks8 m8 sc8 k8 r8 => ?_⟩
    have vb : b8 = bdV (rwsL (.nd pr lr)) hds (parL (.nd pp lp)) bd := r8.val (by omega)
    rw [vb]
    exact q _ (s04.trans (Kp.same s47 k8 fun b e => by
      rcases e with e | e
      · rw [e]; exact nk4
      · rw [e]; exact nA))
end

section
variable {P : Program} {w : World} {K : PySem.W.Frag} {mg : Str → Option Value} {base : Heap}
theorem ok__law_is_name (T : Top K mg) : FnOk P w K mg base CX0 2 (He.ga K "_law_is_name") T.fd__law_is_name ["_law_thing"] (sp_isn K) := by
  have G__law_kept := ok__law_kept (P := P) (w := w) (base := base) T
  refine T.F__law_is_name.ok sc__law_is_name (fun vs H Q E h => ?_) (fun cdv A outer s H vs Q E hr h => ?_)
  · obtain ⟨v, rfl, _⟩ := h
    rfl
  · obtain ⟨v, rfl, h⟩ := h
    refine ⟨_, PSs.nox (pss_cons (ps_if (PW.pt (pw_or (pt_not (pt_val (pe_callB call_isi (by rfl) T.m_isinstance (by decide +kernel) (pa_cons (pv 0) (pa_cons (pe_bltn (v := .ty "str") (by rfl) T.m_str (by decide +kernel) rfl) pa_nil))))) (pw_or (pt_cmpR op_lt (pe_callB call_len_str (by rfl) T.m_len (by decide +kernel) (pa_cons (pv 0) pa_nil)) pe_int (nomark _)) (pw_or (pt_cmpR op_gt (pe_callB call_len_str (by rfl) T.m_len (by decide +kernel) (pa_cons (pv 0) pa_nil)) pe_int (nomark _)) (pw_or1 (pt_cmpR op_in_seq (pv 0) (pe_call0 G__law_kept (hr.mono (by omega)) (by rfl) T.g__law_kept T.F__law_kept.kp T.b__law_kept .nil pass0) (by rfl))))))) (pss_one (ps_ret pe_bl)) pss_nil)
        (pss_one (ps_ret (pe_callB (cr_all (by rfl)) (by rfl) T.m_all (by decide +kernel) (pa_cons (pe_lc (own := [("_law_sign", 1)]) (by rfl) sc__law_is_name.nd (pi_str (pv 0)) (blkOk_by (own := [("_law_sign", 1)]) (N := N__law_is_name) (sc := defScope s__law_is_name) (by decide +kernel)) (fun _ _ _ _ _ => (pg_name (i := 1) sc__law_is_name.nd rfl (Or.inl rfl))) (fun _ _ _ _ _ => pts_nil) (fun _ _ _ _ _ => (pe_cmpR op_in_sign (pv 1) pe_str (by rfl)))) pa_nil))))), ?_⟩
    rcases h with ⟨z, rfl, zl, q⟩ | ⟨⟨n, ty, kn⟩, q⟩
    · refine ⟨_, rfl, _, _, _, _, true, rfl, .ty _, .base (.str z), kit_ty (by decide +kernel), true, rfl, ?_⟩
      have zb : z.length ≤ sizeLine := by rw [sizeLine_eq]; omega
      refine ⟨_, rfl, z, rfl, zb, _, _, rfl, rfl, _, rfl, ite2 (fun e1 => ?_) (fun e1 => ?_)⟩
      · have z1 : ¬ 1 ≤ z.length := by
          have := of_decide_eq_true e1
          omega
        rw [nmB_no (.inl fun h => z1 h.1)] at q
        exact q _ (Same.refl _)
      have z1 : 1 ≤ z.length := by
        rcases Nat.lt_or_ge z.length 1 with h | h
        · exact absurd (decide_eq_true (show (z.length : Int) < 1 by omega)) e1
        · exact h
      refine ⟨_, rfl, z, rfl, zb, _, _, rfl, rfl, _, rfl, ite2 (fun e2 => ?_) (fun e2 => ?_)⟩
      · have z2 : ¬ z.length ≤ 8 := by
          have := of_decide_eq_true e2
          omega
        rw [nmB_no (.inl fun h => z2 h.2)] at q
        exact q _ (Same.refl _)
      have z2 : z.length ≤ 8 := by
        rcases Nat.lt_or_ge 8 z.length with h | h
        · exact absurd (decide_eq_true (show (8 : Int) < z.length by omega)) e2
        · exact h
      refine ⟨_, rfl, rfl, fun H1 pk s1 npk epk => ?_⟩
      refine ⟨pk, _, rfl, .inl (.of epk), rfl, flat_strs _, _, rfl, ?_⟩
      dsimp only
      rw [if_neg Bool.false_ne_true, in_strs]
      refine ite2 (fun e3 => ?_) (fun e3 => ?_)
      · rw [nmB_no (.inr (of_decide_eq_true e3))] at q
        exact q _ s1
      · have z3 : z ∉ keptW := fun h => e3 (decide_eq_true h)
        refine ⟨_, rfl, z, rfl, fun D nD => ?_⟩
        refine lc_str (fun i H' => Same H1 H' ∧ H' D = some (.lst (((z.cps.toList.take i).map fun c => decide (isLet c)).map V.bl))) ?_ ?_ ?_
        · exact ⟨same_new nD, upd_same⟩
        · rintro i c H' hc ⟨s2, e1⟩
          refine ⟨rfl, _, rfl, c, _, rfl, rfl, _, e1, ?_, ?_, ?_⟩
          · rw [List.length_map, List.length_map, List.length_take, sizeLine_eq, ← len_list]
            omega
          · intro b o hb
            rw [upd_ne (ne_of_none hb nD)]
            exact s2 b o hb
          · rw [upd_same, List.take_add_one, hc, List.map_append, List.map_append]
            show _ = some (HO.lst (_ ++ [V.bl (decide (isLet c))]))
            rw [← abc_mem c]
            rfl
        · rintro H' ⟨s2, e1⟩
          rw [List.take_length] at e1
          refine ⟨D, _, rfl, .of e1, ?_⟩
          rw [← nmB_of z1 z2 z3]
          exact q _ (s1.trans s2)
    · refine ⟨_, rfl, _, _, _, _, false, rfl, .ty _, ty, kit_ty kn, false, rfl, ?_⟩
      exact q
end

/-! the law's own look -/
theorem snocS (xs : List Str) (z : Str) : xs.map V.str ++ [V.str z] = (xs ++ [z]).map V.str := by simp
theorem valV_cons (y x : Key) (v : V) (r : List (Key × V)) : valV ((y, v) :: r) x = if y = x then some v else valV r x := by
  unfold valV
  rw [List.find?_cons]
  by_cases c : y = x
  · rw [if_pos c, show decide ((y, v).1 = x) = true from decide_eq_true c]
    rfl
  · rw [if_neg c, show decide ((y, v).1 = x) = false from decide_eq_false c]
def stD (r h k : Addr) (m : Nat) : List (Key × V) := [(.inr "rows", .ref r), (.inr "heads", .ref h), (.inr "known", .ref k), (.inr "many", .int (m : Nat))]
theorem stD_rows (r h k : Addr) (m : Nat) : valV (stD r h k m) (.inr "rows") = some (.ref r) := by
  unfold stD
  rw [valV_cons, if_pos rfl]
theorem stD_heads (r h k : Addr) (m : Nat) : valV (stD r h k m) (.inr "heads") = some (.ref h) := by
  unfold stD
  rw [valV_cons, if_neg (by decide +kernel), valV_cons, if_pos rfl]
theorem stD_known (r h k : Addr) (m : Nat) : valV (stD r h k m) (.inr "known") = some (.ref k) := by
  unfold stD
  rw [valV_cons, if_neg (by decide +kernel), valV_cons, if_neg (by decide +kernel), valV_cons, if_pos rfl]
theorem stD_many (r h k : Addr) (m : Nat) : valV (stD r h k m) (.inr "many") = some (.int (m : Nat)) := by
  unfold stD
  rw [valV_cons, if_neg (by decide +kernel), valV_cons, if_neg (by decide +kernel), valV_cons, if_neg (by decide +kernel), valV_cons, if_pos rfl]
theorem stD_put (r h k : Addr) (m n : Nat) : putK (stD r h k m) (.inr "many") (.int (n : Nat)) = stD r h k n := by
  unfold putK
  have : ((stD r h k m).any fun kv => decide (kv.1 = (.inr "many" : Key))) = true := List.any_eq_true.mpr ⟨(.inr "many", .int (m : Nat)), by unfold stD; simp, decide_eq_true rfl⟩
  rw [if_pos this]
  show [if (Sum.inr "rows" : Key) = .inr "many" then _ else _, if (Sum.inr "heads" : Key) = .inr "many" then _ else _, if (Sum.inr "known" : Key) = .inr "many" then _ else _, if (Sum.inr "many" : Key) = .inr "many" then _ else _] = _
  rw [if_neg (by decide +kernel), if_neg (by decide +kernel), if_neg (by decide +kernel), if_pos rfl]
  rfl
structure LwA where
  d : Addr
  r : Addr
  h : Addr
  k : Addr
/-- the law's state, as it stands; H0 the heap ahead of it -/
structure LX (K : PySem.W.Frag) (H0 H : Hp) (A : LwA) (rs : List Str) (hds : List (Str × Nat)) (ks : List Str) (m : Nat) : Prop where
  ob : H A.d = some (.dK (stD A.r A.h A.k m))
  rk : H A.r = some (.lst (rs.map V.str))
  hk : ∃ kvs : List (Key × V), H A.h = some (.dK kvs) ∧ ∀ x : Str, valV kvs (.inr x) = (hds.lookup x).map fun n => V.int (n : Nat)
  kk : H A.k = some (.lst (ks.map V.str))
  nd : ks.Nodup
  ne : A.h ≠ A.d
  nr : A.r ≠ A.k
  s0 : Same H0 H
  f1 : H0 A.d = none
  f2 : H0 A.k = none
def lwS (A : LwA) : Addr → Prop := fun b => b = A.d ∨ b = A.k
section
variable {P : Program} {w : World} {K : PySem.W.Frag} {mg : Str → Option Value} {base : Heap}
theorem LX.sm {H0 H H' : Hp} {A : LwA} {rs : List Str} {hds : List (Str × Nat)} {ks : List Str} {m : Nat} (h : LX K H0 H A rs hds ks m) (s : Same H H') : LX K H0 H' A rs hds ks m := by
  obtain ⟨kvs, e2, f⟩ := h.hk
  exact ⟨s _ _ h.ob, s _ _ h.rk, ⟨kvs, s _ _ e2, f⟩, s _ _ h.kk, h.nd, h.ne, h.nr, h.s0.trans s, h.f1, h.f2⟩
theorem LX.dk {H0 H : Hp} {A : LwA} {rs : List Str} {hds : List (Str × Nat)} {ks : List Str} {m : Nat} (h : LX K H0 H A rs hds ks m) : A.d ≠ A.k := fun z => by
  have e := h.ob
  rw [z, h.kk] at e
  cases e
theorem LX.setK {H0 H : Hp} {A : LwA} {rs : List Str} {hds : List (Str × Nat)} {ks ks' : List Str} {m : Nat} (h : LX K H0 H A rs hds ks m) (nd : ks'.Nodup) : LX K H0 (upd H A.k (.lst (ks'.map V.str))) A rs hds ks' m ∧ Kp (lwS A) H (upd H A.k (.lst (ks'.map V.str))) := by
  obtain ⟨kvs, e2, f⟩ := h.hk
  refine ⟨⟨(upd_ne h.dk).trans h.ob, (upd_ne h.nr).trans h.rk, ⟨kvs, (upd_ne fun z => ?_).trans e2, f⟩, upd_same, nd, h.ne, h.nr, same_upd h.s0 h.f2, h.f1, h.f2⟩, Kp.upd h.kk trivial (.inr rfl)⟩
  have := h.kk
  rw [← z, e2] at this
  cases this
theorem LX.setM {H0 H : Hp} {A : LwA} {rs : List Str} {hds : List (Str × Nat)} {ks : List Str} {m n : Nat} (h : LX K H0 H A rs hds ks m) : LX K H0 (upd H A.d (.dK (stD A.r A.h A.k n))) A rs hds ks n ∧ Kp (lwS A) H (upd H A.d (.dK (stD A.r A.h A.k n))) := by
  obtain ⟨kvs, e2, f⟩ := h.hk
  refine ⟨⟨upd_same, (upd_ne fun z => ?_).trans h.rk, ⟨kvs, (upd_ne h.ne).trans e2, f⟩, (upd_ne h.dk.symm).trans h.kk, h.nd, h.ne, h.nr, same_upd h.s0 h.f1, h.f1, h.f2⟩, Kp.upd h.ob trivial (.inl rfl)⟩
  have := h.ob
  rw [← z, h.rk] at this
  cases this
theorem LX.gr {H0 H : Hp} {A : LwA} {rs : List Str} {hds : List (Str × Nat)} {ks : List Str} {m : Nat} (h : LX K H0 H A rs hds ks m) : DGet H A.d (.str "rows") (some (.ref A.r)) := by
  have := DGet.k (k := .inr "rows") h.ob
  rwa [stD_rows] at this
theorem LX.gh {H0 H : Hp} {A : LwA} {rs : List Str} {hds : List (Str × Nat)} {ks : List Str} {m : Nat} (h : LX K H0 H A rs hds ks m) : DGet H A.d (.str "heads") (some (.ref A.h)) := by
  have := DGet.k (k := .inr "heads") h.ob
  rwa [stD_heads] at this
theorem LX.gk {H0 H : Hp} {A : LwA} {rs : List Str} {hds : List (Str × Nat)} {ks : List Str} {m : Nat} (h : LX K H0 H A rs hds ks m) : DGet H A.d (.str "known") (some (.ref A.k)) := by
  have := DGet.k (k := .inr "known") h.ob
  rwa [stD_known] at this
theorem LX.gm {H0 H : Hp} {A : LwA} {rs : List Str} {hds : List (Str × Nat)} {ks : List Str} {m : Nat} (h : LX K H0 H A rs hds ks m) : DGet H A.d (.str "many") (some (.int (m : Nat))) := by
  have := DGet.k (k := .inr "many") h.ob
  rwa [stD_many] at this
def whX : Tr → Bool
  | .int _ => true
  | _ => false
def sp_whX (K : PySem.W.Frag) : Sp := fun vs H Q _ => ∃ t : Tr, vs = [t.v] ∧ Wt K H t ∧ Q (.bl (whX t)) H
theorem ok_whX (T : Top K mg) : FnOk P w K mg base CX0 1 (He.ga K "_law_whole") T.fd__law_whole ["_law_found"] (sp_whX K) := by
  refine T.F__law_whole.ok sc__law_whole (fun vs H Q E h => ?_) (fun cdv A outer s H vs Q E hr h => ?_)
  · obtain ⟨t, rfl, _⟩ := h
    rfl
  · obtain ⟨t, rfl, wt, q⟩ := h
    refine ⟨_, PSs.nox (pss_one (ps_ret (pe_and (pe_callB call_isi (by rfl) T.m_isinstance (by decide +kernel) (pa_cons (pv 0) (pa_cons (pe_bltn (v := .ty "int") (by rfl) T.m_int (by decide +kernel) rfl) pa_nil))) (pe_one (pe_not (pe_callB call_isi (by rfl) T.m_isinstance (by decide +kernel) (pa_cons (pv 0) (pa_cons (pe_bltn (v := .ty "bool") (by rfl) T.m_bool (by decide +kernel) rfl) pa_nil)))))))), ?_⟩
    have ty := wt.ty
    refine ⟨_, rfl, _, _, _, _, isI t.pd, rfl, .ty _, ty, kit_int t.pd, _, rfl, ?_⟩
    cases hI : isI t.pd with
    | false =>
      have : whX t = false := by cases t <;> first | rfl | cases hI
      rw [this] at q
      exact ifF rfl q
    | true =>
      refine ifT rfl ⟨_, rfl, _, _, _, _, isB t.pd, rfl, .ty _, ty, kit_bool t.pd, _, rfl, ?_⟩
      have : whX t = !isB t.pd := by cases t <;> first | rfl | cases hI
      rw [this] at q
      exact q
def sp_lnumX (K : PySem.W.Frag) : Sp := fun vs H Q _ => ∃ (t : Tr) (lo hi : Int), vs = [t.v, .int lo, .int hi] ∧ Wt K H t ∧ Q (.bl (numX lo hi t)) H
theorem ok_lnumX (T : Top K mg) : FnOk P w K mg base CX0 2 (He.ga K "_law_is_number") T.fd__law_is_number ["_law_thing", "_law_low", "_law_high"] (sp_lnumX K) := by
  have G__law_whole := ok_whX (P := P) (w := w) (base := base) T
  refine T.F__law_is_number.ok sc__law_is_number (fun vs H Q E h => ?_) (fun cdv A outer s H vs Q E hr h => ?_)
  · obtain ⟨t, lo, hi, rfl, _⟩ := h
    rfl
  · obtain ⟨t, lo, hi, rfl, wt, q⟩ := h
    refine ⟨_, PSs.nox (pss_one (ps_ret (pe_and (pe_call G__law_whole (hr.mono (by omega)) (by rfl) T.g__law_whole T.F__law_whole.kp T.b__law_whole .nil pass0 (pa_cons (pv 0) pa_nil)) (pe_and (pe_cmpR op_le (pv 1) (pv 0) (nomark _)) (pe_one (pe_cmpR op_le (pv 0) (pv 2) (nomark _))))))), ?_⟩
    refine ⟨_, rfl, t, rfl, wt, _, rfl, ?_⟩
    cases t with
    | int i =>
      have e : numX lo hi (.int i) = (decide (lo ≤ i) && decide (i ≤ hi)) := rfl
      rw [e] at q
      refine ifT rfl ⟨_, rfl, _, rfl, _, _, rfl, rfl, _, rfl, ?_⟩
      by_cases h0 : lo ≤ i
      · rw [decide_eq_true h0, Bool.true_and] at q
        exact ifD h0 ⟨_, rfl, _, rfl, _, _, rfl, rfl, q⟩
      · rw [decide_eq_false h0, Bool.false_and] at q
        exact ifN h0 q
    | _ => exact ifF rfl q
def sp_lnmX (K : PySem.W.Frag) : Sp := fun vs H Q _ => ∃ (A : LwA) (t : Tr) (H0 : Hp) (rs : List Str) (hds : List (Str × Nat)) (ks : List Str) (m : Nat), vs = [t.v, .ref A.d] ∧ LX K H0 H A rs hds ks m ∧ Wt K H0 t ∧ ks.length + (txs t).length ≤ 1000000 ∧
  ∀ H' b ks', LX K H0 H' A rs hds ks' m → Kp (lwS A) H H' → Res (txs t) (varX rs t) (varN t) 0 ks m b ks' m → Q (.bl b) H'
theorem ok_lnmX (T : Top K mg) : FnOk P w K mg base CX0 3 (He.ga K "_law_fits_name") T.fd__law_fits_name ["_law_thing", "_law_state"] (sp_lnmX K) := by
  have G__law_is_name := ok__law_is_name (P := P) (w := w) (base := base) T
  refine T.F__law_fits_name.ok sc__law_fits_name (fun vs H Q E h => ?_) (fun cdv A outer s H vs Q E hr h => ?_)
  · obtain ⟨A, t, H0, rs, hds, ks, m, rfl, _⟩ := h
    rfl
  · obtain ⟨B, t, H0, rs, hds, ks, m, rfl, sc, wt, lb, q⟩ := h
    refine ⟨_, PSs.nox (pss_cons (ps_if (PW.pt (pw_or (pt_not (pt_val (pe_call G__law_is_name (hr.mono (by omega)) (by rfl) T.g__law_is_name T.F__law_is_name.kp T.b__law_is_name .nil pass0 (pa_cons (pv 0) pa_nil)))) (pw_or1 (pt_cmpR op_in_seq (pv 0) (pe_dget (hu_of hr) (pv 1) pe_str (fun _ _ => rfl)) (by rfl))))) (pss_one (ps_ret pe_bl)) pss_nil)
        (pss_cons (ps_if (pt_cmpR op_notIn_seq (pv 0) (pe_dget (hu_of hr) (pv 1) pe_str (fun _ _ => rfl)) (by rfl)) (pss_one (ps_expr (pe_bm PySem.F.plainAttrs_list PySem.F.slot_list_append PySem.F.type_list_append mt_append (pe_dget (hu_of hr) (pv 1) pe_str (fun _ _ => rfl)) (pa_cons (pv 0) pa_nil)))) pss_nil)
        (pss_one (ps_ret (pe_cmpR op_lt (pe_callB call_len_seq (by rfl) T.m_len (by decide +kernel) (pa_cons (pe_dget (hu_of hr) (pv 1) pe_str (fun _ _ => rfl)) pa_nil)) pe_int (nomark _)))))), ?_⟩
    refine ⟨_, rfl, ?_⟩
    dsimp only [tNil]
    refine isn_of (wt.sm sc.s0) fun H1 s1 => ⟨_, rfl, ?_⟩
    have sc1 := sc.sm s1
    cases hn : nmX t with
    | false =>
      have e : varX rs t = false := by
        cases t <;> first | rfl | (rename_i z; show (nmB z && _) = false; rw [show nmB z = false from hn, Bool.false_and])
      rw [e] at q
      exact ifT rfl (q _ _ _ sc1 (Kp.of_same s1) (Res.no sc.nd))
    | true =>
      have et := nmX_str hn
      generalize trS t = z at et
      subst et
      have hn : nmB z = true := hn
      have e : varX rs (.str z) = (nmB z && !decide (z ∈ rs)) := rfl
      rw [e, hn, Bool.true_and] at q
      refine ifF rfl ⟨_, rfl, _, rfl, B.d, _, rfl, sc1.gr, B.r, _, rfl, .inl (.of sc1.rk), rfl, flat_strs rs, _, rfl, ?_⟩
      have hin : inV (Tr.str z).v (rs.map V.str) = decide (z ∈ rs) := in_strs
      by_cases hr' : z ∈ rs
      · rw [decide_eq_true hr'] at q
        exact ifT (by exact hin.trans (decide_eq_true hr')) (q _ _ _ sc1 (Kp.of_same s1) (Res.no sc.nd))
      rw [decide_eq_false hr'] at q
      refine ifF (by exact hin.trans (decide_eq_false hr')) ?_
      have et : txs (.str z) = [z] := by rw [txs]
      rw [et] at q
      have hv := Res.var (m := m) (z := z) sc.nd
      have lt : ∀ n : Nat, decide ((n : Int) < 13) = decide (n ≤ 12) := fun n => by
        by_cases c : n ≤ 12
        · rw [decide_eq_true c, decide_eq_true (by omega)]
        · rw [decide_eq_false c, decide_eq_false (by omega)]
      have hin2 : inV (Tr.str z).v (ks.map V.str) = decide (z ∈ ks) := in_strs
      refine ⟨_, rfl, _, rfl, B.d, _, rfl, sc1.gk, B.k, _, rfl, .inl (.of sc1.kk), rfl, flat_strs ks, _, rfl, ?_⟩
      have nd2 : (if z ∈ ks then ks else ks ++ [z]).Nodup := (un_spec [z] ks sc.nd).1
      have fin : ∀ H', LX K H0 H' B rs hds (if z ∈ ks then ks else ks ++ [z]) m → Kp (lwS B) H H' → Q (.bl (decide (((((if z ∈ ks then ks else ks ++ [z]).map V.str).length : Nat) : Int) < 13))) H' := fun H' sc' k' => by
        rw [lt, List.length_map]
        exact q _ _ _ sc' k' hv
      by_cases c : z ∈ ks
      · rw [if_pos c] at fin
        refine ifF (by show (!inV (Tr.str z).v (ks.map V.str)) = false; rw [hin2, decide_eq_true c]; rfl) ?_
        exact ⟨_, rfl, B.d, _, rfl, sc1.gk, B.k, _, rfl, .inl (.of sc1.kk), _, _, rfl, rfl, fin _ sc1 (Kp.of_same s1)⟩
      · rw [if_neg c] at fin nd2
        refine ifT (by show (!inV (Tr.str z).v (ks.map V.str)) = true; rw [hin2, decide_eq_false c]; rfl) ?_
        obtain ⟨sc2, k2⟩ := sc1.setK nd2
        refine ⟨_, rfl, B.d, _, rfl, sc1.gk, .inl ⟨rfl, _, .of sc1.kk⟩, _, rfl, B.k, _, _, rfl, rfl, sc1.kk, by rw [List.length_map, sizeLine_eq]; omega, ?_⟩
        have es : ks.map V.str ++ [(Tr.str z).v] = (ks ++ [z]).map V.str := snocS ks z
        rw [es]
        exact ⟨_, rfl, B.d, _, rfl, sc2.gk, B.k, _, rfl, .inl (.of sc2.kk), _, _, rfl, rfl, fin _ sc2 ((Kp.of_same s1).trans k2)⟩
end

theorem exX_ne0 {rs : List Str} {d : Nat} {p : Addr} {w : Str} {b : Tr} {r : List Tr} (h : w = "number" ∨ w = "name" ∨ w = "not") (n : r ≠ []) : exX rs (d + 1) (.nd p (.str w :: b :: r)) = false := by
  match r, n with
  | [], n => exact absurd rfl n
  | [c], _ =>
    rw [exX3, if_pos h]
  | c :: e :: r, _ => rfl
theorem exX_ne1 {rs : List Str} {d : Nat} {p : Addr} {w : Str} {b : Tr} {r : List Tr} (h : ¬ (w = "number" ∨ w = "name" ∨ w = "not")) (n : r.length ≠ 1) : exX rs (d + 1) (.nd p (.str w :: b :: r)) = false := by
  match r, n with
  | [], _ =>
    rw [exX2, if_neg fun z => h (.inl z), if_neg fun z => h (.inr (.inl z)), if_neg fun z => h (.inr (.inr z))]
  | [c], n => exact absurd rfl n
  | c :: e :: r, _ => rfl
section
variable {P : Program} {w : World} {K : PySem.W.Frag} {mg : Str → Option Value} {base : Heap}
def sp_lexX (K : PySem.W.Frag) (D : Nat) : Sp := fun vs H Q _ => ∃ (d : Nat) (A : LwA) (t : Tr) (H0 : Hp) (rs : List Str) (hds : List (Str × Nat)) (ks : List Str) (m : Nat) (deep : Int), D = d + 1 ∧ vs = [t.v, .int deep, .ref A.d] ∧ LX K H0 H A rs hds ks m ∧ Wt K H0 t ∧ ks.length + (txs t).length ≤ 1000000 ∧ deep + d = 5 ∧
  ∀ H' b ks', LX K H0 H' A rs hds ks' m → Kp (lwS A) H H' → Res (txs t) (exX rs d t) (exN d t) 0 ks m b ks' m → Q (.bl b) H'
theorem ok_lexX (T : Top K mg) : ∀ D : Nat, FnOk P w K mg base CX0 (D + 4) (He.ga K "_law_fits_e") T.fd__law_fits_e ["_law_e", "_law_deep", "_law_state"] (sp_lexX K D)
  | 0 => by
    refine T.F__law_fits_e.ok sc__law_fits_e (fun vs H Q E h => ?_) (fun cdv A outer s H vs Q E hr h => ?_)
    · obtain ⟨d, A, t, H0, rs, hds, ks, m, deep, z, _⟩ := h
      omega
    · obtain ⟨d, A, t, H0, rs, hds, ks, m, deep, z, _⟩ := h
      omega
  | D + 1 => by
    have G__law_fits_e := ok_lexX T D
    have G__law_is_number := ok_lnumX (P := P) (w := w) (base := base) T
    have G__law_fits_name := ok_lnmX (P := P) (w := w) (base := base) T
    refine T.F__law_fits_e.ok sc__law_fits_e (fun vs H Q E h => ?_) (fun cdv A outer s H vs Q E hr h => ?_)
    · obtain ⟨d, A, t, H0, rs, hds, ks, m, deep, _, rfl, _⟩ := h
      rfl
    · obtain ⟨d, B, t, H0, rs, hds, ks, m, deep, hD, rfl, sc, wt, lb, hd, q⟩ := h
      obtain rfl : D = d := by omega
      refine ⟨_, PSs.nox (pss_cons (ps_if (PW.pt (pw_or (pt_not (pt_val (pe_callB call_isi (by rfl) T.m_isinstance (by decide +kernel) (pa_cons (pv 0) (pa_cons (pe_bltn (v := .ty "tuple") (by rfl) T.m_tuple (by decide +kernel) rfl) pa_nil))))) (pw_or (pt_cmpR op_lt (pe_callB call_len_seq (by rfl) T.m_len (by decide +kernel) (pa_cons (pv 0) pa_nil)) pe_int (nomark _)) (pw_or (pt_cmpR op_gt (pv 1) pe_int (nomark _)) (pw_or1 (pt_not (pt_val (pe_callB call_isi (by rfl) T.m_isinstance (by decide +kernel) (pa_cons (pe_ix ix_tup (pv 0) pe_int (fun _ _ => rfl)) (pa_cons (pe_bltn (v := .ty "str") (by rfl) T.m_str (by decide +kernel) rfl) pa_nil)))))))))) (pss_one (ps_ret pe_bl)) pss_nil)
        (pss_cons (ps_if (pt_cmpR op_eq (pe_ix ix_tup (pv 0) pe_int (fun _ _ => rfl)) pe_str (nomark _)) (pss_one (ps_ret (pe_and (pe_cmpR op_eq (pe_callB call_len_seq (by rfl) T.m_len (by decide +kernel) (pa_cons (pv 0) pa_nil)) pe_int (nomark _)) (pe_one (pe_call G__law_is_number (hr.mono (by omega)) (by rfl) T.g__law_is_number T.F__law_is_number.kp T.b__law_is_number .nil pass0 (pa_cons (pe_ix ix_tup (pv 0) pe_int (fun _ _ => rfl)) (pa_cons (pe_un un_neg pe_int) (pa_cons pe_int pa_nil)))))))) pss_nil)
        (pss_cons (ps_if (pt_cmpR op_eq (pe_ix ix_tup (pv 0) pe_int (fun _ _ => rfl)) pe_str (nomark _)) (pss_one (ps_ret (pe_and (pe_cmpR op_eq (pe_callB call_len_seq (by rfl) T.m_len (by decide +kernel) (pa_cons (pv 0) pa_nil)) pe_int (nomark _)) (pe_one (pe_call G__law_fits_name (hr.mono (by omega)) (by rfl) T.g__law_fits_name T.F__law_fits_name.kp T.b__law_fits_name .nil pass0 (pa_cons (pe_ix ix_tup (pv 0) pe_int (fun _ _ => rfl)) (pa_cons (pv 2) pa_nil))))))) pss_nil)
        (pss_cons (ps_if (pt_cmpR op_eq (pe_ix ix_tup (pv 0) pe_int (fun _ _ => rfl)) pe_str (nomark _)) (pss_one (ps_ret (pe_and (pe_cmpR op_eq (pe_callB call_len_seq (by rfl) T.m_len (by decide +kernel) (pa_cons (pv 0) pa_nil)) pe_int (nomark _)) (pe_one (pe_call G__law_fits_e (hr.mono (by omega)) (by rfl) T.g__law_fits_e T.F__law_fits_e.kp T.b__law_fits_e .nil pass0 (pa_cons (pe_ix ix_tup (pv 0) pe_int (fun _ _ => rfl)) (pa_cons (pe_op op_add (pv 1) pe_int) (pa_cons (pv 2) pa_nil)))))))) pss_nil)
        (pss_cons (ps_if (pt_cmpR op_eq (pe_ix ix_tup (pv 0) pe_int (fun _ _ => rfl)) pe_str (nomark _)) (pss_one (ps_ret (pe_and (pe_cmpR op_eq (pe_callB call_len_seq (by rfl) T.m_len (by decide +kernel) (pa_cons (pv 0) pa_nil)) pe_int (nomark _)) (pe_and (pe_callB call_isi (by rfl) T.m_isinstance (by decide +kernel) (pa_cons (pe_ix ix_tup (pv 0) pe_int (fun _ _ => rfl)) (pa_cons (pe_bltn (v := .ty "str") (by rfl) T.m_str (by decide +kernel) rfl) pa_nil))) (pe_and (pe_cmpR op_in_seq (pe_ix ix_tup (pv 0) pe_int (fun _ _ => rfl)) (pe_dget (hu_of hr) (pv 2) pe_str (fun _ _ => rfl)) (by rfl)) (pe_one (pe_call G__law_fits_e (hr.mono (by omega)) (by rfl) T.g__law_fits_e T.F__law_fits_e.kp T.b__law_fits_e .nil pass0 (pa_cons (pe_ix ix_tup (pv 0) pe_int (fun _ _ => rfl)) (pa_cons (pe_op op_add (pv 1) pe_int) (pa_cons (pv 2) pa_nil)))))))))) pss_nil)
        (pss_cons (ps_if (PW.pt (pw_or (pt_cmpR op_notIn_seq (pe_ix ix_tup (pv 0) pe_int (fun _ _ => rfl)) (pe_lst (pa_cons pe_str (pa_cons pe_str (pa_cons pe_str (pa_cons pe_str (pa_cons pe_str (pa_cons pe_str (pa_cons pe_str pa_nil)))))))) (by rfl)) (pw_or1 (pt_cmpR op_ne (pe_callB call_len_seq (by rfl) T.m_len (by decide +kernel) (pa_cons (pv 0) pa_nil)) pe_int (nomark _))))) (pss_one (ps_ret pe_bl)) pss_nil)
        (pss_one (ps_ret (pe_and (pe_call G__law_fits_e (hr.mono (by omega)) (by rfl) T.g__law_fits_e T.F__law_fits_e.kp T.b__law_fits_e .nil pass0 (pa_cons (pe_ix ix_tup (pv 0) pe_int (fun _ _ => rfl)) (pa_cons (pe_op op_add (pv 1) pe_int) (pa_cons (pv 2) pa_nil)))) (pe_one (pe_call G__law_fits_e (hr.mono (by omega)) (by rfl) T.g__law_fits_e T.F__law_fits_e.kp T.b__law_fits_e .nil pass0 (pa_cons (pe_ix ix_tup (pv 0) pe_int (fun _ _ => rfl)) (pa_cons (pe_op op_add (pv 1) pe_int) (pa_cons (pv 2) pa_nil)))))))))))))), ?_⟩
      have no : exX rs D t = false → Q (.bl false) H := fun e => q _ false _ sc Kp.refl (by rw [e]; exact Res.no sc.nd)
      have big : ∀ n : Nat, n ≤ 10000 → n ≤ sizeLine := fun n h => by rw [sizeLine_eq]; omega
      refine ⟨_, rfl, _, _, _, _, isT t.pd, rfl, .ty _, (wt.sm sc.s0).ty, kit_tup t.pd, _, rfl, ?_⟩
      cases hT : isT t.pd with
      | false => exact ifT rfl (no (exX_noT hT))
      | true =>
        obtain ⟨p, ts, rfl⟩ := tup_of hT
        obtain ⟨hp0, lts, wts⟩ := wt.nd_inv
        have hp := sqT_sm sc.s0 hp0
        have ll : (ts.map Tr.v).length = ts.length := List.length_map ..
        refine ifF rfl ⟨_, rfl, p, _, rfl, .inr hp, _, _, rfl, rfl, _, rfl, ?_⟩
        by_cases l2 : 2 ≤ ts.length
        case neg => exact ifD (by omega) (no (exX_len (by omega)))
        refine ifN (by omega) ⟨_, rfl, _, _, rfl, rfl, _, rfl, ?_⟩
        cases D with
        | zero => exact ifD (by omega) (no rfl)
        | succ D =>
        refine ifN (by omega) ?_
        obtain ⟨a, b, r, rfl⟩ := len_ge2 l2
        have ha := wts a (List.mem_cons_self ..)
        have hb := wts b (by simp)
        have lr : ((a :: b :: r).map Tr.v).length = r.length + 2 := by rw [List.length_map, List.length_cons, List.length_cons]
        refine ⟨_, rfl, p, _, 0, _, rfl, rfl, hp, atI_nat (j := 0) rfl, _, _, _, _, isS a.pd, rfl, .ty _, (ha.sm sc.s0).ty, kit_str a.pd, _, rfl, ?_⟩
        cases hS : isS a.pd with
        | false => exact ifT rfl (no (exX_noS hS))
        | true =>
        obtain ⟨wd, rfl⟩ := str_of hS
        have neV : ∀ x : Str, wd ≠ x → V.str wd ≠ V.str x := fun x n e => n (V.str.inj e)
        refine ifF rfl ⟨_, rfl, p, _, 0, _, rfl, rfl, hp, atI_nat (j := 0) rfl, rfl, _, rfl, ?_⟩
        by_cases c1 : wd = "number"
        · refine ifD (congrArg V.str c1) ⟨_, rfl, p, _, rfl, .inr hp, rfl, _, rfl, ?_⟩
          by_cases lr0 : r = []
          case neg => exact ifN (ne_int (by have := List.length_pos_iff.mpr lr0; omega)) (no (exX_ne0 (.inl c1) lr0))
          subst lr0 c1
          rw [exX2, exN2, if_pos rfl, if_neg (by decide +kernel), if_neg (by decide +kernel)] at q
          exact ifD rfl ⟨_, rfl, p, _, 1, _, rfl, rfl, hp, atI_nat (j := 1) rfl, _, rfl, b, _, _, rfl, hb.sm sc.s0, q _ _ _ sc Kp.refl (Res.plain sc.nd)⟩
        refine ifN (neV _ c1) ⟨_, rfl, p, _, 0, _, rfl, rfl, hp, atI_nat (j := 0) rfl, rfl, _, rfl, ?_⟩
        by_cases c2 : wd = "name"
        · refine ifD (congrArg V.str c2) ⟨_, rfl, p, _, rfl, .inr hp, rfl, _, rfl, ?_⟩
          by_cases lr0 : r = []
          case neg => exact ifN (ne_int (by have := List.length_pos_iff.mpr lr0; omega)) (no (exX_ne0 (.inr (.inl c2)) lr0))
          subst lr0 c2
          rw [exX2, exN2, if_neg c1, if_pos rfl, if_pos rfl] at q
          exact ifD rfl ⟨_, rfl, p, _, 1, _, rfl, rfl, hp, atI_nat (j := 1) rfl, _, rfl, B, b, H0, rs, hds, ks, m, rfl, sc, hb, Nat.le_trans (Nat.add_le_add_left (txs_len (by simp)) _) lb, fun H1 b1 ks1 sc1 k1 r1 => q _ _ _ sc1 k1 (r1.cong sc.nd (txs_in (by simp)) fun _ => Iff.rfl)⟩
        refine ifN (neV _ c2) ⟨_, rfl, p, _, 0, _, rfl, rfl, hp, atI_nat (j := 0) rfl, rfl, _, rfl, ?_⟩
        by_cases c3 : wd = "not"
        · refine ifD (congrArg V.str c3) ⟨_, rfl, p, _, rfl, .inr hp, rfl, _, rfl, ?_⟩
          by_cases lr0 : r = []
          case neg => exact ifN (ne_int (by have := List.length_pos_iff.mpr lr0; omega)) (no (exX_ne0 (.inr (.inr c3)) lr0))
          subst lr0 c3
          rw [exX2, exN2, if_neg c1, if_neg c2, if_neg c2, if_pos rfl, if_pos rfl] at q
          exact ifD rfl ⟨_, rfl, p, _, 1, _, rfl, rfl, hp, atI_nat (j := 1) rfl, _, rfl, _, _, rfl, rfl, _, rfl, D, B, b, H0, rs, hds, ks, m, deep + 1, rfl, rfl, sc, hb, Nat.le_trans (Nat.add_le_add_left (txs_len (by simp)) _) lb, by omega, fun H1 b1 ks1 sc1 k1 r1 => q _ _ _ sc1 k1 (r1.cong sc.nd (txs_in (by simp)) fun _ => Iff.rfl)⟩
        have cn : ¬ (wd = "number" ∨ wd = "name" ∨ wd = "not") := fun z => z.elim c1 fun z => z.elim c2 c3
        refine ifN (neV _ c3) ⟨_, rfl, p, _, 0, _, rfl, rfl, hp, atI_nat (j := 0) rfl, rfl, _, rfl, ?_⟩
        by_cases c4 : wd = "at"
        · refine ifD (congrArg V.str c4) ⟨_, rfl, p, _, rfl, .inr hp, rfl, _, rfl, ?_⟩
          by_cases l1 : r.length = 1
          case neg => exact ifN (ne_int (by omega)) (no (exX_ne1 cn l1))
          obtain ⟨c, rfl⟩ := len_1 l1
          have hc := wts c (by simp)
          rw [exX3, exN3, if_neg cn, if_pos c4, if_pos c4] at q
          refine ifD rfl ⟨_, rfl, p, _, 1, _, rfl, rfl, hp, atI_nat (j := 1) rfl, _, _, _, _, isS b.pd, rfl, .ty _, (hb.sm sc.s0).ty, kit_str b.pd, _, rfl, ?_⟩
          cases hSb : isS b.pd with
          | false =>
            have e : rowX rs b = false := by cases b <;> first | rfl | cases hSb
            rw [e, Bool.false_and] at q
            exact ifF rfl (q _ _ _ sc Kp.refl (Res.no sc.nd))
          | true =>
          obtain ⟨z, rfl⟩ := str_of hSb
          have e : rowX rs (.str z) = decide (z ∈ rs) := rfl
          rw [e] at q
          have hin : inV (Tr.str z).v (rs.map V.str) = decide (z ∈ rs) := in_strs
          refine ifT rfl ⟨_, rfl, p, _, 1, _, rfl, rfl, hp, atI_nat (j := 1) rfl, _, rfl, B.d, _, rfl, sc.gr, B.r, _, rfl, .inl (.of sc.rk), rfl, flat_strs rs, _, rfl, ?_⟩
          by_cases cz : z ∈ rs
          · rw [decide_eq_true cz, Bool.true_and] at q
            exact ifT (by exact hin.trans (decide_eq_true cz)) ⟨_, rfl, p, _, 2, _, rfl, rfl, hp, atI_nat (j := 2) rfl, _, rfl, _, _, rfl, rfl, _, rfl, D, B, c, H0, rs, hds, ks, m, deep + 1, rfl, rfl, sc, hc, Nat.le_trans (Nat.add_le_add_left (txs_len (by simp)) _) lb, by omega, fun H1 b1 ks1 sc1 k1 r1 => q _ _ _ sc1 k1 (r1.cong sc.nd (txs_in (by simp)) fun _ => Iff.rfl)⟩
          · rw [decide_eq_false cz, Bool.false_and] at q
            exact ifF (by exact hin.trans (decide_eq_false cz)) (q _ _ _ sc Kp.refl (Res.no sc.nd))
        refine ifN (neV _ c4) ⟨_, rfl, p, _, 0, _, rfl, rfl, hp, atI_nat (j := 0) rfl, big 7 (by decide), fun L nL => ?_⟩
        have u1 := same_new (o := .lst (wds7.map V.str)) nL
        have sc1 := sc.sm u1
        have k1 : Kp (lwS B) H (upd H L (.lst (wds7.map V.str))) := Kp.of_same u1
        have e1 : upd H L (.lst (wds7.map V.str)) L = some (.lst (wds7.map V.str)) := upd_same
        have inW : inV (V.str wd) (wds7.map V.str) = decide (wd ∈ wds7) := in_strs
        refine ⟨L, _, rfl, .inl (.of e1), rfl, flat_strs wds7, _, rfl, ?_⟩
        have no1 : exX rs (D + 1) (.nd p (.str wd :: b :: r)) = false → Q (.bl false) (upd H L (.lst (wds7.map V.str))) := fun e => q _ false _ sc1 k1 (by rw [e]; exact Res.no sc.nd)
        have hp1 := sqT_sm sc1.s0 hp0
        by_cases c5 : wd ∈ wds7
        case neg =>
          refine ifT (by show (!inV (V.str wd) (wds7.map V.str)) = true; rw [inW, decide_eq_false c5]; rfl) (no1 ?_)
          by_cases l1 : r.length = 1
          · obtain ⟨c, rfl⟩ := len_1 l1
            rw [exX3, if_neg cn, if_neg c4, decide_eq_false c5, Bool.false_and]
          · exact exX_ne1 cn l1
        refine ifF (by show (!inV (V.str wd) (wds7.map V.str)) = false; rw [inW, decide_eq_true c5]; rfl) ⟨_, rfl, p, _, rfl, .inr hp1, rfl, _, rfl, ?_⟩
        by_cases l1 : r.length = 1
        case neg => exact ifNT (ne_int (by omega)) (no1 (exX_ne1 cn l1))
        obtain ⟨c, rfl⟩ := len_1 l1
        have hc := wts c (by simp)
        rw [exX3, exN3, if_neg cn, if_neg c4, if_neg c4, decide_eq_true c5, Bool.true_and] at q
        have lt : (txs (.nd p [.str wd, b, c])).length = 1 + (txs b).length + (txs c).length := by
          rw [txs_nd, txsL, txsL, txsL, txsL, txs_str]
          simp only [List.length_append, List.length_cons, List.length_nil]
          omega
        refine ifNF rfl ⟨_, rfl, p, _, 1, _, rfl, rfl, hp1, atI_nat (j := 1) rfl, _, rfl, _, _, rfl, rfl, _, rfl, D, B, b, H0, rs, hds, ks, m, deep + 1, rfl, rfl, sc1, hb, by omega, by omega, fun H2 b2 ks2 sc2 k2 r2 => ⟨_, rfl, ?_⟩⟩
        have lk := r2.len sc.nd
        cases b2 with
        | false => exact ifF rfl (q _ _ _ sc2 (k1.trans k2) ((r2.stop (T := []) (ms := exN D c) (ok2 := exX rs D c) (d := 0) sc.nd).cong sc.nd (fun z hz => txs_in (t := b) (by simp) z (by rwa [List.append_nil] at hz)) fun z => Iff.rfl))
        | true =>
          refine ifT rfl ⟨_, rfl, p, _, 2, _, rfl, rfl, sqT_sm sc2.s0 hp0, atI_nat (j := 2) rfl, _, rfl, _, _, rfl, rfl, _, rfl, D, B, c, H0, rs, hds, ks2, m, deep + 1, rfl, rfl, sc2, hc, by omega, by omega, fun H3 b3 ks3 sc3 k3 r3 => q _ _ _ sc3 ((k1.trans k2).trans k3) ?_⟩
          exact (r2.cons sc.nd r3).cong sc.nd (fun z hz => (List.mem_append.mp hz).elim (txs_in (by simp) z) (txs_in (by simp) z)) fun z => Iff.rfl
end

section
variable {P : Program} {w : World} {K : PySem.W.Frag} {mg : Str → Option Value} {base : Heap}
theorem LX.lst {H0 H : Hp} {A : LwA} {rs : List Str} {hds : List (Str × Nat)} {ks : List Str} {m : Nat} {D : Addr} {xs ys : List V} (h : LX K H0 H A rs hds ks m) (e : H D = some (.lst xs)) (n0 : H0 D = none) (nr : A.r ≠ D) (nk : A.k ≠ D) : LX K H0 (upd H D (.lst ys)) A rs hds ks m := by
  obtain ⟨kvs, e2, f⟩ := h.hk
  have ne : ∀ {b : Addr} {o : HO}, H b = some o → (∀ zs, o ≠ .lst zs) → b ≠ D := fun e' n z => by
    rw [z, e] at e'
    cases e'
    exact n _ rfl
  refine ⟨(upd_ne (ne h.ob fun _ z => nomatch z)).trans h.ob, (upd_ne nr).trans h.rk, ⟨kvs, (upd_ne (ne e2 fun _ z => nomatch z)).trans e2, f⟩, (upd_ne nk).trans h.kk, h.nd, h.ne, h.nr, same_upd h.s0 n0, h.f1, h.f2⟩
theorem LX.nS {H0 H : Hp} {A : LwA} {rs : List Str} {hds : List (Str × Nat)} {ks : List Str} {m : Nat} {D : Addr} (h : LX K H0 H A rs hds ks m) (n : H D = none) : ¬ lwS A D := fun z => by
  rcases z with z | z
  · rw [z, h.ob] at n; cases n
  · rw [z, h.kk] at n; cases n
def sp_lplX (K : PySem.W.Frag) : Sp := fun vs H Q _ => ∃ (A : LwA) (p : Addr) (wd : Str) (r : List Tr) (H0 : Hp) (rs : List Str) (hds : List (Str × Nat)) (ks : List Str) (m : Nat), vs = [.ref p, .ref A.d] ∧ LX K H0 H A rs hds ks m ∧ Wt K H0 (.nd p (.str wd :: r)) ∧ ks.length + (txs (.nd p (.str wd :: r))).length ≤ 1000000 ∧
  ∀ H' b ks', LX K H0 H' A rs hds ks' m → Kp (lwS A) H H' → Res (txs (.nd p (.str wd :: r))) (plainX rs hds (.nd p (.str wd :: r))) (plainN (.nd p (.str wd :: r))) 0 ks m b ks' m → Q (.bl b) H'
theorem ok_lplX (T : Top K mg) : FnOk P w K mg base CX0 10 (He.ga K "_law_fits_plain") T.fd__law_fits_plain ["_law_s", "_law_state"] (sp_lplX K) := by
  have G__law_fits_name := ok_lnmX (P := P) (w := w) (base := base) T
  have G__law_fits_e := ok_lexX (P := P) (w := w) (base := base) T 5
  have G__law_is_number := ok_lnumX (P := P) (w := w) (base := base) T
  refine T.F__law_fits_plain.ok sc__law_fits_plain (fun vs H Q E h => ?_) (fun cdv A outer s H vs Q E hr h => ?_)
  · obtain ⟨A, p, wd, r, H0, rs, hds, ks, m, rfl, _⟩ := h
    rfl
  · obtain ⟨B, p, wd, r, H0, rs, hds, ks, m, rfl, sc, wt, lb, q⟩ := h
    refine ⟨_, PSs.nox (pss_cons (ps_if (pt_cmpR op_eq (pe_ix ix_tup (pv 0) pe_int (fun _ _ => rfl)) pe_str (nomark _)) (pss_one (ps_ret (pe_and (pe_cmpR op_eq (pe_callB call_len_seq (by rfl) T.m_len (by decide +kernel) (pa_cons (pv 0) pa_nil)) pe_int (nomark _)) (pe_and (pe_call G__law_fits_name (hr.mono (by omega)) (by rfl) T.g__law_fits_name T.F__law_fits_name.kp T.b__law_fits_name .nil pass0 (pa_cons (pe_ix ix_tup (pv 0) pe_int (fun _ _ => rfl)) (pa_cons (pv 1) pa_nil))) (pe_one (pe_call G__law_fits_e (hr.mono (by omega)) (by rfl) T.g__law_fits_e T.F__law_fits_e.kp T.b__law_fits_e .nil pass0 (pa_cons (pe_ix ix_tup (pv 0) pe_int (fun _ _ => rfl)) (pa_cons pe_int (pa_cons (pv 1) pa_nil))))))))) pss_nil)
        (pss_cons (ps_if (pt_cmpR op_eq (pe_ix ix_tup (pv 0) pe_int (fun _ _ => rfl)) pe_str (nomark _)) (pss_cons (ps_if (PW.pt (pw_or (pt_cmpR op_ne (pe_callB call_len_seq (by rfl) T.m_len (by decide +kernel) (pa_cons (pv 0) pa_nil)) pe_int (nomark _)) (pw_or (pt_not (pt_val (pe_callB call_isi (by rfl) T.m_isinstance (by decide +kernel) (pa_cons (pe_ix ix_tup (pv 0) pe_int (fun _ _ => rfl)) (pa_cons (pe_bltn (v := .ty "str") (by rfl) T.m_str (by decide +kernel) rfl) pa_nil))))) (pw_or1 (pt_cmpR op_notIn_seq (pe_ix ix_tup (pv 0) pe_int (fun _ _ => rfl)) (pe_dget (hu_of hr) (pv 1) pe_str (fun _ _ => rfl)) (by rfl)))))) (pss_one (ps_ret pe_bl)) pss_nil)
        (pss_one (ps_ret (pe_and (pe_call G__law_fits_e (hr.mono (by omega)) (by rfl) T.g__law_fits_e T.F__law_fits_e.kp T.b__law_fits_e .nil pass0 (pa_cons (pe_ix ix_tup (pv 0) pe_int (fun _ _ => rfl)) (pa_cons pe_int (pa_cons (pv 1) pa_nil)))) (pe_one (pe_call G__law_fits_e (hr.mono (by omega)) (by rfl) T.g__law_fits_e T.F__law_fits_e.kp T.b__law_fits_e .nil pass0 (pa_cons (pe_ix ix_tup (pv 0) pe_int (fun _ _ => rfl)) (pa_cons pe_int (pa_cons (pv 1) pa_nil))))))))) pss_nil)
        (pss_cons (ps_if (pt_cmpR op_eq (pe_ix ix_tup (pv 0) pe_int (fun _ _ => rfl)) pe_str (nomark _)) (pss_cons (ps_if (PW.pt (pw_or (pt_cmpR op_ne (pe_callB call_len_seq (by rfl) T.m_len (by decide +kernel) (pa_cons (pv 0) pa_nil)) pe_int (nomark _)) (pw_or (pt_not (pt_val (pe_call G__law_fits_name (hr.mono (by omega)) (by rfl) T.g__law_fits_name T.F__law_fits_name.kp T.b__law_fits_name .nil pass0 (pa_cons (pe_ix ix_tup (pv 0) pe_int (fun _ _ => rfl)) (pa_cons (pv 1) pa_nil))))) (pw_or (pt_not (pt_val (pe_callB call_isi (by rfl) T.m_isinstance (by decide +kernel) (pa_cons (pe_ix ix_tup (pv 0) pe_int (fun _ _ => rfl)) (pa_cons (pe_bltn (v := .ty "str") (by rfl) T.m_str (by decide +kernel) rfl) pa_nil))))) (pw_or1 (pt_cmp (pc_dnotin (hu_of hr) (pe_ix ix_tup (pv 0) pe_int (fun _ _ => rfl)) (pe_dget (hu_of hr) (pv 1) pe_str (fun _ _ => rfl))))))))) (pss_one (ps_ret pe_bl)) pss_nil)
        (pss_cons (ps_if (PW.pt (pw_or (pt_not (pt_val (pe_callB call_isi (by rfl) T.m_isinstance (by decide +kernel) (pa_cons (pe_ix ix_tup (pv 0) pe_int (fun _ _ => rfl)) (pa_cons (pe_bltn (v := .ty "tuple") (by rfl) T.m_tuple (by decide +kernel) rfl) pa_nil))))) (pw_or1 (pt_cmpR op_ne (pe_callB call_len_seq (by rfl) T.m_len (by decide +kernel) (pa_cons (pe_ix ix_tup (pv 0) pe_int (fun _ _ => rfl)) pa_nil)) (pe_dget (hu_of hr) (pe_dget (hu_of hr) (pv 1) pe_str (fun _ _ => rfl)) (pe_ix ix_tup (pv 0) pe_int (fun _ _ => rfl)) (fun _ _ => rfl)) (nomark _))))) (pss_one (ps_ret pe_bl)) pss_nil)
        (pss_one (ps_ret (pe_callB (cr_all (by rfl)) (by rfl) T.m_all (by decide +kernel) (pa_cons (pe_lc (own := [("_law_e", 2)]) (by rfl) sc__law_fits_plain.nd (pi_tup (pe_ix ix_tup (pv 0) pe_int (fun _ _ => rfl))) (blkOk_by (own := [("_law_e", 2)]) (N := N__law_fits_plain) (sc := defScope s__law_fits_plain) (by decide +kernel)) (fun _ _ _ _ _ => (pg_name (i := 2) sc__law_fits_plain.nd rfl (Or.inl rfl))) (fun _ _ _ _ _ => pts_nil) (fun _ _ _ _ _ => (pe_call G__law_fits_e (hr.mono (by omega)) (by rfl) T.g__law_fits_e T.F__law_fits_e.kp T.b__law_fits_e .nil pass0 (pa_cons (pv 2) (pa_cons pe_int (pa_cons (pv 1) pa_nil)))))) pa_nil)))))) pss_nil)
        (pss_cons (ps_if (pt_cmpR op_eq (pe_ix ix_tup (pv 0) pe_int (fun _ _ => rfl)) pe_str (nomark _)) (pss_one (ps_ret (pe_and (pe_cmpR op_eq (pe_callB call_len_seq (by rfl) T.m_len (by decide +kernel) (pa_cons (pv 0) pa_nil)) pe_int (nomark _)) (pe_one (pe_call G__law_is_number (hr.mono (by omega)) (by rfl) T.g__law_is_number T.F__law_is_number.kp T.b__law_is_number .nil pass0 (pa_cons (pe_ix ix_tup (pv 0) pe_int (fun _ _ => rfl)) (pa_cons pe_int (pa_cons pe_int pa_nil)))))))) pss_nil)
        (pss_one (ps_ret (pe_and (pe_cmpR op_in_seq (pe_ix ix_tup (pv 0) pe_int (fun _ _ => rfl)) (pe_lst (pa_cons pe_str (pa_cons pe_str pa_nil))) (by rfl)) (pe_and (pe_cmpR op_eq (pe_callB call_len_seq (by rfl) T.m_len (by decide +kernel) (pa_cons (pv 0) pa_nil)) pe_int (nomark _)) (pe_one (pe_call G__law_fits_e (hr.mono (by omega)) (by rfl) T.g__law_fits_e T.F__law_fits_e.kp T.b__law_fits_e .nil pass0 (pa_cons (pe_ix ix_tup (pv 0) pe_int (fun _ _ => rfl)) (pa_cons pe_int (pa_cons (pv 1) pa_nil))))))))))))), ?_⟩
    have big : ∀ n : Nat, n ≤ 10000 → n ≤ sizeLine := fun n h => by rw [sizeLine_eq]; omega
    obtain ⟨hp0, lts, wts⟩ := wt.nd_inv
    have hp := sqT_sm sc.s0 hp0
    have ll : ((Tr.str wd :: r).map Tr.v).length = r.length + 1 := by rw [List.length_map, List.length_cons]
    have lS : (txs (.nd p (.str wd :: r))).length = 1 + (txsL r).length := by
      rw [txs_nd, txsL, txs_str, List.length_append, List.length_cons, List.length_nil]
    have no : plainX rs hds (.nd p (.str wd :: r)) = false → Q (.bl false) H := fun e => q _ false _ sc Kp.refl (by rw [e]; exact Res.no sc.nd)
    have neV : ∀ x : Str, wd ≠ x → V.str wd ≠ V.str x := fun x n e => n (V.str.inj e)
    refine ⟨_, rfl, p, _, 0, _, rfl, rfl, hp, atI_nat (j := 0) rfl, rfl, _, rfl, ?_⟩
    by_cases c1 : wd = "set"
    · subst c1
      refine ifD rfl ⟨_, rfl, p, _, rfl, .inr hp, rfl, _, rfl, ?_⟩
      by_cases l : r.length = 2
      case neg => exact ifN (fun z => l (by have := V.int.inj z; omega)) (no (plX_false (fun _ => ⟨by decide +kernel, by decide +kernel, by decide +kernel⟩) (fun z => absurd z l) fun _ => ⟨by decide +kernel, by decide +kernel⟩))
      obtain ⟨a, b, rfl⟩ := len_2 l
      have ha := wts a (by simp)
      have hb := wts b (by simp)
      rw [txsL, txsL, txsL, List.append_nil, List.length_append] at lS
      have eX : plainX rs hds (.nd p [.str "set", a, b]) = (varX rs a && exX rs 4 b) := rfl
      have eN : plainN (.nd p [.str "set", a, b]) = varN a ++ exN 4 b := rfl
      rw [eX, eN] at q
      refine ifD rfl ⟨_, rfl, p, _, 1, _, rfl, rfl, hp, atI_nat (j := 1) rfl, _, rfl, B, a, H0, rs, hds, ks, m, rfl, sc, ha, by omega, fun H1 b1 ks1 sc1 k1 r1 => ⟨_, rfl, ?_⟩⟩
      have lk := r1.len sc.nd
      cases b1 with
      | false => exact ifF rfl (q _ _ _ sc1 k1 ((r1.stop (T := []) (ms := exN 4 b) (ok2 := exX rs 4 b) (d := 0) sc.nd).cong sc.nd (fun z hz => txs_in (t := a) (by simp) z (by rwa [List.append_nil] at hz)) fun z => Iff.rfl))
      | true =>
        refine ifT rfl ⟨_, rfl, p, _, 2, _, rfl, rfl, (sqT_sm sc1.s0 hp0), atI_nat (j := 2) rfl, _, rfl, 4, B, b, H0, rs, hds, ks1, m, 1, rfl, rfl, sc1, hb, by omega, rfl, fun H2 b2 ks2 sc2 k2 r2 => q _ _ _ sc2 (k1.trans k2) ?_⟩
        exact (r1.cons sc.nd r2).cong sc.nd (fun z hz => (List.mem_append.mp hz).elim (txs_in (by simp) z) (txs_in (by simp) z)) fun z => Iff.rfl
    refine ifN (neV _ c1) ⟨_, rfl, p, _, 0, _, rfl, rfl, hp, atI_nat (j := 0) rfl, rfl, _, rfl, ?_⟩
    by_cases c2 : wd = "put"
    · subst c2
      refine ifD rfl ⟨_, rfl, p, _, rfl, .inr hp, rfl, _, rfl, ?_⟩
      by_cases l : r.length = 3
      case neg => exact ifNT (fun z => l (by have := V.int.inj z; omega)) (no (plX_false (fun _ => ⟨by decide +kernel, by decide +kernel, by decide +kernel⟩) (fun _ => by decide +kernel) fun z => absurd z l))
      obtain ⟨a, b, c, rfl⟩ := len_3 l
      have ha := wts a (by simp)
      have hb := wts b (by simp)
      have hc := wts c (by simp)
      rw [txsL, txsL, txsL, txsL, List.append_nil, List.length_append, List.length_append] at lS
      have eX : plainX rs hds (.nd p [.str "put", a, b, c]) = (rowX rs a && (exX rs 4 b && exX rs 4 c)) := rfl
      have eN : plainN (.nd p [.str "put", a, b, c]) = exN 4 b ++ exN 4 c := rfl
      rw [eX, eN] at q
      refine ifNF rfl ⟨_, rfl, p, _, 1, _, rfl, rfl, hp, atI_nat (j := 1) rfl, _, _, _, _, isS a.pd, rfl, .ty _, (ha.sm sc.s0).ty, kit_str a.pd, _, rfl, ?_⟩
      cases hSa : isS a.pd with
      | false =>
        have e : rowX rs a = false := by cases a <;> first | rfl | cases hSa
        rw [e, Bool.false_and] at q
        exact ifT rfl (q _ _ _ sc Kp.refl (Res.no sc.nd))
      | true =>
      obtain ⟨z, rfl⟩ := str_of hSa
      have e : rowX rs (.str z) = decide (z ∈ rs) := rfl
      rw [e] at q
      have hin : inV (Tr.str z).v (rs.map V.str) = decide (z ∈ rs) := in_strs
      refine ifF rfl ⟨_, rfl, p, _, 1, _, rfl, rfl, hp, atI_nat (j := 1) rfl, _, rfl, B.d, _, rfl, sc.gr, B.r, _, rfl, .inl (.of sc.rk), rfl, flat_strs rs, _, rfl, ?_⟩
      by_cases cz : z ∈ rs
      case neg =>
        rw [decide_eq_false cz, Bool.false_and] at q
        exact ifT (by show (!inV (Tr.str z).v (rs.map V.str)) = true; rw [hin, decide_eq_false cz]; rfl) (q _ _ _ sc Kp.refl (Res.no sc.nd))
      rw [decide_eq_true cz, Bool.true_and] at q
      refine ifF (by show (!inV (Tr.str z).v (rs.map V.str)) = false; rw [hin, decide_eq_true cz]; rfl) ⟨_, rfl, p, _, 2, _, rfl, rfl, hp, atI_nat (j := 2) rfl, _, rfl, 4, B, b, H0, rs, hds, ks, m, 1, rfl, rfl, sc, hb, by omega, rfl, fun H1 b1 ks1 sc1 k1 r1 => ⟨_, rfl, ?_⟩⟩
      have lk := r1.len sc.nd
      cases b1 with
      | false => exact ifF rfl (q _ _ _ sc1 k1 ((r1.stop (T := []) (ms := exN 4 c) (ok2 := exX rs 4 c) (d := 0) sc.nd).cong sc.nd (fun z hz => txs_in (t := b) (by simp) z (by rwa [List.append_nil] at hz)) fun z => Iff.rfl))
      | true =>
        refine ifT rfl ⟨_, rfl, p, _, 3, _, rfl, rfl, (sqT_sm sc1.s0 hp0), atI_nat (j := 3) rfl, _, rfl, 4, B, c, H0, rs, hds, ks1, m, 1, rfl, rfl, sc1, hc, by omega, rfl, fun H2 b2 ks2 sc2 k2 r2 => q _ _ _ sc2 (k1.trans k2) ?_⟩
        exact (r1.cons sc.nd r2).cong sc.nd (fun z hz => (List.mem_append.mp hz).elim (txs_in (by simp) z) (txs_in (by simp) z)) fun z => Iff.rfl
    refine ifN (neV _ c2) ⟨_, rfl, p, _, 0, _, rfl, rfl, hp, atI_nat (j := 0) rfl, rfl, _, rfl, ?_⟩
    by_cases c3 : wd = "call"
    · subst c3
      refine ifD rfl ⟨_, rfl, p, _, rfl, .inr hp, rfl, _, rfl, ?_⟩
      by_cases l : r.length = 3
      case neg => exact ifNT (fun z => l (by have := V.int.inj z; omega)) (no (plX_false (fun _ => ⟨by decide +kernel, by decide +kernel, by decide +kernel⟩) (fun _ => by decide +kernel) fun z => absurd z l))
      obtain ⟨x, g, es, rfl⟩ := len_3 l
      have eX : plainX rs hds (.nd p [.str "call", x, g, es]) = callX rs hds x g es := rfl
      have eN : plainN (.nd p [.str "call", x, g, es]) = callN x es := rfl
      rw [eX, eN] at q
      have wx := wts x (by simp)
      have wg := wts g (by simp)
      have we := wts es (by simp)
      rw [txsL, txsL, txsL, txsL, List.append_nil, List.length_append, List.length_append] at lS
      have inX : ∀ z ∈ txs x, z ∈ txs (.nd p [.str "call", x, g, es]) := txs_in (by simp)
      refine ifNF rfl ⟨_, rfl, p, _, 1, _, rfl, rfl, hp, atI_nat (j := 1) rfl, _, rfl, B, x, H0, rs, hds, ks, m, rfl, sc, wx, by omega, fun H1 b1 ks1 sc1 k1 r1 => ⟨_, rfl, ?_⟩⟩
      have lk := r1.len sc.nd
      cases b1 with
      | false =>
        refine ifT rfl (q _ _ _ sc1 k1 ?_)
        exact (r1.stop (T := []) (ms := esN es) (ok2 := argX rs hds g es) (d := 0) sc.nd).cong sc.nd (fun z hz => inX z (by rwa [List.append_nil] at hz)) fun z => Iff.rfl
      | true =>
      refine ifF rfl ?_
      have no1 : argX rs hds g es = false → Q (.bl false) H1 := fun e => q _ _ _ sc1 k1 (by
        have : callX rs hds x g es = false := by unfold callX; rw [e, Bool.and_false]
        rw [this]
        exact r1.fail inX)
      have hp1 := sqT_sm sc1.s0 hp0
      refine ⟨_, rfl, p, _, 2, _, rfl, rfl, hp1, atI_nat (j := 2) rfl, _, _, _, _, isS g.pd, rfl, .ty _, (wg.sm sc1.s0).ty, kit_str g.pd, _, rfl, ?_⟩
      cases hS : isS g.pd with
      | false => exact ifT rfl (no1 (argX_noS hS))
      | true =>
      obtain ⟨z, rfl⟩ := str_of hS
      obtain ⟨kvs, eh, fh⟩ := sc1.hk
      have hget : DGet H1 B.h (.str z) ((hds.lookup z).map fun n => V.int (n : Nat)) := by
        have := DGet.k (k := .inr z) eh
        rw [fh z] at this
        exact this
      refine ifF rfl ⟨_, rfl, p, _, 2, _, rfl, rfl, hp1, atI_nat (j := 2) rfl, _, rfl, B.d, _, rfl, sc1.gh, B.h, _, rfl, hget, _, rfl, ?_⟩
      cases hl : hds.lookup z with
      | none =>
        refine ifT rfl (no1 ?_)
        cases es <;> first | rfl | (show (hdB (hds.lookup z) _ && _) = false; rw [hl]; rfl)
      | some n =>
      rw [hl] at hget
      refine ifF rfl ⟨_, rfl, p, _, 3, _, rfl, rfl, hp1, atI_nat (j := 3) rfl, _, _, _, _, isT es.pd, rfl, .ty _, (we.sm sc1.s0).ty, kit_tup es.pd, _, rfl, ?_⟩
      cases hT : isT es.pd with
      | false => exact ifT rfl (no1 (argX_noT hT))
      | true =>
      obtain ⟨pe, l', rfl⟩ := tup_of hT
      obtain ⟨he0, _, wl⟩ := we.nd_inv
      have he1 := sqT_sm sc1.s0 he0
      have lys : (l'.map Tr.v).length = l'.length := List.length_map ..
      have eA : argX rs hds (.str z) (.nd pe l') = (decide (l'.length = n) && l'.all (exX rs 4)) := by
        show (hdB (hds.lookup z) _ && _) = _
        rw [hl]
        rfl
      refine ifF rfl ⟨_, rfl, p, _, 3, _, rfl, rfl, hp1, atI_nat (j := 3) rfl, pe, _, rfl, .inr he1, _, rfl, B.d, _, rfl, sc1.gh, _, rfl, p, _, 2, _, rfl, rfl, hp1, atI_nat (j := 2) rfl, B.h, _, rfl, hget, rfl, _, rfl, ?_⟩
      by_cases c : l'.length = n
      case neg => exact ifNT (fun z => c (by have := V.int.inj z; omega)) (no1 (by rw [eA, decide_eq_false c, Bool.false_and]))
      rw [decide_eq_true c, Bool.true_and] at eA
      refine ifNF (by rw [lys, c]) ⟨_, rfl, p, _, 3, _, rfl, rfl, hp1, atI_nat (j := 3) rfl, pe, rfl, ⟨_, he1⟩, fun D nD => ?_⟩
      have s2 := same_new (o := .lst []) nD
      have nD0 := none_of sc1.s0 nD
      have nDS := sc1.nS nD
      have nDH := none_kp k1 nDS nD
      have nDr : B.r ≠ D := ne_of_none sc1.rk nD
      have nDk : B.k ≠ D := ne_of_none sc1.kk nD
      rw [txs_nd (p := pe)] at lS
      refine lc_tup (K := K) (a := pe) (xs := l'.map Tr.v) (fun j H' => Kp (lwS B) H H' ∧ ∃ (ksj : List Str) (bs : List Bool), LX K H0 H' B rs hds ksj m ∧ bs.length = j ∧ H' D = some (.lst (bs.map V.bl)) ∧ Res (txsL (l'.take j)) ((l'.take j).all (exX rs 4)) ((l'.take j).flatMap (exN 4)) ((l'.take j).map fun _ => 0).sum ks1 m (bs.all id) ksj m) ?_ ?_ ?_ ?_
      · exact ⟨k1.trans (.of_same s2), ks1, [], sc1.sm s2, rfl, upd_same, Res.plain sc1.nd⟩
      · rintro j H' _ ⟨_, ksj, bs, scj, _⟩
        exact sqT_sm scj.s0 he0
      · rintro j y H2 hy ⟨k2, ksj, bs, sc2, lj, e2, r2⟩
        obtain ⟨t, ht, rfl⟩ := tr_at hy
        have jl : j < l'.length := (List.getElem?_eq_some_iff.mp ht).1
        have lj2 := r2.len sc1.nd
        have lx2 := txsL_take_le ht
        have lel := we.nd_inv.2.1
        refine ⟨rfl, _, rfl, _, rfl, 4, B, t, H0, rs, hds, ksj, m, 1, rfl, rfl, sc2, wl t (List.mem_of_getElem? ht), by omega, rfl, fun H3 b3 ks3 sc3 k3 r3 => ?_⟩
        have e3 := k3 _ _ e2 fun z => absurd z nDS
        refine ⟨_, e3, by rw [List.length_map, sizeLine_eq]; omega, kp_at (k2.trans k3) nDH, ks3, bs ++ [b3], sc3.lst e3 nD0 nDr nDk, by rw [List.length_append, lj]; rfl, by rw [upd_same, List.map_append]; rfl, ?_⟩
        have := Res.snoc (c := fun _ => 0) ht sc1.nd r2 r3
        rw [List.all_append]
        simpa using this
      · rintro H2 ⟨k2, ksj, bs, sc2, lj, e2, r2⟩
        rw [lys, List.take_length] at r2
        refine ⟨D, _, rfl, .inl (.inl e2), ?_⟩
        refine q _ _ _ sc2 k2 ?_
        rw [sum0] at r2
        have := r1.cons sc.nd r2
        unfold callX
        rw [eA]
        refine this.cong sc.nd (fun z hz => ?_) fun z => Iff.rfl
        rcases List.mem_append.mp hz with h | h
        · exact inX z h
        · exact txs_in (t := .nd pe l') (by simp) z (by rw [txs_nd]; exact h)
    refine ifN (neV _ c3) ⟨_, rfl, p, _, 0, _, rfl, rfl, hp, atI_nat (j := 0) rfl, rfl, _, rfl, ?_⟩
    by_cases c4 : wd = "fail"
    · refine ifD (congrArg V.str c4) ⟨_, rfl, p, _, rfl, .inr hp, rfl, _, rfl, ?_⟩
      by_cases l : r.length = 1
      case neg => exact ifN (fun z => l (by have := V.int.inj z; omega)) (no (plX_false (fun z => absurd z l) (fun _ => c1) fun _ => ⟨c2, c3⟩))
      obtain ⟨a, rfl⟩ := len_1 l
      have eX : plainX rs hds (.nd p [.str wd, a]) = if wd = "fail" then numX 0 99 a else decide (wd ∈ (["tell", "give"] : List Str)) && exX rs 4 a := rfl
      have eN : plainN (.nd p [.str wd, a]) = if wd = "fail" then [] else exN 4 a := rfl
      rw [eX, eN, if_pos c4, if_pos c4] at q
      exact ifD rfl ⟨_, rfl, p, _, 1, _, rfl, rfl, hp, atI_nat (j := 1) rfl, a, 0, 99, rfl, (wts a (by simp)).sm sc.s0, q _ _ _ sc Kp.refl (Res.plain sc.nd)⟩
    refine ifN (neV _ c4) ⟨_, rfl, p, _, 0, _, rfl, rfl, hp, atI_nat (j := 0) rfl, big 2 (by decide), fun L nL => ?_⟩
    have sl := same_new (o := .lst [V.str "tell", .str "give"]) nL
    have sc1 := sc.sm sl
    have k1 : Kp (lwS B) H (upd H L (.lst [V.str "tell", .str "give"])) := Kp.of_same sl
    have hp1 := sqT_sm sl hp
    have e1 : upd H L (.lst [V.str "tell", .str "give"]) L = some (.lst [V.str "tell", .str "give"]) := upd_same
    have inW : inV (V.str wd) [V.str "tell", .str "give"] = decide (wd ∈ (["tell", "give"] : List Str)) := in_strs (ws := ["tell", "give"])
    refine ⟨L, _, rfl, .inl (.of e1), rfl, by decide +kernel, _, rfl, ?_⟩
    have no1 : plainX rs hds (.nd p (.str wd :: r)) = false → Q (.bl false) (upd H L (.lst [V.str "tell", .str "give"])) := fun e => q _ false _ sc1 k1 (by rw [e]; exact Res.no sc.nd)
    by_cases c5 : wd ∈ (["tell", "give"] : List Str)
    case neg => exact ifF (by exact inW.trans (decide_eq_false c5)) (no1 (plX_false (fun _ => ⟨c4, fun z => c5 (by rw [z]; simp), fun z => c5 (by rw [z]; simp)⟩) (fun _ => c1) fun _ => ⟨c2, c3⟩))
    refine ifT (by exact inW.trans (decide_eq_true c5)) ⟨_, rfl, p, _, rfl, .inr hp1, rfl, _, rfl, ?_⟩
    by_cases l : r.length = 1
    case neg => exact ifN (fun z => l (by have := V.int.inj z; omega)) (no1 (plX_false (fun z => absurd z l) (fun _ => c1) fun _ => ⟨c2, c3⟩))
    obtain ⟨a, rfl⟩ := len_1 l
    have ha := wts a (by simp)
    have eX : plainX rs hds (.nd p [.str wd, a]) = if wd = "fail" then numX 0 99 a else decide (wd ∈ (["tell", "give"] : List Str)) && exX rs 4 a := rfl
    have eN : plainN (.nd p [.str wd, a]) = if wd = "fail" then [] else exN 4 a := rfl
    rw [eX, eN, if_neg c4, if_neg c4, decide_eq_true c5, Bool.true_and] at q
    rw [txsL, txsL, List.append_nil] at lS
    exact ifD rfl ⟨_, rfl, p, _, 1, _, rfl, rfl, hp1, atI_nat (j := 1) rfl, _, rfl, 4, B, a, H0, rs, hds, ks, m, 1, rfl, rfl, sc1, ha, by omega, rfl, fun H2 b2 ks2 sc2 k2 r2 => q _ _ _ sc2 (k1.trans k2) (r2.cong sc.nd (txs_in (by simp)) fun _ => Iff.rfl)⟩
end

theorem smX_noT {rs : List Str} {hds : List (Str × Nat)} {D : Nat} {t : Tr} (h : isT t.pd = false) : smX rs hds D t = false := by
  cases t <;> first | rfl | cases h
theorem smX_noS {rs : List Str} {hds : List (Str × Nat)} {D : Nat} {p : Addr} {a : Tr} {r : List Tr} (h : isS a.pd = false) : smX rs hds D (.nd p (a :: r)) = false := by
  cases a <;> first | rfl | cases h
theorem smX_one {rs : List Str} {hds : List (Str × Nat)} {D : Nat} {p : Addr} {ts : List Tr} (h : ts.length < 2) : smX rs hds D (.nd p ts) = false := by
  match ts, h with
  | [], _ => rfl
  | [a], _ =>
    cases a with
    | str w =>
      show (if w = "if" ∨ w = "while" then _ else _) = false
      split <;> rfl
    | _ => rfl
section
variable {P : Program} {w : World} {K : PySem.W.Frag} {mg : Str → Option Value} {base : Heap}
def sp_lbdX (K : PySem.W.Frag) (D : Nat) : Sp := fun vs H Q _ => ∃ (A : LwA) (t : Tr) (H0 : Hp) (rs : List Str) (hds : List (Str × Nat)) (ks : List Str) (m : Nat) (deep : Int), 1 ≤ D ∧ vs = [t.v, .int deep, .ref A.d] ∧ LX K H0 H A rs hds ks m ∧ Wt K H0 t ∧ ks.length + (txs t).length ≤ 1000000 ∧ deep + D = 5 ∧
  ∀ H' b ks' m', LX K H0 H' A rs hds ks' m' → Kp (lwS A) H H' → Res (txs t) (bdX rs hds D t) (bdN D t) (bdC D t) ks m b ks' m' → Q (.bl b) H'
theorem ok_lbdX (T : Top K mg) : ∀ D : Nat, FnOk P w K mg base CX0 (D + 11) (He.ga K "_law_fits_body") T.fd__law_fits_body ["_law_body_here", "_law_deep", "_law_state"] (sp_lbdX K D)
  | 0 => by
    refine T.F__law_fits_body.ok sc__law_fits_body (fun vs H Q E h => ?_) (fun cdv A outer s H vs Q E hr h => ?_)
    · obtain ⟨A, t, H0, rs, hds, ks, m, deep, z, _⟩ := h
      omega
    · obtain ⟨A, t, H0, rs, hds, ks, m, deep, z, _⟩ := h
      omega
  | D + 1 => by
    have G__law_fits_body := ok_lbdX T D
    have G__law_fits_plain := ok_lplX (P := P) (w := w) (base := base) T
    have G__law_fits_e := ok_lexX (P := P) (w := w) (base := base) T 5
    refine T.F__law_fits_body.ok sc__law_fits_body (fun vs H Q E h => ?_) (fun cdv A outer s H vs Q E hr h => ?_)
    · obtain ⟨A, t, H0, rs, hds, ks, m, deep, _, rfl, _⟩ := h
      rfl
    · obtain ⟨A, t, H0, rs, hds, ks, m, deep, _, rfl, sc, wt, lb, hd, q⟩ := h
      refine ⟨_, PSs.nox (pss_cons (ps_if (pt_not (pt_val (pe_callB call_isi (by rfl) T.m_isinstance (by decide +kernel) (pa_cons (pv 0) (pa_cons (pe_bltn (v := .ty "tuple") (by rfl) T.m_tuple (by decide +kernel) rfl) pa_nil))))) (pss_one (ps_ret pe_bl)) pss_nil)
        (pss_cons (ps_for PassesOwn.never (by rfl) (pi_range1 (by rfl) T.m_range (pa_cons (pe_callB call_len_seq (by rfl) T.m_len (by decide +kernel) (pa_cons (pv 0) pa_nil)) pa_nil)) (pg_name (i := 3) sc__law_fits_body.nd rfl (Or.inl rfl)) (pss_cons (ps_set (i := 4) sc__law_fits_body.nd rfl (Or.inl rfl) (pe_ix ix_tup (pv 0) (pv 3) (fun _ _ => rfl)))
        (pss_cons (ps_dput (hu_of hr) (pv 2) pe_str (pe_op op_add (pe_dget (hu_of hr) (pv 2) pe_str (fun _ _ => rfl)) pe_int) (by rfl))
        (pss_cons (ps_if (PW.pt (pw_or (pt_not (pt_val (pe_callB call_isi (by rfl) T.m_isinstance (by decide +kernel) (pa_cons (pv 4) (pa_cons (pe_bltn (v := .ty "tuple") (by rfl) T.m_tuple (by decide +kernel) rfl) pa_nil))))) (pw_or (pt_cmpR op_lt (pe_callB call_len_seq (by rfl) T.m_len (by decide +kernel) (pa_cons (pv 4) pa_nil)) pe_int (nomark _)) (pw_or (pt_not (pt_val (pe_callB call_isi (by rfl) T.m_isinstance (by decide +kernel) (pa_cons (pe_ix ix_tup (pv 4) pe_int (fun _ _ => rfl)) (pa_cons (pe_bltn (v := .ty "str") (by rfl) T.m_str (by decide +kernel) rfl) pa_nil))))) (pw_or1 (pt_cmpR op_gt (pe_dget (hu_of hr) (pv 2) pe_str (fun _ _ => rfl)) pe_int (nomark _))))))) (pss_one (ps_ret pe_bl)) pss_nil)
        (pss_cons (ps_if (PW.pt (pw_and (pt_cmpR op_in_seq (pe_ix ix_tup (pv 4) pe_int (fun _ _ => rfl)) (pe_lst (pa_cons pe_str (pa_cons pe_str pa_nil))) (by rfl)) (pw_and1 (pt_cmpR op_lt (pe_op op_add (pv 3) pe_int) (pe_callB call_len_seq (by rfl) T.m_len (by decide +kernel) (pa_cons (pv 0) pa_nil)) (nomark _))))) (pss_one (ps_ret pe_bl)) pss_nil)
        (pss_one (ps_if (pt_cmpR op_in_seq (pe_ix ix_tup (pv 4) pe_int (fun _ _ => rfl)) (pe_lst (pa_cons pe_str (pa_cons pe_str pa_nil))) (by rfl)) (pss_cons (ps_if (PW.pt (pw_or (pt_cmpR op_gt (pv 1) pe_int (nomark _)) (pw_or (pt_cmpR op_ne (pe_callB call_len_seq (by rfl) T.m_len (by decide +kernel) (pa_cons (pv 4) pa_nil)) (pe_dget (hu_of hr) (pe_disp (pps_cons pe_str pe_int (pps_cons pe_str pe_int pps_nil)) (by rfl) (by rfl) (fun z => by cases z) (by decide)) (pe_ix ix_tup (pv 4) pe_int (fun _ _ => rfl)) (fun _ _ => rfl)) (nomark _)) (pw_or1 (pt_not (pt_val (pe_call G__law_fits_e (hr.mono (by omega)) (by rfl) T.g__law_fits_e T.F__law_fits_e.kp T.b__law_fits_e .nil pass0 (pa_cons (pe_ix ix_tup (pv 4) pe_int (fun _ _ => rfl)) (pa_cons pe_int (pa_cons (pv 2) pa_nil)))))))))) (pss_one (ps_ret pe_bl)) pss_nil)
        (pss_one (ps_if (pt_not (pt_val (pe_callB (cr_all (by rfl)) (by rfl) T.m_all (by decide +kernel) (pa_cons (pe_lc (own := [("_law_part", 5)]) (by rfl) sc__law_fits_body.nd (pi_tup (pe_slice sl_tupA (pv 4) (po_some pe_int) po_none)) (blkOk_by (own := [("_law_part", 5)]) (N := N__law_fits_body) (sc := defScope s__law_fits_body) (by decide +kernel)) (fun _ _ _ _ _ => (pg_name (i := 5) sc__law_fits_body.nd rfl (Or.inl rfl))) (fun _ _ _ _ _ => pts_nil) (fun _ _ _ _ _ => (pe_call G__law_fits_body (hr.mono (by omega)) (by rfl) T.g__law_fits_body T.F__law_fits_body.kp T.b__law_fits_body .nil pass0 (pa_cons (pv 5) (pa_cons (pe_op op_add (pv 1) pe_int) (pa_cons (pv 2) pa_nil)))))) pa_nil)))) (pss_one (ps_ret pe_bl)) pss_nil))) (pss_one (ps_if (pt_not (pt_val (pe_call G__law_fits_plain (hr.mono (by omega)) (by rfl) T.g__law_fits_plain T.F__law_fits_plain.kp T.b__law_fits_plain .nil pass0 (pa_cons (pv 4) (pa_cons (pv 2) pa_nil))))) (pss_one (ps_ret pe_bl)) pss_nil)))))))))
        (pss_one (ps_ret pe_bl)))), ?_⟩
      have big : ∀ n : Nat, n ≤ 10000 → n ≤ sizeLine := fun n h => by rw [sizeLine_eq]; omega
      refine ⟨_, rfl, _, _, _, _, isT t.pd, rfl, .ty _, (wt.sm sc.s0).ty, kit_tup t.pd, _, rfl, ?_⟩
      cases hT : isT t.pd with
      | false =>
        have e : bdX rs hds (D + 1) t = false := by cases t <;> first | rfl | cases hT
        exact ifT rfl (q _ false _ _ sc Kp.refl (by rw [e]; exact Res.no sc.nd))
      | true =>
      obtain ⟨p, l, rfl⟩ := tup_of hT
      obtain ⟨hp0, lts, wts⟩ := wt.nd_inv
      have hp := sqT_sm sc.s0 hp0
      have ll : (l.map Tr.v).length = l.length := List.length_map ..
      have eX : bdX rs hds (D + 1) (.nd p l) = preX (smX rs hds D) l l.length := rfl
      have eN : bdN (D + 1) (.nd p l) = l.flatMap (smN D) := rfl
      have eC : bdC (D + 1) (.nd p l) = (l.map (smC D)).sum := rfl
      rw [eX, eN, eC, txs_nd] at q
      rw [txs_nd] at lb
      refine ifF rfl ⟨_, rfl, p, _, rfl, .inr hp, _, rfl, by omega, by rw [ll]; omega, ?_⟩
      refine for_range (lo := 0) (n := (l.map Tr.v).length) (fun i σ' H' => Kp (lwS A) H H' ∧ (∃ ksi mi, LX K H0 H' A rs hds ksi mi ∧ Res (txsL (l.take i)) (preX (smX rs hds D) l i) ((l.take i).flatMap (smN D)) ((l.take i).map (smC D)).sum ks m true ksi mi) ∧ ∃ x3 x4 x5, σ' = [some (.ref p), some (.int deep), some (.ref A.d), x3, x4, x5]) ?_ ?_ ?_
      · exact ⟨Kp.refl, ⟨ks, m, sc, Res.plain sc.nd⟩, none, none, none, rfl⟩
      · rintro i σ' H3 hi ⟨k3, ⟨ksi, mi, sc3, r3⟩, x3, x4, x5, rfl⟩
        have jc : (0 : Int) + (i : Nat) = (i : Nat) := by omega
        rw [jc]
        rw [ll] at hi
        obtain ⟨t, ht⟩ : ∃ t, l[i]? = some t := ⟨_, List.getElem?_eq_getElem hi⟩
        have hx : (l.map Tr.v)[i]? = some t.v := by rw [List.getElem?_map, ht]; rfl
        have wtt := wts t (List.mem_of_getElem? ht)
        have lk := r3.len sc.nd
        have lx := txsL_take_le ht
        have eD : l.take i ++ t :: l.drop (i + 1) = l := by
          have := List.take_append_drop i l
          rw [List.drop_eq_getElem_cons hi] at this
          rw [(List.getElem?_eq_some_iff.mp ht).2] at this
          exact this
        have inS : ∀ z ∈ txsL (l.take i) ++ txs t, z ∈ txsL l := fun z hz => by
          rw [← txsL_take ht] at hz
          have : txsL l = txsL (l.take (i + 1)) ++ txsL (l.drop (i + 1)) := by rw [← txsL_app, List.take_append_drop]
          rw [this]
          exact List.mem_append_left _ hz
        have flE : ∀ f : Tr → List Str, l.flatMap f = (l.take i).flatMap f ++ (f t ++ (l.drop (i + 1)).flatMap f) := fun f => by
          conv => lhs; rw [← eD]
          rw [List.flatMap_append, List.flatMap_cons]
        have smE : ∀ f : Tr → Nat, (l.map f).sum = ((l.take i).map f).sum + (f t + ((l.drop (i + 1)).map f).sum) := fun f => by
          conv => lhs; rw [← eD]
          rw [List.map_append, List.sum_append, List.map_cons, List.sum_cons]
        have bad : ∀ H5 ks5 m5, LX K H0 H5 A rs hds ks5 m5 → Kp (lwS A) H H5 → Res (txs t) (smX rs hds D t) (smN D t) (smC D t) ksi mi false ks5 m5 → Q (.bl false) H5 := fun H5 ks5 m5 sc5 k5 r5 => by
          refine q _ _ _ _ sc5 k5 ?_
          have := ((r3.cons sc.nd r5).stop (T := []) (ok2 := preX (smX rs hds D) l l.length) (ms := (l.drop (i + 1)).flatMap (smN D)) (d := ((l.drop (i + 1)).map (smC D)).sum) sc.nd)
          rw [flE, smE, ← Nat.add_assoc, ← List.append_assoc]
          refine (this.cong sc.nd (fun z hz => inS z (by rwa [List.append_nil] at hz)) fun z => Iff.rfl).ok ?_
          cases e : preX (smX rs hds D) l l.length with
          | false => rw [Bool.and_false]
          | true =>
            have h1 := preX_le (show i + 1 ≤ l.length by omega) e
            rw [preX_succ ht, Bool.and_eq_true] at h1
            unfold okT at h1
            rw [Bool.and_eq_true] at h1
            rw [h1.1, h1.2.1]
            rfl
        have badE : ∀ H5 ks5 m5 b5 S5 ok5 ns5 c5, LX K H0 H5 A rs hds ks5 m5 → Kp (lwS A) H H5 → Res S5 ok5 ns5 c5 ksi mi b5 ks5 m5 → (∀ z ∈ S5, z ∈ txs t) → endX t = true → i + 1 ≠ l.length → Q (.bl false) H5 := fun H5 ks5 m5 b5 S5 ok5 ns5 c5 sc5 k5 r5 hS5 he hl => by
          refine q _ _ _ _ sc5 k5 ?_
          have ef : preX (smX rs hds D) l l.length = false := by
            cases e : preX (smX rs hds D) l l.length with
            | false => rfl
            | true =>
              have h1 := preX_le (show i + 1 ≤ l.length by omega) e
              rw [preX_succ ht] at h1
              unfold okT at h1
              rw [he, decide_eq_false hl, Bool.not_true, Bool.false_or, Bool.and_false, Bool.and_false] at h1
              cases h1
          rw [ef]
          exact (r3.cons sc.nd r5).fail fun z hz => inS z ((List.mem_append.mp hz).elim (List.mem_append_left _) fun h => List.mem_append_right _ (hS5 z h))
        have good : ∀ H5 ks5 m5, LX K H0 H5 A rs hds ks5 m5 → Kp (lwS A) H H5 → Res (txs t) (smX rs hds D t) (smN D t) (smC D t) ksi mi true ks5 m5 → (!endX t || decide (i + 1 = l.length)) = true → Kp (lwS A) H H5 ∧ (∃ ksi mi, LX K H0 H5 A rs hds ksi mi ∧ Res (txsL (l.take (i + 1))) (preX (smX rs hds D) l (i + 1)) ((l.take (i + 1)).flatMap (smN D)) ((l.take (i + 1)).map (smC D)).sum ks m true ksi mi) := fun H5 ks5 m5 sc5 k5 r5 e => by
          refine ⟨k5, ks5, m5, sc5, ?_⟩
          rw [txsL_take ht, preX_succ ht, take_one ht, List.flatMap_append, List.map_append, List.sum_append]
          unfold okT
          rw [e, Bool.and_true]
          simpa using r3.cons sc.nd r5
        refine ⟨_, rfl, _, rfl, p, _, _, _, rfl, rfl, sqT_sm sc3.s0 hp0, atI_nat hx, ?_⟩
        dsimp only [gName, List.set]
        refine ⟨_, rfl, A.d, _, rfl, sc3.gm, _, _, rfl, rfl, _, rfl, A.d, _, rfl, .inl ⟨_, .inr "many", sc3.ob, rfl, by rw [sizeLine_eq]; exact (show 4 < 16777216 by decide), rfl⟩, ?_⟩
        have hm : putK (stD A.r A.h A.k mi) (.inr "many") (.int ((mi : Nat) + 1 : Int)) = stD A.r A.h A.k (mi + 1) := stD_put _ _ _ mi (mi + 1)
        rw [hm]
        obtain ⟨sc4, k34⟩ := sc3.setM (n := mi + 1)
        have k4 := k3.trans k34
        have r0 : Res [] true [] 1 ksi mi (decide (mi + 1 ≤ 25)) ksi (mi + 1) := Res.one r3.nd
        generalize upd H3 A.d (.dK (stD A.r A.h A.k (mi + 1))) = H4 at sc4 k4 ⊢
        have w4 := wtt.sm sc4.s0
        have no4 : smX rs hds D t = false → Q (.bl false) H4 := fun e => bad _ _ _ sc4 k4 ((r0.fail fun z hz => nomatch hz).ok e.symm)
        refine ⟨_, rfl, _, _, _, _, isT t.pd, rfl, .ty _, w4.ty, kit_tup t.pd, _, rfl, ?_⟩
        cases hT2 : isT t.pd with
        | false => exact ifT rfl (no4 (smX_noT hT2))
        | true =>
        obtain ⟨py, ts, rfl⟩ := tup_of hT2
        obtain ⟨hs0, _, wt2⟩ := wtt.nd_inv
        have hs4 := sqT_sm sc4.s0 hs0
        have ll2 : (ts.map Tr.v).length = ts.length := List.length_map ..
        refine ifF rfl ⟨_, rfl, py, _, rfl, .inr hs4, _, _, rfl, rfl, _, rfl, ?_⟩
        by_cases l2 : 2 ≤ ts.length
        case neg => exact ifD (by omega) (no4 (smX_one (by omega)))
        refine ifN (by omega) ?_
        obtain ⟨a, b, r, rfl⟩ := len_ge2 l2
        have ha := wt2 a (List.mem_cons_self ..)
        refine ⟨_, rfl, py, _, 0, _, rfl, rfl, hs4, atI_nat (j := 0) rfl, _, _, _, _, isS a.pd, rfl, .ty _, (ha.sm sc4.s0).ty, kit_str a.pd, _, rfl, ?_⟩
        cases hS : isS a.pd with
        | false => exact ifT rfl (no4 (smX_noS hS))
        | true =>
        obtain ⟨wd, rfl⟩ := str_of hS
        have eX : smX rs hds D (.nd py (.str wd :: b :: r)) = if wd = "if" ∨ wd = "while" then ifX (exX rs 4) (bdX rs hds D) wd (b :: r) else plainX rs hds (.nd py (.str wd :: b :: r)) := rfl
        have eN : smN D (.nd py (.str wd :: b :: r)) = if wd = "if" ∨ wd = "while" then ifNs (exN 4) (bdN D) (b :: r) else plainN (.nd py (.str wd :: b :: r)) := rfl
        have eC : smC D (.nd py (.str wd :: b :: r)) = 1 + (if wd = "if" ∨ wd = "while" then ifC (bdC D) (b :: r) else 0) := rfl
        refine ifF rfl ⟨_, rfl, A.d, _, rfl, sc4.gm, _, _, rfl, rfl, _, rfl, ?_⟩
        by_cases cm : mi + 1 ≤ 25
        case neg =>
          rw [decide_eq_false cm] at r0
          refine ifD (by omega) (bad _ _ _ sc4 k4 ?_)
          rw [eC]
          refine ((r0.stop (T := []) (ok2 := smX rs hds D (.nd py (.str wd :: b :: r))) (ms := smN D (.nd py (.str wd :: b :: r))) (d := if wd = "if" ∨ wd = "while" then ifC (bdC D) (b :: r) else 0) r3.nd).cong r3.nd (fun z hz => nomatch hz) fun z => Iff.rfl).ok (Bool.true_and _)
        rw [decide_eq_true cm] at r0
        refine ifN (by omega) ?_
        have eE : endX (.nd py (.str wd :: b :: r)) = decide (wd ∈ (["give", "fail"] : List Str)) := rfl
        dsimp only [tNext]
        refine ifs_by (fun σ' H' => (LX K H0 H' A rs hds ksi (mi + 1) ∧ Kp (lwS A) H H' ∧ (!endX (.nd py (.str wd :: b :: r)) || decide (i + 1 = l.length)) = true) ∧ σ' = [some (.ref p), some (.int deep), some (.ref A.d), some (.int (i : Nat)), some (.ref py), x5]) ?_ fun N hN => ?_
        rotate_left
        · refine ⟨_, rfl, py, _, 0, _, rfl, rfl, hs4, atI_nat (j := 0) rfl, big 2 (by decide), fun L nL => ?_⟩
          have u1 := same_new (o := .lst [V.str "give", .str "fail"]) nL
          have sc5 := sc4.sm u1
          have k5 := k4.trans (Kp.of_same (S := lwS A) u1)
          have e1 : upd H4 L (.lst [V.str "give", .str "fail"]) L = some (.lst [V.str "give", .str "fail"]) := upd_same
          have inW : inV (V.str wd) [V.str "give", .str "fail"] = decide (wd ∈ (["give", "fail"] : List Str)) := in_strs (ws := ["give", "fail"])
          refine ⟨L, _, rfl, .inl (.of e1), rfl, by decide +kernel, _, rfl, ?_⟩
          cases he : endX (.nd py (.str wd :: b :: r)) with
          | false =>
            refine ifF (by exact inW.trans (eE.symm.trans he)) (hN _ _ ⟨⟨sc5, k5, by rw [he]; rfl⟩, rfl⟩)
          | true =>
            refine ifT (by exact inW.trans (eE.symm.trans he)) ⟨_, rfl, _, _, rfl, rfl, _, rfl, p, _, rfl, .inr (sqT_sm sc5.s0 hp0), _, _, rfl, rfl, _, rfl, ?_⟩
            by_cases hl : i + 1 = l.length
            · exact ifN (by omega) (hN _ _ ⟨⟨sc5, k5, by rw [he, decide_eq_true hl]; rfl⟩, rfl⟩)
            · exact ifD (by omega) (badE _ _ _ _ _ _ _ _ sc5 k5 r0 (fun z hz => nomatch hz) he hl)
        rintro σ' H5 ⟨⟨sc5, k5, okE⟩, rfl⟩
        have hs5 := sqT_sm sc5.s0 hs0
        have big2 : 2 ≤ sizeLine := big 2 (by decide)
        refine ⟨_, rfl, py, _, 0, _, rfl, rfl, hs5, atI_nat (j := 0) rfl, big2, fun L nL => ?_⟩
        have u1 := same_new (o := .lst [V.str "if", .str "while"]) nL
        have sc6 := sc5.sm u1
        have k6 := k5.trans (Kp.of_same (S := lwS A) u1)
        have e1 : upd H5 L (.lst [V.str "if", .str "while"]) L = some (.lst [V.str "if", .str "while"]) := upd_same
        have inW : inV (V.str wd) [V.str "if", .str "while"] = decide (wd ∈ (["if", "while"] : List Str)) := in_strs (ws := ["if", "while"])
        refine ⟨L, _, rfl, .inl (.of e1), rfl, by decide +kernel, _, rfl, ?_⟩
        generalize upd H5 L (.lst [V.str "if", .str "while"]) = H6 at sc6 k6 ⊢
        have hs6 := sqT_sm sc6.s0 hs0
        by_cases cw : wd = "if" ∨ wd = "while"
        case neg =>
          rw [eX, eN, eC, if_neg cw, if_neg cw, if_neg cw] at bad good
          refine ifF (by exact inW.trans (decide_eq_false fun z => cw (by simpa using z))) ⟨_, rfl, _, rfl, A, py, wd, b :: r, H0, rs, hds, ksi, mi + 1, rfl, sc6, wtt, by omega, fun H7 b7 ks7 sc7 k7 r7 => ⟨_, rfl, ?_⟩⟩
          have rr := r0.cons r3.nd r7
          cases b7 with
          | false => exact ifT rfl (bad _ _ _ sc7 (k6.trans k7) rr)
          | true =>
            obtain ⟨g1, g2⟩ := good _ _ _ sc7 (k6.trans k7) rr okE
            exact ifF rfl ⟨g1, g2, _, _, _, rfl⟩
        rw [eX, eN, eC, if_pos cw, if_pos cw, if_pos cw] at bad good
        have no6 : ∀ H', LX K H0 H' A rs hds ksi (mi + 1) → Kp (lwS A) H H' → ifX (exX rs 4) (bdX rs hds D) wd (b :: r) = false → Q (.bl false) H' := fun H' sc' k' e => bad _ _ _ sc' k' ((r0.fail fun z hz => nomatch hz).ok e.symm)
        refine ifT (by exact inW.trans (decide_eq_true (by simpa using cw))) ⟨_, rfl, _, _, rfl, rfl, _, rfl, ?_⟩
        cases D with
        | zero =>
          refine ifD (by omega) (no6 _ sc6 k6 ?_)
          show (decide (r.length = ifn wd) && (exX rs 4 b && r.all fun _ => false)) = false
          cases r with
          | nil => rw [decide_eq_false (by unfold ifn; split <;> simp), Bool.false_and]
          | cons b bs => rw [List.all_cons, Bool.false_and, Bool.and_false, Bool.and_false]
        | succ D =>
        refine ifN (by omega) ⟨_, rfl, py, _, rfl, .inr hs6, ?_⟩
        intro p2 np2
        have hget : ∃ n : Nat, valV (mergeK [] kvIf) (.inr wd) = some (.int (n : Int)) ∧ n = 2 + ifn wd := by
          rcases cw with rfl | rfl
          · exact ⟨4, rfl, rfl⟩
          · exact ⟨3, rfl, rfl⟩
        obtain ⟨n, hget, hn⟩ := hget
        have s7 : Same H6 (upd (upd H6 p2 (.dK [])) p2 (.dK (mergeK [] kvIf))) := fun c x e => by
          rw [upd_ne (ne_of_none e np2), upd_ne (ne_of_none e np2)]; exact e
        have hs7 := sqT_sm s7 hs6
        have hdg := DGet.k (H := upd (upd H6 p2 (.dK [])) p2 (.dK (mergeK [] kvIf))) (k := .inr wd) upd_same
        rw [hget] at hdg
        refine ⟨upd_same, kvIf, rfl, by decide, _, rfl, py, _, 0, _, rfl, rfl, hs7, atI_nat (j := 0) rfl, p2, _, rfl, hdg, ?_⟩
        have sc7 := sc6.sm s7
        have k7 : Kp (lwS A) H (upd (upd H6 p2 (.dK [])) p2 (.dK (mergeK [] kvIf))) := k6.trans (Kp.of_same s7)
        generalize upd (upd H6 p2 (.dK [])) p2 (.dK (mergeK [] kvIf)) = H7 at sc7 k7 hs7 ⊢
        refine ⟨rfl, _, rfl, ?_⟩
        have l1 : ((Tr.str wd :: b :: r).map Tr.v).length = r.length + 2 := by rw [List.length_map, List.length_cons, List.length_cons]
        by_cases cl : r.length = ifn wd
        case neg =>
          refine ifNT (fun z => cl (by have := V.int.inj z; omega)) (no6 _ sc7 k7 ?_)
          show (decide (r.length = ifn wd) && _) = false
          rw [decide_eq_false cl, Bool.false_and]
        have eI : ifX (exX rs 4) (bdX rs hds (D + 1)) wd (b :: r) = (exX rs 4 b && r.all (bdX rs hds (D + 1))) := by
          show (decide (r.length = ifn wd) && _) = _
          rw [decide_eq_true cl, Bool.true_and]
        have eI2 : ifNs (exN 4) (bdN (D + 1)) (b :: r) = exN 4 b ++ r.flatMap (bdN (D + 1)) := rfl
        have eI3 : ifC (bdC (D + 1)) (b :: r) = (r.map (bdC (D + 1))).sum := rfl
        rw [eI, eI2, eI3] at bad good
        have lS : (txs (.nd py (.str wd :: b :: r))).length = 1 + (txs b).length + (txsL r).length := by
          rw [txs_nd, txsL, txsL, txs_str]
          simp only [List.length_append, List.length_cons, List.length_nil]
          omega
        have wb := wt2 b (by simp)
        refine ifNF (by congr 1; omega) ⟨_, rfl, py, _, 1, _, rfl, rfl, hs7, atI_nat (j := 1) rfl, _, rfl, 4, A, b, H0, rs, hds, ksi, mi + 1, 1, rfl, rfl, sc7, wb, by omega, rfl, fun H8 b8 ks8 sc8 k8 r8 => ⟨_, rfl, ?_⟩⟩
        have k8 := k7.trans k8
        have inS1 : ∀ z ∈ txs b, z ∈ txs (.nd py (.str wd :: b :: r)) := txs_in (by simp)
        have inS2 : ∀ z ∈ txsL r, z ∈ txs (.nd py (.str wd :: b :: r)) := fun z hz => by
          rw [txs_nd, txsL_drop1, txsL_drop1]
          exact List.mem_append_right _ (List.mem_append_right _ hz)
        have lk8 := r8.len r3.nd
        have r08 := r0.cons r3.nd r8
        cases b8 with
        | false =>
          refine ifT rfl (bad _ _ _ sc8 k8 ?_)
          have := r08.stop (T := []) (ok2 := r.all (bdX rs hds (D + 1))) (ms := r.flatMap (bdN (D + 1))) (d := (r.map (bdC (D + 1))).sum) r3.nd
          exact (this.cong r3.nd (fun z hz => inS1 z (by simpa using hz)) fun z => Iff.rfl).ok (by rw [Bool.true_and])
        | true =>
        have hs8 := sqT_sm sc8.s0 hs0
        refine ifF rfl ?_
        refine ⟨_, rfl, 2, rfl, py, _, rfl, hs8, fun z => ?_, fun _ S nS => ?_⟩
        · have := z.1
          rw [show (2 : Int) = ((2 : Nat) : Int) from rfl, HT.sIx_nat] at this
          simp only [List.length_map, List.length_cons] at this
          have h1 : 1 ≤ r.length := by rw [cl]; unfold ifn; split <;> omega
          omega
        rw [show (2 : Int) = ((2 : Nat) : Int) from rfl, cutV_from]
        have u9 := same_new (o := .tup (r.map Tr.v)) nS
        have sc9 := sc8.sm u9
        have k9 : Kp (lwS A) H (upd H8 S (.tup (r.map Tr.v))) := k8.trans (Kp.of_same u9)
        have hS9 : SqT K (upd H8 S (.tup (r.map Tr.v))) S (r.map Tr.v) := .of upd_same
        show ∃ _, _
        refine ⟨S, rfl, ⟨_, hS9⟩, fun Dl nD => ?_⟩
        have nD : upd H8 S (.tup (r.map Tr.v)) Dl = none := nD
        have sD := same_new (o := .lst []) nD
        have nD0 := none_of sc9.s0 nD
        have nDS := sc9.nS nD
        have nDr : A.r ≠ Dl := ne_of_none sc9.rk nD
        have nDk : A.k ≠ Dl := ne_of_none sc9.kk nD
        have lys : (r.map Tr.v).length = r.length := List.length_map ..
        have lb2 : r.length ≤ 2 := by rw [cl]; unfold ifn; split <;> omega
        refine lc_tup (K := K) (a := S) (xs := r.map Tr.v) (fun j H' => Kp (lwS A) (upd H8 S (.tup (r.map Tr.v))) H' ∧ ∃ (ksj : List Str) (mj : Nat) (bl : List Bool), LX K H0 H' A rs hds ksj mj ∧ bl.length = j ∧ H' Dl = some (.lst (bl.map V.bl)) ∧ Res (txsL (r.take j)) ((r.take j).all (bdX rs hds (D + 1))) ((r.take j).flatMap (bdN (D + 1))) ((r.take j).map (bdC (D + 1))).sum ks8 (mi + 1) (bl.all id) ksj mj) ?_ ?_ ?_ ?_
        · exact ⟨Kp.of_same sD, ks8, mi + 1, [], sc9.sm sD, rfl, upd_same, Res.plain sc8.nd⟩
        · rintro j H' _ ⟨k', _⟩
          exact sqT_kp k' hS9
        · rintro j y Ha hy ⟨ka, ksj, mj, bl, sca, lj, ea, ra⟩
          obtain ⟨t, ht, rfl⟩ := tr_at hy
          have jl : j < r.length := (List.getElem?_eq_some_iff.mp ht).1
          have lj2 := ra.len sc8.nd
          have lx2 := txsL_take_le ht
          have wtt := wt2 t (List.mem_cons_of_mem _ (List.mem_cons_of_mem _ (List.mem_of_getElem? ht)))
          refine ⟨rfl, _, rfl, _, rfl, _, _, rfl, rfl, _, rfl, A, t, H0, rs, hds, ksj, mj, deep + 1, by omega, rfl, sca, wtt, by omega, by omega, fun Hb bb ksb mb scb kb rb => ?_⟩
          have eb := kb _ _ ea fun z => absurd z nDS
          refine ⟨_, eb, by rw [List.length_map, sizeLine_eq]; omega, kp_at (ka.trans kb) nD, ksb, mb, bl ++ [bb], scb.lst eb nD0 nDr nDk, by rw [List.length_append, lj]; rfl, by rw [upd_same, List.map_append]; rfl, ?_⟩
          have := Res.snoc ht sc8.nd ra rb
          rw [List.all_append]
          simpa using this
        · rintro Ha ⟨ka, ksj, mj, bl, sca, lj, ea, ra⟩
          rw [lys, List.take_length] at ra
          refine ⟨Dl, _, rfl, .inl (.of ea), ?_⟩
          have rr := ((r08.cons r3.nd ra).cong r3.nd (S' := txs (.nd py (.str wd :: b :: r))) (fun z hz => by
            rcases List.mem_append.mp hz with h | h
            · exact inS1 z (by simpa using h)
            · exact inS2 z h) fun z => Iff.rfl).ok (show _ = (exX rs 4 b && r.all (bdX rs hds (D + 1))) by rw [Bool.true_and])
          cases hb : bl.all id with
          | false =>
            rw [hb] at rr
            exact ⟨_, rfl, ifT rfl (bad _ _ _ sca (k9.trans ka) rr)⟩
          | true =>
            rw [hb] at rr
            obtain ⟨g1, g2⟩ := good _ _ _ sca (k9.trans ka) rr okE
            exact ⟨_, rfl, ifF rfl ⟨g1, g2, _, _, _, rfl⟩⟩
      · rintro σ' H3 ⟨k3, ⟨ksi, mi, sc3, r3⟩, x3, x4, x5, rfl⟩
        rw [ll, List.take_length] at r3
        exact q _ _ _ _ sc3 k3 r3
end

theorem merge_stD (r h k : Addr) : mergeK [] (stD r h k 0) = stD r h k 0 := rfl
section
variable {P : Program} {w : World} {K : PySem.W.Frag} {mg : Str → Option Value} {base : Heap}
theorem ok_lparX (T : Top K mg) : FnOk P w K mg base CX0 3 (He.ga K "_law_are_params") T.fd__law_are_params ["_law_thing"] (sp_parX K) := by
  have G__law_is_name := ok__law_is_name (P := P) (w := w) (base := base) T
  refine T.F__law_are_params.ok sc__law_are_params (fun vs H Q E h => ?_) (fun cdv A outer s H vs Q E hr h => ?_)
  · obtain ⟨t, rfl, _⟩ := h
    rfl
  · obtain ⟨t, rfl, wt, q⟩ := h
    refine ⟨_, PSs.nox (pss_cons (ps_if (PW.pt (pw_or (pt_not (pt_val (pe_callB call_isi (by rfl) T.m_isinstance (by decide +kernel) (pa_cons (pv 0) (pa_cons (pe_bltn (v := .ty "tuple") (by rfl) T.m_tuple (by decide +kernel) rfl) pa_nil))))) (pw_or (pt_cmpR op_gt (pe_callB call_len_seq (by rfl) T.m_len (by decide +kernel) (pa_cons (pv 0) pa_nil)) pe_int (nomark _)) (pw_or1 (pt_not (pt_val (pe_callB (cr_all (by rfl)) (by rfl) T.m_all (by decide +kernel) (pa_cons (pe_lc (own := [("_law_one", 1)]) (by rfl) sc__law_are_params.nd (pi_tup (pv 0)) (blkOk_by (own := [("_law_one", 1)]) (N := N__law_are_params) (sc := defScope s__law_are_params) (by decide +kernel)) (fun _ _ _ _ _ => (pg_name (i := 1) sc__law_are_params.nd rfl (Or.inl rfl))) (fun _ _ _ _ _ => pts_nil) (fun _ _ _ _ _ => (pe_call G__law_is_name (hr.mono (by omega)) (by rfl) T.g__law_is_name T.F__law_is_name.kp T.b__law_is_name .nil pass0 (pa_cons (pv 1) pa_nil)))) pa_nil)))))))) (pss_one (ps_ret pe_bl)) pss_nil)
        (pss_one (ps_ret (pe_cmpR op_eq (SetD.pe_lenSetD (by rfl) (by rfl) T.m_len (by rfl) T.m_set (pv 0)) (pe_callB call_len_seq (by rfl) T.m_len (by decide +kernel) (pa_cons (pv 0) pa_nil)) (nomark _))))), ?_⟩
    refine ⟨_, rfl, _, _, _, _, isT t.pd, rfl, .ty _, wt.ty, kit_tup t.pd, _, rfl, ?_⟩
    cases hT : isT t.pd with
    | false =>
      have e : parX t = false := by cases t <;> first | rfl | cases hT
      rw [e] at q
      exact ifT rfl (q _ (Same.refl _))
    | true =>
    obtain ⟨p, l, rfl⟩ := tup_of hT
    obtain ⟨hp, lts, wts⟩ := wt.nd_inv
    have ll : (l.map Tr.v).length = l.length := List.length_map ..
    have eX : parX (.nd p l) = (decide (l.length ≤ 4) && (l.all nmX && decide ((l.map trS).Nodup))) := rfl
    rw [eX] at q
    refine ifF rfl ⟨_, rfl, p, _, rfl, .inr hp, _, _, rfl, rfl, _, rfl, ?_⟩
    by_cases c : l.length ≤ 4
    case neg =>
      rw [decide_eq_false c, Bool.false_and] at q
      exact ifD (by omega) (q _ (Same.refl _))
    rw [decide_eq_true c, Bool.true_and] at q
    refine ifN (by omega) ⟨_, rfl, p, rfl, ⟨_, hp⟩, fun D nD => ?_⟩
    have s1 := same_new (o := .lst []) nD
    refine lc_tup (K := K) (a := p) (xs := l.map Tr.v) (fun j H' => Same H H' ∧ ∃ bs : List Bool, bs.length = j ∧ H' D = some (.lst (bs.map V.bl)) ∧ bs.all id = (l.take j).all nmX) ?_ ?_ ?_ ?_
    · exact ⟨s1, [], rfl, upd_same, rfl⟩
    · intro j H' _ k
      exact sqT_sm k.1 hp
    · rintro j y H2 hy ⟨k2, bs, lj, e2, ea⟩
      obtain ⟨t, ht, rfl⟩ := tr_at hy
      have jl : j < l.length := (List.getElem?_eq_some_iff.mp ht).1
      refine ⟨rfl, _, rfl, ?_⟩
      dsimp only [tNil]
      refine isn_of ((wts t (List.mem_of_getElem? ht)).sm k2) fun H3 s3 => ?_
      have e3 := s3 _ _ e2
      refine ⟨_, e3, by rw [List.length_map, sizeLine_eq]; omega, ?_, bs ++ [nmX t], by rw [List.length_append, lj]; rfl, by rw [upd_same, List.map_append]; rfl, ?_⟩
      · exact fun c x e => by rw [upd_ne (ne_of_none e nD)]; exact (k2.trans s3) c x e
      · rw [take_one ht, List.all_append, List.all_append, ea]
        simp
    · rintro H2 ⟨k2, bs, lj, e2, ea⟩
      rw [ll, List.take_length] at ea
      refine ⟨D, _, rfl, .inl (.inl e2), ?_⟩
      rw [ea]
      cases hn : l.all nmX with
      | false =>
        rw [hn, Bool.false_and] at q
        exact ⟨_, rfl, ifT rfl (q _ k2)⟩
      | true =>
        rw [hn, Bool.true_and] at q
        have hp2 := sqT_sm k2 hp
        have hp3 := hp2
        rw [names_v hn] at hp3
        refine ⟨_, rfl, ifF rfl ⟨_, rfl, p, l.map trS, rfl, hp3, by rw [List.length_map]; omega, _, rfl, p, _, rfl, .inr hp2, rfl, ?_⟩⟩
        show Q (.bl (decide (V.int ((un [] (l.map trS)).length : Nat) = V.int ((l.map Tr.v).length : Nat)))) H2
        have e : decide (V.int ((un [] (l.map trS)).length : Nat) = V.int ((l.map Tr.v).length : Nat)) = decide ((l.map trS).Nodup) := by
          refine decide_eq_decide.mpr ?_
          rw [← un_nodup, List.length_map, List.length_map]
          exact ⟨fun z => by have := V.int.inj z; omega, fun z => by rw [z]⟩
        rw [e]
        exact q _ k2
theorem ok_lprogX (T : Top K mg) : FnOk P w K mg base CX0 17 (He.ga K "_law_is_program") T.fd__law_is_program ["_law_thing"] (sp_progX K) := by
  have G__law_is_name := ok__law_is_name (P := P) (w := w) (base := base) T
  have G__law_are_params := ok_lparX (P := P) (w := w) (base := base) T
  have G__law_fits_body := ok_lbdX (P := P) (w := w) (base := base) T 5
  have G__law_is_number := ok_lnumX (P := P) (w := w) (base := base) T
  refine T.F__law_is_program.ok sc__law_is_program (fun vs H Q E h => ?_) (fun cdv A outer s H vs Q E hr h => ?_)
  · obtain ⟨t, rfl, _⟩ := h
    rfl
  · obtain ⟨t, rfl, wt, lb, q⟩ := h
    refine ⟨_, PSs.nox (pss_cons (ps_if (PW.pt (pw_or (pt_not (pt_val (pe_callB call_isi (by rfl) T.m_isinstance (by decide +kernel) (pa_cons (pv 0) (pa_cons (pe_bltn (v := .ty "tuple") (by rfl) T.m_tuple (by decide +kernel) rfl) pa_nil))))) (pw_or (pt_cmpR op_ne (pe_callB call_len_seq (by rfl) T.m_len (by decide +kernel) (pa_cons (pv 0) pa_nil)) pe_int (nomark _)) (pw_or (pt_not (pt_val (pe_callB call_isi (by rfl) T.m_isinstance (by decide +kernel) (pa_cons (pe_ix ix_tup (pv 0) pe_int (fun _ _ => rfl)) (pa_cons (pe_bltn (v := .ty "tuple") (by rfl) T.m_tuple (by decide +kernel) rfl) pa_nil))))) (pw_or1 (pt_cmpR op_gt (pe_callB call_len_seq (by rfl) T.m_len (by decide +kernel) (pa_cons (pe_ix ix_tup (pv 0) pe_int (fun _ _ => rfl)) pa_nil)) pe_int (nomark _))))))) (pss_one (ps_ret pe_bl)) pss_nil)
        (pss_cons (ps_set (i := 1) sc__law_is_program.nd rfl (Or.inl rfl) pe_dnewK)
        (pss_cons (ps_for PassesOwn.never (by rfl) (pi_tup (pe_ix ix_tup (pv 0) pe_int (fun _ _ => rfl))) (pg_name (i := 2) sc__law_is_program.nd rfl (Or.inl rfl)) (pss_cons (ps_if (PW.pt (pw_or (pt_not (pt_val (pe_callB call_isi (by rfl) T.m_isinstance (by decide +kernel) (pa_cons (pv 2) (pa_cons (pe_bltn (v := .ty "tuple") (by rfl) T.m_tuple (by decide +kernel) rfl) pa_nil))))) (pw_or (pt_cmpR op_ne (pe_callB call_len_seq (by rfl) T.m_len (by decide +kernel) (pa_cons (pv 2) pa_nil)) pe_int (nomark _)) (pw_or (pt_not (pt_val (pe_call G__law_is_name (hr.mono (by omega)) (by rfl) T.g__law_is_name T.F__law_is_name.kp T.b__law_is_name .nil pass0 (pa_cons (pe_ix ix_tup (pv 2) pe_int (fun _ _ => rfl)) pa_nil)))) (pw_or1 (pt_cmp (pc_din (hu_of hr) (pe_ix ix_tup (pv 2) pe_int (fun _ _ => rfl)) (pv 1)))))))) (pss_one (ps_ret pe_bl)) pss_nil)
        (pss_cons (ps_if (pt_not (pt_val (pe_call G__law_are_params (hr.mono (by omega)) (by rfl) T.g__law_are_params T.F__law_are_params.kp T.b__law_are_params .nil pass0 (pa_cons (pe_ix ix_tup (pv 2) pe_int (fun _ _ => rfl)) pa_nil)))) (pss_one (ps_ret pe_bl)) pss_nil)
        (pss_cons (ps_if (pt_not (pt_val (pe_call G__law_fits_body (hr.mono (by omega)) (by rfl) T.g__law_fits_body T.F__law_fits_body.kp T.b__law_fits_body .nil pass0 (pa_cons (pe_ix ix_tup (pv 2) pe_int (fun _ _ => rfl)) (pa_cons pe_int (pa_cons (pe_disp (pps_cons pe_str (pe_lst pa_nil) (pps_cons pe_str (pv 1) (pps_cons pe_str (pe_callTy call_list_of (by rfl) T.m_list (by decide +kernel) (pa_cons (pe_ix ix_tup (pv 2) pe_int (fun _ _ => rfl)) pa_nil)) (pps_cons pe_str pe_int pps_nil)))) (by rfl) (by rfl) (fun z => by cases z) (by decide)) pa_nil)))))) (pss_one (ps_ret pe_bl)) pss_nil)
        (pss_one (ps_dput (hu_of hr) (pv 1) (pe_ix ix_tup (pv 2) pe_int (fun _ _ => rfl)) (pe_callB call_len_seq (by rfl) T.m_len (by decide +kernel) (pa_cons (pe_ix ix_tup (pv 2) pe_int (fun _ _ => rfl)) pa_nil)) (by rfl)))))))
        (pss_cons (ps_if (PW.pt (pw_or (pt_not (pt_val (pe_call G__law_are_params (hr.mono (by omega)) (by rfl) T.g__law_are_params T.F__law_are_params.kp T.b__law_are_params .nil pass0 (pa_cons (pe_ix ix_tup (pv 0) pe_int (fun _ _ => rfl)) pa_nil)))) (pw_or (pt_not (pt_val (pe_callB call_isi (by rfl) T.m_isinstance (by decide +kernel) (pa_cons (pe_ix ix_tup (pv 0) pe_int (fun _ _ => rfl)) (pa_cons (pe_bltn (v := .ty "tuple") (by rfl) T.m_tuple (by decide +kernel) rfl) pa_nil))))) (pw_or1 (pt_cmpR op_gt (pe_callB call_len_seq (by rfl) T.m_len (by decide +kernel) (pa_cons (pe_ix ix_tup (pv 0) pe_int (fun _ _ => rfl)) pa_nil)) pe_int (nomark _)))))) (pss_one (ps_ret pe_bl)) pss_nil)
        (pss_cons (ps_set (i := 3) sc__law_is_program.nd rfl (Or.inl rfl) (pe_lst pa_nil))
        (pss_cons (ps_for PassesOwn.never (by rfl) (pi_tup (pe_ix ix_tup (pv 0) pe_int (fun _ _ => rfl))) (pg_name (i := 2) sc__law_is_program.nd rfl (Or.inl rfl)) (pss_cons (ps_if (PW.pt (pw_or (pt_not (pt_val (pe_callB call_isi (by rfl) T.m_isinstance (by decide +kernel) (pa_cons (pv 2) (pa_cons (pe_bltn (v := .ty "tuple") (by rfl) T.m_tuple (by decide +kernel) rfl) pa_nil))))) (pw_or (pt_cmpR op_ne (pe_callB call_len_seq (by rfl) T.m_len (by decide +kernel) (pa_cons (pv 2) pa_nil)) pe_int (nomark _)) (pw_or (pt_not (pt_val (pe_call G__law_is_name (hr.mono (by omega)) (by rfl) T.g__law_is_name T.F__law_is_name.kp T.b__law_is_name .nil pass0 (pa_cons (pe_ix ix_tup (pv 2) pe_int (fun _ _ => rfl)) pa_nil)))) (pw_or1 (pt_not (pt_val (pe_call G__law_is_number (hr.mono (by omega)) (by rfl) T.g__law_is_number T.F__law_is_number.kp T.b__law_is_number .nil pass0 (pa_cons (pe_ix ix_tup (pv 2) pe_int (fun _ _ => rfl)) (pa_cons pe_int (pa_cons pe_int pa_nil))))))))))) (pss_one (ps_ret pe_bl)) pss_nil)
        (pss_cons (ps_if (PW.pt (pw_or (pt_cmpR op_in_seq (pe_ix ix_tup (pv 2) pe_int (fun _ _ => rfl)) (pv 3) (by rfl)) (pw_or1 (pt_cmpR op_in_seq (pe_ix ix_tup (pv 2) pe_int (fun _ _ => rfl)) (pe_ix ix_tup (pv 0) pe_int (fun _ _ => rfl)) (by rfl))))) (pss_one (ps_ret pe_bl)) pss_nil)
        (pss_one (ps_expr (pe_bm PySem.F.plainAttrs_list PySem.F.slot_list_append PySem.F.type_list_append mt_append (pv 3) (pa_cons (pe_ix ix_tup (pv 2) pe_int (fun _ _ => rfl)) pa_nil)))))))
        (pss_one (ps_ret (pe_call G__law_fits_body (hr.mono (by omega)) (by rfl) T.g__law_fits_body T.F__law_fits_body.kp T.b__law_fits_body .nil pass0 (pa_cons (pe_ix ix_tup (pv 0) pe_int (fun _ _ => rfl)) (pa_cons pe_int (pa_cons (pe_disp (pps_cons pe_str (pv 3) (pps_cons pe_str (pv 1) (pps_cons pe_str (pe_callTy call_list_of (by rfl) T.m_list (by decide +kernel) (pa_cons (pe_ix ix_tup (pv 0) pe_int (fun _ _ => rfl)) pa_nil)) (pps_cons pe_str pe_int pps_nil)))) (by rfl) (by rfl) (fun z => by cases z) (by decide)) pa_nil)))))))))))), ?_⟩
    refine ⟨_, rfl, _, _, _, _, isT t.pd, rfl, .ty _, wt.ty, kit_tup t.pd, _, rfl, ?_⟩
    cases hT : isT t.pd with
    | false =>
      have e : progX t = false := by cases t <;> first | rfl | cases hT
      rw [e] at q
      exact ifT rfl (q _ (Same.refl _))
    | true =>
    obtain ⟨p0, l0, rfl⟩ := tup_of hT
    obtain ⟨hp00, _, wts0⟩ := wt.nd_inv
    have ll0 : (l0.map Tr.v).length = l0.length := List.length_map ..
    refine ifF rfl ⟨_, rfl, p0, _, rfl, .inr hp00, rfl, _, rfl, ?_⟩
    by_cases l4 : l0.length = 4
    case neg =>
      have e : progX (.nd p0 l0) = false := by
        match l0, l4 with
        | [], _ => rfl
        | [a], _ => rfl
        | [a, b], _ => rfl
        | [a, b, c], _ => rfl
        | [a, b, c, d], h => exact absurd rfl h
        | a :: b :: c :: d :: e :: r, _ => rfl
      rw [e] at q
      exact ifNT (ne_int (by omega)) (q _ (Same.refl _))
    obtain ⟨hs, pm, rw', bdm, rfl⟩ := len_4 l4
    have eX0 : progX (.nd p0 [hs, pm, rw', bdm]) = progO pm rw' bdm (hsX hs) := rfl
    rw [eX0] at q
    have whs := wts0 hs (by simp)
    have wpm := wts0 pm (by simp)
    have wrw := wts0 rw' (by simp)
    have wbm := wts0 bdm (by simp)
    have lhs := txs_len (p := p0) (ts := [hs, pm, rw', bdm]) (t := hs) (by simp)
    have lbm := txs_len (p := p0) (ts := [hs, pm, rw', bdm]) (t := bdm) (by simp)
    have qn : hsX hs = none → ∀ H', Same H H' → Q (.bl false) H' := fun e H' s' => by
      rw [e] at q
      exact q _ s'
    refine ifNF rfl ⟨_, rfl, p0, _, 0, _, rfl, rfl, hp00, atI_nat (j := 0) rfl, _, _, _, _, isT hs.pd, rfl, .ty _, whs.ty, kit_tup hs.pd, _, rfl, ?_⟩
    cases hTh : isT hs.pd with
    | false =>
      have e : hsX hs = none := by cases hs <;> first | rfl | cases hTh
      exact ifT rfl (qn e _ (Same.refl _))
    | true =>
    obtain ⟨p, l, rfl⟩ := tup_of hTh
    obtain ⟨hp, lts, wts⟩ := whs.nd_inv
    have ll : (l.map Tr.v).length = l.length := List.length_map ..
    have eX : hsX (.nd p l) = if l.length ≤ 4 then hsGo [] l else none := rfl
    rw [eX] at q qn
    refine ifF rfl ⟨_, rfl, p0, _, 0, _, rfl, rfl, hp00, atI_nat (j := 0) rfl, p, _, rfl, .inr hp, _, _, rfl, rfl, _, rfl, ?_⟩
    by_cases c : l.length ≤ 4
    case neg =>
      rw [if_neg c] at qn
      exact ifD (by omega) (qn rfl _ (Same.refl _))
    rw [if_pos c] at q qn
    refine ifN (by omega) ?_
    intro d nd0
    have s1 := same_new (o := .dK []) nd0
    refine ⟨_, rfl, p0, _, 0, _, rfl, rfl, sqT_sm s1 hp00, atI_nat (j := 0) rfl, p, rfl, ⟨_, sqT_sm s1 hp⟩, for_tup (K := K) (xs := l.map Tr.v) (fun i σ' H' => Same H H' ∧ (∃ hds : List (Str × Nat), hds.length = i ∧ H' d = some (.dK (hdKv hds)) ∧ hsGo [] l = hsGo hds (l.drop i)) ∧ ∃ x2, σ' = [some (.ref p0), some (.ref d), x2, none]) ?_ ?_ ?_ ?_⟩
    · exact ⟨s1, ⟨[], rfl, upd_same, rfl⟩, none, rfl⟩
    · rintro i σ' H' _ ⟨s', _⟩
      exact sqT_sm s' hp
    · rintro i y σ' H2 hy ⟨s2, ⟨hds, lh, e2, eg⟩, x2, rfl⟩
      obtain ⟨t, hti, rfl⟩ := tr_at hy
      have il := (List.getElem?_eq_some_iff.mp hti).1
      have ed : l.drop i = t :: l.drop (i + 1) := by
        rw [List.drop_eq_getElem_cons il, (List.getElem?_eq_some_iff.mp hti).2]
      rw [ed] at eg
      have wtt0 := wts t (List.mem_of_getElem? hti)
      have wtt := wtt0.sm s2
      have ltt := txs_len (p := p) (List.mem_of_getElem? hti)
      dsimp only [gName, List.set]
      refine ⟨_, rfl, _, _, _, _, isT t.pd, rfl, .ty _, wtt.ty, kit_tup t.pd, _, rfl, ?_⟩
      cases hT2 : isT t.pd with
      | false =>
        have e : hsGo hds (t :: l.drop (i + 1)) = none := by cases t <;> first | rfl | cases hT2
        exact ifT rfl (qn (eg.trans e) _ s2)
      | true =>
      obtain ⟨py, ts, rfl⟩ := tup_of hT2
      obtain ⟨hw2, _, wt2⟩ := wtt.nd_inv
      refine ifF rfl ⟨_, rfl, py, _, rfl, .inr hw2, rfl, _, rfl, ?_⟩
      have l2e : (ts.map Tr.v).length = ts.length := List.length_map ..
      by_cases l3 : ts.length = 3
      case neg =>
        have e : hsGo hds (.nd py ts :: l.drop (i + 1)) = none := by
          match ts, l3 with
          | [], _ => rfl
          | [a], _ => rfl
          | [a, b], _ => rfl
          | [a, b, c], h => exact absurd rfl h
          | a :: b :: c :: d :: r, _ => rfl
        exact ifNT (ne_int (by omega)) (qn (eg.trans e) _ s2)
      obtain ⟨a, ps, bd, rfl⟩ := len_3 l3
      have e : hsGo hds (.nd py [a, ps, bd] :: l.drop (i + 1)) = if hpV hds a ps bd = true then hsGo (hds ++ [(trS a, (parL ps).length)]) (l.drop (i + 1)) else none := rfl
      rw [e] at eg
      have no : ∀ H', Same H H' → hpV hds a ps bd = false → Q (.bl false) H' := fun H' s' z => qn (by rw [eg, z]; rfl) _ s'
      refine ifNF rfl ⟨_, rfl, py, _, 0, _, rfl, rfl, hw2, atI_nat (j := 0) rfl, ?_⟩
      dsimp only [tNil]
      refine isn_of (wt2 a (by simp)) fun H3 s3 => ⟨_, rfl, ?_⟩
      have s03 := s2.trans s3
      have hw3 := sqT_sm s3 hw2
      cases hn : nmX a with
      | false => exact ifT rfl (no _ s03 (by unfold hpV; rw [hn, Bool.false_and, Bool.false_and]))
      | true =>
      have e3 := s3 _ _ e2
      have ea := nmX_str hn
      generalize ex : trS a = x at ea eg
      subst ea
      have hget : DGet H3 d (.str x) ((hds.lookup x).map fun n => V.int (n : Nat)) := by
        have := DGet.k (k := .inr x) e3
        rw [hdKv_get] at this
        exact this
      refine ifF rfl ⟨_, rfl, py, _, 0, _, rfl, rfl, hw3, atI_nat (j := 0) rfl, _, rfl, d, _, rfl, hget, _, rfl, ?_⟩
      have eV : hpV hds (.str x) ps bd = ((nmX (.str x) && (hds.lookup x).isNone) && (parX ps && bdV [] hds (parL ps) bd)) := rfl
      cases hl : hds.lookup x with
      | some n => exact ifT rfl (no _ s03 (by rw [eV, hl]; show ((nmX (.str x) && false) && _) = false; rw [Bool.and_false, Bool.false_and]))
      | none =>
      have eV2 : hpV hds (.str x) ps bd = (parX ps && bdV [] hds (parL ps) bd) := by
        rw [eV, hn, hl]
        rfl
      have wps := wt2 ps (by simp)
      have wbd := wt2 bd (by simp)
      refine ifF rfl ⟨_, rfl, py, _, 1, _, rfl, rfl, hw3, atI_nat (j := 1) rfl, ps, rfl, wps.sm s3, fun H4 s4 => ⟨_, rfl, ?_⟩⟩
      have s04 := s03.trans s4
      have s34 := s3.trans s4
      cases hpx : parX ps with
      | false => exact ifT rfl (no _ s04 (by rw [eV2, hpx, Bool.false_and]))
      | true =>
      obtain ⟨pp, lp, rfl, lp4, hpv, pnd, pln⟩ := parX_inv hpx
      have wps4 := (wps.sm s34).nd_inv.1
      rw [hpv] at wps4
      have hw4 := sqT_sm s4 hw3
      have e4 := s4 _ _ e3
      refine ifF rfl ⟨_, rfl, py, _, 2, _, rfl, rfl, hw4, atI_nat (j := 2) rfl, ?_⟩
      intro pd npd
      have u5 := same_new (o := .dK []) npd
      refine ⟨Nat.zero_le _, fun rA nrA => ?_⟩
      have u6 := same_new (o := .lst []) nrA
      have s46 := u5.trans u6
      refine ⟨_, rfl, _, rfl, py, _, 1, _, rfl, rfl, sqT_sm s46 hw4, atI_nat (j := 1) rfl, pp, _, rfl, .inr (sqT_sm s46 wps4), fun kA nkA => ?_⟩
      have u7 := same_new (o := .lst ((parL (.nd pp lp)).map V.str)) nkA
      have er : upd (upd (upd H4 pd (.dK [])) rA (.lst [])) kA (.lst ((parL (.nd pp lp)).map V.str)) rA = some (.lst (([] : List Str).map V.str)) := u7 _ _ upd_same
      have ep : upd (upd (upd H4 pd (.dK [])) rA (.lst [])) kA (.lst ((parL (.nd pp lp)).map V.str)) pd = some (.dK []) := u7 _ _ (u6 _ _ upd_same)
      have ek : upd (upd (upd H4 pd (.dK [])) rA (.lst [])) kA (.lst ((parL (.nd pp lp)).map V.str)) kA = some (.lst ((parL (.nd pp lp)).map V.str)) := upd_same
      have s47 := s46.trans u7
      have nrk : rA ≠ kA := ne_of_none (upd_same (H := upd H4 pd (.dK [])) (a := rA) (o := .lst [])) nkA
      have nk4 : H4 kA = none := none_sm s46 nkA
      generalize upd (upd (upd H4 pd (.dK [])) rA (.lst [])) kA (.lst ((parL (.nd pp lp)).map V.str)) = H7 at er ep ek s47 ⊢
      refine ⟨ep, stD rA d kA 0, rfl, by show 4 ≤ 15; decide, ?_⟩
      rw [merge_stD]
      have s48 : Same H4 (upd H7 pd (.dK (stD rA d kA 0))) := same_upd s47 npd
      have ndp : d ≠ pd := ne_of_none e4 npd
      have sc8 : LX K H4 (upd H7 pd (.dK (stD rA d kA 0))) ⟨pd, rA, d, kA⟩ [] hds (parL (.nd pp lp)) 0 := ⟨upd_same, (upd_ne fun z => by rw [← z, er] at ep; cases ep).trans er, ⟨_, s48 _ _ e4, fun x => hdKv_get x hds⟩, (upd_ne fun z => by rw [← z, ek] at ep; cases ep).trans ek, pnd, ndp, nrk, s48, npd, nk4⟩
      have lbd := txs_len (p := py) (ts := [.str x, .nd pp lp, bd]) (t := bd) (by simp)
      refine ⟨⟨pd, rA, d, kA⟩, bd, H4, [], hds, parL (.nd pp lp), 0, 0, by decide, rfl, sc8, wbd.sm s34, by omega, rfl, fun H9 b9 ks9 m9 sc9 k9 r9 => ⟨_, rfl, ?_⟩⟩
      have s49 : Same H4 H9 := Kp.same s48 k9 fun b e => by
        rcases e with e | e
        · rw [e]; exact npd
        · rw [e]; exact nk4
      have s09 := s04.trans s49
      have vb : b9 = bdV [] hds (parL (.nd pp lp)) bd := r9.val (by omega)
      cases b9 with
      | false => exact ifT rfl (no _ s09 (by rw [eV2, hpx, ← vb]; rfl))
      | true =>
      rw [eV2, hpx, ← vb, Bool.and_self, if_pos rfl] at eg
      have hw9 := sqT_sm s49 hw4
      have e9 := s49 _ _ e4
      refine ifF rfl ⟨_, rfl, py, _, 1, _, rfl, rfl, hw9, atI_nat (j := 1) rfl, pp, _, rfl, .inr (sqT_sm s49 wps4), _, rfl, _, rfl, py, _, 0, _, rfl, rfl, hw9, atI_nat (j := 0) rfl, d, _, rfl, .inl ⟨hdKv hds, .inr x, e9, rfl, ?_, rfl⟩, same_upd s09 nd0, ⟨hds ++ [(x, (parL (.nd pp lp)).length)], by rw [List.length_append, lh]; rfl, ?_, eg⟩, _, rfl⟩
      · unfold hdKv
        rw [List.length_map, sizeLine_eq]
        omega
      · rw [upd_same, List.length_map, hdKv_put hl]
    rintro σ' H1 ⟨s1, ⟨hds, lh, e1, eg⟩, x2, rfl⟩
    rw [ll, List.drop_length] at eg
    have eg : hsGo [] l = some hds := eg
    rw [eg] at q
    have eO : progO pm rw' bdm (some hds) = (parX pm && (rowsX (parL pm) rw' && bdV (rwsL rw') hds (parL pm) bdm)) := rfl
    rw [eO] at q
    have h01 := sqT_sm s1 hp00
    refine ⟨_, rfl, p0, _, 1, _, rfl, rfl, h01, atI_nat (j := 1) rfl, pm, rfl, wpm.sm s1, fun H2 s2 => ⟨_, rfl, ?_⟩⟩
    have s02 := s1.trans s2
    have h02 := sqT_sm s02 hp00
    cases hpx : parX pm with
    | false =>
      rw [hpx, Bool.false_and] at q
      exact ifT rfl (q _ s02)
    | true =>
    rw [hpx, Bool.true_and] at q
    obtain ⟨pp, lp, rfl, lp4, hpv, pnd, pln⟩ := parX_inv hpx
    have wps0 := wpm.nd_inv.1
    rw [hpv] at wps0
    generalize hps : parL (.nd pp lp) = ps at q wps0 pnd pln
    refine ifF rfl ⟨_, rfl, p0, _, 2, _, rfl, rfl, h02, atI_nat (j := 2) rfl, _, _, _, _, isT rw'.pd, rfl, .ty _, (wrw.sm s02).ty, kit_tup rw'.pd, _, rfl, ?_⟩
    cases hTr : isT rw'.pd with
    | false =>
      have e : rowsX ps rw' = false := by cases rw' <;> first | rfl | cases hTr
      rw [e, Bool.false_and] at q
      exact ifT rfl (q _ s02)
    | true =>
    obtain ⟨pr, lr, rfl⟩ := tup_of hTr
    obtain ⟨hrr, _, wrr⟩ := wrw.nd_inv
    have llr : (lr.map Tr.v).length = lr.length := List.length_map ..
    have eR : rowsX ps (.nd pr lr) = (decide (lr.length ≤ 3) && rowsGo ps lr) := rfl
    rw [eR] at q
    refine ifF rfl ⟨_, rfl, p0, _, 2, _, rfl, rfl, h02, atI_nat (j := 2) rfl, pr, _, rfl, .inr (sqT_sm s02 hrr), _, _, rfl, rfl, _, rfl, ?_⟩
    by_cases c3 : lr.length ≤ 3
    case neg =>
      rw [decide_eq_false c3, Bool.false_and, Bool.false_and] at q
      exact ifD (by omega) (q _ s02)
    rw [decide_eq_true c3, Bool.true_and] at q
    refine ifN (by omega) ⟨Nat.zero_le _, fun L nL => ?_⟩
    have u3 := same_new (o := .lst []) nL
    have s03 := s02.trans u3
    have e13 := u3 _ _ (s2 _ _ e1)
    have eL : upd H2 L (.lst []) L = some (.lst []) := upd_same
    generalize upd H2 L (.lst []) = H3 at s03 e13 eL ⊢
    have nL0 : H L = none := none_sm s02 nL
    have h03 := sqT_sm s03 hp00
    refine ⟨_, rfl, p0, _, 2, _, rfl, rfl, h03, atI_nat (j := 2) rfl, pr, rfl, ⟨_, sqT_sm s03 hrr⟩, for_tup (K := K) (xs := lr.map Tr.v) (fun i σ' H' => Same H H' ∧ H' d = some (.dK (hdKv hds)) ∧ H' L = some (.lst (((lr.take i).map rwS).map V.str)) ∧ rowsGo ps lr = rowsGo (ps ++ (lr.take i).map rwS) (lr.drop i) ∧ ∃ x2, σ' = [some (.ref p0), some (.ref d), x2, some (.ref L)]) ?_ ?_ ?_ ?_⟩
    · exact ⟨s03, e13, eL, by simp, _, rfl⟩
    · rintro i σ' H' _ ⟨s', _⟩
      exact sqT_sm s' hrr
    · rintro i y σ' H4 hy ⟨s04, e14, eL4, egr, x2', rfl⟩
      obtain ⟨t, hti, rfl⟩ := tr_at hy
      have il := (List.getElem?_eq_some_iff.mp hti).1
      have edr : lr.drop i = t :: lr.drop (i + 1) := by
        rw [List.drop_eq_getElem_cons il, (List.getElem?_eq_some_iff.mp hti).2]
      rw [edr] at egr
      have wtt := (wrr t (List.mem_of_getElem? hti)).sm s04
      dsimp only [gName, List.set]
      refine ⟨_, rfl, _, _, _, _, isT t.pd, rfl, .ty _, wtt.ty, kit_tup t.pd, _, rfl, ?_⟩
      cases hT2 : isT t.pd with
      | false =>
        have e : rowsGo (ps ++ (lr.take i).map rwS) (t :: lr.drop (i + 1)) = false := by cases t <;> first | rfl | cases hT2
        rw [egr, e, Bool.false_and] at q
        exact ifT rfl (q _ s04)
      | true =>
      obtain ⟨py, ts, rfl⟩ := tup_of hT2
      obtain ⟨hw2, _, wt2⟩ := wtt.nd_inv
      refine ifF rfl ⟨_, rfl, py, _, rfl, .inr hw2, rfl, _, rfl, ?_⟩
      have l2e : (ts.map Tr.v).length = ts.length := List.length_map ..
      by_cases l2 : ts.length = 2
      case neg =>
        have e : rowsGo (ps ++ (lr.take i).map rwS) (.nd py ts :: lr.drop (i + 1)) = false := by
          match ts, l2 with
          | [], _ => rfl
          | [a], _ => rfl
          | [a, b], h => exact absurd rfl h
          | a :: b :: c :: r, _ => rfl
        rw [egr, e, Bool.false_and] at q
        exact ifNT (ne_int (by omega)) (q _ s04)
      obtain ⟨a, z, rfl⟩ := len_2 l2
      have e : rowsGo (ps ++ (lr.take i).map rwS) (.nd py [a, z] :: lr.drop (i + 1)) = ((nmX a && (numX 1 8 z && !decide (trS a ∈ ps ++ (lr.take i).map rwS))) && rowsGo (ps ++ (lr.take i).map rwS ++ [trS a]) (lr.drop (i + 1))) := rfl
      rw [e] at egr
      rw [egr] at q
      refine ifNF rfl ⟨_, rfl, py, _, 0, _, rfl, rfl, hw2, atI_nat (j := 0) rfl, ?_⟩
      dsimp only [tNil]
      refine isn_of (wt2 a (by simp)) fun H5 s5 => ⟨_, rfl, ?_⟩
      have s05 := s04.trans s5
      have hw5 := sqT_sm s5 hw2
      cases hn : nmX a with
      | false =>
        rw [hn, Bool.false_and, Bool.false_and, Bool.false_and] at q
        exact ifT rfl (q _ s05)
      | true =>
      rw [hn, Bool.true_and] at q egr
      refine ifF rfl ⟨_, rfl, py, _, 1, _, rfl, rfl, hw5, atI_nat (j := 1) rfl, z, _, _, rfl, (wt2 z (by simp)).sm s5, _, rfl, ?_⟩
      cases hz : numX 1 8 z with
      | false =>
        rw [hz, Bool.false_and, Bool.false_and, Bool.false_and] at q
        exact ifT rfl (q _ s05)
      | true =>
      rw [hz, Bool.true_and] at q egr
      have ea := nmX_str hn
      generalize trS a = x at ea q egr
      subst ea
      have eL5 := s5 _ _ eL4
      have e15 := s5 _ _ e14
      have h05 := sqT_sm s05 hp00
      refine ifF rfl ⟨_, rfl, py, _, 0, _, rfl, rfl, hw5, atI_nat (j := 0) rfl, _, rfl, L, _, rfl, .inl (.of eL5), rfl, flat_strs _, _, rfl, ?_⟩
      have hin : inV (Tr.str x).v (((lr.take i).map rwS).map V.str) = decide (x ∈ (lr.take i).map rwS) := in_strs
      have hin2 : inV (Tr.str x).v (ps.map V.str) = decide (x ∈ ps) := in_strs
      by_cases cx : x ∈ (lr.take i).map rwS
      · rw [decide_eq_true (show x ∈ ps ++ (lr.take i).map rwS from List.mem_append_right _ cx), Bool.not_true, Bool.false_and, Bool.false_and] at q
        exact ifT (by exact hin.trans (decide_eq_true cx)) (q _ s05)
      refine ifF (by exact hin.trans (decide_eq_false cx)) ⟨_, rfl, py, _, 0, _, rfl, rfl, hw5, atI_nat (j := 0) rfl, _, rfl, p0, _, 1, _, rfl, rfl, h05, atI_nat (j := 1) rfl, pp, _, rfl, .inr (sqT_sm s05 wps0), rfl, flat_strs _, _, rfl, ?_⟩
      by_cases cy : x ∈ ps
      · rw [decide_eq_true (show x ∈ ps ++ (lr.take i).map rwS from List.mem_append_left _ cy), Bool.not_true, Bool.false_and, Bool.false_and] at q
        exact ifT (by exact hin2.trans (decide_eq_true cy)) (q _ s05)
      rw [decide_eq_false (show ¬ x ∈ ps ++ (lr.take i).map rwS from fun h => (List.mem_append.mp h).elim cy cx), Bool.not_false, Bool.true_and] at q egr
      refine ifF (by exact hin2.trans (decide_eq_false cy)) ⟨_, rfl, .inl ⟨rfl, _, .of eL5⟩, _, rfl, py, _, 0, _, rfl, rfl, hw5, atI_nat (j := 0) rfl, L, _, _, rfl, rfl, eL5, ?_, same_upd s05 nL0, ?_, ?_, ?_, _, rfl⟩
      · rw [List.length_map, List.length_map, List.length_take, sizeLine_eq]
        omega
      · rw [upd_ne (fun z => by rw [z, eL5] at e15; cases e15)]
        exact e15
      · rw [upd_same, take_one hti]
        simp [rwS, trS, Tr.v]
      · rw [take_one hti, List.map_append, ← List.append_assoc]
        rw [egr]
        rfl
    rintro σ' H4 ⟨s04, e14, eL4, egr, x2', rfl⟩
    rw [llr, List.take_length] at eL4
    rw [llr, List.drop_length] at egr
    have egr : rowsGo ps lr = true := egr
    rw [egr, Bool.true_and] at q
    have h04 := sqT_sm s04 hp00
    refine ⟨_, rfl, p0, _, 3, _, rfl, rfl, h04, atI_nat (j := 3) rfl, ?_⟩
    intro pd npd
    have u5 := same_new (o := .dK []) npd
    refine ⟨_, rfl, _, rfl, _, rfl, p0, _, 1, _, rfl, rfl, sqT_sm u5 h04, atI_nat (j := 1) rfl, pp, _, rfl, .inr (sqT_sm (s04.trans u5) wps0), fun kA nkA => ?_⟩
    have u7 := same_new (o := .lst (ps.map V.str)) nkA
    have ep : upd (upd H4 pd (.dK [])) kA (.lst (ps.map V.str)) pd = some (.dK []) := u7 _ _ upd_same
    have ek : upd (upd H4 pd (.dK [])) kA (.lst (ps.map V.str)) kA = some (.lst (ps.map V.str)) := upd_same
    have s47 := u5.trans u7
    have nk4 : H4 kA = none := none_sm u5 nkA
    generalize upd (upd H4 pd (.dK [])) kA (.lst (ps.map V.str)) = H7 at ep ek s47 ⊢
    refine ⟨ep, stD L d kA 0, rfl, by show 4 ≤ 15; decide, ?_⟩
    rw [merge_stD]
    have s48 : Same H4 (upd H7 pd (.dK (stD L d kA 0))) := same_upd s47 npd
    have ndp : d ≠ pd := ne_of_none e14 npd
    have nLk : L ≠ kA := ne_of_none eL4 nk4
    have sc8 : LX K H4 (upd H7 pd (.dK (stD L d kA 0))) ⟨pd, L, d, kA⟩ (rwsL (.nd pr lr)) hds ps 0 := ⟨upd_same, s48 _ _ eL4, ⟨_, s48 _ _ e14, fun x => hdKv_get x hds⟩, (upd_ne fun z => by rw [← z, ek] at ep; cases ep).trans ek, pnd, ndp, nLk, s48, npd, nk4⟩
    refine ⟨⟨pd, L, d, kA⟩, bdm, H4, rwsL (.nd pr lr), hds, ps, 0, 0, by decide, rfl, sc8, wbm.sm s04, by omega, rfl, fun H9 b9 ks9 m9 sc9 k9 r9 => ?_⟩
    have vb : b9 = bdV (rwsL (.nd pr lr)) hds ps bdm := r9.val (by omega)
    rw [vb]
    exact q _ (s04.trans (Kp.same s48 k9 fun b e => by
      rcases e with e | e
      · rw [e]; exact npd
      · rw [e]; exact nk4))
end

/-! an own rule: a tuple some times over, once too -/
theorem tuple_mul1 (l : Addr) (items : Array Value) (n : Nat) (dd : Option Addr) (sl : Array (Option Value)) (u : Tok) :
    Meets (Builtin.«tuple.__mul__» ⟨[.ref l, .int 1 u], []⟩) (fun _ R s => s.heap.get? l = some { cls := .type "tuple", dict := dd, data := .seq items n, slots := sl } ∧ R (.ok (.ret (Value.ref l))) s) :=
  .of_wp fun prog w A R s h => by
    obtain ⟨hp, g, d, tk, os⟩ := s
    obtain ⟨hl, h⟩ := h
    have f1 := AutoSeq1.idx_int
    have c0 : (decide ((1 : Int) < -(2 ^ 63)) || decide ((1 : Int) ≥ 2 ^ 63)) = false := by decide
    have c1 : (items.isEmpty || (1 : Int) == 1) = true := by rw [show ((1 : Int) == 1) = true from rfl, Bool.or_true]
    wp_walk using wpAny_loadPart' hl
    repeat (first
      | (refine wpAny_ite_false (decide_eq_false (by rw [c0]; exact Bool.false_ne_true)) ?_; wp_walk using wpAny_loadPart' hl)
      | (refine wpAny_ite_true (decide_eq_true c1) ?_; wp_walk using wpAny_loadPart' hl))
    all_goals first | exact ⟨_, rfl, h⟩ | skip
def rRepT1 (K : PySem.W.Frag) : R2 := fun x y H Q => ∃ l k xs, x = .ref l ∧ y = .int k ∧ SqT K H l xs ∧ xs ≠ [] ∧ 1 ≤ k ∧ k ≤ 1000 ∧ xs.length ≤ 1000 ∧ (k = 1 → Q (.ref l) H) ∧ (k ≠ 1 → ∀ p, H p = none → Q (.ref p) (upd H p (.tup (List.replicate k.toNat xs).flatten)))
theorem op_repT1 {X : Cx} : OpR X (binaryOp .Mult) (rRepT1 X.K) := by
  intro pins s σ H x y v u Q I rx ry h
  obtain ⟨l, k, xs, rfl, rfl, hT, hne, h1, h2, hz, q1, q2⟩ := h
  by_cases hk : k = 1
  · subst hk
    cases rx
    obtain ⟨t, rfl⟩ := ry
    obtain ⟨its, r, ⟨⟨cls, dd, data, sl⟩, ho, hc, n, hd⟩, hs⟩ := I.tuple hT
    simp only at hc hd
    subst hc hd
    refine wpAny_binaryOp_repeat_ref (T := "tuple") (U := "int") (by decide) ⟨_, ho, rfl⟩ (fun s' => typeIs_int s' 1 t) noFill_tuple_mul F.fills_int_mul F.slot_int_rmul repeat_tuple F.slot_int_index.lookup
      (call_meets F.slot_int_rmul (typeIs_int s 1 t) F.entry_int_rmul (F.args_int_rmul_2 _ _) (int_rmul_tuple 1 t l its.toArray n dd sl)
        ⟨ho, rfl, ⟨_, ho, rfl⟩, call_meets F.slot_tuple_mul ⟨_, ho, rfl⟩ F.entry_tuple_mul (F.args_tuple_mul_2 _ _) (tuple_mul1 l its.toArray n dd sl t) ⟨ho, ?_⟩⟩)
    exact ⟨.ref l, H, I, rfl, q1 rfl⟩
  · exact op_repT pins s σ H _ _ v u Q I rx ry ⟨l, k, xs, rfl, rfl, hT, hne, by omega, h2, hz, q2 hk⟩

/-! what an expression makes: just this data -/
section
variable {K : PySem.W.Frag} {H0 : Hp} {σ : L2.St}
def Md (K : PySem.W.Frag) (H0 : Hp) (σ : L2.St) (d : PyData) (t : TE) : Prop := ∀ (H : Hp) (Q : VK), Same H0 H → (∀ H' x, Same H H' → Dp K H' x d → Q x H') → t σ H Q
def Mds (K : PySem.W.Frag) (H0 : Hp) (σ : L2.St) (ds : List PyData) (t : TA) : Prop := ∀ (H : Hp) (Q : List V → Hp → Prop), Same H0 H → (∀ H' xs, Same H H' → DpAll K H' xs ds → Q xs H') → t σ H Q
theorem mds_nil : Mds K H0 σ [] tNil := fun H Q _ q => q H [] (Same.refl _) .nil
theorem mds_cons {d : PyData} {ds : List PyData} {t : TE} {u : TA} (h : Md K H0 σ d t) (r : Mds K H0 σ ds u) : Mds K H0 σ (d :: ds) (tCons t u) := fun H Q s q =>
  h H _ s fun H1 x s1 d1 => r H1 _ (s.trans s1) fun H2 xs s2 d2 => q H2 (x :: xs) (s1.trans s2) (.cons (dp_sm s2 d1) d2)
theorem md_tup {ds : List PyData} {u : TA} (r : Mds K H0 σ ds u) (hk : ds.length ≤ 1000 := by simp) : Md K H0 σ (.tuple ds) (tTup u) := fun H Q s q =>
  r H _ s fun H1 xs s1 d1 => ⟨by rw [dpAll_len d1, sizeLine_eq]; omega, fun p np => q _ _ (s1.trans (same_new np)) (.tup (.of upd_same) (dpAll_sm (same_new np) d1))⟩
theorem md_int {i : Int} : Md K H0 σ (.int i) (tC (.int i)) := fun H Q _ q => q H _ (Same.refl _) (.int i)
theorem md_str {z : Str} : Md K H0 σ (.str z) (tC (.str z)) := fun H Q _ q => q H _ (Same.refl _) (.str z)
theorem md_var {i : Nat} {v : V} {d : PyData} (h : σ[i]? = some (some v)) (dp : Dp K H0 v d) : Md K H0 σ d (tVar i) := fun H Q s q => ⟨v, h, q H _ (Same.refl _) (dp_sm s dp)⟩
/-- any expression, read by hand -/
theorem md_by {d : PyData} {t : TE} (h : ∀ (H : Hp) (Q : VK), Same H0 H → (∀ H' x, Same H H' → Dp K H' x d → Q x H') → t σ H Q) : Md K H0 σ d t := h
/-- a new list -/
theorem ml_lst {ds : List PyData} {u : TA} (r : Mds K H0 σ ds u) {H : Hp} {Q : VK} (s : Same H0 H) (q : ∀ H' L vs, Same H H' → H L = none → H' L = some (.lst vs) → DpAll K H' vs ds → Q (.ref L) H') (hk : ds.length ≤ 1000 := by simp) : tLst u σ H Q :=
  r H _ s fun H1 xs s1 d1 => ⟨by rw [dpAll_len d1, sizeLine_eq]; omega, fun p np => q _ p xs (s1.trans (same_new np)) (s1.free np) upd_same (dpAll_sm (same_new np) d1)⟩
end
theorem st_asg {te : TE} {i : Nat} {u : TS} {D : Ends} {σ : L2.St} {H : Hp} (h : te σ H fun v H' => u D (σ.set i (some v)) H') : tSeq (tAsg te (gName i)) u D σ H := h
/-! statements, one step opened -/
section
variable {K : PySem.W.Frag} {te : TE} {g : TG} {tb u : TS} {D : Ends} {σ : L2.St} {H : Hp}
def ForW (J : It) (g : TG) (tb : TS) (D : Ends) (σ : L2.St) (H1 : Hp) : Prop := ∃ W : Nat → Nat → L2.St → Hp → Prop, (∃ m, W 0 m σ H1) ∧ ∀ i m σ H, W i m σ H →
  (J.stop i H ∧ D.nx σ H) ∨ (J.go i H ∧ ∃ N : L2.St → Hp → Prop, (∀ σ' H', N σ' H' → ∃ m', m' < m ∧ W (i + 1) m' σ' H') ∧ ∀ x H', J.yld i H x H' → g x σ H' fun σ2 H2 => tb { D with nx := N, ct := N, bk := D.nx } σ2 H2)
theorem st_forT (h : te σ H fun v H1 => ∃ a, v = .ref a ∧ (∃ xs, SqT K H1 a xs) ∧ ForW (Itt K a) g tb { D with nx := u D } σ H1) : tSeq (tFor (iTup K te) g tb) u D σ H := h
theorem st_forL (h : te σ H fun v H1 => ∃ a, v = .ref a ∧ (∃ xs, SqL K H1 a xs) ∧ ForW (Itl K a) g tb { D with nx := u D } σ H1) : tSeq (tFor (iList K te) g tb) u D σ H := h
theorem st_drop (h : te σ H fun _ H' => u D σ H') : tSeq (tDrop te) u D σ H := h
theorem st_ret (h : te σ H D.rt) : tRet te D σ H := h
theorem fw_tup {a : Addr} {xs : List V} (Pv : Nat → L2.St → Hp → Prop) (h0 : Pv 0 σ H) (hl : ∀ i σ H, i ≤ xs.length → Pv i σ H → SqT K H a xs)
    (hs : ∀ i x σ H, xs[i]? = some x → Pv i σ H → g x σ H fun σ2 H2 => tb { D with nx := Pv (i + 1), ct := Pv (i + 1), bk := D.nx } σ2 H2) (hd : ∀ σ H, Pv xs.length σ H → D.nx σ H) : ForW (Itt K a) g tb D σ H := for_tup Pv h0 hl hs hd
theorem fw_list {a : Addr} {xs : List V} (Pv : Nat → L2.St → Hp → Prop) (h0 : Pv 0 σ H) (hl : ∀ i σ H, i ≤ xs.length → Pv i σ H → SqL K H a xs)
    (hs : ∀ i x σ H, xs[i]? = some x → Pv i σ H → g x σ H fun σ2 H2 => tb { D with nx := Pv (i + 1), ct := Pv (i + 1), bk := D.nx } σ2 H2) (hd : ∀ σ H, Pv xs.length σ H → D.nx σ H) : ForW (Itl K a) g tb D σ H := for_list Pv h0 hl hs hd
end
theorem ar_cons {t : TE} {u : TA} {σ : L2.St} {H : Hp} {Q : List V → Hp → Prop} (h : t σ H fun x H1 => u σ H1 fun xs H2 => Q (x :: xs) H2) : tCons t u σ H Q := h
theorem ar_call {sp : Sp} {dvs : List V} {E : XK} {t : TA} {σ : L2.St} {H : Hp} {Q : VK} (h : t σ H fun vs H1 => sp (vs ++ dvs) H1 Q E) : tCall sp dvs E t σ H Q := h
theorem st_if {c : TT} {t e u : TS} {D : Ends} {σ : L2.St} {H : Hp} (h : c σ H fun b H1 => if b = true then t { D with nx := u D } σ H1 else e { D with nx := u D } σ H1) : tSeq (tIfS c t e) u D σ H := h
theorem tt_test {t : TE} {σ : L2.St} {H : Hp} {Q : Bool → Hp → Prop} (h : t σ H fun x H' => ∃ k, x = .bl k ∧ Q k H') : tTest t σ H Q := h
theorem tt_b {t : TE} {σ : L2.St} {H : Hp} {Q : Bool → Hp → Prop} (h : t σ H fun x H' => ∃ k, x = .bl k ∧ Q k H') : tB t σ H Q := h
theorem tt_not {t : TT} {σ : L2.St} {H : Hp} {Q : Bool → Hp → Prop} (h : t σ H fun c H' => Q (!c) H') : tNot t σ H Q := h
theorem tt_or {t u : TT} {σ : L2.St} {H : Hp} {Q : Bool → Hp → Prop} (h : t σ H fun c H1 => if c = true then Q true H1 else u σ H1 Q) : tOr t u σ H Q := h
theorem te_op {r : R2} {ta tb : TE} {σ : L2.St} {H : Hp} {Q : VK} (h : ta σ H fun x H1 => tb σ H1 fun y H2 => r x y H2 Q) : tOp r ta tb σ H Q := h

section
variable {K : PySem.W.Frag} {H0 : Hp} {σ : L2.St}
theorem md_rep {d : PyData} {t tn : TE} {k : Nat} (h : Md K H0 σ (.tuple [d]) t) (hn : Md K H0 σ (.int (k : Int)) tn) (h1 : 1 ≤ k) (h2 : k ≤ 1000) : Md K H0 σ (.tuple (List.replicate k d)) (tOp (rRepT1 K) t tn) := fun H Q s q =>
  h H _ s fun H1 x s1 d1 => hn H1 _ (s.trans s1) fun H2 y s2 d2 => by
    cases dp_int d2
    obtain ⟨p, xs, rfl, hp, da⟩ := dp_tup (dp_sm s2 d1)
    obtain ⟨x0, r0, rfl, d0, e0⟩ := dpAll_cons da
    cases dpAll_nil e0
    refine ⟨p, _, _, rfl, rfl, hp, by simp, by omega, by omega, by simp, fun e => ?_, fun ne u nu => ?_⟩
    · have e1 : k = 1 := by omega
      subst e1
      exact q _ _ (s1.trans s2) (.tup hp da)
    · refine q _ _ ((s1.trans s2).trans (same_new nu)) (.tup (.of upd_same) ?_)
      rw [Int.toNat_natCast]
      have d0' := dp_sm (same_new (o := .tup (List.replicate k [x0]).flatten) nu) d0
      generalize upd H2 u (.tup (List.replicate k [x0]).flatten) = H3 at d0' ⊢
      clear h1 h2 q hn d2 ne
      induction k with
      | zero => exact .nil
      | succ k ih => rw [List.replicate_succ, List.replicate_succ, List.flatten_cons]; exact .cons d0' ih
theorem md_cat {a b : List PyData} {t u : TE} (ha : Md K H0 σ (.tuple a) t) (hb : Md K H0 σ (.tuple b) u) (hl : a.length + b.length ≤ 5000) : Md K H0 σ (.tuple (a ++ b)) (tOp (rCatA K) t u) := fun H Q s q =>
  ha H _ s fun H1 x s1 d1 => hb H1 _ (s.trans s1) fun H2 y s2 d2 => by
    obtain ⟨p, xs, rfl, hp, da⟩ := dp_tup (dp_sm s2 d1)
    obtain ⟨p2, ys, rfl, hp2, db⟩ := dp_tup d2
    have la := dpAll_len da
    have lb := dpAll_len db
    refine ⟨p, p2, xs, ys, rfl, rfl, hp, hp2, by rw [sizeLine_eq]; omega, fun e => ?_, fun _ e => ?_, fun _ _ r nr => ?_⟩
    · subst e
      have : a = [] := List.eq_nil_of_length_eq_zero la.symm
      subst this
      exact q _ _ (s1.trans s2) d2
    · subst e
      have : b = [] := List.eq_nil_of_length_eq_zero lb.symm
      subst this
      rw [List.append_nil] at q
      exact q _ _ (s1.trans s2) (.tup hp da)
    · exact q _ _ ((s1.trans s2).trans (same_new nr)) (.tup (.of upd_same) (dpAll_sm (same_new nr) (dpAll_app da db)))
theorem md_i0 {g : Int → Int → Int} {i j : Int} {t u : TE} (ha : Md K H0 σ (.int i) t) (hb : Md K H0 σ (.int j) u) : Md K H0 σ (.int (g i j)) (tOp (rI0 fun i j => V.int (g i j)) t u) := fun H Q s q =>
  ha H _ s fun H1 x s1 d1 => hb H1 _ (s.trans s1) fun H2 y s2 d2 => by
    cases dp_int d1
    cases dp_int d2
    exact ⟨_, _, rfl, rfl, q _ _ (s1.trans s2) (.int _)⟩
theorem md_iC {C : Int → Int → Prop} {g : Int → Int → Int} {i j : Int} {t u : TE} (ha : Md K H0 σ (.int i) t) (hb : Md K H0 σ (.int j) u) (hc : C i j) : Md K H0 σ (.int (g i j)) (tOp (rI C fun i j => V.int (g i j)) t u) := fun H Q s q =>
  ha H _ s fun H1 x s1 d1 => hb H1 _ (s.trans s1) fun H2 y s2 d2 => by
    cases dp_int d1
    cases dp_int d2
    exact ⟨_, _, rfl, rfl, hc, q _ _ (s1.trans s2) (.int _)⟩
end
section
variable {K : PySem.W.Frag} {H0 : Hp} {σ : L2.St}
theorem md_ixt {ds : List PyData} {d : PyData} {t : TE} {i : Nat} (h : Md K H0 σ (.tuple ds) t) (hi : ds[i]? = some d) : Md K H0 σ d (tOp (rIxT K) t (tC (.int (i : Int)))) := fun H Q s q =>
  h H _ s fun H1 x s1 d1 => by
    obtain ⟨p, xs, rfl, hp, da⟩ := dp_tup d1
    obtain ⟨v, hv, dv⟩ := dpAll_get da hi
    exact ⟨p, xs, _, v, rfl, rfl, hp, atI_nat hv, q _ _ s1 dv⟩
theorem md_cut2 {d1 d2 d3 : PyData} {t : TE} (h : Md K H0 σ (.tuple [d1, d2, d3]) t) : Md K H0 σ (.tuple [d1, d2]) (tSl (rSlA K) t tNoPart (tPart (tC (.int 2)))) := fun H Q s q =>
  h H _ s fun H1 x s1 e1 => by
    obtain ⟨p, xs, rfl, hp, da⟩ := dp_tup e1
    obtain ⟨x0, r0, rfl, g0, h0⟩ := dpAll_cons da
    obtain ⟨x1, r1, rfl, g1, h1⟩ := dpAll_cons h0
    obtain ⟨x2, r2, rfl, g2, h2⟩ := dpAll_cons h1
    cases dpAll_nil h2
    refine ⟨_, rfl, p, _, rfl, hp, fun z => ?_, fun _ u nu => ?_⟩
    · exact absurd z.2 (by show ¬ HT.sIx 3 3 (some 2) = 3; decide)
    · exact q _ _ (s1.trans (same_new nu)) (.tup (.of upd_same) (.cons (dp_sm (same_new nu) g0) (.cons (dp_sm (same_new nu) g1) .nil)))
end

section
variable {K : PySem.W.Frag} {H0 : Hp} {σ : L2.St}
theorem md_ixl {j : Nat} {a : Addr} {vs : List V} {ds : List PyData} {d : PyData} {i : Int} {ti : TE} (h : σ[j]? = some (some (.ref a))) (hs : SqL K H0 a vs) (da : DpAll K H0 vs ds) (hi : Md K H0 σ (.int i) ti) (h0 : 0 ≤ i) (hd : ds[i.toNat]? = some d) : Md K H0 σ d (tOp (rIxL K) (tVar j) ti) := fun H Q s q =>
  ⟨_, h, hi H _ s fun H1 x s1 d1 => by
    cases dp_int d1
    obtain ⟨v, hv, dv⟩ := dpAll_get da hd
    obtain ⟨n, rfl⟩ := Int.eq_ofNat_of_zero_le h0
    exact ⟨a, vs, _, v, rfl, rfl, (s.trans s1).seq hs, atI_nat hv, q _ _ s1 (dp_sm (s.trans s1) dv)⟩⟩
theorem md_len {j : Nat} {a : Addr} {vs : List V} (h : σ[j]? = some (some (.ref a))) (hs : SqL K H0 a vs) : Md K H0 σ (.int (vs.length : Int)) (tCB (fun xs H Q => ∃ p ys, xs = [.ref p] ∧ (SqL K H p ys ∨ SqT K H p ys) ∧ Q (.int ys.length) H) (tCons (tVar j) tNil)) := fun H Q s q =>
  ⟨_, h, a, vs, rfl, .inl (s.seq hs), q _ _ (Same.refl _) (.int _)⟩
theorem md_neg {i : Int} {t : TE} (h : Md K H0 σ (.int i) t) : Md K H0 σ (.int (-i)) (tUn (rU fun i => .int (-i)) t) := fun H Q s q =>
  h H _ s fun H1 x s1 d1 => by
    cases dp_int d1
    exact ⟨i, rfl, q _ _ s1 (.int _)⟩
/-- a test x == i of a number -/
theorem tt_eqi {i j : Int} {t u : TE} (h : Md K H0 σ (.int i) t) (hu : Md K H0 σ (.int j) u) {H : Hp} {Q : Bool → Hp → Prop} (s : Same H0 H) (q : ∀ H', Same H H' → Q (decide (V.int i = V.int j)) H') : tTest (tOp rEq t u) σ H Q :=
  h H _ s fun H1 x s1 d1 => hu H1 _ (s.trans s1) fun H2 y s2 d2 => by
    cases dp_int d1
    cases dp_int d2
    exact ⟨rfl, _, rfl, q _ (s1.trans s2)⟩
end
section
variable {K : PySem.W.Frag} {H0 : Hp} {σ : L2.St}
theorem md_ixll {u : TA} {ds : List PyData} {d : PyData} {i : Int} {ti : TE} (r : Mds K H0 σ ds u) (hi : Md K H0 σ (.int i) ti) (h0 : 0 ≤ i) (hd : ds[i.toNat]? = some d) (hk : ds.length ≤ 1000 := by simp) : Md K H0 σ d (tOp (rIxL K) (tLst u) ti) := fun H Q s q =>
  ml_lst (K := K) r s (fun H1 L vs s1 nL eL dL => hi H1 _ (s.trans s1) fun H2 y s2 d2 => by
    cases dp_int d2
    obtain ⟨v, hv, dv⟩ := dpAll_get dL hd
    obtain ⟨n, rfl⟩ := Int.eq_ofNat_of_zero_le h0
    exact ⟨L, vs, _, v, rfl, rfl, .of (s2 _ _ eL), atI_nat hv, q _ _ (s1.trans s2) (dp_sm s2 dv)⟩) hk
end

/-! expressions that make trees -/
theorem txsL_sub {l : List Tr} (k : Nat) : (txsL (l.take k)).length ≤ (txsL l).length ∧ (txsL (l.drop k)).length ≤ (txsL l).length := by
  have : (txsL l).length = (txsL (l.take k)).length + (txsL (l.drop k)).length := by
    conv => lhs; rw [← List.take_append_drop k l, txsL_app, List.length_append]
  omega
def cutT (ts : List Tr) (lo hi : Option Int) : List Tr := (ts.drop (HT.sIx ts.length 0 lo)).take (HT.sIx ts.length ts.length hi - HT.sIx ts.length 0 lo)
theorem cutT_v (ts : List Tr) (lo hi : Option Int) : (cutT ts lo hi).map Tr.v = cutV (ts.map Tr.v) lo hi := by
  unfold cutT cutV
  rw [List.map_take, List.map_drop, List.length_map]
theorem cutT_mem {ts : List Tr} {lo hi : Option Int} {t : Tr} (h : t ∈ cutT ts lo hi) : t ∈ ts := List.mem_of_mem_drop (List.mem_of_mem_take h)
theorem cutT_txs (ts : List Tr) (lo hi : Option Int) : (txsL (cutT ts lo hi)).length ≤ (txsL ts).length := Nat.le_trans (txsL_sub _).1 (txsL_sub _).2
theorem cutT_len (ts : List Tr) (lo hi : Option Int) : (cutT ts lo hi).length ≤ ts.length := by
  unfold cutT
  rw [List.length_take, List.length_drop]
  omega
section
variable {K : PySem.W.Frag} {H0 : Hp} {σ : L2.St}
def Mt (K : PySem.W.Frag) (H0 : Hp) (σ : L2.St) (n : Nat) (t : TE) : Prop := ∀ (H : Hp) (Q : VK), Same H0 H → (∀ H' (x : Tr), Same H H' → Wt K H' x → (txs x).length ≤ n → Q x.v H') → t σ H Q
def Mts (K : PySem.W.Frag) (H0 : Hp) (σ : L2.St) (n c : Nat) (u : TA) : Prop := ∀ (H : Hp) (Q : List V → Hp → Prop), Same H0 H → (∀ H' (ts : List Tr), Same H H' → ts.length = c → (∀ t ∈ ts, Wt K H' t) → (txsL ts).length ≤ n → Q (ts.map Tr.v) H') → u σ H Q
/-- a tuple -/
def Mu (K : PySem.W.Frag) (H0 : Hp) (σ : L2.St) (n c : Nat) (t : TE) : Prop := ∀ (H : Hp) (Q : VK), Same H0 H → (∀ H' p (ts : List Tr), Same H H' → SqT K H' p (ts.map Tr.v) → (∀ t ∈ ts, Wt K H' t) → ts.length ≤ c → (txsL ts).length ≤ n → Q (.ref p) H') → t σ H Q
/-- a list -/
def Ml (K : PySem.W.Frag) (H0 : Hp) (σ : L2.St) (n c : Nat) (t : TE) : Prop := ∀ (H : Hp) (Q : VK), Same H0 H → (∀ H' p (ts : List Tr), Same H H' → H' p = some (.lst (ts.map Tr.v)) → ts.length = c → (∀ t ∈ ts, Wt K H' t ∧ (txs t).length ≤ n) → Q (.ref p) H') → t σ H Q
theorem Mt.mono {n m : Nat} {t : TE} (h : Mt K H0 σ n t) (le : n ≤ m) : Mt K H0 σ m t := fun H Q s q => h H Q s fun H' x s' w l => q H' x s' w (Nat.le_trans l le)
theorem Ml.mono {n m c d : Nat} {t : TE} (h : Ml K H0 σ n c t) (le : n ≤ m) (e : c = d) : Ml K H0 σ m d t := fun H Q s q => h H Q s fun H' x ts s' e' l w => q H' x ts s' e' (l.trans e) fun t ht => ⟨(w t ht).1, Nat.le_trans (w t ht).2 le⟩
theorem mts_nil : Mts K H0 σ 0 0 tNil := fun H Q _ q => q H [] (Same.refl _) rfl (fun _ h => nomatch h) (by rw [txsL]; exact Nat.le_refl _)
theorem mts_cons {n m c : Nat} {t : TE} {u : TA} (h : Mt K H0 σ n t) (r : Mts K H0 σ m c u) : Mts K H0 σ (n + m) (c + 1) (tCons t u) := fun H Q s q =>
  h H _ s fun H1 x s1 w1 l1 => r H1 _ (s.trans s1) fun H2 ts s2 lc w2 l2 => q H2 (x :: ts) (s1.trans s2) (by rw [List.length_cons, lc]) (fun t ht => by
    rcases List.mem_cons.mp ht with rfl | ht
    · exact w1.sm s2
    · exact w2 t ht) (by rw [txsL, List.length_append]; omega)
theorem mu_tup {n c : Nat} {u : TA} (r : Mts K H0 σ n c u) (hk : c ≤ 1000 := by decide) : Mu K H0 σ n c (tTup u) := fun H Q s q =>
  r H _ s fun H1 ts s1 lc w1 l1 => ⟨by rw [List.length_map, lc, sizeLine_eq]; omega, fun p np => q _ p ts (s1.trans (same_new np)) (.of upd_same) (fun t ht => (w1 t ht).sm (same_new np)) (by omega) l1⟩
theorem mt_of_mu {n c : Nat} {t : TE} (h : Mu K H0 σ n c t) (hk : c ≤ 100000) : Mt K H0 σ n t := fun H Q s q =>
  h H _ s fun H1 p ts s1 hp w lc ln => q H1 (.nd p ts) s1 (.nd hp (by omega) w) (by rw [txs_nd]; exact ln)
theorem mt_tup {n c : Nat} {u : TA} (r : Mts K H0 σ n c u) (hk : c ≤ 1000 := by decide) : Mt K H0 σ n (tTup u) := mt_of_mu (mu_tup r hk) (by omega)
theorem mlT_lst {n c : Nat} {u : TA} (r : Mts K H0 σ n c u) (hk : c ≤ 1000 := by decide) : Ml K H0 σ n c (tLst u) := fun H Q s q =>
  r H _ s fun H1 ts s1 lc w1 l1 => ⟨by rw [List.length_map, lc, sizeLine_eq]; omega, fun p np => q _ p ts (s1.trans (same_new np)) upd_same lc fun t ht => ⟨(w1 t ht).sm (same_new np), Nat.le_trans (txsL_len ht) l1⟩⟩
theorem mt_non : Mt K H0 σ 0 (tC .non) := fun H Q _ q => q H .non (Same.refl _) .non (by rw [txs]; exact Nat.le_refl _)
theorem mt_bl {b : Bool} : Mt K H0 σ 0 (tC (.bl b)) := fun H Q _ q => q H (.bl b) (Same.refl _) (.bl b) (by rw [txs]; exact Nat.le_refl _)
theorem mt_int {i : Int} : Mt K H0 σ 0 (tC (.int i)) := fun H Q _ q => q H (.int i) (Same.refl _) (.int i) (by rw [txs]; exact Nat.le_refl _)
theorem mt_str {z : Str} (hz : z.length ≤ 1000 := by decide +kernel) : Mt K H0 σ 1 (tC (.str z)) := fun H Q _ q => q H (.str z) (Same.refl _) (.str z hz) (by rw [txs]; exact Nat.le_refl _)
theorem mt_neg {i : Int} : Mt K H0 σ 0 (tUn (rU fun i => .int (-i)) (tC (.int i))) := fun H Q _ q => ⟨i, rfl, q H (.int (-i)) (Same.refl _) (.int _) (by rw [txs]; exact Nat.le_refl _)⟩
theorem mt_var {i : Nat} {x : Tr} {n : Nat} (h : σ[i]? = some (some x.v)) (w : Wt K H0 x) (l : (txs x).length ≤ n) : Mt K H0 σ n (tVar i) := fun H Q s q => ⟨x.v, h, q H x (Same.refl _) (w.sm s) l⟩
theorem mt_el : Mt K H0 σ 0 (tLst tNil) := fun H Q _ q => ⟨Nat.zero_le _, fun p np => q _ (.lst p) (same_new np) (.lst upd_same) (by rw [txs]; exact Nat.le_refl _)⟩
theorem ml_var {i : Nat} {p : Addr} {ts : List Tr} {n : Nat} (h : σ[i]? = some (some (.ref p))) (e : H0 p = some (.lst (ts.map Tr.v))) (w : ∀ t ∈ ts, Wt K H0 t ∧ (txs t).length ≤ n) : Ml K H0 σ n ts.length (tVar i) := fun H Q s q =>
  ⟨_, h, q H p ts (Same.refl _) (s _ _ e) rfl fun t ht => ⟨(w t ht).1.sm s, (w t ht).2⟩⟩
theorem ml_cat {n c d : Nat} {t u : TE} (h : Ml K H0 σ n c t) (g : Ml K H0 σ n d u) (hk : c + d ≤ 1000) : Ml K H0 σ n (c + d) (tOp rCat t u) := fun H Q s q =>
  h H _ s fun H1 p ts s1 e1 l1 w1 => g H1 _ (s.trans s1) fun H2 r us s2 e2 l2 w2 => ⟨p, r, _, _, rfl, rfl, s2 _ _ e1, e2, by rw [List.length_map, List.length_map, sizeLine_eq]; omega, fun z nz =>
    q _ z (ts ++ us) ((s1.trans s2).trans (same_new nz)) (by rw [upd_same, List.map_append]) (by rw [List.length_append]; omega) fun t ht => by
      rcases List.mem_append.mp ht with ht | ht
      · exact ⟨((w1 t ht).1.sm s2).sm (same_new nz), (w1 t ht).2⟩
      · exact ⟨(w2 t ht).1.sm (same_new nz), (w2 t ht).2⟩⟩
theorem mu_cat {n m c d : Nat} {t u : TE} (h : Mu K H0 σ n c t) (g : Mu K H0 σ m d u) (hk : c + d ≤ 10000) : Mu K H0 σ (n + m) (c + d) (tOp (rCatA K) t u) := fun H Q s q =>
  h H _ s fun H1 p ts s1 e1 w1 c1 l1 => g H1 _ (s.trans s1) fun H2 r us s2 e2 w2 c2 l2 => by
    have e1' := sqT_sm s2 e1
    refine ⟨p, r, _, _, rfl, rfl, e1', e2, by rw [List.length_map, List.length_map, sizeLine_eq]; omega, fun _ => q _ r us (s1.trans s2) e2 w2 (by omega) (by omega), fun _ _ => q _ p ts (s1.trans s2) e1' (fun t ht => (w1 t ht).sm s2) (by omega) (by omega), fun _ _ z nz => ?_⟩
    refine q _ z (ts ++ us) ((s1.trans s2).trans (same_new nz)) (by rw [List.map_append]; exact .of upd_same) (fun t ht => ?_) (by rw [List.length_append]; omega) (by rw [txsL_app, List.length_append]; omega)
    rcases List.mem_append.mp ht with ht | ht
    · exact ((w1 t ht).sm s2).sm (same_new nz)
    · exact (w2 t ht).sm (same_new nz)
def Mo (H0 : Hp) (σ : L2.St) (t : TO) : Prop := ∀ (H : Hp) (Q : Option Int → Hp → Prop), Same H0 H → (∀ H' o, Same H H' → Q o H') → t σ H Q
theorem mo_no : Mo H0 σ tNoPart := fun H _ _ q => q H none (Same.refl _)
theorem mo_int {i : Int} {t : TE} (h : Md K H0 σ (.int i) t) : Mo H0 σ (tPart t) := fun H Q s q => h H _ s fun H1 x s1 d1 => by
  cases dp_int d1
  exact ⟨_, rfl, q _ _ s1⟩
theorem mu_cut {n c : Nat} {t : TE} {tl th : TO} (h : Mu K H0 σ n c t) (hl : Mo H0 σ tl) (hh : Mo H0 σ th) : Mu K H0 σ n c (tSl (rSlA K) t tl th) := fun H Q s q =>
  h H _ s fun H1 p ts s1 e1 w1 c1 l1 => hl H1 _ (s.trans s1) fun H2 lo s2 => hh H2 _ ((s.trans s1).trans s2) fun H3 hi s3 => by
    have s23 := s2.trans s3
    refine ⟨p, _, rfl, sqT_sm s23 e1, fun _ => q _ p ts (s1.trans s23) (sqT_sm s23 e1) (fun t ht => (w1 t ht).sm s23) c1 l1, fun _ r nr => ?_⟩
    refine q _ r (cutT ts lo hi) ((s1.trans s23).trans (same_new nr)) (by rw [cutT_v]; exact .of upd_same) (fun t ht => ((w1 t (cutT_mem ht)).sm s23).sm (same_new nr)) (Nat.le_trans (cutT_len _ _ _) c1) (Nat.le_trans (cutT_txs _ _ _) l1)
theorem mu_var {i : Nat} {p : Addr} {ts : List Tr} {n c : Nat} (h : σ[i]? = some (some (.ref p))) (e : SqT K H0 p (ts.map Tr.v)) (w : ∀ t ∈ ts, Wt K H0 t) (hc : ts.length ≤ c) (hn : (txsL ts).length ≤ n) : Mu K H0 σ n c (tVar i) := fun H Q s q =>
  ⟨_, h, q H p ts (Same.refl _) (sqT_sm s e) (fun t ht => (w t ht).sm s) hc hn⟩
/-- names[a:b] -/
theorem ml_names {i : Nat} {p : Addr} {zs : List Str} {tl th : TO} {lo hi : Option Int} {c : Nat} (h : σ[i]? = some (some (.ref p))) (e : H0 p = some (.lst (zs.map V.str))) (hz : ∀ z ∈ zs, z.length ≤ 1000) (hl : ∀ H (Q : Option Int → Hp → Prop), Q lo H → tl σ H Q) (hh : ∀ H (Q : Option Int → Hp → Prop), Q hi H → th σ H Q)
    (hc : (cutT (zs.map Tr.str) lo hi).length = c) : Ml K H0 σ 1 c (tSl (rSlL K) (tVar i) tl th) := fun H Q s q => by
  refine ⟨_, h, hl _ _ (hh _ _ ⟨p, _, rfl, .of (s _ _ e), fun r nr => ?_⟩)⟩
  have e2 : zs.map V.str = (zs.map Tr.str).map Tr.v := by rw [List.map_map]; rfl
  refine q _ r (cutT (zs.map Tr.str) lo hi) (same_new nr) (by rw [upd_same, e2, cutT_v]) hc fun t ht => ?_
  obtain ⟨z, hzm, rfl⟩ := List.mem_map.mp (cutT_mem ht)
  exact ⟨.str z (hz z hzm), by rw [txs]; exact Nat.le_refl _⟩
/-- names[k] -/
theorem mt_name {i : Nat} {p : Addr} {zs : List Str} {k : Nat} (h : σ[i]? = some (some (.ref p))) (e : H0 p = some (.lst (zs.map V.str))) (hz : ∀ z ∈ zs, z.length ≤ 1000) (hk : k < zs.length) : Mt K H0 σ 1 (tOp (rIxL K) (tVar i) (tC (.int (k : Nat)))) := fun H Q s q => by
  have hx : (zs.map V.str)[k]? = some (.str zs[k]) := by rw [List.getElem?_map, List.getElem?_eq_getElem hk]; rfl
  refine ⟨_, h, p, _, _, _, rfl, rfl, .of (s _ _ e), atI_nat hx, q H (.str zs[k]) (Same.refl _) (.str _ (hz _ (List.getElem_mem hk))) (by rw [txs]; exact Nat.le_refl _)⟩
end

inductive Few : Tr → Prop
  | non : Few .non
  | bl (b : Bool) : Few (.bl b)
  | int (i : Int) : Few (.int i)
  | str (z : Str) : Few (.str z)
  | lst (a : Addr) : Few (.lst a)
  | nd {p : Addr} {ts : List Tr} : ts.length ≤ 1000 → (∀ t ∈ ts, Few t) → Few (.nd p ts)
theorem Few.inv {p : Addr} {ts : List Tr} (h : Few (.nd p ts)) : ts.length ≤ 1000 ∧ ∀ t ∈ ts, Few t := by
  cases h with
  | nd a b => exact ⟨a, b⟩
theorem Mt.run {K : PySem.W.Frag} {H : Hp} {σ : L2.St} {n : Nat} {t : TE} {Q : VK} (h : Mt K H σ n t) (q : ∀ H' (x : Tr), Same H H' → Wt K H' x → (txs x).length ≤ n → Q x.v H') : t σ H Q := h H Q (Same.refl _) q
theorem Ml.run {K : PySem.W.Frag} {H : Hp} {σ : L2.St} {n c : Nat} {t : TE} {Q : VK} (h : Ml K H σ n c t) (q : ∀ H' p (ts : List Tr), Same H H' → H' p = some (.lst (ts.map Tr.v)) → ts.length = c → (∀ t ∈ ts, Wt K H' t ∧ (txs t).length ≤ n) → Q (.ref p) H') : t σ H Q := h H Q (Same.refl _) q
theorem mt_listv {K : PySem.W.Frag} {H0 : Hp} {σ : L2.St} {i : Nat} {p : Addr} {vs : List V} (h : σ[i]? = some (some (.ref p))) (e : SqT K H0 p vs) : Mt K H0 σ 0 (tCB (fun xs H Q => ∃ p ys, xs = [.ref p] ∧ (SqL K H p ys ∨ SqT K H p ys) ∧ ∀ l, H l = none → Q (.ref l) (upd H l (.lst ys))) (tCons (tVar i) tNil)) := fun H Q s q =>
  ⟨_, h, p, _, rfl, .inr (sqT_sm s e), fun l nl => q _ (.lst l) (same_new nl) (.lst upd_same) (by rw [txs]; exact Nat.le_refl _)⟩
section
variable {P : Program} {w : World} {K : PySem.W.Frag} {mg : Str → Option Value} {base : Heap}
def sp_oddX (K : PySem.W.Frag) : Sp := fun vs H Q _ => ∃ (t : Tr) (Ln : Addr) (zs : List Str) (c : Int), vs = [t.v, .ref Ln, .int c] ∧ Wt K H t ∧ Few t ∧ H Ln = some (.lst (zs.map V.str)) ∧ Nms zs ∧ ∀ H' (u : Tr), Same H H' → Wt K H' u → (txs u).length ≤ 20 * (txs t).length + 100 → Q u.v H'
theorem ok_oddX (T : Top K mg) : FnOk P w K mg base CX0 2 (He.ga K "_law_odd") T.fd__law_odd ["_law_part", "_law_names_here", "_law_cell"] (sp_oddX K) := by
  have G__law_mixed := ok__law_mixed (P := P) (w := w) (base := base) T
  refine T.F__law_odd.ok sc__law_odd (fun vs H Q E h => ?_) (fun cdv A outer s H vs Q E hr h => ?_)
  · obtain ⟨t, Ln, zs, c, rfl, _⟩ := h
    rfl
  · obtain ⟨t, Ln, zs, c, rfl, wt, few, eL, nms, q⟩ := h
    refine ⟨_, PSs.nox (pss_cons (ps_set (i := 3) sc__law_odd.nd rfl (Or.inl rfl) (pe_lst (pa_cons pe_non (pa_cons pe_bl (pa_cons pe_int (pa_cons (pe_un un_neg pe_int) (pa_cons pe_int (pa_cons pe_int (pa_cons pe_int (pa_cons pe_int (pa_cons pe_int (pa_cons pe_int (pa_cons (pe_un un_neg pe_int) (pa_cons pe_str (pa_cons pe_str (pa_cons pe_str (pa_cons (pe_tup pa_nil) (pa_cons (pe_lst pa_nil) pa_nil))))))))))))))))))
        (pss_cons (ps_set (i := 3) sc__law_odd.nd rfl (Or.inl rfl) (pe_op op_cat (pe_op op_cat (pe_op op_cat (pv 3) (pe_lst (pa_cons (pe_tup (pa_cons pe_str pa_nil)) (pa_cons (pe_tup (pa_cons pe_str (pa_cons pe_int pa_nil))) pa_nil)))) (pe_slice sl_list (pv 1) po_none (po_some pe_int))) (pe_slice sl_list (pv 1) (po_some pe_int) po_none)))
        (pss_cons (ps_set (i := 3) sc__law_odd.nd rfl (Or.inl rfl) (pe_op op_cat (pv 3) (pe_lst (pa_cons pe_str (pa_cons pe_str (pa_cons pe_str (pa_cons pe_str (pa_cons pe_str (pa_cons pe_str (pa_cons pe_str pa_nil))))))))))
        (pss_cons (ps_set (i := 3) sc__law_odd.nd rfl (Or.inl rfl) (pe_op op_cat (pv 3) (pe_lst (pa_cons (pe_tup (pa_cons pe_str (pa_cons (pe_ix ix_list (pv 1) pe_int (fun _ _ => rfl)) pa_nil))) (pa_cons (pe_tup (pa_cons pe_str (pa_cons (pe_tup (pa_cons pe_str (pa_cons pe_int pa_nil))) pa_nil))) (pa_cons (pe_tup (pa_cons pe_str (pa_cons pe_int pa_nil))) (pa_cons (pe_tup (pa_cons pe_str (pa_cons (pe_ix ix_list (pv 1) pe_int (fun _ _ => rfl)) (pa_cons (pe_tup (pa_cons pe_str (pa_cons pe_int pa_nil))) pa_nil)))) pa_nil)))))))
        (pss_cons (ps_if (pt_val (pe_callB call_isi (by rfl) T.m_isinstance (by decide +kernel) (pa_cons (pv 0) (pa_cons (pe_bltn (v := .ty "tuple") (by rfl) T.m_tuple (by decide +kernel) rfl) pa_nil)))) (pss_cons (ps_set (i := 3) sc__law_odd.nd rfl (Or.inl rfl) (pe_op op_cat (pv 3) (pe_lst (pa_cons (pe_callTy call_list_of (by rfl) T.m_list (by decide +kernel) (pa_cons (pv 0) pa_nil)) (pa_cons (pe_op op_catA (pv 0) (pe_slice sl_tupA (pv 0) po_none (po_some pe_int))) (pa_cons (pe_slice sl_tupA (pv 0) (po_some pe_int) po_none) (pa_cons (pe_slice sl_tupA (pv 0) po_none (po_some (pe_un un_neg pe_int))) (pa_cons (pe_op op_catA (pv 0) (pe_tup (pa_cons (pv 0) pa_nil))) (pa_cons (pe_tup (pa_cons pe_str (pa_cons (pv 0) pa_nil))) pa_nil)))))))))
        (pss_cons (ps_set (i := 3) sc__law_odd.nd rfl (Or.inl rfl) (pe_op op_cat (pv 3) (pe_lst (pa_cons (pe_tup (pa_cons pe_str (pa_cons (pe_tup (pa_cons pe_str (pa_cons (pe_tup (pa_cons pe_str (pa_cons (pv 0) pa_nil))) pa_nil))) pa_nil))) (pa_cons (pe_tup (pa_cons (pe_tup (pa_cons pe_str (pa_cons (pe_tup (pa_cons pe_str (pa_cons pe_int pa_nil))) (pa_cons (pv 0) pa_nil)))) pa_nil)) pa_nil)))))
        (pss_one (ps_set (i := 3) sc__law_odd.nd rfl (Or.inl rfl) (pe_op op_cat (pv 3) (pe_lst (pa_cons (pe_op op_catA (pv 0) (pe_tup (pa_cons (pe_tup (pa_cons pe_str (pa_cons (pe_tup (pa_cons pe_str (pa_cons pe_int pa_nil))) pa_nil))) pa_nil))) (pa_cons (pe_tup (pa_cons pe_str (pa_cons (pv 0) pa_nil))) pa_nil)))))))) pss_nil)
        (pss_one (ps_ret (pe_ix ix_list (pv 3) (pe_call G__law_mixed (hr.mono (by omega)) (by rfl) T.g__law_mixed T.F__law_mixed.kp T.b__law_mixed .nil pass0 (pa_cons (pv 2) (pa_cons pe_int (pa_cons (pe_callB call_len_seq (by rfl) T.m_len (by decide +kernel) (pa_cons (pv 3) pa_nil)) pa_nil)))) (fun _ _ => rfl))))))))), ?_⟩
    have zl : ∀ z ∈ zs, z.length ≤ 1000 := fun z hz => Nat.le_trans (nms.nm z hz).hi (by decide)
    have z16 := nms.len
    generalize hN : (txs t).length = N at q
    refine st_asg (Ml.run (K := K) (n := 100) (c := 16) (Ml.mono (mlT_lst (mts_cons mt_non (mts_cons mt_bl (mts_cons mt_int (mts_cons mt_neg (mts_cons mt_int (mts_cons mt_int (mts_cons mt_int (mts_cons mt_int (mts_cons mt_int (mts_cons mt_int (mts_cons mt_neg (mts_cons mt_str (mts_cons mt_str (mts_cons mt_str (mts_cons (mt_tup mts_nil) (mts_cons mt_el mts_nil))))))))))))))))) (by decide) rfl) fun H1 L1 ts1 s1 e1 l1 w1 => ?_)
    dsimp only [List.set, L2.start]
    have eL1 := s1 _ _ eL
    refine st_asg (Ml.run (K := K) (n := 100) (c := 16 + 2 + 4 + 4) (ml_cat (ml_cat (ml_cat (Ml.mono (ml_var (i := 3) rfl e1 w1) (Nat.le_refl _) l1)
      (Ml.mono (mlT_lst (mts_cons (mt_tup (mts_cons mt_str mts_nil)) (mts_cons (mt_tup (mts_cons mt_str (mts_cons mt_int mts_nil))) mts_nil))) (by decide) rfl) (by omega))
      (Ml.mono (ml_names (i := 1) (lo := none) (hi := some 4) (c := 4) rfl eL1 zl (fun _ _ h => h) (fun _ _ h => ⟨_, rfl, h⟩) (by unfold cutT; rw [List.length_take, List.length_drop, List.length_map, z16]; rfl)) (by decide) rfl) (by omega))
      (Ml.mono (ml_names (i := 1) (lo := some 12) (hi := none) (c := 4) rfl eL1 zl (fun _ _ h => ⟨_, rfl, h⟩) (fun _ _ h => h) (by unfold cutT; rw [List.length_take, List.length_drop, List.length_map, z16]; rfl)) (by decide) rfl) (by omega)) fun H2 L2 ts2 s2 e2 l2 w2 => ?_)
    have eL2 := s2 _ _ eL1
    have s02 := s1.trans s2
    refine st_asg (Ml.run (K := K) (n := 100) (c := 26 + 7) (ml_cat (Ml.mono (ml_var (i := 3) rfl e2 w2) (Nat.le_refl _) l2) (Ml.mono (mlT_lst (mts_cons mt_str (mts_cons mt_str (mts_cons mt_str (mts_cons mt_str (mts_cons mt_str (mts_cons mt_str (mts_cons mt_str mts_nil)))))))) (by decide) rfl) (by omega)) fun H3 L3 ts3 s3 e3 l3 w3 => ?_)
    have eL3 := s3 _ _ eL2
    have s03 := s02.trans s3
    refine st_asg (Ml.run (K := K) (n := 100) (c := 33 + 4) (ml_cat (Ml.mono (ml_var (i := 3) rfl e3 w3) (Nat.le_refl _) l3) (Ml.mono (mlT_lst (mts_cons (mt_tup (mts_cons mt_str (mts_cons (mt_name (i := 1) (k := 0) rfl eL3 zl (by omega)) mts_nil))) (mts_cons (mt_tup (mts_cons mt_str (mts_cons (mt_tup (mts_cons mt_str (mts_cons mt_int mts_nil))) mts_nil))) (mts_cons (mt_tup (mts_cons mt_str (mts_cons mt_int mts_nil))) (mts_cons (mt_tup (mts_cons mt_str (mts_cons (mt_name (i := 1) (k := 12) rfl eL3 zl (by omega)) (mts_cons (mt_tup (mts_cons mt_str (mts_cons mt_int mts_nil))) mts_nil)))) mts_nil))))) (by decide) rfl) (by omega)) fun H4 L4 ts4 s4 e4 l4 w4 => ?_)
    have s04 := s03.trans s4
    refine ifs_by (fun σ' H' => ∃ (L : Addr) (ts : List Tr), Same H H' ∧ H' L = some (.lst (ts.map Tr.v)) ∧ 1 ≤ ts.length ∧ ts.length ≤ 1000 ∧ (∀ x ∈ ts, Wt K H' x ∧ (txs x).length ≤ 20 * N + 100) ∧ σ' = [some t.v, some (.ref Ln), some (.int c), some (.ref L)]) ?_ fun Nx hN' => ?_
    · rintro σ' H' ⟨L, ts, s', e', lo, hi, w, rfl⟩
      refine ⟨_, rfl, _, rfl, _, rfl, L, _, rfl, .inl (.of e'), ?_⟩
      refine ⟨.int c, 1, _, rfl, .inl ⟨c, rfl⟩, by decide, by decide, by rw [List.length_map]; omega, by rw [List.length_map]; omega, fun H6 r k6 _ r0 r1 => ?_⟩
      have s6 : Same H' H6 := Kp.same (Same.refl _) k6 fun b e => nomatch e
      rw [List.length_map] at r1
      obtain ⟨j, rfl⟩ := Int.eq_ofNat_of_zero_le r0
      have jl : j < ts.length := by omega
      have hx : (ts.map Tr.v)[j]? = some (ts[j]).v := by rw [List.getElem?_map, List.getElem?_eq_getElem jl]; rfl
      obtain ⟨wx, lx⟩ := w _ (List.getElem_mem jl)
      exact ⟨L, _, _, _, rfl, rfl, .of (s6 _ _ e'), atI_nat hx, q _ _ (s'.trans s6) (wx.sm s6) lx⟩
    have wt4 := wt.sm s04
    refine ⟨_, rfl, _, _, _, _, isT t.pd, rfl, .ty _, wt4.ty, kit_tup t.pd, _, rfl, ?_⟩
    cases hT : isT t.pd with
    | false => exact ifF rfl (hN' _ _ ⟨L4, ts4, s04, e4, by omega, by omega, fun x hx => ⟨(w4 x hx).1, Nat.le_trans (w4 x hx).2 (by omega)⟩, rfl⟩)
    | true =>
    obtain ⟨p, us, rfl⟩ := tup_of hT
    obtain ⟨hp, _, wus⟩ := wt.nd_inv
    have lu := few.inv.1
    have nu : (txsL us).length ≤ N := by rw [← hN, txs_nd]; exact Nat.le_refl _
    have hp4 := sqT_sm s04 hp
    have wu4 : ∀ x ∈ us, Wt K H4 x := fun x hx => (wus x hx).sm s04
    refine ifT rfl ?_
    refine st_asg (Ml.run (K := K) (n := 20 * N + 100) (c := 37 + 6) (ml_cat (Ml.mono (ml_var (i := 3) rfl e4 w4) (by omega) l4) (Ml.mono (mlT_lst (mts_cons (mt_listv (i := 0) rfl hp4) (mts_cons (mt_of_mu (mu_cat (mu_var (i := 0) rfl hp4 wu4 lu nu) (mu_cut (mu_var (i := 0) rfl hp4 wu4 lu nu) mo_no (mo_int (K := K) md_int)) (by omega)) (by omega)) (mts_cons (mt_of_mu (mu_cut (mu_var (i := 0) rfl hp4 wu4 lu nu) (mo_int (K := K) md_int) mo_no) (by omega)) (mts_cons (mt_of_mu (mu_cut (mu_var (i := 0) rfl hp4 wu4 lu nu) mo_no (mo_int (K := K) (md_neg md_int))) (by omega)) (mts_cons (mt_of_mu (mu_cat (mu_var (i := 0) rfl hp4 wu4 lu nu) (mu_tup (mts_cons (mt_var (x := .nd p us) (i := 0) rfl wt4 (Nat.le_of_eq hN)) mts_nil)) (by omega)) (by omega)) (mts_cons (mt_tup (mts_cons mt_str (mts_cons (mt_var (x := .nd p us) (i := 0) rfl wt4 (Nat.le_of_eq hN)) mts_nil))) mts_nil))))))) (by omega) rfl) (by omega)) fun H5 L5 ts5 s5 e5 l5 w5 => ?_)
    have wt5 := wt4.sm s5
    have hp5 := sqT_sm s5 hp4
    have wu5 : ∀ x ∈ us, Wt K H5 x := fun x hx => (wu4 x hx).sm s5
    refine st_asg (Ml.run (K := K) (n := 20 * N + 100) (c := 43 + 2) (ml_cat (Ml.mono (ml_var (i := 3) rfl e5 w5) (by omega) l5) (Ml.mono (mlT_lst (mts_cons (mt_tup (mts_cons mt_str (mts_cons (mt_tup (mts_cons mt_str (mts_cons (mt_tup (mts_cons mt_str (mts_cons (mt_var (x := .nd p us) (i := 0) rfl wt5 (Nat.le_of_eq hN)) mts_nil))) mts_nil))) mts_nil))) (mts_cons (mt_tup (mts_cons (mt_tup (mts_cons mt_str (mts_cons (mt_tup (mts_cons mt_str (mts_cons mt_int mts_nil))) (mts_cons (mt_var (x := .nd p us) (i := 0) rfl wt5 (Nat.le_of_eq hN)) mts_nil)))) mts_nil)) mts_nil))) (by omega) rfl) (by omega)) fun H6 L6 ts6 s6 e6 l6 w6 => ?_)
    have wt6 := wt5.sm s6
    have hp6 := sqT_sm s6 hp5
    have wu6 : ∀ x ∈ us, Wt K H6 x := fun x hx => (wu5 x hx).sm s6
    have F : Ml K H6 [some (.ref p), some (.ref Ln), some (.int c), some (.ref L6)] (20 * N + 100) (45 + 2) (tOp rCat (tVar 3) (tLst (tCons (tOp (rCatA K) (tVar 0) (tTup (tCons (tTup (tCons (tC (.str "tell")) (tCons (tTup (tCons (tC (.str "number")) (tCons (tC (.int 1)) tNil))) tNil))) tNil))) (tCons (tTup (tCons (tC (.str "not")) (tCons (tVar 0) tNil))) tNil)))) :=
      ml_cat (Ml.mono (ml_var (i := 3) rfl e6 w6) (by omega) l6) (Ml.mono (mlT_lst (mts_cons (mt_of_mu (mu_cat (mu_var (i := 0) rfl hp6 wu6 lu nu) (mu_tup (mts_cons (mt_tup (mts_cons mt_str (mts_cons (mt_tup (mts_cons mt_str (mts_cons mt_int mts_nil))) mts_nil))) mts_nil)) (by omega)) (by omega)) (mts_cons (mt_tup (mts_cons mt_str (mts_cons (mt_var (x := .nd p us) (i := 0) rfl wt6 (Nat.le_of_eq hN)) mts_nil))) mts_nil))) (by omega) rfl) (by omega)
    exact F H6 _ (Same.refl _) fun H7 L7 ts7 s7 e7 l7 w7 => hN' _ _ ⟨L7, ts7, ((s04.trans s5).trans s6).trans s7, e7, by omega, by omega, w7, rfl⟩
def sp_edX (K : PySem.W.Frag) (D : Nat) : Sp := fun vs H Q _ => ∃ (d : Nat) (t : Tr) (Ln : Addr) (zs : List Str) (c deep : Int), D = d + 1 ∧ vs = [t.v, .ref Ln, .int c, .int deep] ∧ Wt K H t ∧ Few t ∧ H Ln = some (.lst (zs.map V.str)) ∧ Nms zs ∧ 0 ≤ deep ∧ deep + d = 12 ∧ ∀ H' (u : Tr), Same H H' → Wt K H' u → (txs u).length ≤ (2 * d + 20) * (txs t).length + 100 → Q u.v H'
theorem ok_edX (T : Top K mg) : ∀ D : Nat, FnOk P w K mg base CX0 (D + 3) (He.ga K "_law_edited") T.fd__law_edited ["_law_thing", "_law_names_here", "_law_cell", "_law_deep"] (sp_edX K D)
  | 0 => by
    refine T.F__law_edited.ok sc__law_edited (fun vs H Q E h => ?_) (fun cdv A outer s H vs Q E hr h => ?_)
    · obtain ⟨d, t, Ln, zs, c, deep, z, _⟩ := h
      omega
    · obtain ⟨d, t, Ln, zs, c, deep, z, _⟩ := h
      omega
  | D + 1 => by
    have G__law_edited := ok_edX T D
    have G__law_mixed := ok__law_mixed (P := P) (w := w) (base := base) T
    have G__law_odd := ok_oddX (P := P) (w := w) (base := base) T
    refine T.F__law_edited.ok sc__law_edited (fun vs H Q E h => ?_) (fun cdv A outer s H vs Q E hr h => ?_)
    · obtain ⟨d, t, Ln, zs, c, deep, _, rfl, _⟩ := h
      rfl
    · obtain ⟨d, t, Ln, zs, c, deep, hD, rfl, wt, few, eL, nms, d0, hd, q⟩ := h
      obtain rfl : D = d := by omega
      refine ⟨_, PSs.nox (pss_cons (ps_if (PW.pt (pw_and (pt_val (pe_callB call_isi (by rfl) T.m_isinstance (by decide +kernel) (pa_cons (pv 0) (pa_cons (pe_bltn (v := .ty "tuple") (by rfl) T.m_tuple (by decide +kernel) rfl) pa_nil)))) (pw_and (pt_cmpR op_gt (pe_callB call_len_seq (by rfl) T.m_len (by decide +kernel) (pa_cons (pv 0) pa_nil)) pe_int (nomark _)) (pw_and (pt_cmpR op_gt (pe_call G__law_mixed (hr.mono (by omega)) (by rfl) T.g__law_mixed T.F__law_mixed.kp T.b__law_mixed .nil pass0 (pa_cons (pe_op op_add (pv 2) (pv 3)) (pa_cons pe_int (pa_cons pe_int pa_nil)))) pe_int (nomark _)) (pw_and1 (pt_cmpR op_lt (pv 3) pe_int (nomark _))))))) (pss_cons (ps_set (i := 4) sc__law_edited.nd rfl (Or.inl rfl) (pe_call G__law_mixed (hr.mono (by omega)) (by rfl) T.g__law_mixed T.F__law_mixed.kp T.b__law_mixed .nil pass0 (pa_cons (pe_op op_add (pv 2) (pe_op op_mul pe_int (pv 3))) (pa_cons pe_int (pa_cons (pe_callB call_len_seq (by rfl) T.m_len (by decide +kernel) (pa_cons (pv 0) pa_nil)) pa_nil)))))
        (pss_cons (ps_set (i := 5) sc__law_edited.nd rfl (Or.inl rfl) (pe_call G__law_edited (hr.mono (by omega)) (by rfl) T.g__law_edited T.F__law_edited.kp T.b__law_edited .nil pass0 (pa_cons (pe_ix ix_tup (pv 0) (pv 4) (fun _ _ => rfl)) (pa_cons (pv 1) (pa_cons (pv 2) (pa_cons (pe_op op_add (pv 3) pe_int) pa_nil))))))
        (pss_one (ps_ret (pe_op op_catA (pe_op op_catA (pe_slice sl_tupA (pv 0) po_none (po_some (pv 4))) (pe_tup (pa_cons (pv 5) pa_nil))) (pe_slice sl_tupA (pv 0) (po_some (pe_op op_add (pv 4) pe_int)) po_none)))))) pss_nil)
        (pss_one (ps_ret (pe_call G__law_odd (hr.mono (by omega)) (by rfl) T.g__law_odd T.F__law_odd.kp T.b__law_odd .nil pass0 (pa_cons (pv 0) (pa_cons (pv 1) (pa_cons (pv 2) pa_nil))))))), ?_⟩
      generalize hN : (txs t).length = N at q
      refine ifs_by (fun σ' H' => Same H H' ∧ σ' = [some t.v, some (.ref Ln), some (.int c), some (.int deep), none, none]) ?_ fun Nx hN' => ?_
      · rintro σ' H' ⟨s', rfl⟩
        refine ⟨_, rfl, _, rfl, _, rfl, t, Ln, zs, c, rfl, wt.sm s', few, s' _ _ eL, nms, fun H2 u s2 wu lu => q _ _ (s'.trans s2) wu (Nat.le_trans lu ?_)⟩
        rw [hN]
        exact Nat.add_le_add_right (Nat.mul_le_mul_right _ (by omega)) _
      refine ⟨_, rfl, _, _, _, _, isT t.pd, rfl, .ty _, wt.ty, kit_tup t.pd, _, rfl, ?_⟩
      cases hT : isT t.pd with
      | false => exact ifF rfl (hN' _ _ ⟨Same.refl _, rfl⟩)
      | true =>
      obtain ⟨p, us, rfl⟩ := tup_of hT
      obtain ⟨hp, _, wus⟩ := wt.nd_inv
      obtain ⟨lu, fus⟩ := few.inv
      have ll : (us.map Tr.v).length = us.length := List.length_map ..
      have nu : (txsL us).length ≤ N := by rw [← hN, txs_nd]; exact Nat.le_refl _
      refine ifT rfl ⟨_, rfl, p, _, rfl, .inr hp, _, _, rfl, rfl, _, rfl, ?_⟩
      by_cases l0 : 0 < us.length
      case neg => exact ifN (by omega) (hN' _ _ ⟨Same.refl _, rfl⟩)
      refine ifD (by omega) ⟨_, rfl, _, rfl, _, _, rfl, rfl, .int (c + deep), 2, 6, rfl, .inl ⟨_, rfl⟩, by decide, by decide, by decide, by decide, fun H1 r1 k1 _ _ _ => ⟨_, _, rfl, rfl, _, rfl, ?_⟩⟩
      have s1 : Same H H1 := Kp.same (Same.refl _) k1 fun b e => nomatch e
      by_cases cr : r1 > 0
      case neg => exact ifN cr (hN' _ _ ⟨s1, rfl⟩)
      refine ifD cr ⟨_, rfl, _, _, rfl, rfl, _, rfl, ?_⟩
      cases D with
      | zero => exact ifN (by omega) (hN' _ _ ⟨s1, rfl⟩)
      | succ D =>
      refine ifD (by omega) ?_
      have hp1 := sqT_sm s1 hp
      refine st_asg ⟨_, rfl, _, rfl, _, _, rfl, rfl, by show CMul 3 deep; unfold CMul; omega, _, _, rfl, rfl, _, rfl, p, _, rfl, .inr hp1, ?_⟩
      refine ⟨.int (c + 3 * deep), 3, _, rfl, .inl ⟨_, rfl⟩, by decide, by decide, by rw [ll]; omega, by rw [ll]; omega, fun H2 r k2 _ r0 r1 => ?_⟩
      have s2 : Same H1 H2 := Kp.same (Same.refl _) k2 fun b e => nomatch e
      have s02 := s1.trans s2
      rw [ll] at r1
      obtain ⟨j, rfl⟩ := Int.eq_ofNat_of_zero_le r0
      have jl : j < us.length := by omega
      have hx : (us.map Tr.v)[j]? = some (us[j]).v := by rw [List.getElem?_map, List.getElem?_eq_getElem jl]; rfl
      have wx := wus _ (List.getElem_mem jl)
      have fx := fus _ (List.getElem_mem jl)
      have nx : (txs us[j]).length ≤ N := Nat.le_trans (txsL_len (List.getElem_mem jl)) nu
      have hp2 := sqT_sm s2 hp1
      refine st_asg ⟨_, rfl, _, rfl, p, _, _, _, rfl, rfl, hp2, atI_nat hx, _, rfl, _, rfl, _, rfl, _, _, rfl, rfl, D, us[j], Ln, zs, c, deep + 1, rfl, rfl, wx.sm s02, fx, s02 _ _ eL, nms, by omega, by omega, fun H3 u s3 wu lu' => ?_⟩
      have s03 := s02.trans s3
      have hp3 := sqT_sm s03 hp
      have wu3 : ∀ x ∈ us, Wt K H3 x := fun x hx => (wus x hx).sm s03
      have lu2 : (txs u).length ≤ (2 * D + 20) * N + 100 := Nat.le_trans lu' (Nat.add_le_add_right (Nat.mul_le_mul_left _ nx) _)
      refine Mt.run (K := K) (n := (2 * (D + 1) + 20) * N + 100) (Mt.mono (mt_of_mu (mu_cat (mu_cat (mu_cut (mu_var (i := 0) rfl hp3 wu3 lu nu) mo_no (mo_int (K := K) (md_var (i := 4) rfl (.int _)))) (mu_tup (mts_cons (mt_var (x := u) (i := 5) rfl wu lu2) mts_nil)) (by omega)) (mu_cut (mu_var (i := 0) rfl hp3 wu3 lu nu) (mo_int (K := K) (md_i0 (md_var (i := 4) rfl (.int _)) md_int)) mo_no) (by omega)) (by omega)) ?_) fun H4 x s4 w4 l4 => q _ _ (s03.trans s4) w4 l4
      rw [show 2 * (D + 1) + 20 = (2 * D + 20) + 2 by omega, Nat.add_mul (2 * D + 20) 2 N]
      omega
end

/-! trees of data -/
mutual
def Tr.dd : Tr → PyData
  | .non => .none
  | .bl b => .bool b
  | .int i => .int i
  | .str z => .str z
  | .lst _ => .list []
  | .nd _ ts => .tuple (ddL ts)
def ddL : List Tr → List PyData
  | [] => []
  | t :: r => t.dd :: ddL r
end
mutual
/-- tuples, ints and texts, none too long -/
def gdD : PyData → Bool
  | .int _ => true
  | .str z => decide (z.length ≤ 1000)
  | .tuple xs => decide (xs.length ≤ 1000) && gdL xs
  | .none => false
  | .bool _ => false
  | .list _ => false
  | .dict _ => false
def gdL : List PyData → Bool
  | [] => true
  | d :: r => gdD d && gdL r
end
mutual
/-- how many texts -/
def cnD : PyData → Nat
  | .str _ => 1
  | .tuple xs => cnL xs
  | .int _ => 0
  | .none => 0
  | .bool _ => 0
  | .list _ => 0
  | .dict _ => 0
def cnL : List PyData → Nat
  | [] => 0
  | d :: r => cnD d + cnL r
end
mutual
theorem dd_txs : ∀ t : Tr, (txs t).length = cnD t.dd
  | .non => by rw [txs, Tr.dd, cnD]; rfl
  | .bl b => by rw [txs, Tr.dd, cnD]; rfl
  | .int i => by rw [txs, Tr.dd, cnD]; rfl
  | .str z => by rw [txs, Tr.dd, cnD]; rfl
  | .lst a => by rw [txs, Tr.dd, cnD]; rfl
  | .nd p ts => by rw [txs, Tr.dd, cnD]; exact ddL_txs ts
theorem ddL_txs : ∀ ts : List Tr, (txsL ts).length = cnL (ddL ts)
  | [] => by rw [txsL, ddL, cnL]; rfl
  | t :: r => by rw [txsL, ddL, cnL, List.length_append, dd_txs t, ddL_txs r]
end
section
variable {K : PySem.W.Frag} {H : Hp}
mutual
theorem tree_of : ∀ (d : PyData) (v : V), gdD d = true → Dp K H v d → ∃ t : Tr, t.v = v ∧ Wt K H t ∧ t.dd = d ∧ Few t
  | .int i, _, _, h => by cases h; exact ⟨.int i, rfl, .int i, by rw [Tr.dd], .int i⟩
  | .str z, _, g, h => by
    cases h
    rw [gdD, decide_eq_true_eq] at g
    exact ⟨.str z, rfl, .str z g, by rw [Tr.dd], .str z⟩
  | .tuple xs, _, g, h => by
    rw [gdD, Bool.and_eq_true, decide_eq_true_eq] at g
    cases h with
    | tup hp da =>
      obtain ⟨ts, ev, w, e, f⟩ := treeL_of xs _ g.2 da
      have l : ts.length = xs.length := by
        have := dpAll_len da
        rw [← ev, List.length_map] at this
        exact this
      exact ⟨.nd _ ts, rfl, .nd (by rw [ev]; exact hp) (by omega) w, by rw [Tr.dd, e], .nd (by omega) f⟩
  | .none, _, g, _ => by rw [gdD] at g; cases g
  | .bool _, _, g, _ => by rw [gdD] at g; cases g
  | .list _, _, g, _ => by rw [gdD] at g; cases g
  | .dict _, _, g, _ => by rw [gdD] at g; cases g
theorem treeL_of : ∀ (ds : List PyData) (vs : List V), gdL ds = true → DpAll K H vs ds → ∃ ts : List Tr, ts.map Tr.v = vs ∧ (∀ t ∈ ts, Wt K H t) ∧ ddL ts = ds ∧ ∀ t ∈ ts, Few t
  | [], _, _, h => by
    cases h
    exact ⟨[], rfl, (fun _ h => nomatch h), by rw [ddL], fun _ h => nomatch h⟩
  | d :: ds, _, g, h => by
    rw [gdL, Bool.and_eq_true] at g
    cases h with
    | cons h1 h2 =>
      obtain ⟨t, e1, w1, d1, f1⟩ := tree_of d _ g.1 h1
      obtain ⟨ts, e2, w2, d2, f2⟩ := treeL_of ds _ g.2 h2
      refine ⟨t :: ts, by rw [List.map_cons, e1, e2], fun x hx => ?_, by rw [ddL, d1, d2], fun x hx => ?_⟩
      · rcases List.mem_cons.mp hx with rfl | hx
        · exact w1
        · exact w2 x hx
      · rcases List.mem_cons.mp hx with rfl | hx
        · exact f1
        · exact f2 x hx
end
end

section
variable {K : PySem.W.Frag} {H0 : Hp} {σ : L2.St}
theorem mu_rep {n c : Nat} {t tn : TE} {k : Nat} (h : Mu K H0 σ n c t) (hne : ∀ (H : Hp) (Q : VK), Same H0 H → (∀ H' p (ts : List Tr), Same H H' → SqT K H' p (ts.map Tr.v) → (∀ t ∈ ts, Wt K H' t) → ts.length = 1 → (txsL ts).length ≤ n → Q (.ref p) H') → t σ H Q) (hn : Md K H0 σ (.int (k : Int)) tn) (h1 : 1 ≤ k) (h2 : k ≤ 1000) : Mu K H0 σ (k * n) k (tOp (rRepT1 K) t tn) := fun H Q s q =>
  hne H _ s fun H1 p ts s1 e1 w1 l1 c1 => hn H1 _ (s.trans s1) fun H2 y s2 d2 => by
    cases dp_int d2
    obtain ⟨x, rfl⟩ := len_1 l1
    have e2 := sqT_sm s2 e1
    rw [txsL, txsL, List.append_nil] at c1
    refine ⟨p, _, _, rfl, rfl, e2, by simp, by omega, by omega, by simp, fun e => ?_, fun ne u nu => ?_⟩
    · have e1 : k = 1 := by omega
      subst e1
      exact q _ p [x] (s1.trans s2) e2 (fun t ht => (w1 t ht).sm s2) (Nat.le_refl _) (by rw [txsL, txsL, List.append_nil]; omega)
    · have er : ∀ j : Nat, (List.replicate j ([x].map Tr.v)).flatten = (List.replicate j x).map Tr.v := fun j => by
        induction j with
        | zero => rfl
        | succ j ih => rw [List.replicate_succ, List.replicate_succ, List.flatten_cons, ih]; rfl
      have el : ∀ j : Nat, (txsL (List.replicate j x)).length ≤ j * n := fun j => by
        induction j with
        | zero => rw [List.replicate_zero, txsL]; exact Nat.zero_le _
        | succ j ih => rw [List.replicate_succ, txsL, List.length_append, Nat.succ_mul]; omega
      refine q _ u (List.replicate k x) ((s1.trans s2).trans (same_new nu)) ?_ (fun t ht => ?_) (by rw [List.length_replicate]; exact Nat.le_refl _) (el k)
      · rw [Int.toNat_natCast, er]
        exact .of upd_same
      · rw [List.eq_of_mem_replicate ht]
        exact ((w1 x (List.mem_singleton.mpr rfl)).sm s2).sm (same_new nu)
theorem Mu.mono {n m c : Nat} {t : TE} (h : Mu K H0 σ n c t) (le : n ≤ m) : Mu K H0 σ m c t := fun H Q s q => h H Q s fun H' p ts s' e w l k => q H' p ts s' e w l (Nat.le_trans k le)
theorem mt_ixl {n c : Nat} {t ti : TE} {i : Int} (h : Ml K H0 σ n c t) (hi : Md K H0 σ (.int i) ti) (h0 : 0 ≤ i) (h1 : i < c) : Mt K H0 σ n (tOp (rIxL K) t ti) := fun H Q s q =>
  h H _ s fun H1 p ts s1 e1 l1 w1 => hi H1 _ (s.trans s1) fun H2 y s2 d2 => by
    cases dp_int d2
    obtain ⟨j, rfl⟩ := Int.eq_ofNat_of_zero_le h0
    have jl : j < ts.length := by omega
    have hx : (ts.map Tr.v)[j]? = some (ts[j]).v := by rw [List.getElem?_map, List.getElem?_eq_getElem jl]; rfl
    obtain ⟨wx, lx⟩ := w1 _ (List.getElem_mem jl)
    exact ⟨p, _, _, _, rfl, rfl, .of (s2 _ _ e1), atI_nat hx, q _ _ (s1.trans s2) (wx.sm s2) lx⟩
/-- c // a % b -/
theorem md_dm {c a b : Int} {i : Nat} (h : σ[i]? = some (some (.int c))) (ha : CDivW 0 a) (hb : 0 < b) : Md K H0 σ (.int (c / a % b)) (tOp (rI (fun _ j => 0 < j) fun i j => V.int (i % j)) (tOp (rI CDivW fun i j => V.int (i / j)) (tVar i) (tC (.int a))) (tC (.int b))) :=
  md_iC (md_iC (md_var h (.int _)) md_int (show CDivW c a from ha)) md_int hb
theorem md_m {c b : Int} {i : Nat} (h : σ[i]? = some (some (.int c))) (hb : 0 < b) : Md K H0 σ (.int (c % b)) (tOp (rI (fun _ j => 0 < j) fun i j => V.int (i % j)) (tVar i) (tC (.int b))) :=
  md_iC (md_var h (.int _)) md_int hb
theorem Md.run {H : Hp} {d : PyData} {t : TE} {Q : VK} (h : Md K H σ d t) (q : ∀ H' x, Same H H' → Dp K H' x d → Q x H') : t σ H Q := h H Q (Same.refl _) q
theorem Mu.run {H : Hp} {n c : Nat} {t : TE} {Q : VK} (h : Mu K H σ n c t) (q : ∀ H' p (ts : List Tr), Same H H' → SqT K H' p (ts.map Tr.v) → (∀ t ∈ ts, Wt K H' t) → ts.length ≤ c → (txsL ts).length ≤ n → Q (.ref p) H') : t σ H Q := h H Q (Same.refl _) q
theorem mu1 {n : Nat} {u : TA} (r : Mts K H0 σ n 1 u) : ∀ (H : Hp) (Q : VK), Same H0 H → (∀ H' p (ts : List Tr), Same H H' → SqT K H' p (ts.map Tr.v) → (∀ t ∈ ts, Wt K H' t) → ts.length = 1 → (txsL ts).length ≤ n → Q (.ref p) H') → tTup u σ H Q := fun H Q s q =>
  r H _ s fun H1 ts s1 lc w1 l1 => ⟨by rw [List.length_map, lc, sizeLine_eq]; omega, fun p np => q _ p ts (s1.trans (same_new np)) (.of upd_same) (fun t ht => (w1 t ht).sm (same_new np)) lc l1⟩
end
theorem as1 {te : TE} {i : Nat} {D : Ends} {σ : L2.St} {H : Hp} (h : te σ H fun v H' => D.nx (σ.set i (some v)) H') : tAsg te (gName i) D σ H := h
theorem gn1 {i : Nat} {x : V} {σ : L2.St} {H : Hp} {Q : L2.St → Hp → Prop} (h : Q (σ.set i (some x)) H) : gName i x σ H Q := h
theorem for_rg1 {te : TE} {g : TG} {tb : TS} {D : Ends} {σ : L2.St} {H : Hp} (h : te σ H fun x H1 => ∃ j : Int, [x] = [.int j] ∧ -(2 ^ 62) ≤ j ∧ j < 2 ^ 62 ∧ ForW (Itr 0 j.toNat) g tb D σ H1) : tFor (iRng1 (tCons te tNil)) g tb D σ H := h
theorem sfor_rg1 {te : TE} {g : TG} {tb u : TS} {D : Ends} {σ : L2.St} {H : Hp} (h : te σ H fun x H1 => ∃ j : Int, [x] = [.int j] ∧ -(2 ^ 62) ≤ j ∧ j < 2 ^ 62 ∧ ForW (Itr 0 j.toNat) g tb { D with nx := u D } σ H1) : tSeq (tFor (iRng1 (tCons te tNil)) g tb) u D σ H := h
theorem ret1 {te : TE} {D : Ends} {σ : L2.St} {H : Hp} (h : te σ H D.rt) : tRet te D σ H := h
theorem div_ok {j : Int} {b : Nat} (h : 0 < j) (hb : j.natAbs < 2 ^ b) (h0 : 0 < b) (h9 : b ≤ 9000) : CDivW 0 j := wide_div h hb h0 h9
section
variable {P : Program} {w : World} {K : PySem.W.Frag} {mg : Str → Option Value} {base : Heap}
def setD (zs : List Str) (i : Nat) : PyData := .tuple [.str "set", .str (zs.getD i ""), .tuple [.str "number", .int i]]
theorem nLs_set (zs : List Str) : ∀ l : List Nat, nLs (l.map (setD zs)) = true
  | [] => rfl
  | a :: r => by
    rw [List.map_cons, nLs, nLs_set zs r]
    rfl
theorem gdL_set {zs : List Str} (hz : ∀ z ∈ zs, z.length ≤ 1000) : ∀ l : List Nat, gdL (l.map (setD zs)) = true
  | [] => by rw [List.map_nil, gdL]
  | a :: r => by
    have h1 : (zs.getD a "").length ≤ 1000 := by
      by_cases h : a < zs.length
      · rw [List.getD_eq_getElem?_getD, List.getElem?_eq_getElem h]
        exact hz _ (List.getElem_mem h)
      · rw [List.getD_eq_getElem?_getD, List.getElem?_eq_none (by omega)]
        decide +kernel
    have h2 : (("set" : Str)).length ≤ 1000 := by decide +kernel
    have h3 : (("number" : Str)).length ≤ 1000 := by decide +kernel
    rw [List.map_cons, gdL, gdL_set hz r, setD]
    rw [List.getD_eq_getElem?_getD] at h1
    simp [gdD, gdL, h1, h2, h3]
theorem cnL_set (zs : List Str) : ∀ l : List Nat, cnL (l.map (setD zs)) = 3 * l.length
  | [] => by rw [List.map_nil, cnL]; rfl
  | a :: r => by
    rw [List.map_cons, cnL, cnL_set zs r, setD, List.length_cons]
    simp [cnD, cnL]
    omega
theorem dpStrs {H : Hp} : ∀ {zs : List Str}, DpAll K H (zs.map V.str) (zs.map PyData.str)
  | [] => .nil
  | _ :: _ => .cons (.str _) dpStrs
/-- a body, small -/
def Bd (K : PySem.W.Frag) (H : Hp) (n : Nat) (p : Addr) : Prop := ∃ ts : List Tr, SqT K H p (ts.map Tr.v) ∧ (∀ t ∈ ts, Wt K H t) ∧ ts.length ≤ 30 ∧ (txsL ts).length ≤ n
theorem Bd.sm {H H' : Hp} {n : Nat} {p : Addr} (s : Same H H') (h : Bd K H n p) : Bd K H' n p := by
  obtain ⟨ts, a, b, c, d⟩ := h
  exact ⟨ts, sqT_sm s a, fun t ht => (b t ht).sm s, c, d⟩
theorem Bd.wt {H : Hp} {n : Nat} {p : Addr} (h : Bd K H n p) : ∃ ts, Wt K H (.nd p ts) ∧ (txs (.nd p ts)).length ≤ n := by
  obtain ⟨ts, a, b, c, d⟩ := h
  exact ⟨ts, .nd a (by omega) b, by rw [txs_nd]; exact d⟩
def sp_grX (K : PySem.W.Frag) : Sp := fun vs H Q _ => ∃ c : Int, vs = [.int c] ∧ ∀ H' (u : Tr), Same H H' → Wt K H' u → (txs u).length ≤ 10000 → Q u.v H'
theorem ok_grX (T : Top K mg) : FnOk P w K mg base CX0 2 (He.ga K "_law_great") T.fd__law_great ["_law_cell"] (sp_grX K) := by
  have G__law_letter := ok__law_letter (P := P) (w := w) (base := base) T
  refine T.F__law_great.ok sc__law_great (fun vs H Q E h => ?_) (fun cdv A outer s H vs Q E hr h => ?_)
  · obtain ⟨c, rfl, _⟩ := h
    rfl
  · obtain ⟨c, rfl, q⟩ := h
    refine ⟨_, PSs.nox (pss_cons (ps_set (i := 1) sc__law_great.nd rfl (Or.inl rfl) (pe_ix ix_list (pe_lst (pa_cons pe_int (pa_cons pe_int (pa_cons pe_int pa_nil)))) (pe_op op_mod (pv 0) pe_int) (fun _ _ => rfl)))
        (pss_cons (ps_set (i := 2) sc__law_great.nd rfl (Or.inr rfl) (pe_lc (own := [("_law_k", 5)]) (by rfl) sc__law_great.nd (pi_range1 (by rfl) T.m_range (pa_cons pe_int pa_nil)) (blkOk_by (own := [("_law_k", 5)]) (N := N__law_great) (sc := defScope s__law_great) (by decide +kernel)) (fun _ _ _ _ _ => (pg_name (i := 5) sc__law_great.nd rfl (Or.inl rfl))) (fun _ _ _ _ _ => pts_nil) (fun _ _ _ _ _ => (pe_op op_add_str pe_str (pe_call G__law_letter (hr.mono (by omega)) (by rfl) T.g__law_letter T.F__law_letter.kp T.b__law_letter .nil pass0 (pa_cons (pv 5) pa_nil))))))
        (pss_cons (ps_set (i := 3) sc__law_great.nd rfl (Or.inl rfl) (pe_op op_mod (pe_op op_fdivW (pv 0) pe_int) pe_int))
        (pss_cons (ps_set (i := 4) sc__law_great.nd rfl (Or.inl rfl) (pe_op op_repT1 (pe_tup (pa_cons (pe_tup (pa_cons pe_str (pa_cons (pe_tup (pa_cons pe_str (pa_cons pe_int pa_nil))) pa_nil))) pa_nil)) (pv 1)))
        (pss_cons (ps_if (pt_cmpR op_eq (pv 3) pe_int (nomark _)) (pss_one (ps_set (i := 4) sc__law_great.nd rfl (Or.inl rfl) (pe_callTy call_tuple_of (by rfl) T.m_tuple (by decide +kernel) (pa_cons (pe_lc (own := [("_law_k", 5)]) (by rfl) sc__law_great.nd (pi_range1 (by rfl) T.m_range (pa_cons (pe_op op_sub (pv 1) pe_int) pa_nil)) (blkOk_by (own := [("_law_k", 5)]) (N := N__law_great) (sc := defScope s__law_great) (by decide +kernel)) (fun _ _ _ _ _ => (pg_name (i := 5) sc__law_great.nd rfl (Or.inl rfl))) (fun _ _ _ _ _ => pts_nil) (fun _ _ _ _ _ => (pe_tup (pa_cons pe_str (pa_cons (pe_ix (ix_listK (K := K) rfl) (pv 2) (pv 5) (fun _ _ => rfl)) (pa_cons (pe_tup (pa_cons pe_str (pa_cons (pv 5) pa_nil))) pa_nil)))))) pa_nil)))) pss_nil)
        (pss_cons (ps_if (pt_cmpR op_eq (pv 3) pe_int (nomark _)) (pss_cons (ps_set (i := 4) sc__law_great.nd rfl (Or.inl rfl) (pe_tup pa_nil))
        (pss_one (ps_for PassesOwn.never (by rfl) (pi_range1 (by rfl) T.m_range (pa_cons (pe_ix ix_list (pe_lst (pa_cons pe_int (pa_cons pe_int (pa_cons pe_int pa_nil)))) (pe_op op_mod (pv 0) pe_int) (fun _ _ => rfl)) pa_nil)) (pg_name (i := 5) sc__law_great.nd rfl (Or.inl rfl)) (pss_one (ps_set (i := 4) sc__law_great.nd rfl (Or.inl rfl) (pe_tup (pa_cons (pe_tup (pa_cons pe_str (pa_cons (pe_tup (pa_cons pe_str (pa_cons (pv 5) pa_nil))) (pa_cons (pe_tup pa_nil) (pa_cons (pv 4) pa_nil))))) (pa_cons (pe_tup (pa_cons pe_str (pa_cons (pe_tup (pa_cons pe_str (pa_cons (pv 5) pa_nil))) pa_nil))) pa_nil)))))))) pss_nil)
        (pss_cons (ps_if (pt_cmpR op_eq (pv 3) pe_int (nomark _)) (pss_one (ps_set (i := 4) sc__law_great.nd rfl (Or.inl rfl) (pe_tup (pa_cons (pe_tup (pa_cons pe_str (pa_cons (pe_tup (pa_cons pe_str (pa_cons pe_int pa_nil))) (pa_cons (pe_slice sl_tupA (pv 4) po_none (po_some (pe_op op_sub (pv 1) pe_int))) pa_nil)))) pa_nil)))) pss_nil)
        (pss_cons (ps_if (pt_cmpR op_eq (pe_op op_mod (pe_op op_fdivW (pv 0) pe_int) pe_int) pe_int (nomark _)) (pss_cons (ps_set (i := 6) sc__law_great.nd rfl (Or.inl rfl) (pe_tup (pa_cons pe_str (pa_cons pe_int pa_nil))))
        (pss_cons (ps_for PassesOwn.never (by rfl) (pi_range1 (by rfl) T.m_range (pa_cons pe_int pa_nil)) (pg_name (i := 7) sc__law_great.nd rfl (Or.inl rfl)) (pss_one (ps_set (i := 6) sc__law_great.nd rfl (Or.inl rfl) (pe_tup (pa_cons pe_str (pa_cons (pv 6) pa_nil))))))
        (pss_one (ps_ret (pe_tup (pa_cons (pe_tup pa_nil) (pa_cons (pe_tup pa_nil) (pa_cons (pe_tup pa_nil) (pa_cons (pe_tup (pa_cons (pe_tup (pa_cons pe_str (pa_cons (pv 6) pa_nil))) pa_nil)) pa_nil))))))))) pss_nil)
        (pss_cons (ps_if (pt_cmpR op_eq (pe_op op_mod (pe_op op_fdivW (pv 0) pe_int) pe_int) pe_int (nomark _)) (pss_one (ps_ret (pe_tup (pa_cons (pe_tup pa_nil) (pa_cons (pe_tup pa_nil) (pa_cons (pe_tup pa_nil) (pa_cons (pe_tup (pa_cons (pe_ix ix_list (pe_lst (pa_cons (pe_tup (pa_cons pe_str (pa_cons (pe_tup (pa_cons pe_str (pa_cons pe_int pa_nil))) pa_nil))) (pa_cons (pe_tup (pa_cons pe_str (pa_cons pe_int pa_nil))) pa_nil))) (pe_op op_mod (pv 0) pe_int) (fun _ _ => rfl)) (pa_cons (pe_tup (pa_cons pe_str (pa_cons (pe_tup (pa_cons pe_str (pa_cons pe_int pa_nil))) pa_nil))) pa_nil))) pa_nil))))))) pss_nil)
        (pss_cons (ps_if (pt_cmpR op_eq (pe_op op_mod (pe_op op_fdivW (pv 0) pe_int) pe_int) pe_int (nomark _)) (pss_cons (ps_set (i := 8) sc__law_great.nd rfl (Or.inl rfl) (pe_slice sl_tupA (pe_tup (pa_cons (pe_tup (pa_cons pe_str (pa_cons pe_str pa_nil))) (pa_cons (pe_tup (pa_cons pe_str (pa_cons pe_int pa_nil))) (pa_cons (pe_tup (pa_cons pe_str (pa_cons pe_str pa_nil))) pa_nil)))) po_none (po_some (pe_op op_add pe_int (pe_op op_mod (pv 0) pe_int)))))
        (pss_cons (ps_set (i := 9) sc__law_great.nd rfl (Or.inl rfl) (pe_tup (pa_cons (pe_tup (pa_cons pe_str (pa_cons pe_str (pa_cons (pe_ix ix_list (pe_lst (pa_cons pe_str (pa_cons pe_str (pa_cons pe_str pa_nil)))) (pe_op op_mod (pe_op op_fdivW (pv 0) pe_int) pe_int) (fun _ _ => rfl)) (pa_cons (pv 8) pa_nil))))) pa_nil)))
        (pss_one (ps_ret (pe_tup (pa_cons (pe_tup (pa_cons (pe_tup (pa_cons pe_str (pa_cons (pe_tup (pa_cons pe_str (pa_cons pe_str pa_nil))) (pa_cons (pe_ix ix_list (pe_lst (pa_cons (pe_tup pa_nil) (pa_cons (pe_tup pa_nil) (pa_cons (pv 9) pa_nil)))) (pe_op op_mod (pe_op op_fdivW (pv 0) pe_int) pe_int) (fun _ _ => rfl)) pa_nil)))) pa_nil)) (pa_cons (pe_tup pa_nil) (pa_cons (pe_tup pa_nil) (pa_cons (pv 9) pa_nil))))))))) pss_nil)
        (pss_one (ps_ret (pe_ix ix_list (pe_lst (pa_cons (pe_tup (pa_cons (pe_tup pa_nil) (pa_cons (pe_tup pa_nil) (pa_cons (pe_tup pa_nil) (pa_cons (pv 4) pa_nil))))) (pa_cons (pe_tup (pa_cons (pe_tup (pa_cons (pe_tup (pa_cons pe_str (pa_cons (pe_tup pa_nil) (pa_cons (pv 4) pa_nil)))) pa_nil)) (pa_cons (pe_tup pa_nil) (pa_cons (pe_tup pa_nil) (pa_cons (pe_tup pa_nil) pa_nil))))) pa_nil))) (pe_op op_mod (pe_op op_fdivW (pv 0) pe_int) pe_int) (fun _ _ => rfl)))))))))))))), ?_⟩
    have hm : ([PyData.int 24, .int 25, .int 26] : List PyData)[(c % 3).toNat]? = some (.int (24 + c % 3)) := by
      rcases (by omega : c % 3 = 0 ∨ c % 3 = 1 ∨ c % 3 = 2) with h | h | h <;> rw [h] <;> rfl
    refine st_asg (Md.run (K := K) (d := .int (24 + c % 3)) (md_ixll (mds_cons md_int (mds_cons md_int (mds_cons md_int mds_nil))) (md_m (i := 0) rfl (by decide)) (by omega) hm) fun H1 x1 s1 d1 => ?_)
    cases dp_int d1
    obtain ⟨m, hmm⟩ : ∃ m : Nat, 24 + c % 3 = (m : Int) := Int.eq_ofNat_of_zero_le (by omega)
    have m1 : 24 ≤ m := by omega
    have m2 : m ≤ 26 := by omega
    rw [hmm]
    refine st_asg ⟨14, rfl, by decide, by decide, fun D nD => ?_⟩
    refine lc_range (lo := 0) (n := 14) (fun i H' => Same H1 H' ∧ ∃ zs : List Str, H' D = some (.lst (zs.map V.str)) ∧ zs.length = i ∧ ∀ z ∈ zs, z.length ≤ 1000) ?_ ?_ ?_
    · exact ⟨same_new nD, [], upd_same, rfl, fun _ h => nomatch h⟩
    · rintro i H2 hi ⟨s2, zs, e2, l2, hz⟩
      refine ⟨rfl, _, rfl, _, rfl, _, _, rfl, rfl, ?_, ?_⟩
      · rw [sizeLine_eq]
        show 2 + 1 ≤ _
        decide
      · refine ⟨_, e2, by rw [List.length_map, l2, sizeLine_eq]; omega, same_upd s2 nD, zs ++ [("ab" : Str) ++ ⟨#[letr (0 + (i : Int))]⟩], by rw [upd_same, ← snocS], by rw [List.length_append, l2]; rfl, fun z hz' => ?_⟩
        rcases List.mem_append.mp hz' with h | h
        · exact hz z h
        · rw [List.mem_singleton.mp h]
          show 2 + 1 ≤ 1000
          decide
    rintro H2 ⟨s12, zs, eD, lz, hz⟩
    have s02 := s1.trans s12
    refine st_asg (Md.run (K := K) (d := .int (c / 3 % 4)) (md_dm (i := 0) rfl (div_ok (b := 2) (by decide) (by decide) (by decide) (by decide)) (by decide)) fun H3 x3 s3 d3 => ?_)
    cases dp_int d3
    have s03 := s02.trans s3
    have eD3 := s3 _ _ eD
    have R : Mts K H3 [some (.int c), some (.int (m : Int)), some (.ref D), some (.int (c / 3 % 4)), none, none, none, none, none, none] 2 1 (tCons (tTup (tCons (tC (.str "tell")) (tCons (tTup (tCons (tC (.str "number")) (tCons (tC (.int 1)) tNil))) tNil))) tNil) := mts_cons (mt_tup (mts_cons mt_str (mts_cons (mt_tup (mts_cons mt_str (mts_cons mt_int mts_nil))) mts_nil))) mts_nil
    refine st_asg (Mu.run (K := K) (n := m * 2) (c := m) (mu_rep (mu_tup R) (mu1 R) (md_var (i := 1) rfl (.int _)) (by omega) (by omega)) fun H4 pb ts s4 hb wb lb nb => ?_)
    have s04 := s03.trans s4
    have eD4 := s4 _ _ eD3
    have B4 : Bd K H4 100 pb := ⟨ts, hb, wb, by omega, by omega⟩
    have e2 : zs.map V.str = (zs.map Tr.str).map Tr.v := by rw [List.map_map]; rfl
    have wz : ∀ (H' : Hp), ∀ t ∈ zs.map Tr.str, Wt K H' t ∧ (txs t).length ≤ 1 := fun H' t ht => by
      obtain ⟨z, hzm, rfl⟩ := List.mem_map.mp ht
      exact ⟨.str z (hz z hzm), by rw [txs]; exact Nat.le_refl _⟩
    refine ifs_by (fun σ' H' => Same H H' ∧ ∃ pb x5, Bd K H' 100 pb ∧ σ' = [some (.int c), some (.int (m : Int)), some (.ref D), some (.int (c / 3 % 4)), some (.ref pb), x5, none, none, none, none]) ?_ fun Nx hN => ?_
    rotate_left
    · refine ⟨_, rfl, rfl, _, rfl, ?_⟩
      by_cases cw : c / 3 % 4 = 1
      case neg => exact ifN (ne_int cw) (hN _ _ ⟨s04, pb, _, B4, rfl⟩)
      refine ifD (congrArg V.int cw) ⟨_, rfl, _, _, rfl, rfl, _, rfl, by omega, by omega, fun D2 nD2 => ?_⟩
      refine lc_range (lo := 0) (n := ((m : Int) - 13).toNat) (fun i H' => Same H4 H' ∧ ∃ vs : List V, H' D2 = some (.lst vs) ∧ DpAll K H' vs ((List.range i).map (setD zs))) ?_ ?_ ?_
      · exact ⟨same_new nD2, [], upd_same, .nil⟩
      · rintro i H5 hi ⟨s5, vs, e5, da5⟩
        refine ⟨rfl, ?_⟩
        have eD5 := s5 _ _ eD4
        have li := dpAll_len da5
        rw [List.length_map, List.length_range] at li
        have iz : i < zs.length := by omega
        have hd : (zs.map PyData.str)[(0 + (i : Int)).toNat]? = some (.str (zs.getD i "")) := by
          rw [show (0 + (i : Int)).toNat = i by omega, List.getElem?_map, List.getD_eq_getElem?_getD, List.getElem?_eq_getElem iz]
          rfl
        dsimp only [tYes]
        rw [if_pos rfl]
        refine Md.run (K := K) (d := setD zs i) (md_tup (mds_cons md_str (mds_cons (md_ixl (j := 2) rfl (.of eD5) dpStrs (md_var (i := 5) (d := .int (0 + (i : Int))) rfl (.int _)) (by omega) hd) (mds_cons (md_tup (mds_cons md_str (mds_cons (md_var (i := 5) (v := .int (0 + (i : Int))) rfl (by rw [show (0 + (i : Int)) = (i : Int) by omega]; exact .int _)) mds_nil))) mds_nil)))) fun H6 x s6 d6 => ?_
        have e6 := s6 _ _ e5
        have da6 := dpAll_sm s6 da5
        refine ⟨_, e6, by rw [li, sizeLine_eq]; omega, same_upd (s5.trans s6) nD2, _, upd_same, ?_⟩
        have kU : Kp (fun b => b = D2) H6 (upd H6 D2 (.lst (vs ++ [x]))) := Kp.upd e6 trivial rfl
        rw [List.range_succ, List.map_append]
        exact dpAll_app (dpAll_kp kU _ _ (nLs_set zs _) da6) (.cons (dp_kp kU _ _ rfl d6) .nil)
      rintro H5 ⟨s5, vs, e5, da5⟩
      refine ⟨D2, _, rfl, .inl ⟨.of e5, fun l nl => ?_⟩⟩
      obtain ⟨us, ev, w, e, _⟩ := treeL_of _ _ (gdL_set hz _) (dpAll_sm (same_new (o := .tup vs) nl) da5)
      have lu := dpAll_len da5
      rw [← ev, List.length_map, List.length_map, List.length_range] at lu
      have nu := ddL_txs us
      rw [e, cnL_set, List.length_range] at nu
      exact hN _ _ ⟨(s04.trans s5).trans (same_new nl), l, _, ⟨us, by rw [ev]; exact .of upd_same, w, by omega, by omega⟩, rfl⟩
    rintro σ1 H5 ⟨s05, pb5, x5, B5, rfl⟩
    refine ifs_by (fun σ' H' => Same H H' ∧ ∃ pb x5, Bd K H' 100 pb ∧ σ' = [some (.int c), some (.int (m : Int)), some (.ref D), some (.int (c / 3 % 4)), some (.ref pb), x5, none, none, none, none]) ?_ fun Nx hN => ?_
    rotate_left
    · refine ⟨_, rfl, rfl, _, rfl, ?_⟩
      by_cases cw : c / 3 % 4 = 2
      case neg => exact ifN (ne_int cw) (hN _ _ ⟨s05, pb5, _, B5, rfl⟩)
      refine ifD (congrArg V.int cw) ?_
      refine st_asg (Mu.run (K := K) (n := 0) (c := 0) (mu_tup mts_nil) fun H6 p6 ts6 s6 hp6 w6 l6 n6 => ?_)
      have hm3 : ([PyData.int 3, .int 4, .int 5] : List PyData)[(c % 3).toNat]? = some (.int (3 + c % 3)) := by
        rcases (by omega : c % 3 = 0 ∨ c % 3 = 1 ∨ c % 3 = 2) with h | h | h <;> rw [h] <;> rfl
      refine for_rg1 (Md.run (K := K) (d := .int (3 + c % 3)) (md_ixll (mds_cons md_int (mds_cons md_int (mds_cons md_int mds_nil))) (md_m (i := 0) rfl (by decide)) (by omega) hm3) fun H7 x7 s7 d7 => ?_)
      cases dp_int d7
      refine ⟨_, rfl, by omega, by omega, ?_⟩
      refine for_range (lo := 0) (n := (3 + c % 3).toNat) (fun i σ' H' => Same H H' ∧ ∃ pb x5, Bd K H' (4 * i) pb ∧ σ' = [some (.int c), some (.int (m : Int)), some (.ref D), some (.int (c / 3 % 4)), some (.ref pb), x5, none, none, none, none]) ?_ ?_ ?_
      · exact ⟨(s05.trans s6).trans s7, p6, _, ⟨ts6, sqT_sm s7 hp6, fun t ht => (w6 t ht).sm s7, by omega, by omega⟩, rfl⟩
      · rintro i σ' H8 hi ⟨s8, pb8, x8, B8, rfl⟩
        obtain ⟨ts8, w8, n8⟩ := B8.wt
        refine gn1 (as1 (Mu.run (K := K) (n := 4 * (i + 1)) (c := 2) (Mu.mono (mu_tup (mts_cons (mt_tup (mts_cons mt_str (mts_cons (mt_tup (mts_cons mt_str (mts_cons (mt_var (x := .int (0 + (i : Int))) (i := 5) rfl (.int _) (by rw [txs]; exact Nat.zero_le 0)) mts_nil))) (mts_cons (mt_tup mts_nil) (mts_cons (mt_var (x := .nd pb8 ts8) (i := 4) rfl w8 n8) mts_nil))))) (mts_cons (mt_tup (mts_cons mt_str (mts_cons (mt_tup (mts_cons mt_str (mts_cons (mt_var (x := .int (0 + (i : Int))) (i := 5) rfl (.int _) (by rw [txs]; exact Nat.zero_le 0)) mts_nil))) mts_nil))) mts_nil))) (by omega)) fun H9 p9 ts9 s9 hp9 w9 l9 n9 => ?_))
        exact ⟨s8.trans s9, p9, _, ⟨ts9, hp9, w9, by omega, n9⟩, rfl⟩
      · rintro σ' H8 ⟨s8, pb8, x8, ⟨ts8, a8, b8, c8, d8⟩, rfl⟩
        exact hN _ _ ⟨s8, pb8, _, ⟨ts8, a8, b8, c8, by omega⟩, rfl⟩
    rintro σ1 H6 ⟨s06, pb6, x6, B6, rfl⟩
    refine ifs_by (fun σ' H' => Same H H' ∧ ∃ pb x5, Bd K H' 102 pb ∧ σ' = [some (.int c), some (.int (m : Int)), some (.ref D), some (.int (c / 3 % 4)), some (.ref pb), x5, none, none, none, none]) ?_ fun Nx hN => ?_
    rotate_left
    · obtain ⟨ts6, a6, b6, c6, d6⟩ := B6
      refine ⟨_, rfl, rfl, _, rfl, ?_⟩
      by_cases cw : c / 3 % 4 = 3
      case neg => exact ifN (ne_int cw) (hN _ _ ⟨s06, pb6, _, ⟨ts6, a6, b6, c6, by omega⟩, rfl⟩)
      refine ifD (congrArg V.int cw) (as1 (Mu.run (K := K) (n := 102) (c := 1) (Mu.mono (mu_tup (mts_cons (mt_tup (mts_cons mt_str (mts_cons (mt_tup (mts_cons mt_str (mts_cons mt_int mts_nil))) (mts_cons (mt_of_mu (mu_cut (mu_var (i := 4) rfl a6 b6 c6 d6) mo_no (mo_int (K := K) (md_i0 (md_var (i := 1) rfl (.int _)) md_int))) (by omega)) mts_nil)))) mts_nil)) (by omega)) fun H7 p7 ts7 s7 hp7 w7 l7 n7 => ?_))
      exact hN _ _ ⟨s06.trans s7, p7, _, ⟨ts7, hp7, w7, by omega, n7⟩, rfl⟩
    rintro σ1 H7 ⟨s07, pb7, x7, B7, rfl⟩
    obtain ⟨ts7, w7, n7⟩ := B7.wt
    have d24 : CDivW 0 24 := div_ok (b := 5) (by decide) (by decide) (by decide) (by decide)
    have d12 : CDivW 0 12 := div_ok (b := 4) (by decide) (by decide) (by decide) (by decide)
    have d9 : CDivW 0 9 := div_ok (b := 4) (by decide) (by decide) (by decide) (by decide)
    have d3 : CDivW 0 3 := div_ok (b := 2) (by decide) (by decide) (by decide) (by decide)
    refine ⟨_, rfl, _, _, rfl, rfl, d24, _, _, rfl, rfl, (show (0 : Int) < 16 by decide), rfl, _, rfl, ?_⟩
    by_cases c5 : c / 24 % 16 = 5
    · refine ifD (congrArg V.int c5) (st_asg (Mt.run (K := K) (n := 1) (Mt.mono (mt_tup (mts_cons mt_str (mts_cons mt_int mts_nil))) (by decide)) fun H8 e8 s8 w8 n8 => ?_))
      refine sfor_rg1 ⟨3000, rfl, by decide, by decide, ?_⟩
      refine for_range (lo := 0) (n := (3000 : Int).toNat) (fun i σ' H' => Same H H' ∧ ∃ (e : Tr) (z : Option V), Wt K H' e ∧ (txs e).length ≤ i + 1 ∧ σ' = [some (.int c), some (.int (m : Int)), some (.ref D), some (.int (c / 3 % 4)), some (.ref pb7), x7, some e.v, z, none, none]) ?_ ?_ ?_
      · exact ⟨s07.trans s8, e8, _, w8, by omega, rfl⟩
      · rintro i σ' H9 hi ⟨s9, e9, z9, w9, n9, rfl⟩
        refine gn1 (as1 (Mt.run (K := K) (n := i + 1 + 1) (Mt.mono (mt_tup (mts_cons mt_str (mts_cons (mt_var (x := e9) (i := 6) rfl w9 n9) mts_nil))) (by omega)) fun Ha ea sa wa na => ?_))
        exact ⟨s9.trans sa, ea, _, wa, na, rfl⟩
      · rintro σ' H9 ⟨s9, e9, z9, w9, n9, rfl⟩
        have n9 : (txs e9).length ≤ 3001 := n9
        exact ret1 (Mt.run (K := K) (n := 10000) (Mt.mono (mt_tup (mts_cons (mt_tup mts_nil) (mts_cons (mt_tup mts_nil) (mts_cons (mt_tup mts_nil) (mts_cons (mt_tup (mts_cons (mt_tup (mts_cons mt_str (mts_cons (mt_var (x := e9) (i := 6) rfl w9 n9) mts_nil))) mts_nil)) mts_nil))))) (by omega)) fun Ha ea sa wa na => q _ _ (s9.trans sa) wa na)
    refine ifN (ne_int c5) ?_
    refine ⟨_, rfl, _, _, rfl, rfl, d24, _, _, rfl, rfl, (show (0 : Int) < 16 by decide), rfl, _, rfl, ?_⟩
    by_cases c6 : c / 24 % 16 = 6
    · refine ifD (congrArg V.int c6) (ret1 (Mt.run (K := K) (n := 10000) (Mt.mono (mt_tup (mts_cons (mt_tup mts_nil) (mts_cons (mt_tup mts_nil) (mts_cons (mt_tup mts_nil) (mts_cons (mt_tup (mts_cons (mt_ixl (mlT_lst (mts_cons (mt_tup (mts_cons mt_str (mts_cons (mt_tup (mts_cons mt_str (mts_cons mt_int mts_nil))) mts_nil))) (mts_cons (mt_tup (mts_cons mt_str (mts_cons mt_int mts_nil))) mts_nil))) (md_m (i := 0) rfl (by decide)) (by omega) (by omega)) (mts_cons (mt_tup (mts_cons mt_str (mts_cons (mt_tup (mts_cons mt_str (mts_cons mt_int mts_nil))) mts_nil))) mts_nil))) mts_nil))))) (by decide)) fun Ha ea sa wa na => q _ _ (s07.trans sa) wa na))
    refine ifN (ne_int c6) ?_
    refine ⟨_, rfl, _, _, rfl, rfl, d24, _, _, rfl, rfl, (show (0 : Int) < 3 by decide), rfl, _, rfl, ?_⟩
    by_cases c1 : c / 24 % 3 = 1
    · refine ifD (congrArg V.int c1) (st_asg (Mu.run (K := K) (n := 5) (c := 3) (Mu.mono (mu_cut (mu_tup (mts_cons (mt_tup (mts_cons mt_str (mts_cons mt_str mts_nil))) (mts_cons (mt_tup (mts_cons mt_str (mts_cons mt_int mts_nil))) (mts_cons (mt_tup (mts_cons mt_str (mts_cons mt_str mts_nil))) mts_nil)))) mo_no (mo_int (K := K) (md_i0 md_int (md_m (i := 0) rfl (by decide))))) (by decide)) fun H8 p8 ts8 s8 hp8 w8 l8 n8 => ?_))
      have we8 : Wt K H8 (.nd p8 ts8) := .nd hp8 (by omega) w8
      have ne8 : (txs (.nd p8 ts8)).length ≤ 5 := by rw [txs_nd]; exact n8
      refine st_asg (Mt.run (K := K) (n := 10) (Mt.mono (mt_tup (mts_cons (mt_tup (mts_cons mt_str (mts_cons mt_str (mts_cons (mt_ixl (mlT_lst (mts_cons mt_str (mts_cons mt_str (mts_cons mt_str mts_nil)))) (md_dm (i := 0) rfl d3 (by decide)) (by omega) (by omega)) (mts_cons (mt_var (x := .nd p8 ts8) (i := 8) rfl we8 ne8) mts_nil))))) mts_nil)) (m := 10) (by decide)) fun H9 e9 s9 w9 n9 => ?_)
      exact ret1 (Mt.run (K := K) (n := 10000) (Mt.mono (mt_tup (mts_cons (mt_tup (mts_cons (mt_tup (mts_cons mt_str (mts_cons (mt_tup (mts_cons mt_str (mts_cons mt_str mts_nil))) (mts_cons (mt_ixl (mlT_lst (mts_cons (mt_tup mts_nil) (mts_cons (mt_tup mts_nil) (mts_cons (mt_var (x := e9) (i := 9) rfl w9 n9) mts_nil)))) (md_dm (i := 0) rfl d9 (by decide)) (by omega) (by omega)) mts_nil)))) mts_nil)) (mts_cons (mt_tup mts_nil) (mts_cons (mt_tup mts_nil) (mts_cons (mt_var (x := e9) (i := 9) rfl w9 n9) mts_nil))))) (by omega)) fun Ha ea sa wa na => q _ _ (((s07.trans s8).trans s9).trans sa) wa na)
    refine ifN (ne_int c1) ?_
    exact ret1 (Mt.run (K := K) (n := 10000) (Mt.mono (mt_ixl (mlT_lst (mts_cons (mt_tup (mts_cons (mt_tup mts_nil) (mts_cons (mt_tup mts_nil) (mts_cons (mt_tup mts_nil) (mts_cons (mt_var (x := .nd pb7 ts7) (i := 4) rfl w7 n7) mts_nil))))) (mts_cons (mt_tup (mts_cons (mt_tup (mts_cons (mt_tup (mts_cons mt_str (mts_cons (mt_tup mts_nil) (mts_cons (mt_var (x := .nd pb7 ts7) (i := 4) rfl w7 n7) mts_nil)))) mts_nil)) (mts_cons (mt_tup mts_nil) (mts_cons (mt_tup mts_nil) (mts_cons (mt_tup mts_nil) mts_nil))))) mts_nil))) (md_dm (i := 0) rfl d12 (by decide)) (by omega) (by omega)) (by omega)) fun Ha ea sa wa na => q _ _ (s07.trans sa) wa na)
end

/-! a drawn program is a program: plain -/
theorem dd_str {t : Tr} {z : Str} (h : t.dd = .str z) : t = .str z := by
  cases t with
  | str y => rw [Tr.dd] at h; rw [PyData.str.inj h]
  | _ => rw [Tr.dd] at h; cases h
theorem dd_int {t : Tr} {i : Int} (h : t.dd = .int i) : t = .int i := by
  cases t with
  | int y => rw [Tr.dd] at h; rw [PyData.int.inj h]
  | _ => rw [Tr.dd] at h; cases h
theorem dd_tup {t : Tr} {ds : List PyData} (h : t.dd = .tuple ds) : ∃ p ts, t = .nd p ts ∧ ddL ts = ds := by
  cases t with
  | nd p ts => rw [Tr.dd] at h; exact ⟨p, ts, rfl, PyData.tuple.inj h⟩
  | _ => rw [Tr.dd] at h; cases h
theorem ddL_cons {ts : List Tr} {d : PyData} {ds : List PyData} (h : ddL ts = d :: ds) : ∃ t r, ts = t :: r ∧ t.dd = d ∧ ddL r = ds := by
  cases ts with
  | nil => rw [ddL] at h; cases h
  | cons t r => rw [ddL] at h; injection h with a b; exact ⟨t, r, rfl, a, b⟩
theorem ddL_nil {ts : List Tr} (h : ddL ts = []) : ts = [] := by
  cases ts with
  | nil => rfl
  | cons t r => rw [ddL] at h; cases h
theorem ddL_map : ∀ ts : List Tr, ddL ts = ts.map Tr.dd
  | [] => by rw [ddL]; rfl
  | t :: r => by rw [ddL, ddL_map r]; rfl
theorem ex_ok {vs rws : List Str} (hv : ∀ x ∈ vs, IsNm x) (hr : ∀ x ∈ vs, x ∉ rws) : ∀ (k : Nat) (e : Ex) (t : Tr), e.Wf vs rws k → t.dd = e.d → exX rws k t = true ∧ ∀ z ∈ exN k t, z ∈ vs
  | 0, _, _, h, _ => h.elim
  | k + 1, .num n, t, h, ht => by
    obtain ⟨p, ts, rfl, e⟩ := dd_tup ht
    obtain ⟨t0, r, rfl, e0, e⟩ := ddL_cons e
    obtain ⟨t1, r, rfl, e1, e⟩ := ddL_cons e
    cases ddL_nil e
    cases dd_str e0
    cases dd_int e1
    rw [exX2, exN2, if_pos rfl, if_neg (by decide +kernel), if_neg (by decide +kernel)]
    refine ⟨?_, fun z hz => nomatch hz⟩
    show (decide (-2147483648 ≤ n) && decide (n ≤ 2147483647)) = true
    rw [decide_eq_true h.1, decide_eq_true h.2]
    rfl
  | k + 1, .nam x, t, h, ht => by
    obtain ⟨p, ts, rfl, e⟩ := dd_tup ht
    obtain ⟨t0, r, rfl, e0, e⟩ := ddL_cons e
    obtain ⟨t1, r, rfl, e1, e⟩ := ddL_cons e
    cases ddL_nil e
    cases dd_str e0
    cases dd_str e1
    have h : x ∈ vs := h
    rw [exX2, exN2, if_neg (by decide +kernel), if_pos rfl, if_pos rfl]
    refine ⟨?_, fun z hz => by rw [List.mem_singleton.mp hz]; exact h⟩
    show (nmB x && !decide (x ∈ rws)) = true
    rw [nmB_ok.mpr (hv x h), decide_eq_false (hr x h)]
    rfl
  | k + 1, .at_ ro a, t, h, ht => by
    obtain ⟨p, ts, rfl, e⟩ := dd_tup ht
    obtain ⟨t0, r, rfl, e0, e⟩ := ddL_cons e
    obtain ⟨t1, r, rfl, e1, e⟩ := ddL_cons e
    obtain ⟨t2, r, rfl, e2, e⟩ := ddL_cons e
    cases ddL_nil e
    cases dd_str e0
    cases dd_str e1
    obtain ⟨h1, h2⟩ := h
    obtain ⟨i1, i2⟩ := ex_ok hv hr k a t2 h2 e2
    rw [exX3, exN3, if_neg (by decide +kernel), if_pos rfl, if_pos rfl, i1]
    refine ⟨?_, i2⟩
    show (decide (ro ∈ rws) && true) = true
    rw [decide_eq_true h1]
    rfl
  | k + 1, .no a, t, h, ht => by
    obtain ⟨p, ts, rfl, e⟩ := dd_tup ht
    obtain ⟨t0, r, rfl, e0, e⟩ := ddL_cons e
    obtain ⟨t1, r, rfl, e1, e⟩ := ddL_cons e
    cases ddL_nil e
    cases dd_str e0
    obtain ⟨i1, i2⟩ := ex_ok hv hr k a t1 h e1
    rw [exX2, exN2, if_neg (by decide +kernel), if_neg (by decide +kernel), if_pos rfl, if_neg (by decide +kernel), if_pos rfl]
    exact ⟨i1, i2⟩
  | k + 1, .op wd a b, t, h, ht => by
    obtain ⟨p, ts, rfl, e⟩ := dd_tup ht
    obtain ⟨t0, r, rfl, e0, e⟩ := ddL_cons e
    obtain ⟨t1, r, rfl, e1, e⟩ := ddL_cons e
    obtain ⟨t2, r, rfl, e2, e⟩ := ddL_cons e
    cases ddL_nil e
    cases dd_str e0
    obtain ⟨hw, h1, h2⟩ := h
    obtain ⟨i1, i2⟩ := ex_ok hv hr k a t1 h1 e1
    obtain ⟨j1, j2⟩ := ex_ok hv hr k b t2 h2 e2
    have nks : ∀ x : Str, x ∉ wds7 → wd ≠ x := fun x hx e => hx (e ▸ hw)
    have n4 : wd ≠ "at" := nks _ (by decide +kernel)
    rw [exX3, exN3, if_neg (fun z => z.elim (nks _ (by decide +kernel)) fun z => z.elim (nks _ (by decide +kernel)) (nks _ (by decide +kernel))), if_neg n4, if_neg n4, i1, j1, decide_eq_true hw]
    refine ⟨rfl, fun z hz => ?_⟩
    rcases List.mem_append.mp hz with hz | hz
    · exact i2 z hz
    · exact j2 z hz
theorem wd_gd {z : Str} (h : z.length ≤ 8) : gdD (.str z) = true := by
  rw [gdD, decide_eq_true_eq]
  omega
theorem ex_gd {vs rws : List Str} (hv : ∀ x ∈ vs, x.length ≤ 8) (hr : ∀ x ∈ rws, x.length ≤ 8) : ∀ (k : Nat) (e : Ex), e.Wf vs rws k → gdD e.d = true ∧ cnD e.d + 1 ≤ 2 ^ (k + 1)
  | 0, _, h => h.elim
  | k + 1, .num n, _ => by
    have g2 : gdD (.str "number") = true := by decide +kernel
    refine ⟨by simp [Ex.d, gdD, gdL] at g2 ⊢; exact g2, ?_⟩
    have : cnD (Ex.num n).d = 1 := by simp [Ex.d, cnD, cnL]
    have h2 : 2 ^ (k + 1 + 1) = 4 * 2 ^ k := by rw [Nat.pow_succ, Nat.pow_succ]; omega
    have := Nat.one_le_two_pow (n := k)
    omega
  | k + 1, .nam x, h => by
    have g := wd_gd (hv x h)
    have g2 : gdD (.str "name") = true := by decide +kernel
    have : cnD (Ex.nam x).d = 2 := by simp [Ex.d, cnD, cnL]
    have h2 : 2 ^ (k + 1 + 1) = 4 * 2 ^ k := by rw [Nat.pow_succ, Nat.pow_succ]; omega
    have := Nat.one_le_two_pow (n := k)
    exact ⟨by simp [Ex.d, gdD, gdL] at g g2 ⊢; exact ⟨g2, g⟩, by omega⟩
  | k + 1, .at_ ro a, h => by
    obtain ⟨h1, h2⟩ := h
    obtain ⟨i1, i2⟩ := ex_gd hv hr k a h2
    have g := wd_gd (hr ro h1)
    have g2 : gdD (.str "at") = true := by decide +kernel
    have : cnD (Ex.at_ ro a).d = 2 + cnD a.d := by simp [Ex.d, cnD, cnL]; omega
    have k1 : 1 ≤ k := by
      cases k with
      | zero => exact h2.elim
      | succ k => omega
    have h2 : 2 ^ (k + 1 + 1) = 2 * 2 ^ (k + 1) := by rw [Nat.pow_succ]; omega
    have h3 : 2 ^ (1 + 1) ≤ 2 ^ (k + 1) := Nat.pow_le_pow_right (by decide) (by omega)
    exact ⟨by simp [Ex.d, gdD, gdL] at g g2 ⊢; exact ⟨g2, g, i1⟩, by omega⟩
  | k + 1, .no a, h => by
    obtain ⟨i1, i2⟩ := ex_gd hv hr k a h
    have g2 : gdD (.str "not") = true := by decide +kernel
    have : cnD (Ex.no a).d = 1 + cnD a.d := by simp [Ex.d, cnD, cnL]
    have h2 : 2 ^ (k + 1 + 1) = 2 * 2 ^ (k + 1) := by rw [Nat.pow_succ]; omega
    have h3 : 1 ≤ 2 ^ (k + 1) := Nat.one_le_two_pow
    exact ⟨by simp [Ex.d, gdD, gdL] at g2 ⊢; exact ⟨g2, i1⟩, by omega⟩
  | k + 1, .op wd a b, h => by
    obtain ⟨hw, h1, h2⟩ := h
    obtain ⟨i1, i2⟩ := ex_gd hv hr k a h1
    obtain ⟨j1, j2⟩ := ex_gd hv hr k b h2
    have hl : ∀ x ∈ wds7, x.length ≤ 8 := by decide +kernel
    have g := wd_gd (hl wd hw)
    have : cnD (Ex.op wd a b).d = 1 + (cnD a.d + cnD b.d) := by simp [Ex.d, cnD, cnL]
    have h2 : 2 ^ (k + 1 + 1) = 2 * 2 ^ (k + 1) := by rw [Nat.pow_succ]; omega
    exact ⟨by simp [Ex.d, gdD, gdL] at g ⊢; exact ⟨g, i1, j1⟩, by omega⟩
theorem exs_ok {vs rws : List Str} (hv : ∀ x ∈ vs, IsNm x) (hr : ∀ x ∈ vs, x ∉ rws) : ∀ (es : List Ex) (ts : List Tr), (∀ e ∈ es, e.Wf vs rws 4) → ddL ts = es.map Ex.d → ts.all (exX rws 4) = true ∧ (∀ z ∈ ts.flatMap (exN 4), z ∈ vs) ∧ ts.length = es.length
  | [], ts, _, h => by
    cases ddL_nil h
    exact ⟨rfl, (fun z hz => nomatch hz), rfl⟩
  | e :: es, ts, hw, h => by
    obtain ⟨t, r, rfl, e1, e2⟩ := ddL_cons h
    obtain ⟨a1, a2⟩ := ex_ok hv hr 4 e t (hw e (List.mem_cons_self ..)) e1
    obtain ⟨b1, b2, b3⟩ := exs_ok hv hr es r (fun x hx => hw x (List.mem_cons_of_mem _ hx)) e2
    refine ⟨by rw [List.all_cons, a1, b1]; rfl, fun z hz => ?_, by rw [List.length_cons, List.length_cons, b3]⟩
    rw [List.flatMap_cons] at hz
    rcases List.mem_append.mp hz with hz | hz
    · exact a2 z hz
    · exact b2 z hz
theorem smX_pl {rs : List Str} {hds : List (Str × Nat)} {D : Nat} {p : Addr} {w : Str} {r : List Tr} (h : ¬ (w = "if" ∨ w = "while")) : smX rs hds D (.nd p (.str w :: r)) = plainX rs hds (.nd p (.str w :: r)) ∧ smN D (.nd p (.str w :: r)) = plainN (.nd p (.str w :: r)) ∧ smC D (.nd p (.str w :: r)) = 1 := by
  refine ⟨?_, ?_, ?_⟩
  · show (if w = "if" ∨ w = "while" then _ else _) = _
    rw [if_neg h]
  · show (if w = "if" ∨ w = "while" then _ else _) = _
    rw [if_neg h]
  · show 1 + (if w = "if" ∨ w = "while" then _ else _) = _
    rw [if_neg h]
theorem smX_if {rs : List Str} {hds : List (Str × Nat)} {D : Nat} {p : Addr} {w : Str} {r : List Tr} (h : w = "if" ∨ w = "while") : smX rs hds D (.nd p (.str w :: r)) = ifX (exX rs 4) (bdX rs hds D) w r ∧ smN D (.nd p (.str w :: r)) = ifNs (exN 4) (bdN D) r ∧ smC D (.nd p (.str w :: r)) = 1 + ifC (bdC D) r := by
  refine ⟨?_, ?_, ?_⟩
  · show (if w = "if" ∨ w = "while" then _ else _) = _
    rw [if_pos h]
  · show (if w = "if" ∨ w = "while" then _ else _) = _
    rw [if_pos h]
  · show 1 + (if w = "if" ∨ w = "while" then _ else _) = _
    rw [if_pos h]
theorem endX_f {p : Addr} {w : Str} {r : List Tr} {b : Bool} (h : decide (w ∈ (["give", "fail"] : List Str)) = b) : endX (.nd p (.str w :: r)) = b := h
theorem lk_of {hds : List (Str × Nat)} (nd : (hds.map (·.1)).Nodup) {g : Str} {n : Nat} (h : (g, n) ∈ hds) : hds.lookup g = some n := by
  induction hds with
  | nil => cases h
  | cons a r ih =>
    rw [List.map_cons, List.nodup_cons] at nd
    obtain ⟨y, k⟩ := a
    rw [List.lookup_cons]
    rcases List.mem_cons.mp h with e | h
    · injection e with e1 e2
      subst e1 e2
      rw [beq_self_eq_true]
    · have : g ≠ y := fun z => nd.1 (by rw [← z]; exact List.mem_map_of_mem (f := (·.1)) h)
      rw [show (g == y) = false from beq_eq_false_iff_ne.mpr this]
      exact ih nd.2 h
section
variable {vs rws : List Str} {hds : List (Str × Nat)}
def StOk (vs rws : List Str) (hds : List (Str × Nat)) (k : Nat) (s : Sm) (t : Tr) : Prop := smX rws hds k t = true ∧ (∀ z ∈ smN k t, z ∈ vs) ∧ smC k t = s.size ∧ endX t = s.ends
def BdOk (vs rws : List Str) (hds : List (Str × Nat)) (D : Nat) (l : List Sm) (t : Tr) : Prop := bdX rws hds D t = true ∧ (∀ z ∈ bdN D t, z ∈ vs) ∧ bdC D t = Sm.sizes l
theorem st_ok (hv : ∀ x ∈ vs, IsNm x) (hr : ∀ x ∈ vs, x ∉ rws) (nd : (hds.map (·.1)).Nodup) (k : Nat) (IH : ∀ k', k = k' + 1 → ∀ l t, Sm.Wfs vs rws hds l k' → t.dd = .tuple (Sm.ds l) → BdOk vs rws hds k l t) :
    ∀ (s : Sm) (t : Tr), s.Wf vs rws hds k → t.dd = s.d → StOk vs rws hds k s t
  | .set x e, t, h, ht => by
    unfold Sm.Wf at h
    unfold Sm.d at ht
    obtain ⟨p, ts, rfl, d⟩ := dd_tup ht
    obtain ⟨t0, r, rfl, d0, d⟩ := ddL_cons d
    obtain ⟨t1, r, rfl, d1, d⟩ := ddL_cons d
    obtain ⟨t2, r, rfl, d2, d⟩ := ddL_cons d
    cases ddL_nil d
    cases dd_str d0
    cases dd_str d1
    obtain ⟨a1, a2⟩ := ex_ok hv hr 4 e t2 h.2 d2
    obtain ⟨p1, p2, p3⟩ := smX_pl (rs := rws) (hds := hds) (D := k) (p := p) (w := "set") (r := [.str x, t2]) (by decide +kernel)
    refine ⟨?_, fun z hz => ?_, by rw [p3]; rfl, endX_f (b := false) (by decide +kernel)⟩
    · rw [p1]
      show (decide (("set" : Str) = "set") && ((nmB x && !decide (x ∈ rws)) && exX rws 4 t2)) = true
      rw [decide_eq_true rfl, nmB_ok.mpr (hv x h.1), decide_eq_false (hr x h.1), a1]
      rfl
    · rw [p2] at hz
      rcases List.mem_append.mp (show z ∈ [x] ++ exN 4 t2 from hz) with hz | hz
      · rw [List.mem_singleton.mp hz]; exact h.1
      · exact a2 z hz
  | .put ro e f, t, h, ht => by
    unfold Sm.Wf at h
    unfold Sm.d at ht
    obtain ⟨p, ts, rfl, d⟩ := dd_tup ht
    obtain ⟨t0, r, rfl, d0, d⟩ := ddL_cons d
    obtain ⟨t1, r, rfl, d1, d⟩ := ddL_cons d
    obtain ⟨t2, r, rfl, d2, d⟩ := ddL_cons d
    obtain ⟨t3, r, rfl, d3, d⟩ := ddL_cons d
    cases ddL_nil d
    cases dd_str d0
    cases dd_str d1
    obtain ⟨a1, a2⟩ := ex_ok hv hr 4 e t2 h.2.1 d2
    obtain ⟨b1, b2⟩ := ex_ok hv hr 4 f t3 h.2.2 d3
    obtain ⟨p1, p2, p3⟩ := smX_pl (rs := rws) (hds := hds) (D := k) (p := p) (w := "put") (r := [.str ro, t2, t3]) (by decide +kernel)
    refine ⟨?_, fun z hz => ?_, by rw [p3]; rfl, endX_f (b := false) (by decide +kernel)⟩
    · rw [p1]
      show (if ("put" : Str) = "put" then (decide (ro ∈ rws) && (exX rws 4 t2 && exX rws 4 t3)) else decide (("put" : Str) = "call") && callX rws hds (.str ro) t2 t3) = true
      rw [if_pos rfl, decide_eq_true h.1, a1, b1]
      rfl
    · rw [p2] at hz
      have hz : z ∈ (if ("put" : Str) = "put" then exN 4 t2 ++ exN 4 t3 else callN (.str ro) t3) := hz
      rw [if_pos rfl] at hz
      rcases List.mem_append.mp hz with hz | hz
      · exact a2 z hz
      · exact b2 z hz
  | .tell e, t, h, ht => by
    unfold Sm.Wf at h
    unfold Sm.d at ht
    obtain ⟨p, ts, rfl, d⟩ := dd_tup ht
    obtain ⟨t0, r, rfl, d0, d⟩ := ddL_cons d
    obtain ⟨t1, r, rfl, d1, d⟩ := ddL_cons d
    cases ddL_nil d
    cases dd_str d0
    obtain ⟨a1, a2⟩ := ex_ok hv hr 4 e t1 h d1
    obtain ⟨p1, p2, p3⟩ := smX_pl (rs := rws) (hds := hds) (D := k) (p := p) (w := "tell") (r := [t1]) (by decide +kernel)
    refine ⟨?_, fun z hz => ?_, by rw [p3]; rfl, endX_f (b := false) (by decide +kernel)⟩
    · rw [p1]
      show (if ("tell" : Str) = "fail" then numX 0 99 t1 else decide (("tell" : Str) ∈ (["tell", "give"] : List Str)) && exX rws 4 t1) = true
      rw [if_neg (by decide +kernel), decide_eq_true (by decide +kernel), a1]
      rfl
    · rw [p2] at hz
      have hz : z ∈ (if ("tell" : Str) = "fail" then [] else exN 4 t1) := hz
      rw [if_neg (by decide +kernel)] at hz
      exact a2 z hz
  | .give e, t, h, ht => by
    unfold Sm.Wf at h
    unfold Sm.d at ht
    obtain ⟨p, ts, rfl, d⟩ := dd_tup ht
    obtain ⟨t0, r, rfl, d0, d⟩ := ddL_cons d
    obtain ⟨t1, r, rfl, d1, d⟩ := ddL_cons d
    cases ddL_nil d
    cases dd_str d0
    obtain ⟨a1, a2⟩ := ex_ok hv hr 4 e t1 h d1
    obtain ⟨p1, p2, p3⟩ := smX_pl (rs := rws) (hds := hds) (D := k) (p := p) (w := "give") (r := [t1]) (by decide +kernel)
    refine ⟨?_, fun z hz => ?_, by rw [p3]; rfl, endX_f (b := true) (by decide +kernel)⟩
    · rw [p1]
      show (if ("give" : Str) = "fail" then numX 0 99 t1 else decide (("give" : Str) ∈ (["tell", "give"] : List Str)) && exX rws 4 t1) = true
      rw [if_neg (by decide +kernel), decide_eq_true (by decide +kernel), a1]
      rfl
    · rw [p2] at hz
      have hz : z ∈ (if ("give" : Str) = "fail" then [] else exN 4 t1) := hz
      rw [if_neg (by decide +kernel)] at hz
      exact a2 z hz
  | .fail n, t, h, ht => by
    unfold Sm.Wf at h
    unfold Sm.d at ht
    obtain ⟨p, ts, rfl, d⟩ := dd_tup ht
    obtain ⟨t0, r, rfl, d0, d⟩ := ddL_cons d
    obtain ⟨t1, r, rfl, d1, d⟩ := ddL_cons d
    cases ddL_nil d
    cases dd_str d0
    cases dd_int d1
    obtain ⟨p1, p2, p3⟩ := smX_pl (rs := rws) (hds := hds) (D := k) (p := p) (w := "fail") (r := [.int n]) (by decide +kernel)
    refine ⟨?_, fun z hz => ?_, by rw [p3]; rfl, endX_f (b := true) (by decide +kernel)⟩
    · rw [p1]
      show (if ("fail" : Str) = "fail" then (decide (0 ≤ n) && decide (n ≤ 99)) else decide (("fail" : Str) ∈ (["tell", "give"] : List Str)) && exX rws 4 (.int n)) = true
      rw [if_pos rfl, decide_eq_true h.1, decide_eq_true (show n ≤ 99 by omega)]
      rfl
    · rw [p2] at hz
      have hz : z ∈ (if ("fail" : Str) = "fail" then [] else exN 4 (.int n)) := hz
      rw [if_pos rfl] at hz
      cases hz
  | .call x g es, t, h, ht => by
    unfold Sm.Wf at h
    unfold Sm.d at ht
    obtain ⟨p, ts, rfl, d⟩ := dd_tup ht
    obtain ⟨t0, r, rfl, d0, d⟩ := ddL_cons d
    obtain ⟨t1, r, rfl, d1, d⟩ := ddL_cons d
    obtain ⟨t2, r, rfl, d2, d⟩ := ddL_cons d
    obtain ⟨t3, r, rfl, d3, d⟩ := ddL_cons d
    cases ddL_nil d
    cases dd_str d0
    cases dd_str d1
    cases dd_str d2
    obtain ⟨pe, l, rfl, d4⟩ := dd_tup d3
    obtain ⟨a1, a2, a3⟩ := exs_ok hv hr es l h.2.2 d4
    obtain ⟨p1, p2, p3⟩ := smX_pl (rs := rws) (hds := hds) (D := k) (p := p) (w := "call") (r := [.str x, .str g, .nd pe l]) (by decide +kernel)
    refine ⟨?_, fun z hz => ?_, by rw [p3]; rfl, endX_f (b := false) (by decide +kernel)⟩
    · rw [p1]
      show (if ("call" : Str) = "put" then (rowX rws (.str x) && (exX rws 4 (.str g) && exX rws 4 (.nd pe l))) else decide (("call" : Str) = "call") && ((nmB x && !decide (x ∈ rws)) && (hdB (hds.lookup g) l.length && l.all (exX rws 4)))) = true
      rw [if_neg (by decide +kernel), decide_eq_true rfl, nmB_ok.mpr (hv x h.1), decide_eq_false (hr x h.1), lk_of nd h.2.1, a1]
      show (true && ((true && !false) && (decide (l.length = es.length) && true))) = true
      rw [decide_eq_true a3]
      rfl
    · rw [p2] at hz
      have hz : z ∈ (if ("call" : Str) = "put" then exN 4 (.str g) ++ exN 4 (.nd pe l) else [x] ++ l.flatMap (exN 4)) := hz
      rw [if_neg (by decide +kernel)] at hz
      rcases List.mem_append.mp hz with hz | hz
      · rw [List.mem_singleton.mp hz]; exact h.1
      · exact a2 z hz
  | .ite e ys ns, t, h, ht => by
    unfold Sm.Wf at h
    unfold Sm.d at ht
    obtain ⟨k0, he, hy, hn⟩ := h
    obtain ⟨k', rfl⟩ : ∃ k', k = k' + 1 := ⟨k - 1, by omega⟩
    obtain ⟨p, ts, rfl, d⟩ := dd_tup ht
    obtain ⟨t0, r, rfl, d0, d⟩ := ddL_cons d
    obtain ⟨t1, r, rfl, d1, d⟩ := ddL_cons d
    obtain ⟨t2, r, rfl, d2, d⟩ := ddL_cons d
    obtain ⟨t3, r, rfl, d3, d⟩ := ddL_cons d
    cases ddL_nil d
    cases dd_str d0
    obtain ⟨a1, a2⟩ := ex_ok hv hr 4 e t1 he d1
    obtain ⟨b1, b2, b3⟩ := IH k' rfl ys t2 hy d2
    obtain ⟨c1, c2, c3⟩ := IH k' rfl ns t3 hn d3
    obtain ⟨p1, p2, p3⟩ := smX_if (rs := rws) (hds := hds) (D := k' + 1) (p := p) (w := "if") (r := [t1, t2, t3]) (by decide +kernel)
    refine ⟨?_, fun z hz => ?_, ?_, endX_f (b := false) (by decide +kernel)⟩
    · rw [p1]
      show (decide (2 = ifn "if") && (exX rws 4 t1 && (bdX rws hds (k' + 1) t2 && (bdX rws hds (k' + 1) t3 && true)))) = true
      rw [a1, b1, c1]
      decide +kernel
    · rw [p2] at hz
      have hz : z ∈ exN 4 t1 ++ [t2, t3].flatMap (bdN (k' + 1)) := hz
      rw [List.flatMap_cons, List.flatMap_cons, List.flatMap_nil, List.append_nil] at hz
      rcases List.mem_append.mp hz with hz | hz
      · exact a2 z hz
      · rcases List.mem_append.mp hz with hz | hz
        · exact b2 z hz
        · exact c2 z hz
    · rw [p3]
      show 1 + ([t2, t3].map (bdC (k' + 1))).sum = _
      rw [List.map_cons, List.map_cons, List.map_nil, List.sum_cons, List.sum_cons, List.sum_nil, b3, c3, Sm.size]
      omega
  | .loop e b, t, h, ht => by
    unfold Sm.Wf at h
    unfold Sm.d at ht
    obtain ⟨k0, he, hy⟩ := h
    obtain ⟨k', rfl⟩ : ∃ k', k = k' + 1 := ⟨k - 1, by omega⟩
    obtain ⟨p, ts, rfl, d⟩ := dd_tup ht
    obtain ⟨t0, r, rfl, d0, d⟩ := ddL_cons d
    obtain ⟨t1, r, rfl, d1, d⟩ := ddL_cons d
    obtain ⟨t2, r, rfl, d2, d⟩ := ddL_cons d
    cases ddL_nil d
    cases dd_str d0
    obtain ⟨a1, a2⟩ := ex_ok hv hr 4 e t1 he d1
    obtain ⟨b1, b2, b3⟩ := IH k' rfl b t2 hy d2
    obtain ⟨p1, p2, p3⟩ := smX_if (rs := rws) (hds := hds) (D := k' + 1) (p := p) (w := "while") (r := [t1, t2]) (by decide +kernel)
    refine ⟨?_, fun z hz => ?_, ?_, endX_f (b := false) (by decide +kernel)⟩
    · rw [p1]
      show (decide (1 = ifn "while") && (exX rws 4 t1 && (bdX rws hds (k' + 1) t2 && true))) = true
      rw [a1, b1]
      decide +kernel
    · rw [p2] at hz
      have hz : z ∈ exN 4 t1 ++ [t2].flatMap (bdN (k' + 1)) := hz
      rw [List.flatMap_cons, List.flatMap_nil, List.append_nil] at hz
      rcases List.mem_append.mp hz with hz | hz
      · exact a2 z hz
      · exact b2 z hz
    · rw [p3]
      show 1 + ([t2].map (bdC (k' + 1))).sum = _
      rw [List.map_cons, List.map_nil, List.sum_cons, List.sum_nil, b3, Sm.size]
      omega
theorem preX_all {st : Tr → Bool} {l : List Tr} (h : ∀ i t, l[i]? = some t → okT st l.length i t = true) : ∀ i, i ≤ l.length → preX st l i = true
  | 0, _ => rfl
  | i + 1, hi => by
    have e : l[i]? = some l[i] := List.getElem?_eq_getElem (by omega)
    rw [preX_succ e, preX_all h i (by omega), h i _ e]
    rfl
theorem lst_ok {k : Nat} (S : ∀ (s : Sm) (t : Tr), s.Wf vs rws hds k → t.dd = s.d → StOk vs rws hds k s t) : ∀ (l : List Sm) (ts : List Tr), Sm.Wfs vs rws hds l k → ddL ts = Sm.ds l →
    (∀ i t, ts[i]? = some t → smX rws hds k t = true ∧ (endX t = true → i + 1 = ts.length)) ∧ (∀ z ∈ ts.flatMap (smN k), z ∈ vs) ∧ (ts.map (smC k)).sum = Sm.sizes l
  | [], ts, _, h => by
    rw [Sm.ds] at h
    cases ddL_nil h
    refine ⟨(fun i t e => by simp at e), (fun z hz => nomatch hz), by rw [Sm.sizes]; rfl⟩
  | s :: l, ts, h, hd => by
    unfold Sm.Wfs at h
    rw [Sm.ds] at hd
    obtain ⟨t, r, rfl, d1, d2⟩ := ddL_cons hd
    obtain ⟨a1, a2, a3, a4⟩ := S s t h.1 d1
    obtain ⟨b1, b2, b3⟩ := lst_ok S l r h.2.2 d2
    have ll : r.length = l.length := by
      have : (ddL r).length = (Sm.ds l).length := by rw [d2]
      rw [ddL_map, List.length_map, Sm.ds_eq, List.length_map] at this
      exact this
    refine ⟨fun i u e => ?_, fun z hz => ?_, ?_⟩
    · cases i with
      | zero =>
        cases e
        refine ⟨a1, fun he => ?_⟩
        rw [a4] at he
        cases l with
        | nil => rw [List.length_cons, ll]; rfl
        | cons x y =>
          have := h.2.1 (by simp)
          rw [this] at he
          cases he
      | succ i =>
        obtain ⟨c1, c2⟩ := b1 i u e
        exact ⟨c1, fun he => by rw [List.length_cons, ← c2 he]⟩
    · rw [List.flatMap_cons] at hz
      rcases List.mem_append.mp hz with hz | hz
      · exact a2 z hz
      · exact b2 z hz
    · rw [List.map_cons, List.sum_cons, a3, b3, Sm.sizes]
theorem bd_ok (hv : ∀ x ∈ vs, IsNm x) (hr : ∀ x ∈ vs, x ∉ rws) (nd : (hds.map (·.1)).Nodup) : ∀ (k : Nat) (l : List Sm) (t : Tr), Sm.Wfs vs rws hds l k → t.dd = .tuple (Sm.ds l) → BdOk vs rws hds (k + 1) l t := by
  intro k
  induction k with
  | zero =>
    intro l t h ht
    obtain ⟨p, ts, rfl, d⟩ := dd_tup ht
    obtain ⟨a1, a2, a3⟩ := lst_ok (st_ok hv hr nd 0 fun k' e => by omega) l ts h d
    refine ⟨?_, a2, a3⟩
    show preX (smX rws hds 0) ts ts.length = true
    refine preX_all (fun i t e => ?_) _ (Nat.le_refl _)
    obtain ⟨b1, b2⟩ := a1 i t e
    unfold okT
    rw [b1]
    cases he : endX t with
    | false => rfl
    | true => rw [decide_eq_true (b2 he)]; rfl
  | succ k ih =>
    intro l t h ht
    obtain ⟨p, ts, rfl, d⟩ := dd_tup ht
    obtain ⟨a1, a2, a3⟩ := lst_ok (st_ok hv hr nd (k + 1) fun k' e => (by omega : k' = k) ▸ ih) l ts h d
    refine ⟨?_, a2, a3⟩
    show preX (smX rws hds (k + 1)) ts ts.length = true
    refine preX_all (fun i t e => ?_) _ (Nat.le_refl _)
    obtain ⟨b1, b2⟩ := a1 i t e
    unfold okT
    rw [b1]
    cases he : endX t with
    | false => rfl
    | true => rw [decide_eq_true (b2 he)]; rfl
end

section
variable {vs rws : List Str} {hds : List (Str × Nat)}
theorem gd_t2 {z : Str} {a : PyData} (hz : z.length ≤ 8) (h : gdD a = true) : gdD (.tuple [.str z, a]) = true := by
  have g := wd_gd hz
  simp only [gdD, gdL, List.length_cons, List.length_nil] at g ⊢
  simp [g, h]
theorem gd_t3 {z : Str} {a b : PyData} (hz : z.length ≤ 8) (h : gdD a = true) (h2 : gdD b = true) : gdD (.tuple [.str z, a, b]) = true := by
  have g := wd_gd hz
  simp only [gdD, gdL, List.length_cons, List.length_nil] at g ⊢
  simp [g, h, h2]
theorem gd_t4 {z : Str} {a b c : PyData} (hz : z.length ≤ 8) (h : gdD a = true) (h2 : gdD b = true) (h3 : gdD c = true) : gdD (.tuple [.str z, a, b, c]) = true := by
  have g := wd_gd hz
  simp only [gdD, gdL, List.length_cons, List.length_nil] at g ⊢
  simp [g, h, h2, h3]
theorem cn_t {ds : List PyData} : cnD (.tuple ds) = cnL ds := by rw [cnD]
theorem cn_s {z : Str} : cnD (.str z) = 1 := by rw [cnD]
theorem gd_tup {ds : List PyData} (hl : ds.length ≤ 1000) (h : gdL ds = true) : gdD (.tuple ds) = true := by
  rw [gdD, decide_eq_true hl, h]
  rfl
theorem exs_gd (hv : ∀ x ∈ vs, x.length ≤ 8) (hr : ∀ x ∈ rws, x.length ≤ 8) : ∀ es : List Ex, (∀ e ∈ es, e.Wf vs rws 4) → gdL (es.map Ex.d) = true ∧ cnL (es.map Ex.d) ≤ 31 * es.length
  | [], _ => ⟨by rw [List.map_nil, gdL], by rw [List.map_nil, cnL]; omega⟩
  | e :: es, h => by
    obtain ⟨a1, a2⟩ := ex_gd hv hr 4 e (h e (List.mem_cons_self ..))
    obtain ⟨b1, b2⟩ := exs_gd hv hr es fun x hx => h x (List.mem_cons_of_mem _ hx)
    refine ⟨by rw [List.map_cons, gdL, a1, b1]; rfl, ?_⟩
    rw [List.map_cons, cnL, List.length_cons]
    have : (2 : Nat) ^ (4 + 1) = 32 := by decide
    omega
mutual
theorem sm_gd (hv : ∀ x ∈ vs, x.length ≤ 8) (hr : ∀ x ∈ rws, x.length ≤ 8) (hh : ∀ q ∈ hds, q.1.length ≤ 8 ∧ q.2 ≤ 4) : ∀ (s : Sm) (k : Nat), s.Wf vs rws hds k → s.size ≤ 1000 → gdD s.d = true ∧ cnD s.d ≤ 200 * s.size
  | .set x e, k, h, _ => by
    unfold Sm.Wf at h
    obtain ⟨a1, a2⟩ := ex_gd hv hr 4 e h.2
    have : (2 : Nat) ^ (4 + 1) = 32 := by decide
    rw [Sm.d]
    refine ⟨gd_t3 (by decide +kernel) (wd_gd (hv x h.1)) a1, ?_⟩
    simp only [cn_t, cnL, cn_s]
    simp only [Sm.size]
    omega
  | .put ro e f, k, h, _ => by
    unfold Sm.Wf at h
    obtain ⟨a1, a2⟩ := ex_gd hv hr 4 e h.2.1
    obtain ⟨b1, b2⟩ := ex_gd hv hr 4 f h.2.2
    have : (2 : Nat) ^ (4 + 1) = 32 := by decide
    rw [Sm.d]
    refine ⟨gd_t4 (by decide +kernel) (wd_gd (hr ro h.1)) a1 b1, ?_⟩
    simp only [cn_t, cnL, cn_s]
    simp only [Sm.size]
    omega
  | .tell e, k, h, _ => by
    unfold Sm.Wf at h
    obtain ⟨a1, a2⟩ := ex_gd hv hr 4 e h
    have : (2 : Nat) ^ (4 + 1) = 32 := by decide
    rw [Sm.d]
    refine ⟨gd_t2 (by decide +kernel) a1, ?_⟩
    simp only [cn_t, cnL, cn_s]
    simp only [Sm.size]
    omega
  | .give e, k, h, _ => by
    unfold Sm.Wf at h
    obtain ⟨a1, a2⟩ := ex_gd hv hr 4 e h
    have : (2 : Nat) ^ (4 + 1) = 32 := by decide
    rw [Sm.d]
    refine ⟨gd_t2 (by decide +kernel) a1, ?_⟩
    simp only [cn_t, cnL, cn_s]
    simp only [Sm.size]
    omega
  | .fail n, k, _, _ => by
    rw [Sm.d]
    refine ⟨gd_t2 (by decide +kernel) (by rw [gdD]), ?_⟩
    simp only [cn_t, cnL, cn_s, cnD]
    simp only [Sm.size]
    omega
  | .call x g es, k, h, _ => by
    unfold Sm.Wf at h
    obtain ⟨a1, a2⟩ := exs_gd hv hr es h.2.2
    obtain ⟨g8, e4⟩ := hh _ h.2.1
    have e4 : es.length ≤ 4 := e4
    rw [Sm.d]
    refine ⟨gd_t4 (by decide +kernel) (wd_gd (hv x h.1)) (wd_gd g8) (gd_tup (by rw [List.length_map]; omega) a1), ?_⟩
    simp only [cn_t, cnL, cn_s]
    simp only [Sm.size]
    omega
  | .ite e ys ns, k, h, hs => by
    unfold Sm.Wf at h
    obtain ⟨a1, a2⟩ := ex_gd hv hr 4 e h.2.1
    have h32 : (2 : Nat) ^ (4 + 1) = 32 := by decide
    rw [Sm.size] at hs
    obtain ⟨b1, b2⟩ := sms_gd hv hr hh ys _ h.2.2.1 (by omega)
    obtain ⟨c1, c2⟩ := sms_gd hv hr hh ns _ h.2.2.2 (by omega)
    have ly := Sm.sizes_len ys
    have ln := Sm.sizes_len ns
    rw [Sm.d, Sm.size]
    refine ⟨gd_t4 (by decide +kernel) a1 (gd_tup (by rw [Sm.ds_eq, List.length_map]; omega) b1) (gd_tup (by rw [Sm.ds_eq, List.length_map]; omega) c1), ?_⟩
    simp only [cn_t, cnL, cn_s]
    omega
  | .loop e b, k, h, hs => by
    unfold Sm.Wf at h
    obtain ⟨a1, a2⟩ := ex_gd hv hr 4 e h.2.1
    have h32 : (2 : Nat) ^ (4 + 1) = 32 := by decide
    rw [Sm.size] at hs
    obtain ⟨b1, b2⟩ := sms_gd hv hr hh b _ h.2.2 (by omega)
    have ly := Sm.sizes_len b
    rw [Sm.d, Sm.size]
    refine ⟨gd_t3 (by decide +kernel) a1 (gd_tup (by rw [Sm.ds_eq, List.length_map]; omega) b1), ?_⟩
    simp only [cn_t, cnL, cn_s]
    omega
theorem sms_gd (hv : ∀ x ∈ vs, x.length ≤ 8) (hr : ∀ x ∈ rws, x.length ≤ 8) (hh : ∀ q ∈ hds, q.1.length ≤ 8 ∧ q.2 ≤ 4) : ∀ (l : List Sm) (k : Nat), Sm.Wfs vs rws hds l k → Sm.sizes l ≤ 1000 → gdL (Sm.ds l) = true ∧ cnL (Sm.ds l) ≤ 200 * Sm.sizes l
  | [], _, _, _ => ⟨by rw [Sm.ds, gdL], by rw [Sm.ds, cnL]; omega⟩
  | s :: l, k, h, hs => by
    unfold Sm.Wfs at h
    rw [Sm.sizes] at hs
    obtain ⟨a1, a2⟩ := sm_gd hv hr hh s k h.1 (by omega)
    obtain ⟨b1, b2⟩ := sms_gd hv hr hh l k h.2.2 (by omega)
    rw [Sm.ds, gdL, cnL, Sm.sizes, a1, b1]
    exact ⟨rfl, by omega⟩
end
end
theorem strs_gd : ∀ zs : List Str, (∀ z ∈ zs, z.length ≤ 8) → gdL (zs.map PyData.str) = true ∧ cnL (zs.map PyData.str) = zs.length
  | [], _ => ⟨by rw [List.map_nil, gdL], by rw [List.map_nil, cnL]; rfl⟩
  | z :: zs, h => by
    obtain ⟨b1, b2⟩ := strs_gd zs fun x hx => h x (List.mem_cons_of_mem _ hx)
    rw [List.map_cons, gdL, cnL, b1, b2, cn_s, wd_gd (h z (List.mem_cons_self ..)), List.length_cons]
    exact ⟨rfl, by omega⟩
theorem body_gd {vs rws : List Str} {hds : List (Str × Nat)} {l : List Sm} {k : Nat} (hv : ∀ x ∈ vs, x.length ≤ 8) (hr : ∀ x ∈ rws, x.length ≤ 8) (hh : ∀ q ∈ hds, q.1.length ≤ 8 ∧ q.2 ≤ 4) (h : Sm.Wfs vs rws hds l k) (hs : Sm.sizes l ≤ 24) : gdD (.tuple (Sm.ds l)) = true ∧ cnD (.tuple (Sm.ds l)) ≤ 200 * Sm.sizes l := by
  obtain ⟨b1, b2⟩ := sms_gd hv hr hh l k h (by omega)
  have ll := Sm.sizes_len l
  exact ⟨gd_tup (by rw [Sm.ds_eq, List.length_map]; omega) b1, by rw [cn_t]; omega⟩
theorem hps_gd : ∀ (hs : List (Str × List Str × List Sm)), (∀ h ∈ hs, ∃ hds : List (Str × Nat), (∀ q ∈ hds, q.1.length ≤ 8 ∧ q.2 ≤ 4) ∧ HpWf hds h) → gdL (hs.map hpD) = true ∧ cnL (hs.map hpD) ≤ 1610 * hs.length
  | [], _ => ⟨by rw [List.map_nil, gdL], by rw [List.map_nil, cnL]; omega⟩
  | h :: hs, H => by
    obtain ⟨b1, b2⟩ := hps_gd hs fun x hx => H x (List.mem_cons_of_mem _ hx)
    obtain ⟨hds, hh, w⟩ := H h (List.mem_cons_self ..)
    obtain ⟨vs, v1, v2, v3, v4⟩ := w.bd
    obtain ⟨c1, c2⟩ := body_gd (rws := []) (fun x hx => (v1 x hx).hi) (fun x hx => absurd hx List.not_mem_nil) hh v4 (Nat.le_trans w.sz (by decide))
    obtain ⟨d1, d2⟩ := strs_gd h.2.1 fun z hz => (w.pk z hz).hi
    have pl := w.pl
    have sz := w.sz
    have g : gdD (hpD h) = true := gd_t3 w.nm.hi (gd_tup (by rw [List.length_map]; omega) d1) c1
    have n : cnD (hpD h) = 1 + (h.2.1.length + (cnD (.tuple (Sm.ds h.2.2)) + 0)) := by
      unfold hpD
      rw [cn_t, cnL, cnL, cnL, cnL, cn_s, cn_t, d2]
    rw [List.map_cons, gdL, cnL, List.length_cons, g, b1]
    exact ⟨rfl, by omega⟩
theorem rws_gd : ∀ rs : List (Str × Nat), (∀ r ∈ rs, r.1.length ≤ 8) → gdL (rs.map rwD) = true ∧ cnL (rs.map rwD) = rs.length
  | [], _ => ⟨by rw [List.map_nil, gdL], by rw [List.map_nil, cnL]; rfl⟩
  | r :: rs, h => by
    obtain ⟨b1, b2⟩ := rws_gd rs fun x hx => h x (List.mem_cons_of_mem _ hx)
    have g : gdD (rwD r) = true := gd_t2 (h r (List.mem_cons_self ..)) (by rw [gdD])
    have n : cnD (rwD r) = 1 := by
      unfold rwD
      rw [cn_t, cnL, cnL, cnL, cn_s, cnD]
    rw [List.map_cons, gdL, cnL, List.length_cons, g, b1, b2, n]
    exact ⟨rfl, by omega⟩
theorem Pg.Wf.hd8 {p : Pg} (wf : p.Wf) : ∀ q ∈ p.hs.map hdOf, q.1.length ≤ 8 ∧ q.2 ≤ 4 := fun q hq => by
  obtain ⟨h, hm, rfl⟩ := List.mem_map.mp hq
  obtain ⟨i, hi⟩ := List.mem_iff_getElem?.mp hm
  have w := wf.hok i h hi
  exact ⟨w.nm.hi, w.pl⟩
theorem Pg.Wf.gd {p : Pg} (wf : p.Wf) : gdD p.d = true ∧ cnD p.d ≤ 12000 := by
  obtain ⟨a1, a2⟩ := hps_gd p.hs fun h hm => by
    obtain ⟨i, hi⟩ := List.mem_iff_getElem?.mp hm
    exact ⟨_, fun q hq => wf.hd8 q (List.map_subset _ (List.take_subset _ _) hq), wf.hok i h hi⟩
  obtain ⟨b1, b2⟩ := strs_gd p.ps fun z hz => (wf.pk z hz).hi
  obtain ⟨c1, c2⟩ := rws_gd p.rs fun r hr => (wf.rk r hr).1.hi
  obtain ⟨vs, v1, v2, v3, v4, v5⟩ := wf.bd
  obtain ⟨d1, d2⟩ := body_gd (fun x hx => (v1 x hx).hi) (fun x hx => by
    obtain ⟨r, hr, rfl⟩ := List.mem_map.mp hx
    exact (wf.rk r hr).1.hi) wf.hd8 v5 wf.sz
  have hl := wf.hl
  have pl := wf.pl
  have rl := wf.rl
  have sz := wf.sz
  unfold Pg.d
  refine ⟨gd_tup (by show 4 ≤ 1000; decide) ?_, ?_⟩
  · rw [gdL, gdL, gdL, gdL, gdL, gd_tup (by rw [List.length_map]; omega) a1, gd_tup (by rw [List.length_map]; omega) b1, gd_tup (by rw [List.length_map]; omega) c1, d1]
    rfl
  · rw [cn_t, cnL, cnL, cnL, cnL, cnL, cn_t, cn_t, cn_t, b2, c2]
    omega
/-! it is a program -/
theorem strs_of : ∀ {ts : List Tr} {zs : List Str}, ddL ts = zs.map PyData.str → ts = zs.map Tr.str
  | ts, [], h => ddL_nil h
  | ts, z :: zs, h => by
    obtain ⟨t, r, rfl, e1, e2⟩ := ddL_cons h
    rw [dd_str e1, strs_of e2]
    rfl
theorem map_trS (zs : List Str) : (zs.map Tr.str).map trS = zs := by
  rw [List.map_map]
  exact List.map_id' _ |>.symm ▸ by simp [Function.comp_def, trS]
theorem par_ok {t : Tr} {zs : List Str} (h : t.dd = .tuple (zs.map PyData.str)) (hl : zs.length ≤ 4) (hn : ∀ z ∈ zs, IsNm z) (nd : zs.Nodup) : parX t = true ∧ parL t = zs := by
  obtain ⟨p, ts, rfl, e⟩ := dd_tup h
  cases strs_of e
  have e2 := map_trS zs
  refine ⟨?_, e2⟩
  show (decide ((zs.map Tr.str).length ≤ 4) && ((zs.map Tr.str).all nmX && decide (((zs.map Tr.str).map trS).Nodup))) = true
  have e3 : (zs.map Tr.str).all nmX = true := List.all_eq_true.mpr fun t ht => by
    obtain ⟨z, hz, rfl⟩ := List.mem_map.mp ht
    exact nmB_ok.mpr (hn z hz)
  rw [e2, e3, decide_eq_true nd, List.length_map, decide_eq_true hl]
  rfl
theorem bdV_ok {vs rws ks : List Str} {hds : List (Str × Nat)} {l : List Sm} {t : Tr} (hv : ∀ x ∈ vs, IsNm x) (hr : ∀ x ∈ vs, x ∉ rws) (nd : (hds.map (·.1)).Nodup) (h : Sm.Wfs vs rws hds l 4) (ht : t.dd = .tuple (Sm.ds l)) (l12 : vs.length ≤ 12) (hk : ∀ x ∈ ks, x ∈ vs) (kn : ks.Nodup) (hs : Sm.sizes l ≤ 25) : bdV rws hds ks t = true := by
  obtain ⟨a1, a2, a3⟩ := bd_ok hv hr nd 4 l t h ht
  have e : (un ks (bdN 5 t)).length ≤ vs.length := len_le (un_spec _ _ kn).1 fun z hz => by
    rcases ((un_spec _ _ kn).2 z).mp hz with hz | hz
    · exact hk z hz
    · exact a2 z hz
  unfold bdV
  rw [a1, a3, decide_eq_true (show (un ks (bdN 5 t)).length ≤ 12 by omega), decide_eq_true hs]
  rfl
theorem hs_ok : ∀ (hs : List (Str × List Str × List Sm)) (pre : List (Str × Nat)) (l : List Tr), ((pre ++ hs.map hdOf).map (·.1)).Nodup → (∀ (i : Nat) h, hs[i]? = some h → HpWf (pre ++ (hs.take i).map hdOf) h) → ddL l = hs.map hpD → hsGo pre l = some (pre ++ hs.map hdOf)
  | [], pre, l, _, _, h => by
    cases ddL_nil h
    show some pre = _
    rw [List.map_nil, List.append_nil]
  | x :: hs, pre, l, nd, hw, h => by
    obtain ⟨t, r, rfl, e1, e2⟩ := ddL_cons h
    have w := hw 0 x rfl
    rw [List.take_zero, List.map_nil, List.append_nil] at w
    obtain ⟨p, ts, rfl, d⟩ := dd_tup e1
    obtain ⟨t0, r0, rfl, d0, d⟩ := ddL_cons d
    obtain ⟨t1, r1, rfl, d1, d⟩ := ddL_cons d
    obtain ⟨t2, r2, rfl, d2, d⟩ := ddL_cons d
    cases ddL_nil d
    cases dd_str d0
    obtain ⟨p1, p2⟩ := par_ok d1 w.pl w.pk w.pn
    obtain ⟨vs, v1, v2, v3, v4⟩ := w.bd
    have eP : pre ++ (x :: hs).map hdOf = (pre ++ [hdOf x]) ++ hs.map hdOf := by rw [List.map_cons, List.append_assoc]; rfl
    have ndp : (pre.map (·.1)).Nodup := by
      rw [List.map_append, List.nodup_append] at nd
      exact nd.1
    have lk : pre.lookup x.1 = none := by
      rw [List.lookup_eq_none_iff]
      intro q hq
      rw [List.map_append, List.nodup_append] at nd
      have := nd.2.2 q.1 (List.mem_map_of_mem (f := (·.1)) hq) x.1 (by simp [hdOf])
      exact bne_iff_ne.mpr fun z => this z.symm
    have hv : hpV pre (.str x.1) t1 t2 = true := by
      show ((nmB x.1 && (pre.lookup x.1).isNone) && (parX t1 && bdV [] pre (parL t1) t2)) = true
      rw [nmB_ok.mpr w.nm, lk, p1, p2, bdV_ok (rws := []) v1 (fun _ _ => List.not_mem_nil) ndp v4 d2 v2 v3 w.pn (Nat.le_trans w.sz (by decide))]
      rfl
    show (if hpV pre (.str x.1) t1 t2 = true then hsGo (pre ++ [(x.1, (parL t1).length)]) r else none) = _
    rw [if_pos hv, p2, eP]
    exact hs_ok hs (pre ++ [hdOf x]) r (by rw [← eP]; exact nd) (fun i h hi => by
      have := hw (i + 1) h hi
      rw [List.take_succ_cons, List.map_cons] at this
      rw [List.append_assoc]
      exact this) e2
theorem rows_ok : ∀ (rs : List (Str × Nat)) (ns : List Str) (l : List Tr), (∀ r ∈ rs, IsNm r.1 ∧ 1 ≤ r.2 ∧ r.2 ≤ 8 ∧ r.1 ∉ ns) → (rs.map (·.1)).Nodup → ddL l = rs.map rwD → rowsGo ns l = true ∧ l.map rwS = rs.map (·.1)
  | [], ns, l, _, _, h => by
    cases ddL_nil h
    exact ⟨rfl, rfl⟩
  | x :: rs, ns, l, hw, nd, h => by
    obtain ⟨t, r, rfl, e1, e2⟩ := ddL_cons h
    obtain ⟨p, ts, rfl, d⟩ := dd_tup e1
    obtain ⟨t0, r0, rfl, d0, d⟩ := ddL_cons d
    obtain ⟨t1, r1, rfl, d1, d⟩ := ddL_cons d
    cases ddL_nil d
    cases dd_str d0
    cases dd_int d1
    obtain ⟨w1, w2, w3, w4⟩ := hw x (List.mem_cons_self ..)
    rw [List.map_cons, List.nodup_cons] at nd
    obtain ⟨a1, a2⟩ := rows_ok rs (ns ++ [x.1]) r (fun y hy => by
      obtain ⟨b1, b2, b3, b4⟩ := hw y (List.mem_cons_of_mem _ hy)
      refine ⟨b1, b2, b3, fun z => ?_⟩
      rcases List.mem_append.mp z with z | z
      · exact b4 z
      · exact nd.1 (by rw [← List.mem_singleton.mp z]; exact List.mem_map_of_mem (f := (·.1)) hy)) nd.2 e2
    refine ⟨?_, by rw [List.map_cons, List.map_cons, a2]; rfl⟩
    show ((nmB x.1 && ((decide (1 ≤ (x.2 : Int)) && decide ((x.2 : Int) ≤ 8)) && !decide (x.1 ∈ ns))) && rowsGo (ns ++ [x.1]) r) = true
    rw [nmB_ok.mpr w1, decide_eq_true (show 1 ≤ (x.2 : Int) by omega), decide_eq_true (show (x.2 : Int) ≤ 8 by omega), decide_eq_false w4, a1]
    rfl
theorem Pg.Wf.prog {p : Pg} (wf : p.Wf) {t : Tr} (h : t.dd = p.d) : progX t = true := by
  obtain ⟨q, ts, rfl, d⟩ := dd_tup h
  obtain ⟨t0, r, rfl, d0, d⟩ := ddL_cons d
  obtain ⟨t1, r, rfl, d1, d⟩ := ddL_cons d
  obtain ⟨t2, r, rfl, d2, d⟩ := ddL_cons d
  obtain ⟨t3, r, rfl, d3, d⟩ := ddL_cons d
  cases ddL_nil d
  obtain ⟨p0, l0, rfl, e0⟩ := dd_tup d0
  obtain ⟨p2, l2, rfl, e2⟩ := dd_tup d2
  obtain ⟨a1, a2⟩ := par_ok d1 wf.pl wf.pk wf.pn
  have hn : ((p.hs.map hdOf).map (·.1)).Nodup := by
    rw [List.map_map]
    exact wf.hn
  have b := hs_ok p.hs [] l0 (by rw [List.nil_append]; exact hn) (fun i h hi => by rw [List.nil_append]; exact wf.hok i h hi) e0
  rw [List.nil_append] at b
  have ll0 : l0.length = p.hs.length := by
    have : (ddL l0).length = (p.hs.map hpD).length := by rw [e0]
    rwa [ddL_map, List.length_map, List.length_map] at this
  have ll2 : l2.length = p.rs.length := by
    have : (ddL l2).length = (p.rs.map rwD).length := by rw [e2]
    rwa [ddL_map, List.length_map, List.length_map] at this
  obtain ⟨c1, c2⟩ := rows_ok p.rs p.ps l2 wf.rk wf.rn e2
  obtain ⟨vs, v1, v2, v3, v4, v5⟩ := wf.bd
  have hX : hsX (.nd p0 l0) = some (p.hs.map hdOf) := by
    show (if l0.length ≤ 4 then hsGo [] l0 else none) = _
    rw [if_pos (by rw [ll0]; exact wf.hl), b]
  have sz := wf.sz
  show progO t1 (.nd p2 l2) t3 (hsX (.nd p0 l0)) = true
  rw [hX]
  show (parX t1 && ((decide (l2.length ≤ 3) && rowsGo (parL t1) l2) && bdV (l2.map rwS) (p.hs.map hdOf) (parL t1) t3)) = true
  rw [a1, a2, c1, c2, decide_eq_true (by rw [ll2]; exact wf.rl), bdV_ok v1 (fun x hx z => by
    obtain ⟨r, hr, rfl⟩ := List.mem_map.mp z
    exact v4 r hr hx) hn v5 d3 v2 v3 wf.pn (by omega)]
  rfl

section
variable {K : PySem.W.Frag} {H0 : Hp} {σ : L2.St}
def Mtm (K : PySem.W.Frag) (H0 : Hp) (σ : L2.St) (n c : Nat) (u : TA) : Prop := ∀ (H : Hp) (Q : List V → Hp → Prop), Same H0 H → (∀ H' (ts : List Tr), Same H H' → ts.length = c → (∀ t ∈ ts, Wt K H' t ∧ (txs t).length ≤ n) → Q (ts.map Tr.v) H') → u σ H Q
theorem mtm_nil {n : Nat} : Mtm K H0 σ n 0 tNil := fun H Q _ q => q H [] (Same.refl _) rfl fun _ h => nomatch h
theorem mtm_cons {n c : Nat} {t : TE} {u : TA} (h : Mt K H0 σ n t) (r : Mtm K H0 σ n c u) : Mtm K H0 σ n (c + 1) (tCons t u) := fun H Q s q =>
  h H _ s fun H1 x s1 w1 l1 => r H1 _ (s.trans s1) fun H2 ts s2 lc w2 => q H2 (x :: ts) (s1.trans s2) (by rw [List.length_cons, lc]) fun t ht => by
    rcases List.mem_cons.mp ht with rfl | ht
    · exact ⟨w1.sm s2, l1⟩
    · exact w2 t ht
theorem mlm_lst {n c : Nat} {u : TA} (r : Mtm K H0 σ n c u) (hk : c ≤ 1000 := by decide) : Ml K H0 σ n c (tLst u) := fun H Q s q =>
  r H _ s fun H1 ts s1 lc w1 => ⟨by rw [List.length_map, lc, sizeLine_eq]; omega, fun p np => q _ p ts (s1.trans (same_new np)) upd_same lc fun t ht => ⟨(w1 t ht).1.sm (same_new np), (w1 t ht).2⟩⟩
end
def twD (z : Str) : PyData := .tuple [.tuple [.tuple [.str "h", .tuple [], .tuple []], .tuple [.str z, .tuple [.str "a"], .tuple []]], .tuple [], .tuple [], .tuple []]
theorem tw_gd {z : Str} (h : z.length ≤ 8) : gdD (twD z) = true := by
  have g := wd_gd h
  have g1 : gdD (.str "h") = true := by decide +kernel
  have g2 : gdD (.str "a") = true := by decide +kernel
  unfold twD
  simp only [gdD, gdL, List.length_cons, List.length_nil] at g g1 g2 ⊢
  simp [g, g1, g2]
theorem tw_cn {z : Str} : cnD (twD z) = 3 := by
  unfold twD
  simp [cnD, cnL]
theorem tw_nL {z : Str} : nLd (twD z) = true := rfl
section
variable {P : Program} {w : World} {K : PySem.W.Frag} {mg : Str → Option Value} {base : Heap}
theorem mt_great {H0 : Hp} {σ : L2.St} {i : Nat} {c : Int} (h : σ[i]? = some (some (.int c))) : Mt K H0 σ 10000 (tCall (sp_grX K) [] E0 (tCons (tVar i) tNil)) := fun H Q s q => ⟨_, h, c, rfl, fun H' u s' w l => q H' u s' w l⟩
def sp_law (K : PySem.W.Frag) : Sp := fun vs H Q _ => ∃ (a : Addr) (ns : List Int), vs = [.ref a] ∧ SqL K H a (ns.map V.int) ∧ ∀ H', Q (.bl true) H'
theorem law_start {K : PySem.W.Frag} {H : Hp} {a : Addr} {ns : List Int} (hl : ns.length ≤ 63) (hb : ∀ z ∈ ns, Builtin.Int.intBits z ≤ 1048576) (hS : SqL K H a (ns.map V.int)) : sp_law K [.ref a] H (fun v _ => v = .bl true) fun _ _ _ => False := ⟨a, ns, rfl, hS, fun _ => rfl⟩
theorem ok_law (T : Top K mg) : FnOk P w K mg base CX0 30 (He.ga K "law") T.fd_law ["_law_script"] (sp_law K) := by
  have G__law_program := ok__law_program (P := P) (w := w) (base := base) T
  have G__law_cell_at := ok__law_cell_at (P := P) (w := w) (base := base) T
  have G__law_names := ok__law_names (P := P) (w := w) (base := base) T
  have G__law_mixed := ok__law_mixed (P := P) (w := w) (base := base) T
  have G__law_edited := ok_edX (P := P) (w := w) (base := base) T 13
  have G__law_great := ok_grX (P := P) (w := w) (base := base) T
  have G_is_program := ok_progX (P := P) (w := w) (base := base) T
  have G__law_is_program := ok_lprogX (P := P) (w := w) (base := base) T
  refine T.F_law.ok sc_law (fun vs H Q E h => ?_) (fun cdv A outer s H vs Q E hr h => ?_)
  · obtain ⟨a, ns, rfl, _⟩ := h
    rfl
  · obtain ⟨a, ns, rfl, hS, q⟩ := h
    refine ⟨_, PSs.nox (pss_cons (ps_set (i := 1) sc_law.nd rfl (Or.inl rfl) (pe_call G__law_program (hr.mono (by omega)) (by rfl) T.g__law_program T.F__law_program.kp T.b__law_program .nil pass0 (pa_cons (pv 0) (pa_cons pe_int pa_nil))))
        (pss_cons (ps_set (i := 2) sc_law.nd rfl (Or.inl rfl) (pe_call G__law_cell_at (hr.mono (by omega)) (by rfl) T.g__law_cell_at T.F__law_cell_at.kp T.b__law_cell_at .nil pass0 (pa_cons (pv 0) (pa_cons pe_int pa_nil))))
        (pss_cons (ps_set (i := 3) sc_law.nd rfl (Or.inl rfl) (pe_call G__law_names (hr.mono (by omega)) (by rfl) T.g__law_names T.F__law_names.kp T.b__law_names .nil pass0 (pa_cons (pe_op op_fdivW (pe_call G__law_cell_at (hr.mono (by omega)) (by rfl) T.g__law_cell_at T.F__law_cell_at.kp T.b__law_cell_at .nil pass0 (pa_cons (pv 0) (pa_cons pe_int pa_nil))) pe_int) pa_nil)))
        (pss_cons (ps_set (i := 4) sc_law.nd rfl (Or.inl rfl) (pv 1))
        (pss_cons (ps_if (pt_cmpR op_gt (pe_call G__law_mixed (hr.mono (by omega)) (by rfl) T.g__law_mixed T.F__law_mixed.kp T.b__law_mixed .nil pass0 (pa_cons (pv 2) (pa_cons pe_int (pa_cons pe_int pa_nil)))) pe_int (nomark _)) (pss_one (ps_set (i := 4) sc_law.nd rfl (Or.inl rfl) (pe_call G__law_edited (hr.mono (by omega)) (by rfl) T.g__law_edited T.F__law_edited.kp T.b__law_edited .nil pass0 (pa_cons (pv 1) (pa_cons (pv 3) (pa_cons (pv 2) (pa_cons pe_int pa_nil))))))) pss_nil)
        (pss_cons (ps_setLc (i := 5) (own := [("_law_name", 8)]) (by rfl) sc_law.nd rfl rfl (sw_true rfl rfl rfl (by decide +kernel)) (pi_tup (pe_tup (pa_cons pe_str (pa_cons pe_str pa_nil)))) (blkOk_by (own := [("_law_name", 8)]) (N := N_law) (sc := defScope s_law) (by decide +kernel)) (fun _ _ _ _ _ => (pg_name (i := 8) sc_law.nd rfl (Or.inl rfl))) (fun _ _ _ _ _ => pts_nil) (fun _ _ _ _ _ => (pe_tup (pa_cons (pe_tup (pa_cons (pe_tup (pa_cons pe_str (pa_cons (pe_tup pa_nil) (pa_cons (pe_tup pa_nil) pa_nil)))) (pa_cons (pe_tup (pa_cons (pv 8) (pa_cons (pe_tup (pa_cons pe_str pa_nil)) (pa_cons (pe_tup pa_nil) pa_nil)))) pa_nil))) (pa_cons (pe_tup pa_nil) (pa_cons (pe_tup pa_nil) (pa_cons (pe_tup pa_nil) pa_nil)))))))
        (pss_cons (ps_for PassesOwn.never (by rfl) (pi_list (pe_op op_cat (pe_lst (pa_cons (pv 4) (pa_cons (pe_call G__law_great (hr.mono (by omega)) (by rfl) T.g__law_great T.F__law_great.kp T.b__law_great .nil pass0 (pa_cons (pv 2) pa_nil)) (pa_cons (pv 1) (pa_cons (pv 4) pa_nil))))) (pv 5))) (pg_name (i := 6) sc_law.nd rfl (Or.inl rfl)) (pss_cons (ps_set (i := 7) sc_law.nd rfl (Or.inl rfl) (pe_call G_is_program (hr.mono (by omega)) (by rfl) T.g_is_program T.F_is_program.kp T.b_is_program .nil pass0 (pa_cons (pv 6) pa_nil)))
        (pss_one (ps_if (PW.pt (pw_or (pt_not (pt_val (pe_callB call_isi (by rfl) T.m_isinstance (by decide +kernel) (pa_cons (pv 7) (pa_cons (pe_bltn (v := .ty "bool") (by rfl) T.m_bool (by decide +kernel) rfl) pa_nil))))) (pw_or1 (pt_cmpR op_ne (pv 7) (pe_call G__law_is_program (hr.mono (by omega)) (by rfl) T.g__law_is_program T.F__law_is_program.kp T.b__law_is_program .nil pass0 (pa_cons (pv 6) pa_nil)) (nomark _))))) (pss_one (ps_ret pe_bl)) pss_nil))))
        (pss_one (ps_ret (pe_cmpR op_isBl (pe_call G_is_program (hr.mono (by omega)) (by rfl) T.g_is_program T.F_is_program.kp T.b_is_program .nil pass0 (pa_cons (pv 1) pa_nil)) pe_bl (nomark _))))))))))), ?_⟩
    refine ⟨_, rfl, a, ns, 1, rfl, hS, by decide, by decide, fun H1 r p s1 dp wf => ?_⟩
    dsimp only [gName, List.set]
    have hS1 := s1.seq hS
    obtain ⟨gd, cn⟩ := wf.gd
    obtain ⟨tp, ev, wt, ed, few⟩ := tree_of p.d r gd dp
    have ntp : (txs tp).length ≤ 12000 := by rw [dd_txs, ed]; exact cn
    have good : progX tp = true := wf.prog ed
    subst ev
    refine ⟨_, rfl, a, ns, 0, rfl, by decide, hS1, ?_⟩
    dsimp only [gName, List.set]
    refine ⟨_, rfl, a, ns, 1, rfl, by decide, hS1, _, _, rfl, rfl, div_ok (b := 2) (by decide) (by decide) (by decide) (by decide), _, rfl, fun H2 pn zs s2 npn en nms => ?_⟩
    dsimp only [gName, List.set]
    refine ⟨_, rfl, ?_⟩
    dsimp only [gName, List.set]
    have wt2 := wt.sm s2
    refine ifs_by (fun σ' H' => Same H2 H' ∧ ∃ t : Tr, Wt K H' t ∧ (txs t).length ≤ 999000 ∧ σ' = [some (.ref a), some tp.v, some (.int (cellA ns 0)), some (.ref pn), some t.v, none, none, none, none]) ?_ fun Nx hN => ?_
    rotate_left
    · refine ⟨_, rfl, .int (cellA ns 0), 9, 7, rfl, .inl ⟨_, rfl⟩, by decide, by decide, by decide, by decide, fun H3 r3 k3 _ _ _ => ⟨_, _, rfl, rfl, _, rfl, ?_⟩⟩
      have s3 : Same H2 H3 := Kp.same (Same.refl _) k3 fun b e => nomatch e
      by_cases cr : r3 > 0
      case neg => exact ifN cr (hN _ _ ⟨s3, tp, wt2.sm s3, by omega, rfl⟩)
      refine ifD cr ⟨_, rfl, _, rfl, _, rfl, 12, tp, pn, zs, cellA ns 0, 0, rfl, rfl, wt2.sm s3, few, s3 _ _ en, nms, by decide, by decide, fun H4 u s4 wu lu => ?_⟩
      exact hN _ _ ⟨s3.trans s4, u, wu, by omega, rfl⟩
    rintro σ' H3 ⟨s23, t, wt3, nt, rfl⟩
    have wp3 := wt2.sm s23
    refine st_asg ⟨(by show 2 ≤ sizeLine; rw [sizeLine_eq]; decide), fun tq ntq => ⟨tq, rfl, ⟨_, .of upd_same⟩, fun D nD => ?_⟩⟩
    have u3 := same_new (o := .tup [V.str "h", .str "i"]) ntq
    have eq3 : upd H3 tq (.tup [V.str "h", .str "i"]) tq = some (.tup ((["h", "i"] : List Str).map V.str)) := upd_same
    have hz : ∀ z ∈ (["h", "i"] : List Str), z.length ≤ 8 := by decide +kernel
    refine lc_tup (K := K) (a := tq) (xs := (["h", "i"] : List Str).map V.str) (fun j H' => Same (upd H3 tq (.tup [V.str "h", .str "i"])) H' ∧ ∃ vs : List V, H' D = some (.lst vs) ∧ DpAll K H' vs (((["h", "i"] : List Str).take j).map twD)) ?_ ?_ ?_ ?_
    · exact ⟨same_new nD, [], upd_same, .nil⟩
    · rintro j H' _ ⟨s', _⟩
      exact .of (s' _ _ eq3)
    · rintro j y H5 hy ⟨s5, vs, e5, da5⟩
      rw [List.getElem?_map] at hy
      obtain ⟨z, hj, rfl⟩ := Option.map_eq_some_iff.mp hy
      have li := dpAll_len da5
      have lj : vs.length ≤ 2 := by
        rw [li, List.length_map, List.length_take]
        exact Nat.min_le_right _ _
      refine ⟨rfl, ?_⟩
      dsimp only [tYes]
      rw [if_pos rfl]
      refine Md.run (K := K) (d := twD z) (md_tup (mds_cons (md_tup (mds_cons (md_tup (mds_cons md_str (mds_cons (md_tup mds_nil) (mds_cons (md_tup mds_nil) mds_nil)))) (mds_cons (md_tup (mds_cons (md_var (i := 8) (v := .str z) rfl (.str _)) (mds_cons (md_tup (mds_cons md_str mds_nil)) (mds_cons (md_tup mds_nil) mds_nil)))) mds_nil))) (mds_cons (md_tup mds_nil) (mds_cons (md_tup mds_nil) (mds_cons (md_tup mds_nil) mds_nil))))) fun H6 x s6 d6 => ?_
      have e6 := s6 _ _ e5
      have da6 := dpAll_sm s6 da5
      refine ⟨_, e6, by rw [sizeLine_eq]; omega, same_upd (s5.trans s6) nD, _, upd_same, ?_⟩
      have kU : Kp (fun b => b = D) H6 (upd H6 D (.lst (vs ++ [x]))) := Kp.upd e6 trivial rfl
      rw [List.take_succ, hj, List.map_append]
      exact dpAll_app (dpAll_kp kU _ _ (noLs_all fun d hd => by
        obtain ⟨z, _, rfl⟩ := List.mem_map.mp hd
        exact tw_nL) da6) (.cons (dp_kp kU _ _ tw_nL d6) .nil)
    rintro H5 ⟨s5, vs, e5, da5⟩
    obtain ⟨us, ev, w5, dd5, _⟩ := treeL_of _ _ (by
      show gdL [twD "h", twD "i"] = true
      rw [gdL, gdL, gdL, tw_gd (hz _ (by simp)), tw_gd (hz _ (by simp))]
      rfl) da5
    have dd5 : ddL us = [twD "h", twD "i"] := dd5
    have l5 : us.length = 2 := by
      have : (ddL us).length = 2 := by rw [dd5]; rfl
      rwa [ddL_map, List.length_map] at this
    have n5 : ∀ x ∈ us, Wt K H5 x ∧ (txs x).length ≤ 999000 := fun x hx => by
      refine ⟨w5 x hx, ?_⟩
      have : x.dd ∈ [twD "h", twD "i"] := by
        rw [← dd5, ddL_map]
        exact List.mem_map_of_mem hx
      rw [dd_txs]
      rcases List.mem_cons.mp this with e | e
      · rw [e, tw_cn]; decide
      · rw [List.mem_singleton.mp e, tw_cn]; decide
    rw [← ev] at e5
    have s35 := u3.trans s5
    have wt5 := wt3.sm s35
    have wp5 := wp3.sm s35
    refine st_forL (Ml.run (K := K) (n := 999000) (c := 4 + 2) (ml_cat (mlm_lst (mtm_cons (mt_var (x := t) (i := 4) rfl wt5 nt) (mtm_cons (Mt.mono (mt_great (i := 2) rfl) (by decide)) (mtm_cons (mt_var (x := tp) (i := 1) rfl (wp5.sm (Same.refl _)) (by omega)) (mtm_cons (mt_var (x := t) (i := 4) rfl wt5 nt) mtm_nil))))) (Ml.mono (ml_var (i := 5) rfl e5 n5) (Nat.le_refl _) l5) (by decide)) fun H6 L ts s6 e6 l6 w6 => ?_)
    refine ⟨L, rfl, ⟨_, .of e6⟩, ?_⟩
    refine fw_list (K := K) (a := L) (xs := ts.map Tr.v) (fun j σ' H' => Same H6 H' ∧ ∃ x6 x7, σ' = [some (.ref a), some tp.v, some (.int (cellA ns 0)), some (.ref pn), some t.v, some (.ref D), x6, x7, none]) ?_ ?_ ?_ ?_
    · exact ⟨Same.refl _, none, none, rfl⟩
    · rintro j σ' H' _ ⟨s', _⟩
      exact .of (s' _ _ e6)
    · rintro j y σ' H7 hy ⟨s7, x6, x7, rfl⟩
      obtain ⟨u, hu, rfl⟩ := tr_at hy
      obtain ⟨wu, nu⟩ := w6 u (List.mem_of_getElem? hu)
      dsimp only [gName, List.set]
      refine ⟨_, rfl, u, rfl, wu.sm s7, nu, fun H8 s8 => ?_⟩
      dsimp only [gName, List.set]
      refine ⟨_, rfl, _, _, _, _, true, rfl, .ty _, .base (.bl _), kit_ty (by decide +kernel), _, rfl, ifF rfl ?_⟩
      refine ⟨_, rfl, _, rfl, u, rfl, (wu.sm s7).sm s8, nu, fun H9 s9 => ⟨rfl, _, rfl, ?_⟩⟩
      exact ifF (by rw [decide_eq_true rfl]; rfl) ⟨(s7.trans s8).trans s9, _, _, rfl⟩
    · rintro σ' H7 ⟨s7, x6, x7, rfl⟩
      have wp7 := (wp5.sm s6).sm s7
      refine ⟨_, rfl, tp, rfl, wp7, by omega, fun H8 s8 => ?_⟩
      rw [good]
      exact ⟨_, _, rfl, rfl, q _⟩
end

end K04
namespace K04
open PySem PySem.Spec PyProof.Rows L2
theorem law_F (w : World) (mg : Str → Option Value) (fa : Addr) (h : Heap) (Y : hk.says w h) (G : h.Ns mainGlobals mg) (hmg : mg "law" = some (.ref fa)) :
    ∃ (K : PySem.W.Frag) (fd : FuncData) (sp : Sp), K.In h ∧ (∀ (s : Shared) (u : Value), BindsTo s fd ⟨[u], []⟩ [("_law_script", u)]) ∧
        (∀ (H : Hp) (a : Addr) (ns : List Int), ns.length ≤ 63 → (∀ z ∈ ns, Builtin.Int.intBits z ≤ 1048576) → Only H → SqL K H a (ns.map V.int) → sp [.ref a] H (fun v _ => v = .bl true) fun _ _ _ => False) ∧
        ∀ base : Heap, K.In base → base.Ns mainGlobals mg → FnOk (PySem.Challenge.rw_passworks_k04_programs).prog w K mg base L2.CX0 30 fa fd ["_law_script"] sp := by
  obtain ⟨K, KX, c⟩ := Y
  obtain ⟨T⟩ := top_of KX G c
  obtain rfl : He.ga K "law" = fa := by
    have e := T.g_law.symm.trans hmg
    injection e with e
    injection e
  exact ⟨K, T.fd_law, sp_law K, KX, law_binds T, fun H a ns hl hb _ hS => law_start hl hb hS, fun base _ _ => ok_law T⟩
end K04
open PySem PySem.W PySem.Calls PyProof.Rows
theorem K04.law_nm : (HandSHeadRun.topDef (OpenLaw.row PySem.Challenge.rw_passworks_k04_programs).prog 52).name = ("law" : PySem.Str) := by kernel_rfl
theorem K04.law_walk : PySem.W.WalkO (view (OpenLaw.row PySem.Challenge.rw_passworks_k04_programs).prog [52]) K04.lo (XL (view (OpenLaw.row PySem.Challenge.rw_passworks_k04_programs).prog [52]) []) K04.hk.says (OpenLaw.row PySem.Challenge.rw_passworks_k04_programs).toRowW (HandSHeadRun.topDef (OpenLaw.row PySem.Challenge.rw_passworks_k04_programs).prog 52) [] (fun f vs => PySem.call f vs) :=
  K04.walk_bits (l := PySem.Challenge.rw_passworks_k04_programs) (n := 63) (k := 30) (x := "_law_script") (CX := L2.CX0) rfl (by decide) (by kernel_rfl) ⟨rfl, by decide, by decide⟩ (fun w mg fa h Y G hmg0 => K04.law_F w mg fa h Y G (K04.law_nm ▸ hmg0)) (fun _ _ _ _ z => z)
theorem PySem.Challenge.cw_passworks_k04_programs_holds : PySem.Challenge.rw_passworks_k04_programs.Holds := by
  w_on; o_law
  refine HandSHeadRun.head_any (r := OpenLaw.row PySem.Challenge.rw_passworks_k04_programs) (q := view (OpenLaw.row PySem.Challenge.rw_passworks_k04_programs).prog [52]) (H := K04.hk) (ob := K04.ob) (M := 4000) (loose := K04.lo) (d := HandSHeadRun.topDef (OpenLaw.row PySem.Challenge.rw_passworks_k04_programs).prog 52) (kwd := []) K04.ob_eq
    (by kernel_rfl) (fun s => by kernel_rfl) K04.run (by kernel_rfl) (by kernel_rfl) (by kernel_rfl) (by rfl) (by first | assumption | decide +kernel) (by decide +kernel) ⟨rfl, rfl, rfl, rfl, rfl, by decide +kernel⟩ ?hw K04.law_walk
  case hw => w_witness2

