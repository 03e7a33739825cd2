import PyProof.Rows.All
import Wide.All
import OpenK.AllK
import Wide.FinOn
import KE.KStateDown
import KE.KRevSl
import Lean
import HandS.ForMost
import HandS.Wide
import KE.GoesEnum
import HandS.Iter
import HandS.Walk
import HandS.WideBits
import HandS.IsInst
import HandS.Flow
import HandS.Style
import HandS.Exc
import HandS.ExcOwn
import HandS.TryMany
import HandS.TryOnly
import HandS.WordsExc
import HandS.ForExc
import HandS.FStr
import HandS.RaiseMore
import HandS.TupAny
import HandS.Defaults
import HandS.Zip
import HandS.CallSlots
import HandS.TupMul
import HandS.More
import HandS.ExcInit
import HandS.ExcField
import KE.GoesNew
import KE.GoesMore
import KE.KDictZip
import HandS.ExcIs
import HandS.ExcValue
import HandS.EndBits
import HandS.Head0
import HandS.Head1
import HandS.Head2
import HandS.HeadEnd
import HandS.HeadHook1
import HandS.HeadHook2
import HandS.Deep
import HandS.StrMore
import HandS.WordsDict
import PySem.Challenge.RW_passworks_k75_machine_by_hand
set_option Elab.async false
set_option linter.all false
set_option maxRecDepth 100000
set_option maxHeartbeats 4000000
namespace K75
/-! what the head shows: defs, facts by names, one more Bool -/
open PySem PySem.Spec PyProof.Rows L2
def obsE (n : Nat) (fa : List He.Fa) (fn : List He.DefD) (ex : PySem.W.Frag → Bool) (g : Addr → Option Obj) : He.AlD × Bool :=
  (He.obsD fa fn (He.frG g (List.range n)), ex (He.frG g (List.range n)))
theorem map3 {α β γ δ : Type} {E : Option α} {f : α → β} {g : α → γ} {h : α → δ} {x : β} {y : γ} {z : δ} (h1 : E.map f = some x) (h2 : E.map g = some y) (h3 : E.map h = some z) : E.map (fun s => (f s, g s, h s)) = some (x, y, z) := by
  cases E with
  | none => cases h1
  | some s =>
    injection h1 with h1
    injection h2 with h2
    injection h3 with h3
    show some (f s, g s, h s) = _
    rw [h1, h2, h3]
def SaysE (fa : List He.Fa) (fn : List He.DefD) (ex : PySem.W.Frag → Bool) (K : PySem.W.Frag) : Prop := He.SaysD fa fn K ∧ ex K = true
def hookE (n : Nat) (fa : List He.Fa) (fn : List He.DefD) (ex : PySem.W.Frag → Bool) : PySem.W.Hook where
  α := He.AlD × Bool
  obs := fun s => obsE n fa fn ex s.heap.get?
  val := fun _ => (He.valD fn, true)
  says := fun _ h => ∃ K : PySem.W.Frag, K.In h ∧ SaysE fa fn ex K
  of := fun _ _ z => ⟨_, He.frG_in, congrArg Prod.fst z, congrArg Prod.snd z⟩
  keeps := fun _ _ _ ⟨K, a, c⟩ k => ⟨K, a.keeps k, c⟩
theorem obsE_eq {n : Nat} {fa : List He.Fa} {fn : List He.DefD} {ex : PySem.W.Frag → Bool} {g : Addr → Option Obj} {s : Shared} (z : ∀ a, g a = s.heap.get? a) :
    obsE n fa fn ex g = (hookE n fa fn ex).obs s := by
  obtain rfl : g = s.heap.get? := funext z
  rfl
/-- a law's end, the bits of the script's numbers told -/
theorem walk_bits {l : PySem.W.OpenLaw} {n k : Nat} {q : Program} {loose : List Str} {XP : (Str → Option Value) → Heap → Prop} {YP : World → Heap → Prop} {d : DefRec} {CX : CXT} {x : Str}
    (hn : l.most = some n) (hn2 : n ≤ sizeLine) (hdf : d.params.defaults = []) (hr : Room k callerA)
    (F : ∀ (w : World) (mg : Str → Option Value) (fa : Addr) (h : Heap), YP w h → h.Ns mainGlobals mg → mg d.name = some (.ref fa) →
      ∃ (K : PySem.W.Frag) (fd : FuncData) (sp : Sp), K.In h ∧ (∀ (s : Shared) (u : Value), BindsTo s fd ⟨[u], []⟩ [(x, u)]) ∧
        (∀ (H : Hp) (a : Addr) (ns : List Int), ns.length ≤ n → (∀ z ∈ ns, Builtin.Int.intBits z ≤ 1048576) → Only H → SqL K H a (ns.map V.int) →
          sp [.ref a] H (fun v _ => v = .bl true) fun _ _ _ => False) ∧
        ∀ base : Heap, K.In base → base.Ns mainGlobals mg → FnOk l.prog w K mg base CX k fa fd [x] sp)
    (hCX : ∀ (H : Hp) (s : Shared) (e : Value) (s' : Shared), CX [] H s (fun _ _ _ => False) e s' → False) :
    PySem.W.WalkO q loose XP YP l.row.toRowW d [] (fun f vs => PySem.call f vs) := by
  apply Att.attach_callB hn hdf
  intro w s0 s1 mg mb fa o pm cd doc a vs ns G Y ho hd hcd hmg hobj hints hlen hbits hg
  obtain ⟨K, fd, sp, KX, hb, hsp, hF⟩ := F w mg fa _ Y G.T.g hmg
  exact law_call KX G.T.g G.T.b G.T.builtins G.T.nolimit hg hobj hints (Nat.le_trans hlen hn2) hr hF hb (fun H z1 z2 => hsp H a ns hlen hbits z1 z2)
    (fun H e s' => hCX H s1 e s')
/-! heaps -/
theorem same_new {H : Hp} {p : Addr} {o : HO} (z : H p = none) : Same H (upd H p o) := by
  intro b x e
  rw [upd_ne (ne_of_none e z)]
  exact e
theorem at_ints {ns : List Int} {i : Int} (h0 : 0 ≤ i) (h1 : i < ns.length) : atI (ns.map V.int) i = some (.int (ns.getD i.toNat 0)) := by
  obtain ⟨j, rfl⟩ := Int.eq_ofNat_of_zero_le h0
  have hj : j < ns.length := by omega
  refine atI_nat ?_
  rw [List.getElem?_map, List.getElem?_eq_getElem hj]
  simp [List.getD, hj]
/-- what stands behind a statement, once for all its ways -/
theorem seq_by {t u : TS} {D : Ends} {σ : L2.St} {H : Hp} (Pv : L2.St → Hp → Prop) (fin : ∀ σ' H', Pv σ' H' → u D σ' H')
    (first : ∀ N : L2.St → Hp → Prop, (∀ σ' H', Pv σ' H' → N σ' H') → t { D with nx := N } σ H) : tSeq t u D σ H := first _ fin
theorem ifs_by {c : TT} {t1 t2 u : TS} {D : Ends} {σ : L2.St} {H : Hp} (Pv : L2.St → Hp → Prop) (fin : ∀ σ' H', Pv σ' H' → u D σ' H')
    (first : ∀ N : L2.St → Hp → Prop, (∀ σ' H', Pv σ' H' → N σ' H') → tIfS c t1 t2 { D with nx := N } σ H) : tSeq (tIfS c t1 t2) u D σ H := first _ fin
theorem ifD {c A B : Prop} [Decidable c] (hc : c) (h : A) : if decide c = true then A else B := by
  rw [if_pos (decide_eq_true hc)]
  exact h
theorem ifN {c A B : Prop} [Decidable c] (hc : ¬ c) (h : B) : if decide c = true then A else B := by
  rw [if_neg (by rw [decide_eq_true_eq]; exact hc)]
  exact h
theorem blD {c : Prop} [Decidable c] {Q : VK} {H : Hp} (hc : c) (h : Q (.bl true) H) : Q (.bl (decide c)) H := by
  rw [decide_eq_true hc]
  exact h
theorem blN {c : Prop} [Decidable c] {Q : VK} {H : Hp} (hc : ¬ c) (h : Q (.bl false) H) : Q (.bl (decide c)) H := by
  rw [decide_eq_false hc]
  exact h
theorem getD_all {α : Type} {Pr : α → Prop} {ns : List α} {d : α} (h : ∀ x ∈ ns, Pr x) {j : Int} (h0 : 0 ≤ j) (h1 : j < ns.length) : Pr (ns.getD j.toNat d) := by
  have hi : j.toNat < ns.length := by omega
  have e : ns.getD j.toNat d = ns[j.toNat]'hi := by simp [List.getD, hi]
  rw [e]
  exact h _ (List.getElem_mem _)
theorem ifNF {c A B : Prop} [Decidable c] (hc : c) (h : B) : if (!decide c) = true then A else B := by
  rw [decide_eq_true hc]
  exact h
theorem ifNT {c A B : Prop} [Decidable c] (hc : ¬ c) (h : A) : if (!decide c) = true then A else B := by
  rw [decide_eq_false hc]
  exact h
theorem at_list {α : Type} {ns : List α} {i : Int} (h0 : 0 ≤ i) (h1 : i < ns.length) : ∃ x ∈ ns, atI ns i = some x := by
  obtain ⟨j, rfl⟩ := Int.eq_ofNat_of_zero_le h0
  have hj : j < ns.length := by omega
  exact ⟨ns[j], List.getElem_mem _, atI_nat (List.getElem?_eq_getElem hj)⟩
theorem ite_share {c A R : Prop} [Decidable c] (leaf : A) (rest : ¬ c → A → R) : if c then A else R := by
  split
  · exact leaf
  · exact rest (by assumption) leaf
theorem ite_else {c A R : Prop} [Decidable c] (leaf : R) (rest : c → R → A) : if c then A else R := by
  split
  · exact rest (by assumption) leaf
  · exact leaf

/-! own rules: // and divmod by any divisor of few bits, a list turned about -/
section
variable {X : Cx}
theorem op_fdivG : OpR X (binaryOp .FloorDiv) (rI (fun _ j => j ≠ 0 ∧ j.natAbs.log2 < 9000) fun i j => .int (i.fdiv j)) :=
  opI fun _ _ _ _ _ _ _ hc q => floordiv_int hc.1 q (.inl (PyProof.noPylong_of_log2 hc.2))
theorem call_divmodG : CallR X (.builtin "divmod") (fun xs H Q => ∃ i j, xs = [.int i, .int j] ∧ (j ≠ 0 ∧ j.natAbs.log2 < 9000) ∧ ∀ p, H p = none → Q (.ref p) (upd H p (.tup [.int (i.fdiv j), .int (i.fmod j)]))) := by
  intro pins s σ H xs us Q I r h
  obtain ⟨i, j, rfl, hc, q⟩ := h
  obtain ⟨u1, u2, rfl, ⟨t1, rfl⟩, ⟨t2, rfl⟩⟩ := vals2 r
  refine divmod_int hc.1 ?_ (.inl (PyProof.noPylong_of_log2 hc.2))
  refine ⟨.ref s.heap.objs.size, _, ?_, rfl, q _ (I.hok.fresh (Nat.le_refl _))⟩
  refine I.laid (fun b o e => Heap.get?_push_of_some _ e) (Nat.le_refl _) ⟨by show 2 ≤ sizeLine; rw [sizeLine_eq]; decide, [.int (i.fdiv j) s.toks, .int (i.fmod j) (s.toks + 1)], .cons ⟨_, rfl⟩ (.cons ⟨_, rfl⟩ .nil), ?_⟩
  exact ⟨_, Heap.get?_push_size s.heap rfl, rfl, 0, rfl⟩
def tRevL (K : PySem.W.Frag) (te tk : TE) : TE := fun σ H Q => te σ H fun x H1 => tk σ H1 fun y H2 => y = .int (-1) ∧ ∃ a xs, x = .ref a ∧ SqL K H2 a xs ∧ ∀ p, H2 p = none → Q (.ref p) (upd H2 p (.lst xs.reverse))
theorem vals_rev : ∀ {xs : List V} {us : List Value}, Vals xs us → Vals xs.reverse us.reverse
  | _, _, .nil => .nil
  | _, _, .cons r t => by
    rw [List.reverse_cons, List.reverse_cons]
    exact (vals_rev t).append (.cons r .nil)
theorem pe_revL {e k : Expr} {te tk : TE} {p2 pos : Pos} (he : PE X e te) (hk : PE X k tk) : PE X (.Subscript e (.Slice none none (some k) p2) pos) (tRevL X.K te tk) := by
  refine ⟨fun pins s σ H Q I h => ?_⟩
  refine Subscript_ (thn (he.run pins s σ H _ I h) fun v s1 ⟨x, H1, I1, r1, q1⟩ => ?_)
  refine wpAny_Slice ?_
  rw [evalPart_none]
  refine wpAny_pure (wpAny_pure ?_)
  rw [evalPart_some]
  refine thn (hk.run pins s1 σ H1 _ I1 q1) fun vk s2 ⟨y, H2, I2, r2, ey, a, xs, ex, hx, q⟩ => ?_
  subst ey ex
  obtain ⟨t, rfl⟩ := r2
  cases r1
  have I4 : Inv X pins σ H2 { s2 with heap := s2.heap.push { cls := .type "slice", data := .fields #[.none, .none, .int (-1) t] } } := I2.kept (t' := s2.toks) fun b ob q => Heap.get?_push_of_some _ q
  obtain ⟨its, r, ht, hz⟩ := I4.list hx
  have hlen := r.length
  refine tail_any (ops := [.ref a, .ref s2.heap.objs.size]) ht.isList.typeIs slot_list_getitem.lookup ?_ (by with_unfolding_all rfl)
  refine wpAny_getItem_list_slice ht.isList (Heap.IsSliceOf.new ..) .none .none (.int (-1) t) (by decide) ?_ (by rw [List.size_toArray]; omega)
  rw [PySem.W.krv_pick]
  refine ⟨.ref _, _, I4.laid (t' := s2.toks) (o := .lst xs.reverse) (fun b ob q => Heap.get?_push_of_some _ q) (Nat.le_refl _) ?_, rfl, q _ (I4.hok.fresh (Nat.le_refl _))⟩
  exact ⟨by rw [List.length_reverse]; exact hz, its.reverse, 0, vals_rev r, Heap.get?_push_size _ rfl⟩
end

/-! what is kept: all but the mutable things of a set -/
def Kp (S : Addr → Prop) (H H' : Hp) : Prop := ∀ b o, H b = some o → (S b → ¬ Mut (some o)) → H' b = some o
theorem Kp.refl {S : Addr → Prop} {H : Hp} : Kp S H H := fun _ _ h _ => h
theorem Kp.trans {S : Addr → Prop} {H H1 H2 : Hp} (a : Kp S H H1) (b : Kp S H1 H2) : Kp S H H2 := fun c o h k => b c o (a c o h k) k
theorem Kp.mono {S S' : Addr → Prop} {H H' : Hp} (a : Kp S H H') (h : ∀ b, S b → S' b) : Kp S' H H' := fun c o e k => a c o e fun z => k (h c z)
theorem Kp.of_same {S : Addr → Prop} {H H' : Hp} (a : Same H H') : Kp S H H' := fun c o e _ => a c o e
theorem Kp.same {S : Addr → Prop} {H H1 H2 : Hp} (a : Same H H1) (b : Kp S H1 H2) (h : ∀ b, S b → H b = none) : Same H H2 := fun c o e => b c o (a c o e) fun z => by
  rw [h c z] at e
  cases e
theorem Kp.upd {S : Addr → Prop} {H : Hp} {p : Addr} {o u : HO} (h : H p = some o) (m : Mut (some o)) (hp : S p) : Kp S H (upd H p u) := fun c x e k => by
  by_cases z : c = p
  · subst z
    rw [h] at e
    cases e
    exact absurd m (k hp)
  · rw [upd_ne z]
    exact e
/-- the script: read, never written -/
def Scr (K : PySem.W.Frag) (H : Hp) (a : Addr) (xs : List V) : Prop := SqL K H a xs ∧ ¬ Mut (H a)
theorem Scr.kp {K : PySem.W.Frag} {S : Addr → Prop} {H H' : Hp} {a : Addr} {xs : List V} (h : Scr K H a xs) (k : Kp S H H') : SqL K H' a xs := by
  obtain ⟨h1, h2⟩ := h
  rcases h1 with (e | ⟨o, e⟩) | e
  · rw [e] at h2
    exact absurd trivial h2
  · exact .inl (.inr ⟨o, k _ _ e fun _ => by rw [← e]; exact h2⟩)
  · exact .inr e
/-! an own rule: a text some times over -/
section
variable {X : Cx}
theorem op_rep_str : OpR X (binaryOp .Mult) (fun x y H Q => ∃ (z : Str) (n : Int), x = .str z ∧ y = .int n ∧ 0 < z.length ∧ z.length ≤ 1000 ∧ 2 ≤ n ∧ n ≤ 1000 ∧ ∀ u : Str, u.length = n.toNat * z.length → Q (.str u) H) := by
  intro pins s σ H x y v u Q I rx ry h
  obtain ⟨z, n, rfl, rfl, z0, z1, n0, n1, q⟩ := h
  obtain ⟨t, rfl⟩ := rx
  obtain ⟨t', rfl⟩ := ry
  have hn : ¬ n < 1 := by omega
  have hq : (n == 1 || z.length == 0) = false := by
    rw [Bool.or_eq_false_iff]
    exact ⟨beq_eq_false_iff_ne.mpr (by omega), beq_eq_false_iff_ne.mpr (by omega)⟩
  have le : ∀ (k : Nat) (acc : Array Nat), ((List.replicate k z.cps).foldl (· ++ ·) acc).size = acc.size + k * z.length := by
    intro k
    induction k with
    | zero => intro acc; simp
    | succ k ih =>
      intro acc
      rw [List.replicate_succ, List.foldl_cons, ih, Array.size_append]
      show acc.size + z.length + k * z.length = acc.size + (k + 1) * z.length
      rw [Nat.add_mul]
      omega
  have l2 : (⟨(List.replicate n.toNat z.cps).foldl (· ++ ·) #[]⟩ : Str).length = n.toNat * z.length := by
    show ((List.replicate n.toNat z.cps).foldl (· ++ ·) #[]).size = _
    rw [le]
    simp
  have mm : z.length * n.toNat ≤ 1000 * 1000 := Nat.mul_le_mul z1 (by omega)
  have tl : Builtin.Str.tooLong (z.length * n.toNat) = false := by
    unfold Builtin.Str.tooLong
    rw [sizeLine_eq]
    exact decide_eq_false (by omega)
  refine PySem.P.mul_str ?_ (fun _ _ => ?_) (fun _ _ => tl) ?_
  · rw [decide_eq_false (by omega), decide_eq_false (by omega)]
    rfl
  · have : (1000 : Int) * n ≤ 2 ^ 63 - 1 := by omega
    have h3 : (1000 : Int) ≤ (2 ^ 63 - 1) / n := (Int.le_ediv_iff_mul_le (by omega)).mpr this
    omega
  · rw [if_neg hn, hq]
    exact ⟨by rw [l2, Nat.mul_comm, sizeLine_eq]; omega, .str _, H, I.tok _, ⟨_, rfl⟩, q _ l2⟩
end
/-- a comprehension over a text's signs -/
theorem lc_str {x : Str} {g : TG} {tt : TT} {te : TE} {vs : List Nat} {σ : L2.St} {H1 : Hp} {D : Addr} {Qd : Hp → Prop} (Pv : Nat → Hp → Prop) (h0 : Pv 0 (upd H1 D (.lst [])))
    (hs : ∀ i c H, x.cps.toList[i]? = some c → Pv i H → g (.str ⟨#[c]⟩) (wipe σ vs) H fun σ2 H2 => wipe σ2 vs = wipe σ vs ∧ tt σ2 H2 fun b H3 =>
      if b = true then te σ2 H3 fun y H4 => ∃ acc, H4 D = some (.lst acc) ∧ acc.length < sizeLine ∧ Pv (i + 1) (upd H4 D (.lst (acc ++ [y]))) else Pv (i + 1) H3) (hd : ∀ H, Pv x.cps.toList.length H → Qd H) :
    ∃ W : Nat → Nat → Hp → Prop, (∃ m, W 0 m (upd H1 D (.lst []))) ∧ ∀ i m H, W i m H →
      ((Its x).stop i H ∧ Qd H) ∨ ((Its x).go i H ∧ ∃ Nx : Hp → Prop, (∀ H', Nx H' → ∃ m', m' < m ∧ W (i + 1) m' H') ∧ ∀ y H', (Its x).yld i H y H' → g y (wipe σ vs) H' fun σ2 H2 => wipe σ2 vs = wipe σ vs ∧ tt σ2 H2 fun b H3 =>
        if b = true then te σ2 H3 fun y H4 => ∃ acc, H4 D = some (.lst acc) ∧ acc.length < sizeLine ∧ Nx (upd H4 D (.lst (acc ++ [y]))) else Nx H3) := by
  have hl : x.cps.toList.length = x.cps.size := by simp
  refine ⟨fun i m H => m = x.cps.size - i ∧ i ≤ x.cps.size ∧ Pv i H, ⟨x.cps.size, by simp, Nat.zero_le _, h0⟩, ?_⟩
  rintro i m H ⟨rfl, hi, p⟩
  by_cases hlt : i < x.cps.size
  · refine .inr ⟨hlt, Pv (i + 1), fun H' p' => ⟨x.cps.size - (i + 1), by omega, rfl, hlt, p'⟩, fun y H' hy => ?_⟩
    obtain ⟨rfl, c, hc, rfl⟩ := hy
    exact hs i c H' (by rw [Array.getElem?_toList]; exact hc) p
  · refine .inl ⟨Nat.le_of_not_lt hlt, hd H ?_⟩
    rw [hl, show x.cps.size = i by omega]
    exact p
section
variable {X : Cx}
theorem call_str_any : CallR X (.type "str") (fun xs H Q => (∃ i : Int, xs = [.int i] ∧ i.natAbs.log2 < 1920 ∧ Q (.str (toString i)) H) ∨ ∃ a : Str, xs = [.str a] ∧ Q (.str a) H) := by
  intro pins s σ H xs us Q I r h
  rcases h with h | h
  · exact call_str_int pins s σ H xs us Q I r h
  · exact SkE.call_str_str pins s σ H xs us Q I r h
end

/-! rules for use within a comprehension: the written part named -/
section
variable {X : Cx} {K : PySem.W.Frag}
theorem ix_listK (h : X.K = K) : IxR X (rIxL K) := by subst h; exact ix_list
theorem ix_tupK (h : X.K = K) : IxR X (rIxT K) := by subst h; exact ix_tup
theorem op_in_seqK (h : X.K = K) : OpR X (compareOp .In) (rIn K false) := by subst h; exact op_in_seq
theorem op_notIn_seqK (h : X.K = K) : OpR X (compareOp .NotIn) (rIn K true) := by subst h; exact op_notIn_seq
theorem call_isiK (h : X.K = K) : CallR X (.builtin "isinstance") (rIsi K) := by subst h; exact call_isi
theorem call_len_seqK (h : X.K = K) : CallR X (.builtin "len") (fun xs H Q => ∃ p ys, xs = [.ref p] ∧ (SqL K H p ys ∨ SqT K H p ys) ∧ Q (.int ys.length) H) := by subst h; exact call_len_seq
end

/-! an own exception class over an own one: what the head shows of it; Base.__init__(self, ..) -/
section
open PySem.W
def oexB (K : PySem.W.Frag) (C : Addr) : Bool := (match K.lookup C with
  | some ⟨.type "type", _, .cls cd, sl⟩ => (match cd.mro, sl.toList with
    | .ref C' :: bm, [_, _, _, _, some (.builtin n), _] => C' == C && n == "ValueError.__new__" && !cd.hasDel && cd.hasDict && PySem.HandSPX.refsVE bm
    | _, _ => false)
  | _ => false) && (decide (PySem.W.findIn K (.ref C) "__setattr__" = some (some (.builtin "object.__setattr__"))) && (decide (PySem.W.subIn K (.ref C) (.type "BaseException") = some true) && (decide (PySem.W.typeIn K (.ref C) = some (.type "type")) && PySem.W.keepIn K (.ref C))))
theorem oexB_ok {K : PySem.W.Frag} {C : Addr} (h : oexB K C = true) : OexC K C := by
  obtain ⟨h1, h⟩ := Bool.and_eq_true_iff.mp h
  obtain ⟨h2, h⟩ := Bool.and_eq_true_iff.mp h
  obtain ⟨h3, h⟩ := Bool.and_eq_true_iff.mp h
  obtain ⟨h4, h5⟩ := Bool.and_eq_true_iff.mp h
  refine ⟨?_, of_decide_eq_true h2, of_decide_eq_true h3, of_decide_eq_true h4, h5⟩
  split at h1
  · rename_i dd cd sl ho
    split at h1
    · rename_i C' bm k0 k1 k2 k3 n k5 hm hs
      simp only [Bool.and_eq_true, beq_iff_eq, Bool.not_eq_true'] at h1
      obtain ⟨⟨⟨⟨rfl, rfl⟩, hdl⟩, hdc⟩, hb⟩ := h1
      obtain ⟨nm, bs, mro, ns, qn, hd, sn, sb, ab, col, del⟩ := cd
      dsimp only at hm hdl hdc
      subst hm hdl hdc
      obtain ⟨sl⟩ := sl
      dsimp only at hs
      subst hs
      exact ⟨nm, qn, ns, bs, bm, sn, sb, ab, col, dd, k0, k1, k2, k3, k5, ho, hb⟩
    · cases h1
  · cases h1
/-- W.__init__ is ValueError's -/
structure WeI (K : PySem.W.Frag) (W : Addr) : Prop where
  rd : PySem.W.readsIn K W (.type "type") = true
  ga : PySem.W.specialIn K (.ref W) "__getattribute__" = some (some (.builtin "type.__getattribute__"))
  at_ : PySem.W.findCls K (.ref W) (.type "type") "__init__" = some (.val (.builtin "ValueError.__init__"))
def weB (K : PySem.W.Frag) (W : Addr) : Bool := PySem.W.readsIn K W (.type "type") && (decide (PySem.W.specialIn K (.ref W) "__getattribute__" = some (some (.builtin "type.__getattribute__"))) && (match PySem.W.findCls K (.ref W) (.type "type") "__init__" with
  | some (.val v) => decide (v = .builtin "ValueError.__init__")
  | _ => false))
theorem weB_ok {K : PySem.W.Frag} {W : Addr} (h : weB K W = true) : WeI K W := by
  obtain ⟨h1, h⟩ := Bool.and_eq_true_iff.mp h
  obtain ⟨h2, h3⟩ := Bool.and_eq_true_iff.mp h
  refine ⟨h1, of_decide_eq_true h2, ?_⟩
  split at h3
  · rename_i v e
    rw [e, of_decide_eq_true h3]
  · cases h3
/-- __init__ of C is the def at f -/
structure OIn (K : PySem.W.Frag) (C f : Addr) : Prop where
  iC : PySem.W.findIn K (.ref C) "__init__" = some (some (.ref f))
  tI : PySem.W.typeIn K (.ref f) = some (.type "function")
def oinB (K : PySem.W.Frag) (C f : Addr) : Bool := decide (PySem.W.findIn K (.ref C) "__init__" = some (some (.ref f))) && decide (PySem.W.typeIn K (.ref f) = some (.type "function"))
theorem oinB_ok {K : PySem.W.Frag} {C f : Addr} (h : oinB K C f = true) : OIn K C f := by
  obtain ⟨h1, h2⟩ := Bool.and_eq_true_iff.mp h
  exact ⟨of_decide_eq_true h1, of_decide_eq_true h2⟩
def nofB (K : PySem.W.Frag) (C : Addr) (f : Str) : Bool := decide (PySem.W.findIn K (.ref C) f = some none)
theorem nofB_ok {K : PySem.W.Frag} {C : Addr} {f : Str} (h : nofB K C f = true) : PySem.W.findIn K (.ref C) f = some none := of_decide_eq_true h
end
section
variable {X : Cx} {e : Expr} {es : List Expr} {ta : TA} {x : Str} {W : Addr} {p1 p2 pos : Pos}
theorem pe_weinit {pl : Sem Bool} (hg : Gl X x) (hm : X.mg x = some (.ref W)) (T : WeI X.K W) (ha : PA X (e :: es) ta) (hdb : (x == ("__debug__" : Str)) = false := by decide)
    (hc : eval (.Call (.Attribute (.Name x p1) "__init__" p2) (e :: es) [] pos) X.env = (do
      let ov ← eval (.Name x p1) X.env
      standAt p2.atName
      let (f, first) ← holding [ov] (getMethod ov "__init__" pl)
      callWith pos f first (backTo pos (starEach (e :: es) X.env)) (backToKw pos (keywordEach [] X.env))) := by rfl)
    (he : starEach (e :: es) X.env = (false, eval e X.env) :: starEach es X.env := by rfl) (hpl : (backTo pos (starEach es X.env)).any (·.1) = false := by rfl) :
    PE X (.Call (.Attribute (.Name x p1) "__init__" p2) (e :: es) [] pos) (tVeI X.K ta) := by
  refine ⟨fun pins s σ H Q I h => ?_⟩
  refine PySem.W.methodCall_KW (ld_glob I hg hm ?_ hdb) hc
  refine PySem.W.method_cls I.kIn T.ga (PySem.W.cls_value I.kIn T.rd T.at_ (by decide +kernel) ?_)
  show wpAny _ _ (callWith pos (Value.builtin "ValueError.__init__") [] (backTo pos (starEach (e :: es) X.env)) []) _ _ _
  refine PyProof.Rows.callWith_method1 (thn (ha.run pos pins _ σ H _ (I.tok _) h) fun us s1 ⟨vs, H1, I1, r1, a, C, ws, ev, hl, T, ea, q⟩ => ?_) he hpl
  subst ev
  cases r1 with
  | @cons _ u0 _ ur ra rw' =>
    obtain rfl : u0 = Value.ref a := ra
    have hlen : ur.length ≤ sizeLine := by
      rw [← Paired.length rw', sizeLine_eq]
      omega
    exact oinit_ok T I1 ea hlen fun s' J => ⟨.non, H1, J, rfl, q⟩
end

/-! what a class has from another one -/
def inhB (K : PySem.W.Frag) (mk : Bool) (c m o : Str) : Bool := (if mk then (He.Fa.mkr c).ok K else (He.Fa.meth c m).ok K) && decide (He.ma K (He.ga K c) m = He.ma K (He.ga K o) m)
theorem inhB_mk {K : PySem.W.Frag} {c o : Str} (h : inhB K true c "__init__" o = true) : Mk K (He.ga K c) (He.ma K (He.ga K o) "__init__") := by
  obtain ⟨a, b⟩ := He.ba h
  rw [← of_decide_eq_true b]
  exact He.mkr_ok a
theorem inhB_me {K : PySem.W.Frag} {c m o : Str} (h : inhB K false c m o = true) : Meth K (He.ga K c) m (He.ma K (He.ga K o) m) := by
  obtain ⟨a, b⟩ := He.ba h
  rw [← of_decide_eq_true b]
  exact He.meth_ok a
/-! o.m() of an object of one of several classes -/
structure Methd (X : Cx) (m : Str) (c : Addr) (sp : Sp) : Prop where
  ok : ∃ (k : Nat) (f : Addr) (fd : FuncData) (ps : List Str), Cls X.K c ∧ Meth X.K c m f ∧ FnOk X.prog X.w X.K X.mg X.base CX0 k f fd ps sp ∧ Room k X.A ∧ Binds X.K fd ps []
def tMethP (C : Addr → Sp → Prop) (m : Str) (ta : TE) : TE := fun σ H Q => ta σ H fun x H1 => ∃ a dx fs c sp, x = .ref a ∧ H1 a = some (.ins c dx fs) ∧ C c sp ∧ fs.lookup m = none ∧ sp [x] H1 Q E0
theorem pe_methP0 {X : Cx} {C : Addr → Sp → Prop} {m : Str} {o : Expr} {ta : TE} {pl : Sem Bool} {apos pos : Pos} (hC : ∀ c sp, C c sp → Methd X m c sp) (he : PE X o ta)
    (ht : eval (.Call (.Attribute o m apos) [] [] pos) X.env = (do
      let ov ← eval o X.env
      standAt apos.atName
      let (f, first) ← holding [ov] (getMethod ov m pl)
      callWith pos f first (backTo pos (starEach [] X.env)) (backToKw pos (keywordEach [] X.env))) := by rfl) :
    PE X (.Call (.Attribute o m apos) [] [] pos) (tMethP C m ta) := by
  refine ⟨fun pins s σ H Q I h => ?_⟩
  refine PySem.W.methodCall_KW (pl := pl) (thn (he.run pins s σ H _ I h) fun u s1 ⟨x, H1, I1, rx, a, dx, fs, c, sp, ex, ea, hc, l, q⟩ => ?_) ht
  subst ex
  obtain rfl : u = Value.ref a := rx
  obtain ⟨k, f, fd, ps, cl, hm, F, hr, hb⟩ := (hC c sp hc).ok
  refine getmeth_ok I1 ea cl hm l ?_
  exact PySem.W.callWith_K0 (first := [.ref a]) I1.kIn hm.kp (run_fn (us := [.ref a]) (vs := [.ref a]) (dvs := []) F hr hb .nil pass0 I1 (.cons rfl .nil) q)
/-! o.m(e) of an object of one of several classes -/
structure Methd1 (X : Cx) (m : Str) (c : Addr) (sp : Sp) : Prop where
  ok : ∃ (k : Nat) (f : Addr) (fd : FuncData) (ps : List Str), Cls X.K c ∧ Meth X.K c m f ∧ FnOk X.prog X.w X.K X.mg X.base CX0 k f fd ps sp ∧ Room k X.A ∧ Binds X.K fd ps []
def tMethP1 (C : Addr → Sp → Prop) (m : Str) (ta tb : TE) : TE := fun σ H Q => ta σ H fun x H1 => ∃ a dx fs c sp, x = .ref a ∧ H1 a = some (.ins c dx fs) ∧ C c sp ∧ fs.lookup m = none ∧ tCons tb tNil σ H1 fun vs H2 => sp (x :: vs) H2 Q E0
theorem pe_methP1 {X : Cx} {C : Addr → Sp → Prop} {m : Str} {o e : Expr} {ta tb : TE} {pl : Sem Bool} {apos pos : Pos} (hC : ∀ c sp, C c sp → Methd1 X m c sp) (he : PE X o ta) (hb : PE X e tb)
    (hst : starEach [e] X.env = (false, eval e X.env) :: starEach [] X.env := by rfl) (hpl : (backTo pos (starEach ([] : List Expr) X.env)).any (·.1) = false := by rfl)
    (ht : eval (.Call (.Attribute o m apos) [e] [] pos) X.env = (do
      let ov ← eval o X.env
      standAt apos.atName
      let (f, first) ← holding [ov] (getMethod ov m pl)
      callWith pos f first (backTo pos (starEach [e] X.env)) (backToKw pos (keywordEach [] X.env))) := by rfl) :
    PE X (.Call (.Attribute o m apos) [e] [] pos) (tMethP1 C m ta tb) := by
  refine ⟨fun pins s σ H Q I h => ?_⟩
  refine PySem.W.methodCall_KW (pl := pl) (thn (he.run pins s σ H _ I h) fun u s1 ⟨x, H1, I1, rx, a, dx, fs, c, sp, ex, ea, hc, l, q⟩ => ?_) ht
  subst ex
  obtain rfl : u = Value.ref a := rx
  obtain ⟨k, f, fd, ps, cl, hm, F, hr, hbs⟩ := (hC c sp hc).ok
  refine getmeth_ok I1 ea cl hm l ?_
  refine PySem.W.callWith_K (first := [.ref a]) (h₀ := X.base) I.ok.mod.kin hm.kp (thn ((pa_cons (hs := hst) hb pa_nil).run pos pins s1 σ H1 _ I1 q) fun us s2 ⟨vs, H2, I2, r, q2⟩ => ⟨I2.kIn, ?_⟩) hst hpl
  exact run_fn (us := .ref a :: us) (vs := .ref a :: vs) (dvs := []) F hr hbs .nil pass0 I2 (.cons rfl r) (by rw [List.append_nil]; exact q2)

def topS (i : Nat) : Stmt := PySem.Challenge.pw_passworks_k75_machine_by_hand.main.body.getD i (.Pass ⟨0, 0, 0, 0⟩)
abbrev s_is_number : Stmt := topS 5
abbrev N_is_number : List Str := ["thing"]
theorem sc_is_number : FnScope N_is_number ["thing"] (defScope s_is_number) := ⟨rfl, rfl, rfl, by decide +kernel, rfl, by decide +kernel, by decide +kernel⟩
abbrev s_wrapped : Stmt := topS 9
abbrev N_wrapped : List Str := ["n"]
theorem sc_wrapped : FnScope N_wrapped ["n"] (defScope s_wrapped) := ⟨rfl, rfl, rfl, by decide +kernel, rfl, by decide +kernel, by decide +kernel⟩
abbrev s_divided : Stmt := topS 10
abbrev N_divided : List Str := ["word", "one", "other", "quotient", "rest"]
theorem sc_divided : FnScope N_divided ["word", "one", "other"] (defScope s_divided) := ⟨rfl, rfl, rfl, by decide +kernel, rfl, by decide +kernel, by decide +kernel⟩
abbrev s_reckoned : Stmt := topS 11
abbrev N_reckoned : List Str := ["word", "one", "other"]
theorem sc_reckoned : FnScope N_reckoned ["word", "one", "other"] (defScope s_reckoned) := ⟨rfl, rfl, rfl, by decide +kernel, rfl, by decide +kernel, by decide +kernel⟩
abbrev s_denied : Stmt := topS 12
abbrev N_denied : List Str := ["n"]
theorem sc_denied : FnScope N_denied ["n"] (defScope s_denied) := ⟨rfl, rfl, rfl, by decide +kernel, rfl, by decide +kernel, by decide +kernel⟩
abbrev s_Job___init__ : Stmt := inClass (topS 14) 0
abbrev N_Job___init__ : List Str := ["self", "part", "answer"]
theorem sc_Job___init__ : FnScope N_Job___init__ ["self", "part", "answer"] (defScope s_Job___init__) := ⟨rfl, rfl, rfl, by decide +kernel, rfl, by decide +kernel, by decide +kernel⟩
abbrev s_Machine___init__ : Stmt := inClass (topS 15) 0
abbrev N_Machine___init__ : List Str := ["self", "last", "boxes", "most"]
theorem sc_Machine___init__ : FnScope N_Machine___init__ ["self", "last", "boxes", "most"] (defScope s_Machine___init__) := ⟨rfl, rfl, rfl, by decide +kernel, rfl, by decide +kernel, by decide +kernel⟩
abbrev s_Machine_has : Stmt := inClass (topS 15) 1
abbrev N_Machine_has : List Str := ["self", "place", "job"]
theorem sc_Machine_has : FnScope N_Machine_has ["self", "place"] (defScope s_Machine_has) := ⟨rfl, rfl, rfl, by decide +kernel, rfl, by decide +kernel, by decide +kernel⟩
abbrev s_Machine_gets : Stmt := inClass (topS 15) 2
abbrev N_Machine_gets : List Str := ["self", "place", "thing", "job"]
theorem sc_Machine_gets : FnScope N_Machine_gets ["self", "place", "thing"] (defScope s_Machine_gets) := ⟨rfl, rfl, rfl, by decide +kernel, rfl, by decide +kernel, by decide +kernel⟩
abbrev s_Machine_begin_job : Stmt := inClass (topS 15) 3
abbrev N_Machine_begin_job : List Str := ["self", "count", "numbers", "answer", "job", "place", "number"]
theorem sc_Machine_begin_job : FnScope N_Machine_begin_job ["self", "count", "numbers", "answer"] (defScope s_Machine_begin_job) := ⟨rfl, rfl, rfl, by decide +kernel, rfl, by decide +kernel, by decide +kernel⟩
abbrev s_Machine_end_job : Stmt := inClass (topS 15) 4
abbrev N_Machine_end_job : List Str := ["self", "number", "job"]
theorem sc_Machine_end_job : FnScope N_Machine_end_job ["self", "number"] (defScope s_Machine_end_job) := ⟨rfl, rfl, rfl, by decide +kernel, rfl, by decide +kernel, by decide +kernel⟩
abbrev s_Machine_tray_at : Stmt := inClass (topS 15) 5
abbrev N_Machine_tray_at : List Str := ["self", "tray", "place", "held"]
theorem sc_Machine_tray_at : FnScope N_Machine_tray_at ["self", "tray", "place"] (defScope s_Machine_tray_at) := ⟨rfl, rfl, rfl, by decide +kernel, rfl, by decide +kernel, by decide +kernel⟩
abbrev s_Machine_reckon : Stmt := inClass (topS 15) 6
abbrev N_Machine_reckon : List Str := ["self", "row", "found"]
theorem sc_Machine_reckon : FnScope N_Machine_reckon ["self", "row"] (defScope s_Machine_reckon) := ⟨rfl, rfl, rfl, by decide +kernel, rfl, by decide +kernel, by decide +kernel⟩
abbrev s_Machine_shift : Stmt := inClass (topS 15) 7
abbrev N_Machine_shift : List Str := ["self", "row", "thing"]
theorem sc_Machine_shift : FnScope N_Machine_shift ["self", "row"] (defScope s_Machine_shift) := ⟨rfl, rfl, rfl, by decide +kernel, rfl, by decide +kernel, by decide +kernel⟩
abbrev s_Machine_do_tray : Stmt := inClass (topS 15) 8
abbrev N_Machine_do_tray : List Str := ["self", "row", "place", "held"]
theorem sc_Machine_do_tray : FnScope N_Machine_do_tray ["self", "row"] (defScope s_Machine_do_tray) := ⟨rfl, rfl, rfl, by decide +kernel, rfl, by decide +kernel, by decide +kernel⟩
abbrev s_Machine_do_way : Stmt := inClass (topS 15) 9
abbrev N_Machine_do_way : List Str := ["self", "row", "word", "job", "number", "place"]
theorem sc_Machine_do_way : FnScope N_Machine_do_way ["self", "row"] (defScope s_Machine_do_way) := ⟨rfl, rfl, rfl, by decide +kernel, rfl, by decide +kernel, by decide +kernel⟩
abbrev s_Machine_do : Stmt := inClass (topS 15) 10
abbrev N_Machine_do : List Str := ["self", "row", "word"]
theorem sc_Machine_do : FnScope N_Machine_do ["self", "row"] (defScope s_Machine_do) := ⟨rfl, rfl, rfl, by decide +kernel, rfl, by decide +kernel, by decide +kernel⟩
abbrev s_Machine_go : Stmt := inClass (topS 15) 11
abbrev N_Machine_go : List Str := ["self", "job"]
theorem sc_Machine_go : FnScope N_Machine_go ["self"] (defScope s_Machine_go) := ⟨rfl, rfl, rfl, by decide +kernel, rfl, by decide +kernel, by decide +kernel⟩
abbrev s_played_last : Stmt := topS 16
abbrev N_played_last : List Str := ["last", "boxes", "inputs", "most", "machine", "one"]
theorem sc_played_last : FnScope N_played_last ["last", "boxes", "inputs", "most"] (defScope s_played_last) := ⟨rfl, rfl, rfl, by decide +kernel, rfl, by decide +kernel, by decide +kernel⟩
abbrev s__law_cell_at : Stmt := topS 18
abbrev N__law_cell_at : List Str := ["_law_script", "_law_k"]
theorem sc__law_cell_at : FnScope N__law_cell_at ["_law_script", "_law_k"] (defScope s__law_cell_at) := ⟨rfl, rfl, rfl, by decide +kernel, rfl, by decide +kernel, by decide +kernel⟩
abbrev s__law_state : Stmt := topS 19
abbrev N__law_state : List Str := ["_law_cell", "_law_k", "_law_number_here", "_law_start", "_law_s"]
theorem sc__law_state : FnScope N__law_state ["_law_cell", "_law_k"] (defScope s__law_state) := ⟨rfl, rfl, rfl, by decide +kernel, rfl, by decide +kernel, by decide +kernel⟩
abbrev s__law_next : Stmt := topS 20
abbrev N__law_next : List Str := ["_law_s", "_law_size", "_law_left"]
theorem sc__law_next : FnScope N__law_next ["_law_s", "_law_size"] (defScope s__law_next) := ⟨rfl, rfl, rfl, by decide +kernel, rfl, by decide +kernel, by decide +kernel⟩
abbrev s__law_number : Stmt := topS 21
abbrev N__law_number : List Str := ["_law_s", "_law_far"]
theorem sc__law_number : FnScope N__law_number ["_law_s"] (defScope s__law_number) := ⟨rfl, rfl, rfl, by decide +kernel, rfl, by decide +kernel, by decide +kernel⟩
abbrev s__law_shelf : Stmt := topS 22
abbrev N__law_shelf : List Str := ["_law_s", "_law_kind", "_law_known"]
theorem sc__law_shelf : FnScope N__law_shelf ["_law_s", "_law_kind"] (defScope s__law_shelf) := ⟨rfl, rfl, rfl, by decide +kernel, rfl, by decide +kernel, by decide +kernel⟩
abbrev s__law_box : Stmt := topS 23
abbrev N__law_box : List Str := ["_law_s", "_law_some", "_law_place"]
theorem sc__law_box : FnScope N__law_box ["_law_s"] (defScope s__law_box) := ⟨rfl, rfl, rfl, by decide +kernel, rfl, by decide +kernel, by decide +kernel⟩
abbrev s__law_note : Stmt := topS 24
abbrev N__law_note : List Str := ["_law_s", "_law_place"]
theorem sc__law_note : FnScope N__law_note ["_law_s", "_law_place"] (defScope s__law_note) := ⟨rfl, rfl, rfl, by decide +kernel, rfl, by decide +kernel, by decide +kernel⟩
abbrev s__law_tray_by : Stmt := topS 25
abbrev N__law_tray_by : List Str := ["_law_s", "_law_one", "_law_kind", "_law_trays", "_law_tray", "_law_to"]
theorem sc__law_tray_by : FnScope N__law_tray_by ["_law_s"] (defScope s__law_tray_by) := ⟨rfl, rfl, rfl, by decide +kernel, rfl, by decide +kernel, by decide +kernel⟩
abbrev s__law_row_by : Stmt := topS 26
abbrev N__law_row_by : List Str := ["_law_s", "_law_to", "_law_one", "_law_kind", "_law_row", "_law_other", "_law_word"]
theorem sc__law_row_by : FnScope N__law_row_by ["_law_s"] (defScope s__law_row_by) := ⟨rfl, rfl, rfl, by decide +kernel, rfl, by decide +kernel, by decide +kernel⟩
abbrev s__law_call_by : Stmt := topS 27
abbrev N__law_call_by : List Str := ["_law_s", "_law_heads", "_law_count", "_law_places", "_law_answer", "_law_turn", "_law_place"]
theorem sc__law_call_by : FnScope N__law_call_by ["_law_s", "_law_heads"] (defScope s__law_call_by) := ⟨rfl, rfl, rfl, by decide +kernel, rfl, by decide +kernel, by decide +kernel⟩
abbrev s__law_part_by : Stmt := topS 28
abbrev N__law_part_by : List Str := ["_law_s", "_law_ins", "_law_heads", "_law_rows", "_law_turn", "_law_at", "_law_body", "_law_place"]
theorem sc__law_part_by : FnScope N__law_part_by ["_law_s", "_law_ins", "_law_heads"] (defScope s__law_part_by) := ⟨rfl, rfl, rfl, by decide +kernel, rfl, by decide +kernel, by decide +kernel⟩
abbrev s__law_last_by : Stmt := topS 29
abbrev N__law_last_by : List Str := ["_law_cell", "_law_k", "_law_s", "_law_heads", "_law_last", "_law_part", "_law_some", "_law_at", "_law_ins"]
theorem sc__law_last_by : FnScope N__law_last_by ["_law_cell", "_law_k"] (defScope s__law_last_by) := ⟨rfl, rfl, rfl, by decide +kernel, rfl, by decide +kernel, by decide +kernel⟩
abbrev s__law_has : Stmt := topS 30
abbrev N__law_has : List Str := ["_law_run", "_law_place"]
theorem sc__law_has : FnScope N__law_has ["_law_run", "_law_place"] (defScope s__law_has) := ⟨rfl, rfl, rfl, by decide +kernel, rfl, by decide +kernel, by decide +kernel⟩
abbrev s__law_gets : Stmt := topS 31
abbrev N__law_gets : List Str := ["_law_run", "_law_place", "_law_thing"]
theorem sc__law_gets : FnScope N__law_gets ["_law_run", "_law_place", "_law_thing"] (defScope s__law_gets) := ⟨rfl, rfl, rfl, by decide +kernel, rfl, by decide +kernel, by decide +kernel⟩
abbrev s__law_job : Stmt := topS 32
abbrev N__law_job : List Str := ["_law_run", "_law_last", "_law_count", "_law_numbers_here", "_law_answer", "_law_k"]
theorem sc__law_job : FnScope N__law_job ["_law_run", "_law_last", "_law_count", "_law_numbers_here", "_law_answer"] (defScope s__law_job) := ⟨rfl, rfl, rfl, by decide +kernel, rfl, by decide +kernel, by decide +kernel⟩
abbrev s__law_tray_row : Stmt := topS 33
abbrev N__law_tray_row : List Str := ["_law_run", "_law_row", "_law_job_here", "_law_held", "_law_place"]
theorem sc__law_tray_row : FnScope N__law_tray_row ["_law_run", "_law_row"] (defScope s__law_tray_row) := ⟨rfl, rfl, rfl, by decide +kernel, rfl, by decide +kernel, by decide +kernel⟩
abbrev s__law_sum_row : Stmt := topS 34
abbrev N__law_sum_row : List Str := ["_law_run", "_law_row", "_law_one", "_law_other", "_law_found"]
theorem sc__law_sum_row : FnScope N__law_sum_row ["_law_run", "_law_row"] (defScope s__law_sum_row) := ⟨rfl, rfl, rfl, by decide +kernel, rfl, by decide +kernel, by decide +kernel⟩
abbrev s__law_way_row : Stmt := topS 35
abbrev N__law_way_row : List Str := ["_law_run", "_law_last", "_law_row", "_law_job_here", "_law_place"]
theorem sc__law_way_row : FnScope N__law_way_row ["_law_run", "_law_last", "_law_row"] (defScope s__law_way_row) := ⟨rfl, rfl, rfl, by decide +kernel, rfl, by decide +kernel, by decide +kernel⟩
abbrev s__law_row_done : Stmt := topS 36
abbrev N__law_row_done : List Str := ["_law_run", "_law_last", "_law_row", "_law_one", "_law_other"]
theorem sc__law_row_done : FnScope N__law_row_done ["_law_run", "_law_last", "_law_row"] (defScope s__law_row_done) := ⟨rfl, rfl, rfl, by decide +kernel, rfl, by decide +kernel, by decide +kernel⟩
abbrev s__law_last_played : Stmt := topS 37
abbrev N__law_last_played : List Str := ["_law_last", "_law_boxes", "_law_inputs", "_law_most", "_law_run", "_law_turn", "_law_job_here", "_law_over"]
theorem sc__law_last_played : FnScope N__law_last_played ["_law_last", "_law_boxes", "_law_inputs", "_law_most"] (defScope s__law_last_played) := ⟨rfl, rfl, rfl, by decide +kernel, rfl, by decide +kernel, by decide +kernel⟩
abbrev s__law_numbers : Stmt := topS 38
abbrev N__law_numbers : List Str := ["_law_cell", "_law_many", "_law_s", "_law_turn"]
theorem sc__law_numbers : FnScope N__law_numbers ["_law_cell", "_law_many"] (defScope s__law_numbers) := ⟨rfl, rfl, rfl, by decide +kernel, rfl, by decide +kernel, by decide +kernel⟩
abbrev s__law_long_loop : Stmt := topS 39
abbrev N__law_long_loop : List Str := ["_law_many", "_law_rows"]
theorem sc__law_long_loop : FnScope N__law_long_loop ["_law_many"] (defScope s__law_long_loop) := ⟨rfl, rfl, rfl, by decide +kernel, rfl, by decide +kernel, by decide +kernel⟩
abbrev s_law : Stmt := topS 40
abbrev N_law : List Str := ["_law_script", "_law_last", "_law_boxes", "_law_many", "_law_inputs", "_law_due", "_law_handed", "_law_at", "_law_most", "_law_less", "_law_told"]
theorem sc_law : FnScope N_law ["_law_script"] (defScope s_law) := ⟨rfl, rfl, rfl, by decide +kernel, rfl, by decide +kernel, by decide +kernel⟩
abbrev FnP (K : PySem.W.Frag) (x : Str) (st : Stmt) (f : Addr) (fd : FuncData) : Prop := FunD K x x (defArgs st) (defBody st) (defScope st) [] [] f fd
abbrev FnM (K : PySem.W.Frag) (x q : Str) (st : Stmt) (f : Addr) (fd : FuncData) : Prop := FunD K x q (defArgs st) (defBody st) (defScope st) [] [] f fd
structure Top (K : PySem.W.Frag) (mg : Str → Option Value) where
  fd_is_number : FuncData
  F_is_number : FnP K "is_number" s_is_number (He.ga K "is_number") fd_is_number
  b_is_number : Binds K fd_is_number ["thing"] []
  g_is_number : mg "is_number" = some (.ref (He.ga K "is_number"))
  fd_wrapped : FuncData
  F_wrapped : FnP K "wrapped" s_wrapped (He.ga K "wrapped") fd_wrapped
  b_wrapped : Binds K fd_wrapped ["n"] []
  g_wrapped : mg "wrapped" = some (.ref (He.ga K "wrapped"))
  fd_divided : FuncData
  F_divided : FnP K "divided" s_divided (He.ga K "divided") fd_divided
  b_divided : Binds K fd_divided ["word", "one", "other"] []
  g_divided : mg "divided" = some (.ref (He.ga K "divided"))
  fd_reckoned : FuncData
  F_reckoned : FnP K "reckoned" s_reckoned (He.ga K "reckoned") fd_reckoned
  b_reckoned : Binds K fd_reckoned ["word", "one", "other"] []
  g_reckoned : mg "reckoned" = some (.ref (He.ga K "reckoned"))
  fd_denied : FuncData
  F_denied : FnP K "denied" s_denied (He.ga K "denied") fd_denied
  b_denied : Binds K fd_denied ["n"] []
  g_denied : mg "denied" = some (.ref (He.ga K "denied"))
  fd_Job___init__ : FuncData
  F_Job___init__ : FnM K "__init__" "Job.__init__" s_Job___init__ (He.ma K (He.ga K "Job") "__init__") fd_Job___init__
  me_Job___init__ : Meth K (He.ga K "Job") "__init__" (He.ma K (He.ga K "Job") "__init__")
  b_Job___init__ : Binds K fd_Job___init__ ["self", "part", "answer"] []
  fd_Machine___init__ : FuncData
  F_Machine___init__ : FnM K "__init__" "Machine.__init__" s_Machine___init__ (He.ma K (He.ga K "Machine") "__init__") fd_Machine___init__
  me_Machine___init__ : Meth K (He.ga K "Machine") "__init__" (He.ma K (He.ga K "Machine") "__init__")
  b_Machine___init__ : Binds K fd_Machine___init__ ["self", "last", "boxes", "most"] []
  fd_Machine_has : FuncData
  F_Machine_has : FnM K "has" "Machine.has" s_Machine_has (He.ma K (He.ga K "Machine") "has") fd_Machine_has
  me_Machine_has : Meth K (He.ga K "Machine") "has" (He.ma K (He.ga K "Machine") "has")
  b_Machine_has : Binds K fd_Machine_has ["self", "place"] []
  fd_Machine_gets : FuncData
  F_Machine_gets : FnM K "gets" "Machine.gets" s_Machine_gets (He.ma K (He.ga K "Machine") "gets") fd_Machine_gets
  me_Machine_gets : Meth K (He.ga K "Machine") "gets" (He.ma K (He.ga K "Machine") "gets")
  b_Machine_gets : Binds K fd_Machine_gets ["self", "place", "thing"] []
  fd_Machine_begin_job : FuncData
  F_Machine_begin_job : FnM K "begin_job" "Machine.begin_job" s_Machine_begin_job (He.ma K (He.ga K "Machine") "begin_job") fd_Machine_begin_job
  me_Machine_begin_job : Meth K (He.ga K "Machine") "begin_job" (He.ma K (He.ga K "Machine") "begin_job")
  b_Machine_begin_job : Binds K fd_Machine_begin_job ["self", "count", "numbers", "answer"] []
  fd_Machine_end_job : FuncData
  F_Machine_end_job : FnM K "end_job" "Machine.end_job" s_Machine_end_job (He.ma K (He.ga K "Machine") "end_job") fd_Machine_end_job
  me_Machine_end_job : Meth K (He.ga K "Machine") "end_job" (He.ma K (He.ga K "Machine") "end_job")
  b_Machine_end_job : Binds K fd_Machine_end_job ["self", "number"] []
  fd_Machine_tray_at : FuncData
  F_Machine_tray_at : FnM K "tray_at" "Machine.tray_at" s_Machine_tray_at (He.ma K (He.ga K "Machine") "tray_at") fd_Machine_tray_at
  me_Machine_tray_at : Meth K (He.ga K "Machine") "tray_at" (He.ma K (He.ga K "Machine") "tray_at")
  b_Machine_tray_at : Binds K fd_Machine_tray_at ["self", "tray", "place"] []
  fd_Machine_reckon : FuncData
  F_Machine_reckon : FnM K "reckon" "Machine.reckon" s_Machine_reckon (He.ma K (He.ga K "Machine") "reckon") fd_Machine_reckon
  me_Machine_reckon : Meth K (He.ga K "Machine") "reckon" (He.ma K (He.ga K "Machine") "reckon")
  b_Machine_reckon : Binds K fd_Machine_reckon ["self", "row"] []
  fd_Machine_shift : FuncData
  F_Machine_shift : FnM K "shift" "Machine.shift" s_Machine_shift (He.ma K (He.ga K "Machine") "shift") fd_Machine_shift
  me_Machine_shift : Meth K (He.ga K "Machine") "shift" (He.ma K (He.ga K "Machine") "shift")
  b_Machine_shift : Binds K fd_Machine_shift ["self", "row"] []
  fd_Machine_do_tray : FuncData
  F_Machine_do_tray : FnM K "do_tray" "Machine.do_tray" s_Machine_do_tray (He.ma K (He.ga K "Machine") "do_tray") fd_Machine_do_tray
  me_Machine_do_tray : Meth K (He.ga K "Machine") "do_tray" (He.ma K (He.ga K "Machine") "do_tray")
  b_Machine_do_tray : Binds K fd_Machine_do_tray ["self", "row"] []
  fd_Machine_do_way : FuncData
  F_Machine_do_way : FnM K "do_way" "Machine.do_way" s_Machine_do_way (He.ma K (He.ga K "Machine") "do_way") fd_Machine_do_way
  me_Machine_do_way : Meth K (He.ga K "Machine") "do_way" (He.ma K (He.ga K "Machine") "do_way")
  b_Machine_do_way : Binds K fd_Machine_do_way ["self", "row"] []
  fd_Machine_do : FuncData
  F_Machine_do : FnM K "do" "Machine.do" s_Machine_do (He.ma K (He.ga K "Machine") "do") fd_Machine_do
  me_Machine_do : Meth K (He.ga K "Machine") "do" (He.ma K (He.ga K "Machine") "do")
  b_Machine_do : Binds K fd_Machine_do ["self", "row"] []
  fd_Machine_go : FuncData
  F_Machine_go : FnM K "go" "Machine.go" s_Machine_go (He.ma K (He.ga K "Machine") "go") fd_Machine_go
  me_Machine_go : Meth K (He.ga K "Machine") "go" (He.ma K (He.ga K "Machine") "go")
  b_Machine_go : Binds K fd_Machine_go ["self"] []
  fd_played_last : FuncData
  F_played_last : FunD K "played_last" "played_last" (defArgs s_played_last) (defBody s_played_last) (defScope s_played_last) [.int 20000] [] (He.ga K "played_last") fd_played_last
  b3_played_last : ∃ ds, Vals [.int 20000] ds ∧ Binds K fd_played_last ["last", "boxes", "inputs", "most"] ds
  b_played_last : ∃ ds, Vals [] ds ∧ Binds K fd_played_last ["last", "boxes", "inputs", "most"] ds
  g_played_last : mg "played_last" = some (.ref (He.ga K "played_last"))
  fd__law_cell_at : FuncData
  F__law_cell_at : FnP K "_law_cell_at" s__law_cell_at (He.ga K "_law_cell_at") fd__law_cell_at
  b__law_cell_at : Binds K fd__law_cell_at ["_law_script", "_law_k"] []
  g__law_cell_at : mg "_law_cell_at" = some (.ref (He.ga K "_law_cell_at"))
  fd__law_state : FuncData
  F__law_state : FnP K "_law_state" s__law_state (He.ga K "_law_state") fd__law_state
  b__law_state : Binds K fd__law_state ["_law_cell", "_law_k"] []
  g__law_state : mg "_law_state" = some (.ref (He.ga K "_law_state"))
  fd__law_next : FuncData
  F__law_next : FnP K "_law_next" s__law_next (He.ga K "_law_next") fd__law_next
  b__law_next : Binds K fd__law_next ["_law_s", "_law_size"] []
  g__law_next : mg "_law_next" = some (.ref (He.ga K "_law_next"))
  fd__law_number : FuncData
  F__law_number : FnP K "_law_number" s__law_number (He.ga K "_law_number") fd__law_number
  b__law_number : Binds K fd__law_number ["_law_s"] []
  g__law_number : mg "_law_number" = some (.ref (He.ga K "_law_number"))
  fd__law_shelf : FuncData
  F__law_shelf : FnP K "_law_shelf" s__law_shelf (He.ga K "_law_shelf") fd__law_shelf
  b__law_shelf : Binds K fd__law_shelf ["_law_s", "_law_kind"] []
  g__law_shelf : mg "_law_shelf" = some (.ref (He.ga K "_law_shelf"))
  fd__law_box : FuncData
  F__law_box : FnP K "_law_box" s__law_box (He.ga K "_law_box") fd__law_box
  b__law_box : Binds K fd__law_box ["_law_s"] []
  g__law_box : mg "_law_box" = some (.ref (He.ga K "_law_box"))
  fd__law_note : FuncData
  F__law_note : FnP K "_law_note" s__law_note (He.ga K "_law_note") fd__law_note
  b__law_note : Binds K fd__law_note ["_law_s", "_law_place"] []
  g__law_note : mg "_law_note" = some (.ref (He.ga K "_law_note"))
  fd__law_tray_by : FuncData
  F__law_tray_by : FnP K "_law_tray_by" s__law_tray_by (He.ga K "_law_tray_by") fd__law_tray_by
  b__law_tray_by : Binds K fd__law_tray_by ["_law_s"] []
  g__law_tray_by : mg "_law_tray_by" = some (.ref (He.ga K "_law_tray_by"))
  fd__law_row_by : FuncData
  F__law_row_by : FnP K "_law_row_by" s__law_row_by (He.ga K "_law_row_by") fd__law_row_by
  b__law_row_by : Binds K fd__law_row_by ["_law_s"] []
  g__law_row_by : mg "_law_row_by" = some (.ref (He.ga K "_law_row_by"))
  fd__law_call_by : FuncData
  F__law_call_by : FnP K "_law_call_by" s__law_call_by (He.ga K "_law_call_by") fd__law_call_by
  b__law_call_by : Binds K fd__law_call_by ["_law_s", "_law_heads"] []
  g__law_call_by : mg "_law_call_by" = some (.ref (He.ga K "_law_call_by"))
  fd__law_part_by : FuncData
  F__law_part_by : FnP K "_law_part_by" s__law_part_by (He.ga K "_law_part_by") fd__law_part_by
  b__law_part_by : Binds K fd__law_part_by ["_law_s", "_law_ins", "_law_heads"] []
  g__law_part_by : mg "_law_part_by" = some (.ref (He.ga K "_law_part_by"))
  fd__law_last_by : FuncData
  F__law_last_by : FnP K "_law_last_by" s__law_last_by (He.ga K "_law_last_by") fd__law_last_by
  b__law_last_by : Binds K fd__law_last_by ["_law_cell", "_law_k"] []
  g__law_last_by : mg "_law_last_by" = some (.ref (He.ga K "_law_last_by"))
  fd__law_has : FuncData
  F__law_has : FnP K "_law_has" s__law_has (He.ga K "_law_has") fd__law_has
  b__law_has : Binds K fd__law_has ["_law_run", "_law_place"] []
  g__law_has : mg "_law_has" = some (.ref (He.ga K "_law_has"))
  fd__law_gets : FuncData
  F__law_gets : FnP K "_law_gets" s__law_gets (He.ga K "_law_gets") fd__law_gets
  b__law_gets : Binds K fd__law_gets ["_law_run", "_law_place", "_law_thing"] []
  g__law_gets : mg "_law_gets" = some (.ref (He.ga K "_law_gets"))
  fd__law_job : FuncData
  F__law_job : FnP K "_law_job" s__law_job (He.ga K "_law_job") fd__law_job
  b__law_job : Binds K fd__law_job ["_law_run", "_law_last", "_law_count", "_law_numbers_here", "_law_answer"] []
  g__law_job : mg "_law_job" = some (.ref (He.ga K "_law_job"))
  fd__law_tray_row : FuncData
  F__law_tray_row : FnP K "_law_tray_row" s__law_tray_row (He.ga K "_law_tray_row") fd__law_tray_row
  b__law_tray_row : Binds K fd__law_tray_row ["_law_run", "_law_row"] []
  g__law_tray_row : mg "_law_tray_row" = some (.ref (He.ga K "_law_tray_row"))
  fd__law_sum_row : FuncData
  F__law_sum_row : FnP K "_law_sum_row" s__law_sum_row (He.ga K "_law_sum_row") fd__law_sum_row
  b__law_sum_row : Binds K fd__law_sum_row ["_law_run", "_law_row"] []
  g__law_sum_row : mg "_law_sum_row" = some (.ref (He.ga K "_law_sum_row"))
  fd__law_way_row : FuncData
  F__law_way_row : FnP K "_law_way_row" s__law_way_row (He.ga K "_law_way_row") fd__law_way_row
  b__law_way_row : Binds K fd__law_way_row ["_law_run", "_law_last", "_law_row"] []
  g__law_way_row : mg "_law_way_row" = some (.ref (He.ga K "_law_way_row"))
  fd__law_row_done : FuncData
  F__law_row_done : FnP K "_law_row_done" s__law_row_done (He.ga K "_law_row_done") fd__law_row_done
  b__law_row_done : Binds K fd__law_row_done ["_law_run", "_law_last", "_law_row"] []
  g__law_row_done : mg "_law_row_done" = some (.ref (He.ga K "_law_row_done"))
  fd__law_last_played : FuncData
  F__law_last_played : FnP K "_law_last_played" s__law_last_played (He.ga K "_law_last_played") fd__law_last_played
  b__law_last_played : Binds K fd__law_last_played ["_law_last", "_law_boxes", "_law_inputs", "_law_most"] []
  g__law_last_played : mg "_law_last_played" = some (.ref (He.ga K "_law_last_played"))
  fd__law_numbers : FuncData
  F__law_numbers : FnP K "_law_numbers" s__law_numbers (He.ga K "_law_numbers") fd__law_numbers
  b__law_numbers : Binds K fd__law_numbers ["_law_cell", "_law_many"] []
  g__law_numbers : mg "_law_numbers" = some (.ref (He.ga K "_law_numbers"))
  fd__law_long_loop : FuncData
  F__law_long_loop : FnP K "_law_long_loop" s__law_long_loop (He.ga K "_law_long_loop") fd__law_long_loop
  b__law_long_loop : Binds K fd__law_long_loop ["_law_many"] []
  g__law_long_loop : mg "_law_long_loop" = some (.ref (He.ga K "_law_long_loop"))
  fd_law : FuncData
  F_law : FnP K "law" s_law (He.ga K "law") fd_law
  b_law : Binds K fd_law ["_law_script"] []
  g_law : mg "law" = some (.ref (He.ga K "law"))
  g_WorkError : mg "WorkError" = some (.ref (He.ga K "WorkError"))
  x_WorkError : PySem.W.excIn K (He.ga K "WorkError") He.veBase "ValueError.__new__" = true ∧ PySem.W.keepIn K (.ref (He.ga K "WorkError")) = true ∧ PySem.W.subIn K (.ref (He.ga K "WorkError")) (.type "BaseException") = some true ∧ PySem.W.typeIn K (.ref (He.ga K "WorkError")) = some (.type "type")
  g_NoInputs : mg "NoInputs" = some (.ref (He.ga K "NoInputs"))
  x_NoInputs : PySem.W.excIn K (He.ga K "NoInputs") He.veBase "ValueError.__new__" = true ∧ PySem.W.keepIn K (.ref (He.ga K "NoInputs")) = true ∧ PySem.W.subIn K (.ref (He.ga K "NoInputs")) (.type "BaseException") = some true ∧ PySem.W.typeIn K (.ref (He.ga K "NoInputs")) = some (.type "type")
  g_Job : mg "Job" = some (.ref (He.ga K "Job"))
  cl_Job : Cls K (He.ga K "Job")
  no_Job_told_part : NoAttr K (He.ga K "Job") "told_part"
  no_Job_row_at : NoAttr K (He.ga K "Job") "row_at"
  no_Job_places : NoAttr K (He.ga K "Job") "places"
  no_Job_held : NoAttr K (He.ga K "Job") "held"
  no_Job_answer : NoAttr K (He.ga K "Job") "answer"
  mk_Job : Mk K (He.ga K "Job") (He.ma K (He.ga K "Job") "__init__")
  g_Machine : mg "Machine" = some (.ref (He.ga K "Machine"))
  cl_Machine : Cls K (He.ga K "Machine")
  no_Machine_last : NoAttr K (He.ga K "Machine") "last"
  no_Machine_boxes : NoAttr K (He.ga K "Machine") "boxes"
  no_Machine_left : NoAttr K (He.ga K "Machine") "left"
  no_Machine_told : NoAttr K (He.ga K "Machine") "told"
  no_Machine_jobs : NoAttr K (He.ga K "Machine") "jobs"
  no_Machine_finish : NoAttr K (He.ga K "Machine") "finish"
  mk_Machine : Mk K (He.ga K "Machine") (He.ma K (He.ga K "Machine") "__init__")
  m_all : mg "all" = none
  m_bool : mg "bool" = none
  m_divmod : mg "divmod" = none
  m_int : mg "int" = none
  m_isinstance : mg "isinstance" = none
  m_len : mg "len" = none
  m_list : mg "list" = none
  m_max : mg "max" = none
  m_range : mg "range" = none
  m_repr : mg "repr" = none
  m_str : mg "str" = none
  m_tuple : mg "tuple" = none
  m_zip : mg "zip" = none
  c_WORDS : mg "WORDS" = some (.ref (He.ga K "WORDS"))
  q_WORDS : ∀ H : Hp, SqT K H (He.ga K "WORDS") [.str "add", .str "sub", .str "mul", .str "div", .str "rem", .str "less", .str "same"]
  t_HALF : Tok
  c_HALF : mg "HALF" = some (.int 2147483648 t_HALF)
  t_ROUND : Tok
  c_ROUND : mg "ROUND" = some (.int 4294967296 t_ROUND)
def d_is_number : He.DefD := ⟨("is_number", none), "is_number", "is_number", defArgs s_is_number, defBody s_is_number, defScope s_is_number, [], []⟩
def d_wrapped : He.DefD := ⟨("wrapped", none), "wrapped", "wrapped", defArgs s_wrapped, defBody s_wrapped, defScope s_wrapped, [], []⟩
def d_divided : He.DefD := ⟨("divided", none), "divided", "divided", defArgs s_divided, defBody s_divided, defScope s_divided, [], []⟩
def d_reckoned : He.DefD := ⟨("reckoned", none), "reckoned", "reckoned", defArgs s_reckoned, defBody s_reckoned, defScope s_reckoned, [], []⟩
def d_denied : He.DefD := ⟨("denied", none), "denied", "denied", defArgs s_denied, defBody s_denied, defScope s_denied, [], []⟩
def d_Job___init__ : He.DefD := ⟨("Job", some "__init__"), "__init__", "Job.__init__", defArgs s_Job___init__, defBody s_Job___init__, defScope s_Job___init__, [], []⟩
def d_Machine___init__ : He.DefD := ⟨("Machine", some "__init__"), "__init__", "Machine.__init__", defArgs s_Machine___init__, defBody s_Machine___init__, defScope s_Machine___init__, [], []⟩
def d_Machine_has : He.DefD := ⟨("Machine", some "has"), "has", "Machine.has", defArgs s_Machine_has, defBody s_Machine_has, defScope s_Machine_has, [], []⟩
def d_Machine_gets : He.DefD := ⟨("Machine", some "gets"), "gets", "Machine.gets", defArgs s_Machine_gets, defBody s_Machine_gets, defScope s_Machine_gets, [], []⟩
def d_Machine_begin_job : He.DefD := ⟨("Machine", some "begin_job"), "begin_job", "Machine.begin_job", defArgs s_Machine_begin_job, defBody s_Machine_begin_job, defScope s_Machine_begin_job, [], []⟩
def d_Machine_end_job : He.DefD := ⟨("Machine", some "end_job"), "end_job", "Machine.end_job", defArgs s_Machine_end_job, defBody s_Machine_end_job, defScope s_Machine_end_job, [], []⟩
def d_Machine_tray_at : He.DefD := ⟨("Machine", some "tray_at"), "tray_at", "Machine.tray_at", defArgs s_Machine_tray_at, defBody s_Machine_tray_at, defScope s_Machine_tray_at, [], []⟩
def d_Machine_reckon : He.DefD := ⟨("Machine", some "reckon"), "reckon", "Machine.reckon", defArgs s_Machine_reckon, defBody s_Machine_reckon, defScope s_Machine_reckon, [], []⟩
def d_Machine_shift : He.DefD := ⟨("Machine", some "shift"), "shift", "Machine.shift", defArgs s_Machine_shift, defBody s_Machine_shift, defScope s_Machine_shift, [], []⟩
def d_Machine_do_tray : He.DefD := ⟨("Machine", some "do_tray"), "do_tray", "Machine.do_tray", defArgs s_Machine_do_tray, defBody s_Machine_do_tray, defScope s_Machine_do_tray, [], []⟩
def d_Machine_do_way : He.DefD := ⟨("Machine", some "do_way"), "do_way", "Machine.do_way", defArgs s_Machine_do_way, defBody s_Machine_do_way, defScope s_Machine_do_way, [], []⟩
def d_Machine_do : He.DefD := ⟨("Machine", some "do"), "do", "Machine.do", defArgs s_Machine_do, defBody s_Machine_do, defScope s_Machine_do, [], []⟩
def d_Machine_go : He.DefD := ⟨("Machine", some "go"), "go", "Machine.go", defArgs s_Machine_go, defBody s_Machine_go, defScope s_Machine_go, [], []⟩
def d_played_last : He.DefD := ⟨("played_last", none), "played_last", "played_last", defArgs s_played_last, defBody s_played_last, defScope s_played_last, [.int 20000], []⟩
def d__law_cell_at : He.DefD := ⟨("_law_cell_at", none), "_law_cell_at", "_law_cell_at", defArgs s__law_cell_at, defBody s__law_cell_at, defScope s__law_cell_at, [], []⟩
def d__law_state : He.DefD := ⟨("_law_state", none), "_law_state", "_law_state", defArgs s__law_state, defBody s__law_state, defScope s__law_state, [], []⟩
def d__law_next : He.DefD := ⟨("_law_next", none), "_law_next", "_law_next", defArgs s__law_next, defBody s__law_next, defScope s__law_next, [], []⟩
def d__law_number : He.DefD := ⟨("_law_number", none), "_law_number", "_law_number", defArgs s__law_number, defBody s__law_number, defScope s__law_number, [], []⟩
def d__law_shelf : He.DefD := ⟨("_law_shelf", none), "_law_shelf", "_law_shelf", defArgs s__law_shelf, defBody s__law_shelf, defScope s__law_shelf, [], []⟩
def d__law_box : He.DefD := ⟨("_law_box", none), "_law_box", "_law_box", defArgs s__law_box, defBody s__law_box, defScope s__law_box, [], []⟩
def d__law_note : He.DefD := ⟨("_law_note", none), "_law_note", "_law_note", defArgs s__law_note, defBody s__law_note, defScope s__law_note, [], []⟩
def d__law_tray_by : He.DefD := ⟨("_law_tray_by", none), "_law_tray_by", "_law_tray_by", defArgs s__law_tray_by, defBody s__law_tray_by, defScope s__law_tray_by, [], []⟩
def d__law_row_by : He.DefD := ⟨("_law_row_by", none), "_law_row_by", "_law_row_by", defArgs s__law_row_by, defBody s__law_row_by, defScope s__law_row_by, [], []⟩
def d__law_call_by : He.DefD := ⟨("_law_call_by", none), "_law_call_by", "_law_call_by", defArgs s__law_call_by, defBody s__law_call_by, defScope s__law_call_by, [], []⟩
def d__law_part_by : He.DefD := ⟨("_law_part_by", none), "_law_part_by", "_law_part_by", defArgs s__law_part_by, defBody s__law_part_by, defScope s__law_part_by, [], []⟩
def d__law_last_by : He.DefD := ⟨("_law_last_by", none), "_law_last_by", "_law_last_by", defArgs s__law_last_by, defBody s__law_last_by, defScope s__law_last_by, [], []⟩
def d__law_has : He.DefD := ⟨("_law_has", none), "_law_has", "_law_has", defArgs s__law_has, defBody s__law_has, defScope s__law_has, [], []⟩
def d__law_gets : He.DefD := ⟨("_law_gets", none), "_law_gets", "_law_gets", defArgs s__law_gets, defBody s__law_gets, defScope s__law_gets, [], []⟩
def d__law_job : He.DefD := ⟨("_law_job", none), "_law_job", "_law_job", defArgs s__law_job, defBody s__law_job, defScope s__law_job, [], []⟩
def d__law_tray_row : He.DefD := ⟨("_law_tray_row", none), "_law_tray_row", "_law_tray_row", defArgs s__law_tray_row, defBody s__law_tray_row, defScope s__law_tray_row, [], []⟩
def d__law_sum_row : He.DefD := ⟨("_law_sum_row", none), "_law_sum_row", "_law_sum_row", defArgs s__law_sum_row, defBody s__law_sum_row, defScope s__law_sum_row, [], []⟩
def d__law_way_row : He.DefD := ⟨("_law_way_row", none), "_law_way_row", "_law_way_row", defArgs s__law_way_row, defBody s__law_way_row, defScope s__law_way_row, [], []⟩
def d__law_row_done : He.DefD := ⟨("_law_row_done", none), "_law_row_done", "_law_row_done", defArgs s__law_row_done, defBody s__law_row_done, defScope s__law_row_done, [], []⟩
def d__law_last_played : He.DefD := ⟨("_law_last_played", none), "_law_last_played", "_law_last_played", defArgs s__law_last_played, defBody s__law_last_played, defScope s__law_last_played, [], []⟩
def d__law_numbers : He.DefD := ⟨("_law_numbers", none), "_law_numbers", "_law_numbers", defArgs s__law_numbers, defBody s__law_numbers, defScope s__law_numbers, [], []⟩
def d__law_long_loop : He.DefD := ⟨("_law_long_loop", none), "_law_long_loop", "_law_long_loop", defArgs s__law_long_loop, defBody s__law_long_loop, defScope s__law_long_loop, [], []⟩
def d_law : He.DefD := ⟨("law", none), "law", "law", defArgs s_law, defBody s_law, defScope s_law, [], []⟩
def fn0 : List He.DefD := [d_is_number, d_wrapped, d_divided, d_reckoned, d_denied, d_Job___init__, d_Machine___init__, d_Machine_has, d_Machine_gets, d_Machine_begin_job, d_Machine_end_job, d_Machine_tray_at, d_Machine_reckon, d_Machine_shift, d_Machine_do_tray, d_Machine_do_way, d_Machine_do, d_Machine_go, d_played_last, d__law_cell_at, d__law_state, d__law_next, d__law_number, d__law_shelf, d__law_box, d__law_note, d__law_tray_by, d__law_row_by, d__law_call_by, d__law_part_by]
def fn1 : List He.DefD := [d__law_last_by, d__law_has, d__law_gets, d__law_job, d__law_tray_row, d__law_sum_row, d__law_way_row, d__law_row_done, d__law_last_played, d__law_numbers, d__law_long_loop, d_law]
def fn : List He.DefD := fn0 ++ fn1
def fa0 : List He.Fa := [.glo "is_number", .glo "wrapped", .glo "divided", .glo "reckoned", .glo "denied", .meth "Job" "__init__", .meth "Machine" "__init__", .meth "Machine" "has", .meth "Machine" "gets", .meth "Machine" "begin_job", .meth "Machine" "end_job", .meth "Machine" "tray_at", .meth "Machine" "reckon", .meth "Machine" "shift", .meth "Machine" "do_tray", .meth "Machine" "do_way", .meth "Machine" "do", .meth "Machine" "go", .glo "played_last", .glo "_law_cell_at", .glo "_law_state", .glo "_law_next", .glo "_law_number", .glo "_law_shelf", .glo "_law_box", .glo "_law_note", .glo "_law_tray_by", .glo "_law_row_by", .glo "_law_call_by", .glo "_law_part_by"]
def fa1 : List He.Fa := [.glo "_law_last_by", .glo "_law_has", .glo "_law_gets", .glo "_law_job", .glo "_law_tray_row", .glo "_law_sum_row", .glo "_law_way_row", .glo "_law_row_done", .glo "_law_last_played", .glo "_law_numbers", .glo "_law_long_loop", .glo "law", .glo "WorkError", .exc "WorkError", .glo "NoInputs", .exc "NoInputs", .glo "Job", .cls "Job", .noat "Job" "told_part", .noat "Job" "row_at", .noat "Job" "places", .noat "Job" "held", .noat "Job" "answer", .mkr "Job", .glo "Machine", .cls "Machine", .noat "Machine" "last", .noat "Machine" "boxes", .noat "Machine" "left", .noat "Machine" "told"]
def fa2 : List He.Fa := [.noat "Machine" "jobs", .noat "Machine" "finish", .mkr "Machine", .free "all", .free "bool", .free "divmod", .free "int", .free "isinstance", .free "len", .free "list", .free "max", .free "range", .free "repr", .free "str", .free "tuple", .free "zip", .glo "WORDS", .int "HALF" (2147483648), .int "ROUND" (4294967296)]
def fa : List He.Fa := fa0 ++ fa1 ++ fa2
def exB (K : PySem.W.Frag) : Bool := He.tupB K "WORDS" [.str "add", .str "sub", .str "mul", .str "div", .str "rem", .str "less", .str "same"]
abbrev hk : PySem.W.Hook := hookE 2000 fa fn exB
def ob (s : PySem.W.SharedT) : He.AlD × Bool := obsE 2000 fa fn exB (HandSHeadRun.getT s)
theorem ob_eq (s : PySem.W.SharedT) : ob s = hk.obs s.abs := obsE_eq (HandSHeadRun.getT_eq s)
abbrev R : PySem.W.OpenRow := PySem.W.OpenLaw.row PySem.Challenge.rw_passworks_k75_machine_by_hand
def lo0 : List PySem.Str := ["WorkError", "NoInputs", "WORDS", "is_number", "HALF", "ROUND", "wrapped", "divided", "reckoned", "denied", "Job", "Machine", "played_last", "_law_cell_at", "_law_state", "_law_next", "_law_number", "_law_shelf", "_law_box", "_law_note", "_law_tray_by", "_law_row_by", "_law_call_by", "_law_part_by", "_law_last_by", "_law_has", "_law_gets", "_law_job", "_law_tray_row", "_law_sum_row"]
def lo1 : List PySem.Str := ["_law_way_row", "_law_row_done", "_law_last_played", "_law_numbers", "_law_long_loop"]
def lo : List PySem.Str := lo0 ++ lo1
theorem run1 (w : World) (os : PySem.OsState) : (HandSHeadRun.endF (HandSHeadRun.stepQ (HandSHeadRun.denQ HandSHeadRun.tabQ) R.prog w) 9000 R.prog w os).map (fun s => HandSHeadRun.looksF R.prog (PySem.W.boot_heap w.params) s.abs) = some true := by kernel_rfl
theorem run2 (w : World) (os : PySem.OsState) : (HandSHeadRun.endF (HandSHeadRun.stepQ (HandSHeadRun.denQ HandSHeadRun.tabQ) R.prog w) 9000 R.prog w os).map (fun s => HandSHeadRun.seenQ (PySem.W.view R.prog [40]) lo (PySem.importedModules R.prog.main.body) (fun s => PySem.W.xlAt (PySem.W.view R.prog [40]) [] s && PySem.W.recOk R.toRowW.records s) s.abs) = some (PySem.W.openGood (PySem.W.view R.prog [40]) lo) := by kernel_rfl
theorem run3 (w : World) (os : PySem.OsState) : (HandSHeadRun.endF (HandSHeadRun.stepQ (HandSHeadRun.denQ HandSHeadRun.tabQ) R.prog w) 9000 R.prog w os).map ob = some (hk.val w) := by kernel_rfl
theorem run (w : World) : HandSHeadRun.RunEq R (PySem.W.view R.prog [40]) hk ob 9000 lo w := fun os => map3 (run1 w os) (run2 w os) (run3 w os)
theorem top_of {K : PySem.W.Frag} {h : Heap} {mg : Str → Option Value} (X : K.In h) (G : h.Ns mainGlobals mg) (c : SaysE fa fn exB K) : Nonempty (Top K mg) := by
  obtain ⟨fd0, F0⟩ := c.1.def_ 0 (d := d_is_number) rfl
  obtain ⟨fd1, F1⟩ := c.1.def_ 1 (d := d_wrapped) rfl
  obtain ⟨fd2, F2⟩ := c.1.def_ 2 (d := d_divided) rfl
  obtain ⟨fd3, F3⟩ := c.1.def_ 3 (d := d_reckoned) rfl
  obtain ⟨fd4, F4⟩ := c.1.def_ 4 (d := d_denied) rfl
  obtain ⟨fd5, F5⟩ := c.1.def_ 5 (d := d_Job___init__) rfl
  obtain ⟨fd6, F6⟩ := c.1.def_ 6 (d := d_Machine___init__) rfl
  obtain ⟨fd7, F7⟩ := c.1.def_ 7 (d := d_Machine_has) rfl
  obtain ⟨fd8, F8⟩ := c.1.def_ 8 (d := d_Machine_gets) rfl
  obtain ⟨fd9, F9⟩ := c.1.def_ 9 (d := d_Machine_begin_job) rfl
  obtain ⟨fd10, F10⟩ := c.1.def_ 10 (d := d_Machine_end_job) rfl
  obtain ⟨fd11, F11⟩ := c.1.def_ 11 (d := d_Machine_tray_at) rfl
  obtain ⟨fd12, F12⟩ := c.1.def_ 12 (d := d_Machine_reckon) rfl
  obtain ⟨fd13, F13⟩ := c.1.def_ 13 (d := d_Machine_shift) rfl
  obtain ⟨fd14, F14⟩ := c.1.def_ 14 (d := d_Machine_do_tray) rfl
  obtain ⟨fd15, F15⟩ := c.1.def_ 15 (d := d_Machine_do_way) rfl
  obtain ⟨fd16, F16⟩ := c.1.def_ 16 (d := d_Machine_do) rfl
  obtain ⟨fd17, F17⟩ := c.1.def_ 17 (d := d_Machine_go) rfl
  obtain ⟨fd18, F18⟩ := c.1.def_ 18 (d := d_played_last) rfl
  obtain ⟨fd19, F19⟩ := c.1.def_ 19 (d := d__law_cell_at) rfl
  obtain ⟨fd20, F20⟩ := c.1.def_ 20 (d := d__law_state) rfl
  obtain ⟨fd21, F21⟩ := c.1.def_ 21 (d := d__law_next) rfl
  obtain ⟨fd22, F22⟩ := c.1.def_ 22 (d := d__law_number) rfl
  obtain ⟨fd23, F23⟩ := c.1.def_ 23 (d := d__law_shelf) rfl
  obtain ⟨fd24, F24⟩ := c.1.def_ 24 (d := d__law_box) rfl
  obtain ⟨fd25, F25⟩ := c.1.def_ 25 (d := d__law_note) rfl
  obtain ⟨fd26, F26⟩ := c.1.def_ 26 (d := d__law_tray_by) rfl
  obtain ⟨fd27, F27⟩ := c.1.def_ 27 (d := d__law_row_by) rfl
  obtain ⟨fd28, F28⟩ := c.1.def_ 28 (d := d__law_call_by) rfl
  obtain ⟨fd29, F29⟩ := c.1.def_ 29 (d := d__law_part_by) rfl
  obtain ⟨fd30, F30⟩ := c.1.def_ 30 (d := d__law_last_by) rfl
  obtain ⟨fd31, F31⟩ := c.1.def_ 31 (d := d__law_has) rfl
  obtain ⟨fd32, F32⟩ := c.1.def_ 32 (d := d__law_gets) rfl
  obtain ⟨fd33, F33⟩ := c.1.def_ 33 (d := d__law_job) rfl
  obtain ⟨fd34, F34⟩ := c.1.def_ 34 (d := d__law_tray_row) rfl
  obtain ⟨fd35, F35⟩ := c.1.def_ 35 (d := d__law_sum_row) rfl
  obtain ⟨fd36, F36⟩ := c.1.def_ 36 (d := d__law_way_row) rfl
  obtain ⟨fd37, F37⟩ := c.1.def_ 37 (d := d__law_row_done) rfl
  obtain ⟨fd38, F38⟩ := c.1.def_ 38 (d := d__law_last_played) rfl
  obtain ⟨fd39, F39⟩ := c.1.def_ 39 (d := d__law_numbers) rfl
  obtain ⟨fd40, F40⟩ := c.1.def_ 40 (d := d__law_long_loop) rfl
  obtain ⟨fd41, F41⟩ := c.1.def_ 41 (d := d_law) rfl
  obtain ⟨tk_HALF, ck_HALF⟩ := He.int_ok X G (c.1.fact 77 (f := .int "HALF" (2147483648)) rfl)
  obtain ⟨tk_ROUND, ck_ROUND⟩ := He.int_ok X G (c.1.fact 78 (f := .int "ROUND" (4294967296)) rfl)
  have hx := c.2
  have hx0 : (He.tupB K "WORDS" [.str "add", .str "sub", .str "mul", .str "div", .str "rem", .str "less", .str "same"]) = true := hx
  exact ⟨{ fd_is_number := fd0, F_is_number := F0, b_is_number := FunD.bindsN F0 fun _ _ _ _ _ _ us hl => (match us, hl with | [_], _ => rfl), g_is_number := He.glo_ok X G (c.1.fact 0 (f := .glo "is_number") rfl), fd_wrapped := fd1, F_wrapped := F1, b_wrapped := FunD.bindsN F1 fun _ _ _ _ _ _ us hl => (match us, hl with | [_], _ => rfl), g_wrapped := He.glo_ok X G (c.1.fact 1 (f := .glo "wrapped") rfl), fd_divided := fd2, F_divided := F2, b_divided := FunD.bindsN F2 fun _ _ _ _ _ _ us hl => (match us, hl with | [_, _, _], _ => rfl), g_divided := He.glo_ok X G (c.1.fact 2 (f := .glo "divided") rfl), fd_reckoned := fd3, F_reckoned := F3, b_reckoned := FunD.bindsN F3 fun _ _ _ _ _ _ us hl => (match us, hl with | [_, _, _], _ => rfl), g_reckoned := He.glo_ok X G (c.1.fact 3 (f := .glo "reckoned") rfl), fd_denied := fd4, F_denied := F4, b_denied := FunD.bindsN F4 fun _ _ _ _ _ _ us hl => (match us, hl with | [_], _ => rfl), g_denied := He.glo_ok X G (c.1.fact 4 (f := .glo "denied") rfl), fd_Job___init__ := fd5, F_Job___init__ := F5, b_Job___init__ := FunD.bindsN F5 fun _ _ _ _ _ _ us hl => (match us, hl with | [_, _, _], _ => rfl), me_Job___init__ := He.meth_ok (c.1.fact 5 (f := .meth "Job" "__init__") rfl), fd_Machine___init__ := fd6, F_Machine___init__ := F6, b_Machine___init__ := FunD.bindsN F6 fun _ _ _ _ _ _ us hl => (match us, hl with | [_, _, _, _], _ => rfl), me_Machine___init__ := He.meth_ok (c.1.fact 6 (f := .meth "Machine" "__init__") rfl), fd_Machine_has := fd7, F_Machine_has := F7, b_Machine_has := FunD.bindsN F7 fun _ _ _ _ _ _ us hl => (match us, hl with | [_, _], _ => rfl), me_Machine_has := He.meth_ok (c.1.fact 7 (f := .meth "Machine" "has") rfl), fd_Machine_gets := fd8, F_Machine_gets := F8, b_Machine_gets := FunD.bindsN F8 fun _ _ _ _ _ _ us hl => (match us, hl with | [_, _, _], _ => rfl), me_Machine_gets := He.meth_ok (c.1.fact 8 (f := .meth "Machine" "gets") rfl), fd_Machine_begin_job := fd9, F_Machine_begin_job := F9, b_Machine_begin_job := FunD.bindsN F9 fun _ _ _ _ _ _ us hl => (match us, hl with | [_, _, _, _], _ => rfl), me_Machine_begin_job := He.meth_ok (c.1.fact 9 (f := .meth "Machine" "begin_job") rfl), fd_Machine_end_job := fd10, F_Machine_end_job := F10, b_Machine_end_job := FunD.bindsN F10 fun _ _ _ _ _ _ us hl => (match us, hl with | [_, _], _ => rfl), me_Machine_end_job := He.meth_ok (c.1.fact 10 (f := .meth "Machine" "end_job") rfl), fd_Machine_tray_at := fd11, F_Machine_tray_at := F11, b_Machine_tray_at := FunD.bindsN F11 fun _ _ _ _ _ _ us hl => (match us, hl with | [_, _, _], _ => rfl), me_Machine_tray_at := He.meth_ok (c.1.fact 11 (f := .meth "Machine" "tray_at") rfl), fd_Machine_reckon := fd12, F_Machine_reckon := F12, b_Machine_reckon := FunD.bindsN F12 fun _ _ _ _ _ _ us hl => (match us, hl with | [_, _], _ => rfl), me_Machine_reckon := He.meth_ok (c.1.fact 12 (f := .meth "Machine" "reckon") rfl), fd_Machine_shift := fd13, F_Machine_shift := F13, b_Machine_shift := FunD.bindsN F13 fun _ _ _ _ _ _ us hl => (match us, hl with | [_, _], _ => rfl), me_Machine_shift := He.meth_ok (c.1.fact 13 (f := .meth "Machine" "shift") rfl), fd_Machine_do_tray := fd14, F_Machine_do_tray := F14, b_Machine_do_tray := FunD.bindsN F14 fun _ _ _ _ _ _ us hl => (match us, hl with | [_, _], _ => rfl), me_Machine_do_tray := He.meth_ok (c.1.fact 14 (f := .meth "Machine" "do_tray") rfl), fd_Machine_do_way := fd15, F_Machine_do_way := F15, b_Machine_do_way := FunD.bindsN F15 fun _ _ _ _ _ _ us hl => (match us, hl with | [_, _], _ => rfl), me_Machine_do_way := He.meth_ok (c.1.fact 15 (f := .meth "Machine" "do_way") rfl), fd_Machine_do := fd16, F_Machine_do := F16, b_Machine_do := FunD.bindsN F16 fun _ _ _ _ _ _ us hl => (match us, hl with | [_, _], _ => rfl), me_Machine_do := He.meth_ok (c.1.fact 16 (f := .meth "Machine" "do") rfl), fd_Machine_go := fd17, F_Machine_go := F17, b_Machine_go := FunD.bindsN F17 fun _ _ _ _ _ _ us hl => (match us, hl with | [_], _ => rfl), me_Machine_go := He.meth_ok (c.1.fact 17 (f := .meth "Machine" "go") rfl), fd_played_last := fd18, F_played_last := F18, b3_played_last := FunD.binds1 F18 3 0 (by simp [He.DefD.dvs, d_played_last]) rfl fun _ _ _ _ _ _ _ us its hu hi => (match us, hu, its, hi with | [_, _, _], _, [_], _ => ⟨_, rfl, rfl⟩), b_played_last := FunD.binds1 F18 4 1 (by simp [He.DefD.dvs, d_played_last]) rfl fun _ _ _ _ _ _ _ us its hu hi => (match us, hu, its, hi with | [_, _, _, _], _, [_], _ => ⟨_, rfl, rfl⟩), g_played_last := He.glo_ok X G (c.1.fact 18 (f := .glo "played_last") rfl), fd__law_cell_at := fd19, F__law_cell_at := F19, b__law_cell_at := FunD.bindsN F19 fun _ _ _ _ _ _ us hl => (match us, hl with | [_, _], _ => rfl), g__law_cell_at := He.glo_ok X G (c.1.fact 19 (f := .glo "_law_cell_at") rfl), fd__law_state := fd20, F__law_state := F20, b__law_state := FunD.bindsN F20 fun _ _ _ _ _ _ us hl => (match us, hl with | [_, _], _ => rfl), g__law_state := He.glo_ok X G (c.1.fact 20 (f := .glo "_law_state") rfl), fd__law_next := fd21, F__law_next := F21, b__law_next := FunD.bindsN F21 fun _ _ _ _ _ _ us hl => (match us, hl with | [_, _], _ => rfl), g__law_next := He.glo_ok X G (c.1.fact 21 (f := .glo "_law_next") rfl), fd__law_number := fd22, F__law_number := F22, b__law_number := FunD.bindsN F22 fun _ _ _ _ _ _ us hl => (match us, hl with | [_], _ => rfl), g__law_number := He.glo_ok X G (c.1.fact 22 (f := .glo "_law_number") rfl), fd__law_shelf := fd23, F__law_shelf := F23, b__law_shelf := FunD.bindsN F23 fun _ _ _ _ _ _ us hl => (match us, hl with | [_, _], _ => rfl), g__law_shelf := He.glo_ok X G (c.1.fact 23 (f := .glo "_law_shelf") rfl), fd__law_box := fd24, F__law_box := F24, b__law_box := FunD.bindsN F24 fun _ _ _ _ _ _ us hl => (match us, hl with | [_], _ => rfl), g__law_box := He.glo_ok X G (c.1.fact 24 (f := .glo "_law_box") rfl), fd__law_note := fd25, F__law_note := F25, b__law_note := FunD.bindsN F25 fun _ _ _ _ _ _ us hl => (match us, hl with | [_, _], _ => rfl), g__law_note := He.glo_ok X G (c.1.fact 25 (f := .glo "_law_note") rfl), fd__law_tray_by := fd26, F__law_tray_by := F26, b__law_tray_by := FunD.bindsN F26 fun _ _ _ _ _ _ us hl => (match us, hl with | [_], _ => rfl), g__law_tray_by := He.glo_ok X G (c.1.fact 26 (f := .glo "_law_tray_by") rfl), fd__law_row_by := fd27, F__law_row_by := F27, b__law_row_by := FunD.bindsN F27 fun _ _ _ _ _ _ us hl => (match us, hl with | [_], _ => rfl), g__law_row_by := He.glo_ok X G (c.1.fact 27 (f := .glo "_law_row_by") rfl), fd__law_call_by := fd28, F__law_call_by := F28, b__law_call_by := FunD.bindsN F28 fun _ _ _ _ _ _ us hl => (match us, hl with | [_, _], _ => rfl), g__law_call_by := He.glo_ok X G (c.1.fact 28 (f := .glo "_law_call_by") rfl), fd__law_part_by := fd29, F__law_part_by := F29, b__law_part_by := FunD.bindsN F29 fun _ _ _ _ _ _ us hl => (match us, hl with | [_, _, _], _ => rfl), g__law_part_by := He.glo_ok X G (c.1.fact 29 (f := .glo "_law_part_by") rfl), fd__law_last_by := fd30, F__law_last_by := F30, b__law_last_by := FunD.bindsN F30 fun _ _ _ _ _ _ us hl => (match us, hl with | [_, _], _ => rfl), g__law_last_by := He.glo_ok X G (c.1.fact 30 (f := .glo "_law_last_by") rfl), fd__law_has := fd31, F__law_has := F31, b__law_has := FunD.bindsN F31 fun _ _ _ _ _ _ us hl => (match us, hl with | [_, _], _ => rfl), g__law_has := He.glo_ok X G (c.1.fact 31 (f := .glo "_law_has") rfl), fd__law_gets := fd32, F__law_gets := F32, b__law_gets := FunD.bindsN F32 fun _ _ _ _ _ _ us hl => (match us, hl with | [_, _, _], _ => rfl), g__law_gets := He.glo_ok X G (c.1.fact 32 (f := .glo "_law_gets") rfl), fd__law_job := fd33, F__law_job := F33, b__law_job := FunD.bindsN F33 fun _ _ _ _ _ _ us hl => (match us, hl with | [_, _, _, _, _], _ => rfl), g__law_job := He.glo_ok X G (c.1.fact 33 (f := .glo "_law_job") rfl), fd__law_tray_row := fd34, F__law_tray_row := F34, b__law_tray_row := FunD.bindsN F34 fun _ _ _ _ _ _ us hl => (match us, hl with | [_, _], _ => rfl), g__law_tray_row := He.glo_ok X G (c.1.fact 34 (f := .glo "_law_tray_row") rfl), fd__law_sum_row := fd35, F__law_sum_row := F35, b__law_sum_row := FunD.bindsN F35 fun _ _ _ _ _ _ us hl => (match us, hl with | [_, _], _ => rfl), g__law_sum_row := He.glo_ok X G (c.1.fact 35 (f := .glo "_law_sum_row") rfl), fd__law_way_row := fd36, F__law_way_row := F36, b__law_way_row := FunD.bindsN F36 fun _ _ _ _ _ _ us hl => (match us, hl with | [_, _, _], _ => rfl), g__law_way_row := He.glo_ok X G (c.1.fact 36 (f := .glo "_law_way_row") rfl), fd__law_row_done := fd37, F__law_row_done := F37, b__law_row_done := FunD.bindsN F37 fun _ _ _ _ _ _ us hl => (match us, hl with | [_, _, _], _ => rfl), g__law_row_done := He.glo_ok X G (c.1.fact 37 (f := .glo "_law_row_done") rfl), fd__law_last_played := fd38, F__law_last_played := F38, b__law_last_played := FunD.bindsN F38 fun _ _ _ _ _ _ us hl => (match us, hl with | [_, _, _, _], _ => rfl), g__law_last_played := He.glo_ok X G (c.1.fact 38 (f := .glo "_law_last_played") rfl), fd__law_numbers := fd39, F__law_numbers := F39, b__law_numbers := FunD.bindsN F39 fun _ _ _ _ _ _ us hl => (match us, hl with | [_, _], _ => rfl), g__law_numbers := He.glo_ok X G (c.1.fact 39 (f := .glo "_law_numbers") rfl), fd__law_long_loop := fd40, F__law_long_loop := F40, b__law_long_loop := FunD.bindsN F40 fun _ _ _ _ _ _ us hl => (match us, hl with | [_], _ => rfl), g__law_long_loop := He.glo_ok X G (c.1.fact 40 (f := .glo "_law_long_loop") rfl), fd_law := fd41, F_law := F41, b_law := FunD.bindsN F41 fun _ _ _ _ _ _ us hl => (match us, hl with | [_], _ => rfl), g_law := He.glo_ok X G (c.1.fact 41 (f := .glo "law") rfl), g_WorkError := He.glo_ok X G (c.1.fact 42 (f := .glo "WorkError") rfl), x_WorkError := He.exc_ok (c.1.fact 43 (f := .exc "WorkError") rfl), g_NoInputs := He.glo_ok X G (c.1.fact 44 (f := .glo "NoInputs") rfl), x_NoInputs := He.exc_ok (c.1.fact 45 (f := .exc "NoInputs") rfl), g_Job := He.glo_ok X G (c.1.fact 46 (f := .glo "Job") rfl), cl_Job := He.cls_ok (c.1.fact 47 (f := .cls "Job") rfl), no_Job_told_part := He.noat_ok (c.1.fact 48 (f := .noat "Job" "told_part") rfl), no_Job_row_at := He.noat_ok (c.1.fact 49 (f := .noat "Job" "row_at") rfl), no_Job_places := He.noat_ok (c.1.fact 50 (f := .noat "Job" "places") rfl), no_Job_held := He.noat_ok (c.1.fact 51 (f := .noat "Job" "held") rfl), no_Job_answer := He.noat_ok (c.1.fact 52 (f := .noat "Job" "answer") rfl), mk_Job := He.mkr_ok (c.1.fact 53 (f := .mkr "Job") rfl), g_Machine := He.glo_ok X G (c.1.fact 54 (f := .glo "Machine") rfl), cl_Machine := He.cls_ok (c.1.fact 55 (f := .cls "Machine") rfl), no_Machine_last := He.noat_ok (c.1.fact 56 (f := .noat "Machine" "last") rfl), no_Machine_boxes := He.noat_ok (c.1.fact 57 (f := .noat "Machine" "boxes") rfl), no_Machine_left := He.noat_ok (c.1.fact 58 (f := .noat "Machine" "left") rfl), no_Machine_told := He.noat_ok (c.1.fact 59 (f := .noat "Machine" "told") rfl), no_Machine_jobs := He.noat_ok (c.1.fact 60 (f := .noat "Machine" "jobs") rfl), no_Machine_finish := He.noat_ok (c.1.fact 61 (f := .noat "Machine" "finish") rfl), mk_Machine := He.mkr_ok (c.1.fact 62 (f := .mkr "Machine") rfl), m_all := He.free_ok X G (c.1.fact 63 (f := .free "all") rfl), m_bool := He.free_ok X G (c.1.fact 64 (f := .free "bool") rfl), m_divmod := He.free_ok X G (c.1.fact 65 (f := .free "divmod") rfl), m_int := He.free_ok X G (c.1.fact 66 (f := .free "int") rfl), m_isinstance := He.free_ok X G (c.1.fact 67 (f := .free "isinstance") rfl), m_len := He.free_ok X G (c.1.fact 68 (f := .free "len") rfl), m_list := He.free_ok X G (c.1.fact 69 (f := .free "list") rfl), m_max := He.free_ok X G (c.1.fact 70 (f := .free "max") rfl), m_range := He.free_ok X G (c.1.fact 71 (f := .free "range") rfl), m_repr := He.free_ok X G (c.1.fact 72 (f := .free "repr") rfl), m_str := He.free_ok X G (c.1.fact 73 (f := .free "str") rfl), m_tuple := He.free_ok X G (c.1.fact 74 (f := .free "tuple") rfl), m_zip := He.free_ok X G (c.1.fact 75 (f := .free "zip") rfl), c_WORDS := He.glo_ok X G (c.1.fact 76 (f := .glo "WORDS") rfl), q_WORDS := He.tupB_ok hx0, t_HALF := tk_HALF, c_HALF := ck_HALF, t_ROUND := tk_ROUND, c_ROUND := ck_ROUND }⟩
theorem law_binds {K : PySem.W.Frag} {mg : Str → Option Value} (T : Top K mg) (s : Shared) (u : Value) : BindsTo s T.fd_law ⟨[u], []⟩ [("_law_script", u)] :=
  FunD.bindsA (ps := ["_law_script"]) T.F_law (fun _ _ _ _ _ _ us hl => (match us, hl with | [_], _ => rfl)) s [u] rfl
/-! data without lists stays -/
mutual
def nLd : PyData → Bool
  | .list _ => false
  | .dict _ => false
  | .tuple xs => nLs xs
  | .none => true
  | .bool _ => true
  | .int _ => true
  | .str _ => true
def nLs : List PyData → Bool
  | [] => true
  | x :: r => nLd x && nLs r
end
theorem sqT_kp {K : PySem.W.Frag} {S : Addr → Prop} {H H' : Hp} {a : Addr} {xs : List V} (k : Kp S H H') (h : SqT K H a xs) : SqT K H' a xs := by
  rcases h with (e | ⟨o, e⟩) | e
  · exact .inl (.inl (k _ _ e fun _ z => z))
  · exact .inl (.inr ⟨o, k _ _ e fun _ z => z⟩)
  · exact .inr e
mutual
theorem dp_kp {K : PySem.W.Frag} {S : Addr → Prop} {H H' : Hp} (k : Kp S H H') : ∀ (d : PyData) (v : V), nLd d = true → Dp K H v d → Dp K H' v d
  | .none, _, _, h => by cases h; exact .non
  | .bool b, _, _, h => by cases h; exact .bl b
  | .int i, _, _, h => by cases h; exact .int i
  | .str x, _, _, h => by cases h; exact .str x
  | .list _, _, n, _ => by cases n
  | .dict _, _, n, _ => by cases n
  | .tuple ds, _, n, h => by
    cases h with
    | tup hs ha => exact .tup (sqT_kp k hs) (dpAll_kp k ds _ n ha)
theorem dpAll_kp {K : PySem.W.Frag} {S : Addr → Prop} {H H' : Hp} (k : Kp S H H') : ∀ (ds : List PyData) (vs : List V), nLs ds = true → DpAll K H vs ds → DpAll K H' vs ds
  | [], _, _, h => by cases h; exact .nil
  | d :: ds, _, n, h => by
    have n2 : nLd d = true ∧ nLs ds = true := by
      unfold nLs at n
      exact Bool.and_eq_true_iff.mp n
    cases h with
    | cons h1 h2 => exact .cons (dp_kp k d _ n2.1 h1) (dpAll_kp k ds _ n2.2 h2)
end
section
variable {K : PySem.W.Frag} {H : Hp}
theorem dp_tup {v : V} {ds : List PyData} (h : Dp K H v (.tuple ds)) : ∃ a xs, v = .ref a ∧ SqT K H a xs ∧ DpAll K H xs ds := by
  cases h with
  | tup h1 h2 => exact ⟨_, _, rfl, h1, h2⟩
theorem dp_str {v : V} {z : Str} (h : Dp K H v (.str z)) : v = .str z := by cases h; rfl
theorem dp_int {v : V} {z : Int} (h : Dp K H v (.int z)) : v = .int z := by cases h; rfl
theorem dpAll_cons {vs : List V} {d : PyData} {ds : List PyData} (h : DpAll K H vs (d :: ds)) : ∃ v r, vs = v :: r ∧ Dp K H v d ∧ DpAll K H r ds := by
  cases h with
  | cons h1 h2 => exact ⟨_, _, rfl, h1, h2⟩
theorem dpAll_nil {vs : List V} (h : DpAll K H vs []) : vs = [] := by cases h; rfl
theorem dpAll_len : ∀ {vs : List V} {ds : List PyData}, DpAll K H vs ds → vs.length = ds.length
  | _, _, .nil => rfl
  | _, _, .cons _ t => by rw [List.length_cons, List.length_cons, dpAll_len t]
theorem dpAll_get : ∀ {vs : List V} {ds : List PyData} {i : Nat} {d : PyData}, DpAll K H vs ds → ds[i]? = some d → ∃ v, vs[i]? = some v ∧ Dp K H v d
  | _, _, _, _, .nil, e => by simp at e
  | _, _, 0, _, .cons h _, e => ⟨_, rfl, (Option.some.inj e) ▸ h⟩
  | _, _, i + 1, _, .cons _ t, e => dpAll_get (i := i) t e
theorem dpAll_getV : ∀ {vs : List V} {ds : List PyData} {i : Nat} {v : V}, DpAll K H vs ds → vs[i]? = some v → ∃ d, ds[i]? = some d ∧ Dp K H v d
  | _, _, _, _, .nil, e => by simp at e
  | _, _, 0, _, .cons h _, e => ⟨_, rfl, (Option.some.inj e) ▸ h⟩
  | _, _, i + 1, _, .cons _ t, e => dpAll_getV (i := i) t e
theorem dpAll_app : ∀ {vs ws : List V} {ds es : List PyData}, DpAll K H vs ds → DpAll K H ws es → DpAll K H (vs ++ ws) (ds ++ es)
  | _, _, _, _, .nil, s => s
  | _, _, _, _, .cons h t, s => .cons h (dpAll_app t s)
theorem dpAll_take : ∀ {vs : List V} {ds : List PyData} (n : Nat), DpAll K H vs ds → DpAll K H (vs.take n) (ds.take n)
  | _, _, 0, _ => .nil
  | _, _, _ + 1, .nil => .nil
  | _, _, n + 1, .cons h t => .cons h (dpAll_take n t)
theorem dpAll_drop : ∀ {vs : List V} {ds : List PyData} (n : Nat), DpAll K H vs ds → DpAll K H (vs.drop n) (ds.drop n)
  | _, _, 0, h => h
  | _, _, _ + 1, .nil => .nil
  | _, _, n + 1, .cons _ t => dpAll_drop n t
theorem dpAll_strs : ∀ {vs : List V} {zs : List Str}, DpAll K H vs (zs.map PyData.str) → vs = zs.map V.str
  | _, [], h => dpAll_nil h
  | _, z :: zs, h => by
    obtain ⟨v, r, rfl, h1, h2⟩ := dpAll_cons h
    rw [dp_str h1, dpAll_strs h2]
    rfl
theorem strs_dpAll : ∀ (zs : List Str), DpAll K H (zs.map V.str) (zs.map PyData.str)
  | [] => .nil
  | z :: zs => .cons (.str z) (strs_dpAll zs)
end

section
variable {P : Program} {w : World} {K : PySem.W.Frag} {mg : Str → Option Value} {base : Heap}
def isB : PyData → Bool
  | .bool _ => true
  | _ => false
def tyS : PyData → String
  | .none => "NoneType"
  | .bool _ => "bool"
  | .int _ => "int"
  | .str _ => "str"
  | .list _ => "list"
  | .tuple _ => "tuple"
  | .dict _ => "dict"
theorem ty_lst {H : Hp} {a : Addr} {xs : List V} (h : SqL K H a xs) : TyX K H (.ref a) (.type "list") := by
  rcases h with (h | ⟨ob, h⟩) | ⟨o, its, n, hk, hc, _⟩
  · exact .base (.lst h)
  · exact .base (.frz h)
  · exact .kList hk hc
theorem ty_tup {H : Hp} {a : Addr} {xs : List V} (h : SqT K H a xs) : TyX K H (.ref a) (.type "tuple") := by
  rcases h with (h | ⟨ob, h⟩) | ⟨o, its, n, hk, hc, _⟩
  · exact .base (.tup h)
  · exact .fTuple h
  · exact .kTuple hk hc
theorem dp_ty {H : Hp} {v : V} {d : PyData} (h : Dp K H v d) : TyX K H v (.type (tyS d)) := by
  cases h with
  | non => exact .base .non
  | bl b => exact .base (.bl b)
  | int i => exact .base (.int i)
  | str x => exact .base (.str x)
  | lst h _ => exact ty_lst h
  | tup h _ => exact ty_tup h
def isI : PyData → Bool
  | .int _ => true
  | .bool _ => true
  | _ => false
def isT : PyData → Bool
  | .tuple _ => true
  | _ => false
def isS : PyData → Bool
  | .str _ => true
  | _ => false
theorem kit_int : ∀ d : PyData, PySem.W.kitOne K (.type (tyS d)) (.type "int") = some (isI d)
  | .none => kit_ty (a := "NoneType") (b := "int") (r := false) (by decide +kernel)
  | .bool _ => kit_ty (a := "bool") (b := "int") (r := true) (by decide +kernel)
  | .int _ => kit_ty (a := "int") (b := "int") (r := true) (by decide +kernel)
  | .str _ => kit_ty (a := "str") (b := "int") (r := false) (by decide +kernel)
  | .list _ => kit_ty (a := "list") (b := "int") (r := false) (by decide +kernel)
  | .tuple _ => kit_ty (a := "tuple") (b := "int") (r := false) (by decide +kernel)
  | .dict _ => kit_ty (a := "dict") (b := "int") (r := false) (by decide +kernel)
theorem kit_bool : ∀ d : PyData, PySem.W.kitOne K (.type (tyS d)) (.type "bool") = some (isB d)
  | .none => kit_ty (a := "NoneType") (b := "bool") (r := false) (by decide +kernel)
  | .bool _ => kit_ty (a := "bool") (b := "bool") (r := true) (by decide +kernel)
  | .int _ => kit_ty (a := "int") (b := "bool") (r := false) (by decide +kernel)
  | .str _ => kit_ty (a := "str") (b := "bool") (r := false) (by decide +kernel)
  | .list _ => kit_ty (a := "list") (b := "bool") (r := false) (by decide +kernel)
  | .tuple _ => kit_ty (a := "tuple") (b := "bool") (r := false) (by decide +kernel)
  | .dict _ => kit_ty (a := "dict") (b := "bool") (r := false) (by decide +kernel)
theorem kit_tup : ∀ d : PyData, PySem.W.kitOne K (.type (tyS d)) (.type "tuple") = some (isT d)
  | .none => kit_ty (a := "NoneType") (b := "tuple") (r := false) (by decide +kernel)
  | .bool _ => kit_ty (a := "bool") (b := "tuple") (r := false) (by decide +kernel)
  | .int _ => kit_ty (a := "int") (b := "tuple") (r := false) (by decide +kernel)
  | .str _ => kit_ty (a := "str") (b := "tuple") (r := false) (by decide +kernel)
  | .list _ => kit_ty (a := "list") (b := "tuple") (r := false) (by decide +kernel)
  | .tuple _ => kit_ty (a := "tuple") (b := "tuple") (r := true) (by decide +kernel)
  | .dict _ => kit_ty (a := "dict") (b := "tuple") (r := false) (by decide +kernel)
theorem kit_str : ∀ d : PyData, PySem.W.kitOne K (.type (tyS d)) (.type "str") = some (isS d)
  | .none => kit_ty (a := "NoneType") (b := "str") (r := false) (by decide +kernel)
  | .bool _ => kit_ty (a := "bool") (b := "str") (r := false) (by decide +kernel)
  | .int _ => kit_ty (a := "int") (b := "str") (r := false) (by decide +kernel)
  | .str _ => kit_ty (a := "str") (b := "str") (r := true) (by decide +kernel)
  | .list _ => kit_ty (a := "list") (b := "str") (r := false) (by decide +kernel)
  | .tuple _ => kit_ty (a := "tuple") (b := "str") (r := false) (by decide +kernel)
  | .dict _ => kit_ty (a := "dict") (b := "str") (r := false) (by decide +kernel)
mutual
theorem dp_sm {H H' : Hp} (k : Same H H') : ∀ {v : V} {d : PyData}, Dp K H v d → Dp K H' v d
  | _, _, .non => .non
  | _, _, .bl b => .bl b
  | _, _, .int i => .int i
  | _, _, .str x => .str x
  | _, _, .lst h da => .lst (k.seq h) (dpAll_sm k da)
  | _, _, .tup h da => .tup (sqT_kp (Kp.of_same (S := fun _ => False) k) h) (dpAll_sm k da)
theorem dpAll_sm {H H' : Hp} (k : Same H H') : ∀ {vs : List V} {ds : List PyData}, DpAll K H vs ds → DpAll K H' vs ds
  | _, _, .nil => .nil
  | _, _, .cons h r => .cons (dp_sm k h) (dpAll_sm k r)
end
/-- a value != a shallow one -/
def rNeE (K : PySem.W.Frag) : R2 := fun x y H Q => ∃ d e, Dp K H x d ∧ Dp K H y e ∧ d.canLay0 = true ∧ e.canLay0 = true ∧ e.depth ≤ 64 ∧ Q (.bl (!PyData.eqv d e)) H
theorem op_neE {X : Cx} (hu : X.A.units + 64 < cLine) : OpR X (compareOp .NotEq) (rNeE X.K) := by
  intro pins s σ H x y v u Q I rx ry h
  obtain ⟨d, e, hd, he, sd, se, de, q⟩ := h
  obtain ⟨as, r1⟩ := Dp.reads I d x v hd rx
  obtain ⟨bs, r2⟩ := Dp.reads I e y u he ry
  refine SeqAt.compareNe_reads r1 r2 sd se ?_ ⟨.bl _, H, I, rfl, q⟩
  have : min d.depth e.depth ≤ e.depth := Nat.min_le_right _ _
  omega
theorem in_strs {z : Str} {ws : List Str} : inV (.str z) (ws.map V.str) = decide (z ∈ ws) := by
  unfold inV
  rw [List.any_map]
  by_cases h : z ∈ ws
  · rw [decide_eq_true h]
    refine List.any_eq_true.mpr ⟨z, h, ?_⟩
    show (z == z) = true
    exact beq_self_eq_true z
  · rw [decide_eq_false h]
    refine List.any_eq_false.mpr fun x hx e => h ?_
    have e2 : (x == z) = true := e
    rw [← eq_of_beq e2]
    exact hx
theorem ifT {c : Bool} {A B : Prop} (hc : c = true) (h : A) : if c = true then A else B := by rw [if_pos hc]; exact h
theorem ifF {c : Bool} {A B : Prop} (hc : c = false) (h : B) : if c = true then A else B := by rw [if_neg (by rw [hc]; exact Bool.false_ne_true)]; exact h
theorem cd {i j : Int} (h0 : 0 < j) (h1 : j < 2 ^ 64) : CDivW i j := wide_div (b := 64) h0 (by omega) (by decide) (by decide)
theorem at_ints2 {ns : List Int} {i : Int} (h0 : 0 ≤ i) (h1 : i < ns.length) : ∃ z, atI (ns.map V.int) i = some (.int z) := ⟨_, at_ints h0 h1⟩
theorem strs_at {zs : List Str} {i : Int} (h0 : 0 ≤ i) (h1 : i < zs.length) : ∃ z ∈ zs, atI (zs.map V.str) i = some (.str z) := by
  obtain ⟨x, hx, e⟩ := at_list (ns := zs.map V.str) h0 (by rw [List.length_map]; exact h1)
  obtain ⟨z, hz, rfl⟩ := List.mem_map.mp hx
  exact ⟨z, hz, e⟩
def Scp (K : PySem.W.Frag) (H : Hp) (a : Addr) (ns : List Int) : Prop := ns.length ≤ 63 ∧ (∀ z ∈ ns, Builtin.Int.intBits z ≤ 1048576) ∧ SqL K H a (ns.map V.int)
theorem Scp.sm {H H' : Hp} {a : Addr} {ns : List Int} (h : Scp K H a ns) (k : Same H H') : Scp K H' a ns := ⟨h.1, h.2.1, k.seq h.2.2⟩
theorem same_upd {H H' : Hp} {D : Addr} {o : HO} (s : Same H H') (n : H D = none) : Same H (upd H' D o) := fun b x hb => by
  rw [upd_ne (ne_of_none hb n)]
  exact s _ _ hb
theorem tail_no {x : V} {zs : List V} : ¬ (HT.sIx (x :: zs).length 0 (some 1) = 0 ∧ HT.sIx (x :: zs).length (x :: zs).length none = (x :: zs).length) := by
  have e1 : HT.sIx (x :: zs).length 0 (some 1) = 1 := by
    show min 1 (zs.length + 1) = 1
    omega
  rw [e1]
  exact fun z => absurd z.1 (by decide)
theorem cut_tail {x : V} {zs : List V} : cutV (x :: zs) (some 1) none = zs := by
  have e1 : HT.sIx (x :: zs).length 0 (some 1) = 1 := by
    show min 1 (zs.length + 1) = 1
    omega
  have e2 : HT.sIx (x :: zs).length (x :: zs).length none = zs.length + 1 := rfl
  unfold cutV
  rw [e1, e2]
  simp
theorem sqT_sm {H H' : Hp} {a : Addr} {xs : List V} (s : Same H H') (h : SqT K H a xs) : SqT K H' a xs := sqT_kp (Kp.of_same (S := fun _ => False) s) h
end

/-! the drawer's dict, as a list -/
def dkv (dr m st sh : Int) (lb : Addr) (i : Int) (ls : Addr) (g : Int) (t : List (Key × V)) : List (Key × V) := (.inr "draw", .int dr) :: (.inr "many", .int m) :: (.inr "step", .int st) :: (.inr "shift", .int sh) :: (.inr "blocks", .ref lb) :: (.inr "at", .int i) :: (.inr "scope", .ref ls) :: (.inr "digits", .int g) :: t
section
variable {dr m st sh i g : Int} {lb ls : Addr} {t : List (Key × V)}
theorem nk {a b : Str} (h : decide (a = b) = false) : ¬ (Sum.inr a : Key) = Sum.inr b := fun z => of_decide_eq_false h (Sum.inr.inj z)
theorem putK_hd {k : Key} {u v : V} {r : List (Key × V)} (h : ¬ k ∈ r.map (·.1)) : putK ((k, u) :: r) k v = (k, v) :: r := by
  unfold putK
  rw [if_pos (by simp)]
  rw [List.map_cons, if_pos rfl]
  congr 1
  refine (List.map_congr_left fun x hx => ?_).trans (List.map_id _)
  rw [if_neg fun z => h (List.mem_map.mpr ⟨x, hx, z⟩)]
  rfl
theorem putK_tl {k j : Key} {u v : V} {r : List (Key × V)} (h : ¬ j = k) : putK ((j, u) :: r) k v = (j, u) :: putK r k v := by
  unfold putK
  rw [List.any_cons, show decide ((j, u).1 = k) = false from decide_eq_false h, Bool.false_or]
  by_cases a : (r.any fun kv => decide (kv.1 = k)) = true
  · rw [if_pos a, if_pos a, List.map_cons, if_neg h]
  · rw [if_neg a, if_neg a, List.cons_append]
def oth (k : Str) (t : List (Key × V)) : Prop := ¬ (Sum.inr k : Key) ∈ t.map (·.1)
theorem dkv_draw : valV (dkv dr m st sh lb i ls g t) (.inr "draw") = some (.int dr) := by
  unfold dkv
  exact valV_pos rfl
theorem dkv_many : valV (dkv dr m st sh lb i ls g t) (.inr "many") = some (.int m) := by
  unfold dkv
  rw [valV_neg (nk (by decide +kernel))]
  exact valV_pos rfl
theorem dkv_step : valV (dkv dr m st sh lb i ls g t) (.inr "step") = some (.int st) := by
  unfold dkv
  rw [valV_neg (nk (by decide +kernel))]
  rw [valV_neg (nk (by decide +kernel))]
  exact valV_pos rfl
theorem dkv_shift : valV (dkv dr m st sh lb i ls g t) (.inr "shift") = some (.int sh) := by
  unfold dkv
  rw [valV_neg (nk (by decide +kernel))]
  rw [valV_neg (nk (by decide +kernel))]
  rw [valV_neg (nk (by decide +kernel))]
  exact valV_pos rfl
theorem dkv_blocks : valV (dkv dr m st sh lb i ls g t) (.inr "blocks") = some (.ref lb) := by
  unfold dkv
  rw [valV_neg (nk (by decide +kernel))]
  rw [valV_neg (nk (by decide +kernel))]
  rw [valV_neg (nk (by decide +kernel))]
  rw [valV_neg (nk (by decide +kernel))]
  exact valV_pos rfl
theorem dkv_at : valV (dkv dr m st sh lb i ls g t) (.inr "at") = some (.int i) := by
  unfold dkv
  rw [valV_neg (nk (by decide +kernel))]
  rw [valV_neg (nk (by decide +kernel))]
  rw [valV_neg (nk (by decide +kernel))]
  rw [valV_neg (nk (by decide +kernel))]
  rw [valV_neg (nk (by decide +kernel))]
  exact valV_pos rfl
theorem dkv_scope : valV (dkv dr m st sh lb i ls g t) (.inr "scope") = some (.ref ls) := by
  unfold dkv
  rw [valV_neg (nk (by decide +kernel))]
  rw [valV_neg (nk (by decide +kernel))]
  rw [valV_neg (nk (by decide +kernel))]
  rw [valV_neg (nk (by decide +kernel))]
  rw [valV_neg (nk (by decide +kernel))]
  rw [valV_neg (nk (by decide +kernel))]
  exact valV_pos rfl
theorem dkv_digits : valV (dkv dr m st sh lb i ls g t) (.inr "digits") = some (.int g) := by
  unfold dkv
  rw [valV_neg (nk (by decide +kernel))]
  rw [valV_neg (nk (by decide +kernel))]
  rw [valV_neg (nk (by decide +kernel))]
  rw [valV_neg (nk (by decide +kernel))]
  rw [valV_neg (nk (by decide +kernel))]
  rw [valV_neg (nk (by decide +kernel))]
  rw [valV_neg (nk (by decide +kernel))]
  exact valV_pos rfl
theorem dkp_draw {z : Int} (ht : oth "draw" t) : putK (dkv dr m st sh lb i ls g t) (.inr "draw") (.int z) = dkv z m st sh lb i ls g t := by
  unfold dkv
  rw [putK_hd]
  intro z
  simp only [List.map_cons, List.mem_cons] at z
  rcases z with z | z | z | z | z | z | z | z
  · exact nk (by decide +kernel) z
  · exact nk (by decide +kernel) z
  · exact nk (by decide +kernel) z
  · exact nk (by decide +kernel) z
  · exact nk (by decide +kernel) z
  · exact nk (by decide +kernel) z
  · exact nk (by decide +kernel) z
  · exact ht z
theorem dkp_many {z : Int} (ht : oth "many" t) : putK (dkv dr m st sh lb i ls g t) (.inr "many") (.int z) = dkv dr z st sh lb i ls g t := by
  unfold dkv
  rw [putK_tl (nk (by decide +kernel))]
  rw [putK_hd]
  intro z
  simp only [List.map_cons, List.mem_cons] at z
  rcases z with z | z | z | z | z | z | z
  · exact nk (by decide +kernel) z
  · exact nk (by decide +kernel) z
  · exact nk (by decide +kernel) z
  · exact nk (by decide +kernel) z
  · exact nk (by decide +kernel) z
  · exact nk (by decide +kernel) z
  · exact ht z
theorem dkp_step {z : Int} (ht : oth "step" t) : putK (dkv dr m st sh lb i ls g t) (.inr "step") (.int z) = dkv dr m z sh lb i ls g t := by
  unfold dkv
  rw [putK_tl (nk (by decide +kernel))]
  rw [putK_tl (nk (by decide +kernel))]
  rw [putK_hd]
  intro z
  simp only [List.map_cons, List.mem_cons] at z
  rcases z with z | z | z | z | z | z
  · exact nk (by decide +kernel) z
  · exact nk (by decide +kernel) z
  · exact nk (by decide +kernel) z
  · exact nk (by decide +kernel) z
  · exact nk (by decide +kernel) z
  · exact ht z
theorem dkp_shift {z : Int} (ht : oth "shift" t) : putK (dkv dr m st sh lb i ls g t) (.inr "shift") (.int z) = dkv dr m st z lb i ls g t := by
  unfold dkv
  rw [putK_tl (nk (by decide +kernel))]
  rw [putK_tl (nk (by decide +kernel))]
  rw [putK_tl (nk (by decide +kernel))]
  rw [putK_hd]
  intro z
  simp only [List.map_cons, List.mem_cons] at z
  rcases z with z | z | z | z | z
  · exact nk (by decide +kernel) z
  · exact nk (by decide +kernel) z
  · exact nk (by decide +kernel) z
  · exact nk (by decide +kernel) z
  · exact ht z
theorem dkp_blocks {z : Addr} (ht : oth "blocks" t) : putK (dkv dr m st sh lb i ls g t) (.inr "blocks") (.ref z) = dkv dr m st sh z i ls g t := by
  unfold dkv
  rw [putK_tl (nk (by decide +kernel))]
  rw [putK_tl (nk (by decide +kernel))]
  rw [putK_tl (nk (by decide +kernel))]
  rw [putK_tl (nk (by decide +kernel))]
  rw [putK_hd]
  intro z
  simp only [List.map_cons, List.mem_cons] at z
  rcases z with z | z | z | z
  · exact nk (by decide +kernel) z
  · exact nk (by decide +kernel) z
  · exact nk (by decide +kernel) z
  · exact ht z
theorem dkp_at {z : Int} (ht : oth "at" t) : putK (dkv dr m st sh lb i ls g t) (.inr "at") (.int z) = dkv dr m st sh lb z ls g t := by
  unfold dkv
  rw [putK_tl (nk (by decide +kernel))]
  rw [putK_tl (nk (by decide +kernel))]
  rw [putK_tl (nk (by decide +kernel))]
  rw [putK_tl (nk (by decide +kernel))]
  rw [putK_tl (nk (by decide +kernel))]
  rw [putK_hd]
  intro z
  simp only [List.map_cons, List.mem_cons] at z
  rcases z with z | z | z
  · exact nk (by decide +kernel) z
  · exact nk (by decide +kernel) z
  · exact ht z
theorem dkp_scope {z : Addr} (ht : oth "scope" t) : putK (dkv dr m st sh lb i ls g t) (.inr "scope") (.ref z) = dkv dr m st sh lb i z g t := by
  unfold dkv
  rw [putK_tl (nk (by decide +kernel))]
  rw [putK_tl (nk (by decide +kernel))]
  rw [putK_tl (nk (by decide +kernel))]
  rw [putK_tl (nk (by decide +kernel))]
  rw [putK_tl (nk (by decide +kernel))]
  rw [putK_tl (nk (by decide +kernel))]
  rw [putK_hd]
  intro z
  simp only [List.map_cons, List.mem_cons] at z
  rcases z with z | z
  · exact nk (by decide +kernel) z
  · exact ht z
theorem dkp_digits {z : Int} (ht : oth "digits" t) : putK (dkv dr m st sh lb i ls g t) (.inr "digits") (.int z) = dkv dr m st sh lb i ls z t := by
  unfold dkv
  rw [putK_tl (nk (by decide +kernel))]
  rw [putK_tl (nk (by decide +kernel))]
  rw [putK_tl (nk (by decide +kernel))]
  rw [putK_tl (nk (by decide +kernel))]
  rw [putK_tl (nk (by decide +kernel))]
  rw [putK_tl (nk (by decide +kernel))]
  rw [putK_tl (nk (by decide +kernel))]
  rw [putK_hd]
  intro z
  exact ht z
theorem dkv_tl {k : Str} (h : k ∉ (["draw", "many", "step", "shift", "blocks", "at", "scope", "digits"] : List Str)) : valV (dkv dr m st sh lb i ls g t) (.inr k) = valV t (.inr k) := by
  simp only [List.mem_cons, List.not_mem_nil, or_false, not_or] at h
  obtain ⟨h1, h2, h3, h4, h5, h6, h7, h8⟩ := h
  unfold dkv
  rw [valV_neg (fun z => h1 (Sum.inr.inj z).symm), valV_neg (fun z => h2 (Sum.inr.inj z).symm), valV_neg (fun z => h3 (Sum.inr.inj z).symm), valV_neg (fun z => h4 (Sum.inr.inj z).symm), valV_neg (fun z => h5 (Sum.inr.inj z).symm), valV_neg (fun z => h6 (Sum.inr.inj z).symm), valV_neg (fun z => h7 (Sum.inr.inj z).symm), valV_neg (fun z => h8 (Sum.inr.inj z).symm)]
theorem dkp_tl {k : Str} {z : V} (h : k ∉ (["draw", "many", "step", "shift", "blocks", "at", "scope", "digits"] : List Str)) : putK (dkv dr m st sh lb i ls g t) (.inr k) z = dkv dr m st sh lb i ls g (putK t (.inr k) z) := by
  simp only [List.mem_cons, List.not_mem_nil, or_false, not_or] at h
  obtain ⟨h1, h2, h3, h4, h5, h6, h7, h8⟩ := h
  unfold dkv
  rw [putK_tl (fun z => h1 (Sum.inr.inj z).symm), putK_tl (fun z => h2 (Sum.inr.inj z).symm), putK_tl (fun z => h3 (Sum.inr.inj z).symm), putK_tl (fun z => h4 (Sum.inr.inj z).symm), putK_tl (fun z => h5 (Sum.inr.inj z).symm), putK_tl (fun z => h6 (Sum.inr.inj z).symm), putK_tl (fun z => h7 (Sum.inr.inj z).symm), putK_tl (fun z => h8 (Sum.inr.inj z).symm)]
end

/-- a number of 32 bits -/
def In32 (a : Int) : Prop := -2147483648 ≤ a ∧ a ≤ 2147483647

/-! programs, in plain words -/
inductive Ex where
  | num (n : Int)
  | nam (x : Str)
  | at_ (r : Str) (e : Ex)
  | no (e : Ex)
  | op (w : Str) (a b : Ex)
inductive Sm where
  | set (x : Str) (e : Ex)
  | put (r : Str) (e f : Ex)
  | tell (e : Ex)
  | ite (e : Ex) (ys ns : List Sm)
  | loop (e : Ex) (b : List Sm)
  | call (x h : Str) (es : List Ex)
  | fail (n : Int)
  | give (e : Ex)
def Ex.d : Ex → PyData
  | .num n => .tuple [.str "number", .int n]
  | .nam x => .tuple [.str "name", .str x]
  | .at_ r e => .tuple [.str "at", .str r, e.d]
  | .no e => .tuple [.str "not", e.d]
  | .op w a b => .tuple [.str w, a.d, b.d]
mutual
def Sm.d : Sm → PyData
  | .set x e => .tuple [.str "set", .str x, e.d]
  | .put r e f => .tuple [.str "put", .str r, e.d, f.d]
  | .tell e => .tuple [.str "tell", e.d]
  | .ite e ys ns => .tuple [.str "if", e.d, .tuple (Sm.ds ys), .tuple (Sm.ds ns)]
  | .loop e b => .tuple [.str "while", e.d, .tuple (Sm.ds b)]
  | .call x h es => .tuple [.str "call", .str x, .str h, .tuple (es.map Ex.d)]
  | .fail n => .tuple [.str "fail", .int n]
  | .give e => .tuple [.str "give", e.d]
def Sm.ds : List Sm → List PyData
  | [] => []
  | s :: r => s.d :: Sm.ds r
end
theorem Sm.ds_eq : ∀ l : List Sm, Sm.ds l = l.map Sm.d
  | [] => by simp [Sm.ds]
  | s :: r => by rw [Sm.ds, Sm.ds_eq r]; rfl
theorem noLs_all {l : List PyData} (h : ∀ x ∈ l, nLd x = true) : nLs l = true := by
  induction l with
  | nil => rfl
  | cons x r ih =>
    unfold nLs
    rw [h x (List.mem_cons_self ..), ih fun y hy => h y (List.mem_cons_of_mem _ hy)]
    rfl
theorem Ex.noL : ∀ e : Ex, nLd e.d = true
  | .num _ => rfl
  | .nam _ => rfl
  | .at_ r e => by simp [Ex.d, nLd, nLs, Ex.noL e]
  | .no e => by simp [Ex.d, nLd, nLs, Ex.noL e]
  | .op w a b => by simp [Ex.d, nLd, nLs, Ex.noL a, Ex.noL b]
mutual
theorem Sm.noL : ∀ s : Sm, nLd s.d = true
  | .set x e => by simp [Sm.d, nLd, nLs, Ex.noL e]
  | .put r e f => by simp [Sm.d, nLd, nLs, Ex.noL e, Ex.noL f]
  | .tell e => by simp [Sm.d, nLd, nLs, Ex.noL e]
  | .ite e ys ns => by simp [Sm.d, nLd, nLs, Ex.noL e, Sm.noLs ys, Sm.noLs ns]
  | .loop e b => by simp [Sm.d, nLd, nLs, Ex.noL e, Sm.noLs b]
  | .call x h es => by
    have : nLs (es.map Ex.d) = true := noLs_all fun x hx => by
      obtain ⟨e, _, rfl⟩ := List.mem_map.mp hx
      exact Ex.noL e
    simp [Sm.d, nLd, nLs, this]
  | .fail n => rfl
  | .give e => by simp [Sm.d, nLd, nLs, Ex.noL e]
theorem Sm.noLs : ∀ l : List Sm, nLs (Sm.ds l) = true
  | [] => by simp [Sm.ds, nLs]
  | s :: r => by simp [Sm.ds, nLs, Sm.noL s, Sm.noLs r]
end

/-! tuples with no dict of their own -/
section
variable {X : Cx}
/-- a tuple without a dict -/
def TupZ (H : Hp) (p : Addr) (ys : List V) : Prop := ∃ ob : Obj, H p = some (.frz ob (.tup ys)) ∧ ob.dict = none
theorem TupZ.sq {K : PySem.W.Frag} {H : Hp} {p : Addr} {ys : List V} (h : TupZ H p ys) : SqT K H p ys := by
  obtain ⟨ob, e, _⟩ := h
  exact .inl (.inr ⟨ob, e⟩)
theorem TupZ.sm {H H' : Hp} {p : Addr} {ys : List V} (s : Same H H') (h : TupZ H p ys) : TupZ H' p ys := by
  obtain ⟨ob, e, d⟩ := h
  exact ⟨ob, s _ _ e, d⟩
theorem TupZ.kp {S : Addr → Prop} {H H' : Hp} {p : Addr} {ys : List V} (k : Kp S H H') (h : TupZ H p ys) : TupZ H' p ys := by
  obtain ⟨ob, e, d⟩ := h
  exact ⟨ob, k _ _ e fun _ z => z, d⟩
theorem call_tuple_ofZ : CallR X (.type "tuple") (fun xs H Q => ∃ p ys, xs = [.ref p] ∧ SqL X.K H p ys ∧ ∀ (l : Addr) (ob : Obj), H l = none → ob.dict = none → Q (.ref l) (upd H l (.frz ob (.tup ys)))) := by
  intro pins s σ H xs us Q I r h
  obtain ⟨p, ys, rfl, hq, q⟩ := h
  obtain ⟨u, rfl, rx⟩ := vals1 r
  cases rx
  obtain ⟨its, r', pl, hz⟩ := I.list hq
  have hlen := r'.length
  refine call_tuple_list pl.isList (fun h' kp => ?_) (by simp only [List.size_toArray] <;> omega)
  have I1 : Inv X pins σ H { s with heap := h' } := I.kept (t' := s.toks) kp
  have I2 : Inv X pins σ (upd H h'.objs.size (.frz { cls := .type "tuple", data := .seq its.toArray } (.tup ys))) { s with heap := h'.push { cls := .type "tuple", data := .seq its.toArray } } :=
    I1.laid (t' := s.toks) (fun b o e => Heap.get?_push_of_some _ e) (Nat.le_refl _) (show ObjOk X.prog X.w _ _ _ (.frz _ (.tup ys)) from ⟨Heap.get?_push_size _ rfl, hz, its, r', IsTup.new _ _⟩)
  exact ⟨.ref h'.objs.size, _, I2, rfl, q _ _ (I1.hok.fresh (Nat.le_refl _)) rfl⟩
end

/-! the drawer of works: its state, plain -/
structure GRow where
  v : Int
  w : Str
  as : List Int
def GRow.d (r : GRow) : PyData := .tuple (.int r.v :: .str r.w :: r.as.map PyData.int)
structure Way where
  t : Nat
  as : List Int
def Way.d (w : Way) : PyData := .tuple [.int w.t, .tuple (w.as.map PyData.int)]
inductive En where
  | fail (n : Int)
  | give (v : Int)
  | jump (w : Way)
  | choose (v : Int) (w1 w2 : Way)
  | call (h : Str) (as : List Int) (w : Way)
def En.d : En → PyData
  | .fail n => .tuple [.str "fail", .int n]
  | .give v => .tuple [.str "give", .int v]
  | .jump w => .tuple [.str "jump", w.d]
  | .choose v w1 w2 => .tuple [.str "choose", .int v, w1.d, w2.d]
  | .call h as w => .tuple [.str "call", .str h, .tuple (as.map PyData.int), w.d]
def pairD (p : Int × Int) : PyData := .tuple [.int p.1, .int p.2]
structure Blk where
  ps : List (Int × Int)
  rs : List GRow
  en : En
structure DSt where
  many : Nat
  step : Int
  shift : Int
  bls : List Blk
  at_ : Nat
  sc : List (Int × Int)
theorem ints_nl : ∀ l : List Int, nLs (l.map PyData.int) = true
  | [] => by simp [nLs]
  | a :: r => by rw [List.map_cons, nLs, ints_nl r]; simp [nLd]
theorem GRow.nl (r : GRow) : nLd r.d = true := by simp [GRow.d, nLd, nLs, ints_nl]
theorem Way.nl (w : Way) : nLd w.d = true := by simp [Way.d, nLd, nLs, ints_nl]
theorem En.nl : ∀ e : En, nLd e.d = true
  | .fail n => by simp [En.d, nLd, nLs]
  | .give v => by simp [En.d, nLd, nLs]
  | .jump w => by simp [En.d, nLd, nLs, w.nl]
  | .choose v w1 w2 => by simp [En.d, nLd, nLs, w1.nl, w2.nl]
  | .call h as w => by simp [En.d, nLd, nLs, w.nl, ints_nl]
theorem pairD_nl (p : Int × Int) : nLd (pairD p) = true := by simp [pairD, nLd, nLs]
theorem pairs_nl (l : List (Int × Int)) : nLs (l.map pairD) = true := noLs_all fun x hx => by
  obtain ⟨q, _, rfl⟩ := List.mem_map.mp hx
  exact pairD_nl q
theorem rows_nl (l : List GRow) : nLs (l.map GRow.d) = true := noLs_all fun x hx => by
  obtain ⟨q, _, rfl⟩ := List.mem_map.mp hx
  exact q.nl
/-- where it lies -/
structure WA where
  d : Addr
  lb : Addr
  ls : Addr
  t : List (Key × V)
  bs : List (Addr × Addr)
def adrs (bs : List (Addr × Addr)) : List Addr := bs.flatMap fun p => [p.1, p.2]
def WA.all (A : WA) : List Addr := A.d :: A.lb :: A.ls :: adrs A.bs
def WA.own (A : WA) (a : Addr) : Prop := a ∈ A.all
theorem adrs_1 {bs : List (Addr × Addr)} {p : Addr × Addr} (h : p ∈ bs) : p.1 ∈ adrs bs := List.mem_flatMap.mpr ⟨p, h, by simp⟩
theorem adrs_2 {bs : List (Addr × Addr)} {p : Addr × Addr} (h : p ∈ bs) : p.2 ∈ adrs bs := List.mem_flatMap.mpr ⟨p, h, by simp⟩
theorem adrs_app (a b : List (Addr × Addr)) : adrs (a ++ b) = adrs a ++ adrs b := by simp [adrs]
theorem own_d (A : WA) : A.own A.d := List.mem_cons_self ..
theorem own_lb (A : WA) : A.own A.lb := List.mem_cons_of_mem _ (List.mem_cons_self ..)
theorem own_ls (A : WA) : A.own A.ls := List.mem_cons_of_mem _ (List.mem_cons_of_mem _ (List.mem_cons_self ..))
theorem own_b {A : WA} {a : Addr} (h : a ∈ adrs A.bs) : A.own a := List.mem_cons_of_mem _ (List.mem_cons_of_mem _ (List.mem_cons_of_mem _ h))
section
variable {K : PySem.W.Frag}
/-- a block's params: a tuple with no dict -/
def PsV (K : PySem.W.Frag) (H : Hp) (v : V) (ps : List (Int × Int)) : Prop := ∃ a ys, v = .ref a ∧ TupZ H a ys ∧ DpAll K H ys (ps.map pairD)
theorem PsV.dp {H : Hp} {v : V} {ps : List (Int × Int)} (h : PsV K H v ps) : Dp K H v (.tuple (ps.map pairD)) := by
  obtain ⟨a, ys, rfl, z, d⟩ := h
  exact .tup z.sq d
theorem PsV.kp {S : Addr → Prop} {H H' : Hp} {v : V} {ps : List (Int × Int)} (k : Kp S H H') (h : PsV K H v ps) : PsV K H' v ps := by
  obtain ⟨a, ys, rfl, z, d⟩ := h
  exact ⟨a, ys, rfl, z.kp k, dpAll_kp k _ _ (pairs_nl _) d⟩
theorem PsV.sm {H H' : Hp} {v : V} {ps : List (Int × Int)} (s : Same H H') (h : PsV K H v ps) : PsV K H' v ps := h.kp (Kp.of_same (S := fun _ => False) s)
structure BlkAt (K : PySem.W.Frag) (H : Hp) (p : Addr × Addr) (b : Blk) : Prop where
  l : ∃ vp ve rvs, H p.1 = some (.lst [vp, .ref p.2, ve]) ∧ PsV K H vp b.ps ∧ Dp K H ve b.en.d ∧ H p.2 = some (.lst rvs) ∧ DpAll K H rvs (b.rs.map GRow.d)
theorem BlkAt.kp {S : Addr → Prop} {H H' : Hp} {p : Addr × Addr} {b : Blk} (h : BlkAt K H p b) (k : Kp S H H') (e1 : H' p.1 = H p.1) (e2 : H' p.2 = H p.2) : BlkAt K H' p b := by
  obtain ⟨vp, ve, rvs, h1, h2, h3, h4, h5⟩ := h.l
  exact ⟨vp, ve, rvs, e1.trans h1, h2.kp k, dp_kp k _ _ b.en.nl h3, e2.trans h4, dpAll_kp k _ _ (rows_nl _) h5⟩
structure BlksAt (K : PySem.W.Frag) (H : Hp) (ps : List (Addr × Addr)) (bs : List Blk) : Prop where
  len : ps.length = bs.length
  at_ : ∀ (i : Nat) (p : Addr × Addr) (b : Blk), ps[i]? = some p → bs[i]? = some b → BlkAt K H p b
def sz8 (l : List (Int × Int)) : Prop := ∀ p ∈ l, (0 ≤ p.2 ∧ p.2 ≤ 8) ∧ 0 ≤ p.1 ∧ p.1 < 9973
structure Bds (s : DSt) (n : Nat) : Prop where
  m : s.many ≤ n
  b : s.bls.length ≤ n
  a : s.at_ ≤ n
  c : s.sc.length ≤ n
  r : ∀ b ∈ s.bls, b.rs.length ≤ n ∧ b.ps.length ≤ 10 ∧ sz8 b.ps
  z : sz8 s.sc
theorem Bds.mono {s : DSt} {n k : Nat} (h : Bds s n) (l : n ≤ k) : Bds s k := ⟨Nat.le_trans h.m l, Nat.le_trans h.b l, Nat.le_trans h.a l, Nat.le_trans h.c l, fun b hb => ⟨Nat.le_trans (h.r b hb).1 l, (h.r b hb).2⟩, h.z⟩
def keys8 : List Str := ["draw", "many", "step", "shift", "blocks", "at", "scope", "digits"]
structure WS (K : PySem.W.Frag) (H : Hp) (A : WA) (s : DSt) (n : Nat) : Prop where
  dk : ∃ g dr : Int, 0 ≤ g ∧ H A.d = some (.dK (dkv dr s.many s.step s.shift A.lb s.at_ A.ls g A.t))
  lb : H A.lb = some (.lst (A.bs.map fun p => V.ref p.1))
  ls : ∃ svs, H A.ls = some (.lst svs) ∧ DpAll K H svs (s.sc.map pairD)
  bl : BlksAt K H A.bs s.bls
  nd : A.all.Nodup
  bd : Bds s n
  n6 : n ≤ 6000
  ot : ∀ k ∈ keys8, oth k A.t
  tl : A.t.length ≤ 1
theorem WS.mono {H : Hp} {A : WA} {s : DSt} {n k : Nat} (h : WS K H A s n) (l : n ≤ k) (k6 : k ≤ 6000) : WS K H A s k := ⟨h.dk, h.lb, h.ls, h.bl, h.nd, h.bd.mono l, k6, h.ot, h.tl⟩
theorem WS.there {H : Hp} {A : WA} {s : DSt} {n : Nat} (h : WS K H A s n) {a : Addr} (o : A.own a) : ∃ x, H a = some x ∧ Mut (some x) := by
  rcases List.mem_cons.mp o with rfl | o
  · obtain ⟨g, dr, _, e⟩ := h.dk
    exact ⟨_, e, trivial⟩
  rcases List.mem_cons.mp o with rfl | o
  · exact ⟨_, h.lb, trivial⟩
  rcases List.mem_cons.mp o with rfl | o
  · obtain ⟨svs, e, _⟩ := h.ls
    exact ⟨_, e, trivial⟩
  obtain ⟨p, hp, q⟩ := List.mem_flatMap.mp o
  obtain ⟨i, hi, e⟩ := List.mem_iff_getElem.mp hp
  have hi2 : i < s.bls.length := by rw [← h.bl.len]; exact hi
  obtain ⟨vp, ve, rvs, h1, _, _, h4, _⟩ := (h.bl.at_ i p s.bls[i] (by rw [List.getElem?_eq_getElem hi, e]) (List.getElem?_eq_getElem hi2)).l
  rcases List.mem_cons.mp q with rfl | q
  · exact ⟨_, h1, trivial⟩
  · rw [List.mem_singleton.mp q]
    exact ⟨_, h4, trivial⟩
/-- from heap to heap -/
structure Ext (H : Hp) (A : WA) (H' : Hp) (A' : WA) : Prop where
  k : Kp A.own H H'
  o : ∀ b, A'.own b → A.own b ∨ H b = none
  d : A'.d = A.d
  t : A'.t = A.t
theorem Ext.refl {H : Hp} {A : WA} : Ext H A H A := ⟨Kp.refl, fun _ h => .inl h, rfl, rfl⟩
theorem kp_none {S : Addr → Prop} {H H' : Hp} (k : Kp S H H') {b : Addr} (n : H' b = none) (m : ¬ S b) : H b = none := by
  cases e : H b with
  | none => rfl
  | some o =>
    rw [k b o e fun z => absurd z m] at n
    cases n
theorem Ext.trans {H H1 H2 : Hp} {A A1 A2 : WA} (a : Ext H A H1 A1) (b : Ext H1 A1 H2 A2) : Ext H A H2 A2 := by
  refine ⟨fun c o e k => ?_, fun c hc => ?_, b.d.trans a.d, b.t.trans a.t⟩
  · refine b.k c o (a.k c o e k) fun z => ?_
    rcases a.o c z with y | y
    · exact k y
    · rw [y] at e
      cases e
  · rcases b.o c hc with y | y
    · exact a.o c y
    · by_cases z : A.own c
      · exact .inl z
      · exact .inr (kp_none a.k y z)
theorem Ext.same {H H' : Hp} {A : WA} (s : Same H H') : Ext H A H' A := ⟨.of_same s, fun _ h => .inl h, rfl, rfl⟩
/-- what the drawer doesn't own stays -/
theorem Ext.keep {H H' : Hp} {A A' : WA} (e : Ext H A H' A') {b : Addr} {o : HO} (h : H b = some o) (n : ¬ A.own b) : H' b = some o := e.k b o h fun z => absurd z n
theorem Ext.off {H H' : Hp} {A A' : WA} (e : Ext H A H' A') {b : Addr} {o : HO} (h : H b = some o) (n : ¬ A.own b) : ¬ A'.own b := fun z => by
  rcases e.o b z with y | y
  · exact n y
  · rw [y] at h
    cases h
theorem Ext.dp {H H' : Hp} {A A' : WA} (e : Ext H A H' A') {v : V} {d : PyData} (n : nLd d = true) (h : Dp K H v d) : Dp K H' v d := dp_kp e.k _ _ n h
theorem Ext.dpAll {H H' : Hp} {A A' : WA} (e : Ext H A H' A') {v : List V} {d : List PyData} (n : nLs d = true) (h : DpAll K H v d) : DpAll K H' v d := dpAll_kp e.k _ _ n h
/-- a state by another heap -/
theorem WS.by {S : Addr → Prop} {H H' : Hp} {A : WA} {s : DSt} {n : Nat} (h : WS K H A s n) (k : Kp S H H') (e : ∀ a, A.own a → H' a = H a) : WS K H' A s n := by
  obtain ⟨⟨g, dr, g0, e1⟩, e2, ⟨svs, e3, e4⟩, b, nd, bd, n6, ot, tl⟩ := h
  exact ⟨⟨g, dr, g0, (e _ (own_d A)).trans e1⟩, (e _ (own_lb A)).trans e2, ⟨svs, (e _ (own_ls A)).trans e3, dpAll_kp k _ _ (pairs_nl _) e4⟩,
    ⟨b.len, fun i p x hp hx => (b.at_ i p x hp hx).kp k (e _ (own_b (adrs_1 (List.mem_of_getElem? hp)))) (e _ (own_b (adrs_2 (List.mem_of_getElem? hp))))⟩, nd, bd, n6, ot, tl⟩
theorem WS.sm {H H' : Hp} {A : WA} {s : DSt} {n : Nat} (h : WS K H A s n) (k : Same H H') : WS K H' A s n := h.by (Kp.of_same (S := fun _ => False) k) fun a o => by
  obtain ⟨x, e, _⟩ := h.there o
  rw [e]
  exact k _ _ e
/-- the dict written -/
theorem WS.put {H : Hp} {A : WA} {s s' : DSt} {n : Nat} {g dr : Int} (h : WS K H A s n) (g0 : 0 ≤ g) (e : s'.bls = s.bls) (e2 : s'.sc = s.sc) (bd : Bds s' n) :
    WS K (upd H A.d (.dK (dkv dr s'.many s'.step s'.shift A.lb s'.at_ A.ls g A.t))) A s' n ∧ Ext H A (upd H A.d (.dK (dkv dr s'.many s'.step s'.shift A.lb s'.at_ A.ls g A.t))) A := by
  obtain ⟨⟨g1, dr1, _, e1⟩, h2, ⟨svs, e3, e4⟩, b, nd, _, n6, ot, tl⟩ := h
  have k : Kp A.own H (upd H A.d (.dK (dkv dr s'.many s'.step s'.shift A.lb s'.at_ A.ls g A.t))) := Kp.upd e1 trivial (own_d A)
  have nd' := List.nodup_cons.mp nd
  have ne : ∀ a, a ∈ A.lb :: A.ls :: adrs A.bs → upd H A.d (.dK (dkv dr s'.many s'.step s'.shift A.lb s'.at_ A.ls g A.t)) a = H a := fun a ha => upd_ne fun z => nd'.1 (z ▸ ha)
  refine ⟨⟨⟨g, dr, g0, upd_same⟩, (ne _ (List.mem_cons_self ..)).trans h2, ⟨svs, (ne _ (List.mem_cons_of_mem _ (List.mem_cons_self ..))).trans e3, ?_⟩, ?_, nd, bd, n6, ot, tl⟩, k, fun _ z => .inl z, rfl, rfl⟩
  · rw [e2]
    exact dpAll_kp k _ _ (pairs_nl _) e4
  · rw [e]
    exact ⟨b.len, fun i p x hp hx => (b.at_ i p x hp hx).kp k (ne _ (List.mem_cons_of_mem _ (List.mem_cons_of_mem _ (adrs_1 (List.mem_of_getElem? hp))))) (ne _ (List.mem_cons_of_mem _ (List.mem_cons_of_mem _ (adrs_2 (List.mem_of_getElem? hp)))))⟩
end

section
variable {P : Program} {w : World} {K : PySem.W.Frag} {mg : Str → Option Value} {base : Heap}
theorem dget_k {H : Hp} {d : Addr} {kvs : List (Key × V)} {k : Str} {v : V} (e : H d = some (.dK kvs)) (l : valV kvs (.inr k) = some v) : DGet H d (.str k) (some v) := by
  have := DGet.k (k := .inr k) e
  rw [l] at this
  exact this
theorem dput_k {H : Hp} {d : Addr} {kvs : List (Key × V)} {k : Str} {v : V} (e : H d = some (.dK kvs)) (l : kvs.length ≤ 100) : DPut H d (.str k) v (upd H d (.dK (putK kvs (.inr k) v))) := DPut.k (k := .inr k) e (by rw [sizeLine_eq]; omega)
theorem dkv_len {dr m st sh i g : Int} {lb ls : Addr} {t : List (Key × V)} (h : t.length ≤ 1) : (dkv dr m st sh lb i ls g t).length ≤ 100 := by
  unfold dkv
  simp only [List.length_cons]
  omega
theorem upd_upd {H : Hp} {a : Addr} {o o2 : HO} : upd (upd H a o) a o2 = upd H a o2 := by
  funext b
  by_cases z : b = a
  · subst z
    rw [upd_same, upd_same]
  · rw [upd_ne z, upd_ne z, upd_ne z]
theorem m8 {k : Str} (h : (keys8.contains k) = true) : k ∈ keys8 := by
  simpa using h
def sp_next (K : PySem.W.Frag) : Sp := fun vs H Q _ => ∃ (A : WA) (s : DSt) (n : Nat) (k : Int), vs = [.ref A.d, .int k] ∧ WS K H A s n ∧ 0 < k ∧ k < 2 ^ 64 ∧ ∀ H' r, Ext H A H' A → WS K H' A s n → 0 ≤ r → r < k → Q (.int r) H'
theorem ok__law_next (T : Top K mg) : FnOk P w K mg base CX0 1 (He.ga K "_law_next") T.fd__law_next ["_law_s", "_law_size"] (sp_next K) := by
  refine T.F__law_next.ok sc__law_next (fun vs H Q E h => ?_) (fun cdv A0 outer s0 H vs Q E hr h => ?_)
  · obtain ⟨A, s, n, k, rfl, _⟩ := h
    rfl
  · obtain ⟨A, s, n, k, rfl, ws, k0, k1, q⟩ := h
    refine ⟨_, PSs.nox (pss_cons (ps_set (i := 2) sc__law_next.nd rfl (Or.inl rfl) (pe_dget (hu_of hr) (pv 0) pe_str (fun _ _ => rfl)))
        (pss_cons (ps_dput (hu_of hr) (pv 0) pe_str (pe_op op_fdivW (pv 2) (pv 1)) (by rfl))
        (pss_cons (ps_dput (hu_of hr) (pv 0) pe_str (pe_op op_mod (pe_op op_add (pe_op op_mul (pe_dget (hu_of hr) (pv 0) pe_str (fun _ _ => rfl)) pe_int) pe_int) pe_int) (by rfl))
        (pss_one (ps_ret (pe_op op_mod (pe_ifExp (pt_cmpR op_gt (pv 2) pe_int (nomark _)) (pv 2) (pe_op op_fdivW (pe_dget (hu_of hr) (pv 0) pe_str (fun _ _ => rfl)) pe_int)) (pv 1))))))), ?_⟩
    obtain ⟨g, dr, g0, e⟩ := ws.dk
    have cdk : ∀ z : Int, CDivW z k := fun z => wide_div (b := 64) k0 (by omega) (by decide) (by decide)
    refine ⟨_, rfl, _, _, rfl, dget_k e dkv_digits, ?_⟩
    refine ⟨_, rfl, _, rfl, _, _, rfl, rfl, cdk _, _, rfl, _, _, rfl, dput_k e (dkv_len ws.tl), ?_⟩
    rw [dkp_digits (ws.ot _ (m8 (by decide +kernel)))]
    have g1 : 0 ≤ g / k := Int.ediv_nonneg g0 (by omega)
    refine ⟨_, rfl, _, _, rfl, dget_k upd_same dkv_draw, _, _, rfl, rfl, .inr ⟨by decide, by decide⟩, _, _, rfl, rfl, _, _, rfl, rfl, (by show (0 : Int) < 2147483647; decide), _, rfl, _, _, rfl, dput_k upd_same (dkv_len ws.tl), ?_⟩
    rw [dkp_draw (ws.ot _ (m8 (by decide +kernel))), upd_upd]
    obtain ⟨w2, x2⟩ := ws.put (s' := s) (dr := (dr * 48271 + 11) % 2147483647) g1 rfl rfl ws.bd
    have fin : ∀ z : Int, Q (.int (z % k)) (upd H A.d (.dK (dkv ((dr * 48271 + 11) % 2147483647) s.many s.step s.shift A.lb s.at_ A.ls (g / k) A.t))) := fun z => q _ _ x2 w2 (Int.emod_nonneg _ (by omega)) (Int.emod_lt_of_pos _ k0)
    refine ⟨_, rfl, _, _, rfl, rfl, _, rfl, ?_⟩
    refine ite2 (fun _ => ?_) (fun _ => ?_)
    · exact ⟨_, rfl, _, rfl, _, _, rfl, rfl, k0, fin _⟩
    · exact ⟨_, rfl, _, _, rfl, dget_k upd_same dkv_draw, _, _, rfl, rfl, cd (by decide) (by decide), _, rfl, _, _, rfl, rfl, k0, fin _⟩
/-- a new value's number -/
def DSt.nv (s : DSt) : Int := (((s.many + 1 : Nat) : Int) * s.step + s.shift) % 9973
def DSt.new (s : DSt) : DSt := { s with many := s.many + 1 }
def Small (s : DSt) : Prop := 0 ≤ s.step ∧ s.step < 10000 ∧ 0 ≤ s.shift ∧ s.shift < 10000
def sp_new (K : PySem.W.Frag) : Sp := fun vs H Q _ => ∃ (A : WA) (s : DSt) (n : Nat), vs = [.ref A.d] ∧ WS K H A s n ∧ n < 6000 ∧ ∀ H', Ext H A H' A → WS K H' A s.new (n + 1) → Q (.int s.nv) H'
end

section
variable {P : Program} {w : World} {K : PySem.W.Frag} {mg : Str → Option Value} {base : Heap}
theorem Ext.lay {H H1 : Hp} {A : WA} {L : Addr} {o : HO} (x : Ext H A H1 A) (n : H1 L = none) : Ext H A (upd H1 L o) A := x.trans (.same (same_new n))
theorem WS.lay {H : Hp} {A : WA} {s : DSt} {n : Nat} {L : Addr} {o : HO} (h : WS K H A s n) (z : H L = none) : WS K (upd H L o) A s n := h.sm (same_new z)
theorem WS.off {H : Hp} {A : WA} {s : DSt} {n : Nat} {L : Addr} (h : WS K H A s n) (z : H L = none) : ¬ A.own L := fun y => by
  obtain ⟨x, e, _⟩ := h.there y
  rw [z] at e
  cases e
def sp_number (K : PySem.W.Frag) : Sp := fun vs H Q _ => ∃ (A : WA) (s : DSt) (n : Nat), vs = [.ref A.d] ∧ WS K H A s n ∧ ∀ H' r, Ext H A H' A → WS K H' A s n → In32 r → Q (.int r) H'
theorem ok__law_number (T : Top K mg) : FnOk P w K mg base CX0 2 (He.ga K "_law_number") T.fd__law_number ["_law_s"] (sp_number K) := by
  have G__law_next := ok__law_next (P := P) (w := w) (base := base) T
  refine T.F__law_number.ok sc__law_number (fun vs H Q E h => ?_) (fun cdv A0 outer s0 H vs Q E hr h => ?_)
  · obtain ⟨A, s, n, rfl, _⟩ := h
    rfl
  · obtain ⟨A, s, n, rfl, ws, q⟩ := h
    refine ⟨_, PSs.nox (pss_cons (ps_if (PW.pt (pw_and (pt_cmpR op_gt (pe_dget (hu_of hr) (pv 0) pe_str (fun _ _ => rfl)) pe_int (nomark _)) (pw_and1 (pt_cmpR op_eq (pe_call G__law_next (hr.mono (by omega)) (by rfl) T.g__law_next T.F__law_next.kp T.b__law_next .nil pass0 (pa_cons (pv 0) (pa_cons pe_int pa_nil))) pe_int (nomark _))))) (pss_one (ps_ret (pe_op op_sub (pe_call G__law_next (hr.mono (by omega)) (by rfl) T.g__law_next T.F__law_next.kp T.b__law_next .nil pass0 (pa_cons (pv 0) (pa_cons pe_int pa_nil))) pe_int))) pss_nil)
        (pss_cons (ps_set (i := 1) sc__law_number.nd rfl (Or.inl rfl) (pe_ix ix_list (pe_lst (pa_cons pe_int (pa_cons (pe_un un_neg pe_int) (pa_cons pe_int (pa_cons (pe_un un_neg pe_int) (pa_cons pe_int pa_nil)))))) (pe_call G__law_next (hr.mono (by omega)) (by rfl) T.g__law_next T.F__law_next.kp T.b__law_next .nil pass0 (pa_cons (pv 0) (pa_cons pe_int pa_nil))) (fun _ _ => rfl)))
        (pss_one (ps_ret (pe_ix ix_list (pe_lst (pa_cons (pe_call G__law_next (hr.mono (by omega)) (by rfl) T.g__law_next T.F__law_next.kp T.b__law_next .nil pass0 (pa_cons (pv 0) (pa_cons pe_int pa_nil))) (pa_cons (pe_op op_sub (pe_call G__law_next (hr.mono (by omega)) (by rfl) T.g__law_next T.F__law_next.kp T.b__law_next .nil pass0 (pa_cons (pv 0) (pa_cons pe_int pa_nil))) pe_int) (pa_cons pe_int (pa_cons pe_int (pa_cons (pv 1) (pa_cons (pe_call G__law_next (hr.mono (by omega)) (by rfl) T.g__law_next T.F__law_next.kp T.b__law_next .nil pass0 (pa_cons (pv 0) (pa_cons pe_int pa_nil))) pa_nil))))))) (pe_call G__law_next (hr.mono (by omega)) (by rfl) T.g__law_next T.F__law_next.kp T.b__law_next .nil pass0 (pa_cons (pv 0) (pa_cons pe_int pa_nil))) (fun _ _ => rfl)))))), ?_⟩
    obtain ⟨g, dr, g0, e⟩ := ws.dk
    dsimp only [gName]
    refine ifs_by (fun σ' H' => Ext H A H' A ∧ WS K H' A s n ∧ σ' = [some (.ref A.d), none]) ?_ ?_
    · rintro σ' H0 ⟨x0, w0, rfl⟩
      refine ⟨_, rfl, _, rfl, (by show 5 ≤ sizeLine; rw [sizeLine_eq]; decide), fun L nL => ?_⟩
      have x1 := x0.lay (o := .lst (([2147483647, -2147483648, 65536, -7, 100] : List Int).map V.int)) nL
      have w1 := w0.lay (o := .lst (([2147483647, -2147483648, 65536, -7, 100] : List Int).map V.int)) nL
      have oL := w0.off nL
      refine ⟨_, rfl, A, s, n, 5, rfl, w1, by decide, by decide, fun H2 r2 x2 w2 a2 b2 => ?_⟩
      have eL := x2.keep upd_same oL
      refine ⟨L, _, r2, _, rfl, rfl, .inl (.of eL), at_ints (ns := [2147483647, -2147483648, 65536, -7, 100]) a2 (by show r2 < ((5 : Nat) : Int); omega), ?_⟩
      have far : In32 (([2147483647, -2147483648, 65536, -7, 100] : List Int).getD r2.toNat 0) := getD_all (fun y hy => by
        simp only [List.mem_cons, List.not_mem_nil, or_false] at hy
        unfold In32
        omega) a2 (by show r2 < ((5 : Nat) : Int); omega)
      generalize ([2147483647, -2147483648, 65536, -7, 100] : List Int).getD r2.toNat 0 = fz at far
      have x02 := x1.trans x2
      refine ⟨_, rfl, A, s, n, 4, rfl, w2, by decide, by decide, fun H3 r3 x3 w3 a3 b3 => ?_⟩
      refine ⟨_, rfl, A, s, n, 9, rfl, w3, by decide, by decide, fun H4 r4 x4 w4 a4 b4 => ?_⟩
      refine ⟨_, _, rfl, rfl, _, rfl, _, rfl, A, s, n, 3, rfl, w4, by decide, by decide, fun H5 r5 x5 w5 a5 b5 => ?_⟩
      refine ⟨(by show 6 ≤ sizeLine; rw [sizeLine_eq]; decide), fun M nM => ?_⟩
      have oM := w5.off nM
      refine ⟨_, rfl, A, s, n, 6, rfl, w5.lay (o := .lst (([r3, r4 - 4, 0, 1, fz, r5] : List Int).map V.int)) nM, by decide, by decide, fun H6 r6 x6 w6 a6 b6 => ?_⟩
      have eM := x6.keep upd_same oM
      refine ⟨M, _, r6, _, rfl, rfl, .inl (.of eM), at_ints (ns := [r3, r4 - 4, 0, 1, fz, r5]) a6 (by show r6 < ((6 : Nat) : Int); omega), ?_⟩
      refine q _ _ (((((x02.trans x3).trans x4).trans x5).lay nM).trans x6) w6 (getD_all (fun y hy => ?_) a6 (by show r6 < ((6 : Nat) : Int); omega))
      simp only [List.mem_cons, List.not_mem_nil, or_false] at hy
      obtain ⟨f1, f2⟩ := far
      unfold In32
      omega
    · intro N hN
      refine ⟨_, rfl, _, _, rfl, dget_k e dkv_digits, _, _, rfl, rfl, _, rfl, ite2 (fun _ => ?_) (fun _ => hN _ _ ⟨.refl, ws, rfl⟩)⟩
      refine ⟨_, rfl, A, s, n, 4, rfl, ws, by decide, by decide, fun H1 r1 x1 w1 a1 b1 => ?_⟩
      refine ⟨rfl, _, rfl, ite2 (fun _ => ?_) (fun _ => hN _ _ ⟨x1, w1, rfl⟩)⟩
      refine ⟨_, rfl, A, s, n, 4294967296, rfl, w1, by decide, by decide, fun H2 r2 x2 w2 a2 b2 => ?_⟩
      refine ⟨_, _, rfl, rfl, q _ _ (x1.trans x2) w2 ?_⟩
      unfold In32
      omega
theorem shaped_ints : ∀ xs : List Int, SeqAt.shaped (.list (xs.map PyData.int)) = true := by
  have h1 : ∀ l : List Int, PyData.canLayAll0 (l.map PyData.int) = true := by
    intro l
    induction l with
    | nil => rfl
    | cons x r ih =>
      show PyData.canLayAll0 (PyData.int x :: r.map PyData.int) = true
      unfold PyData.canLayAll0
      rw [ih]
      rfl
  have h2 : ∀ l : List Int, PyData.depthAll (l.map PyData.int) ≤ 1 := by
    intro l
    induction l with
    | nil => decide
    | cons x r ih =>
      show PyData.depthAll (PyData.int x :: r.map PyData.int) ≤ 1
      unfold PyData.depthAll
      have : (PyData.int x).depth ≤ 1 := by unfold PyData.depth; decide
      omega
  intro xs
  unfold SeqAt.shaped
  rw [Bool.and_eq_true]
  refine ⟨?_, decide_eq_true ?_⟩
  · unfold PyData.canLay0
    exact h1 xs
  · have := h2 xs
    unfold PyData.depth
    omega
theorem eqv_ints_nil (xl : List Int) : PyData.eqv (.list (xl.map PyData.int)) (.list []) = xl.isEmpty := by
  cases xl with
  | nil => exact SeqAt.eqv_refl _ rfl
  | cons x r => simp [PyData.eqv, PyData.eqvAll]
theorem ints_dpAll {H : Hp} : ∀ (zs : List Int), DpAll K H (zs.map V.int) (zs.map PyData.int)
  | [] => .nil
  | z :: zs => .cons (.int z) (ints_dpAll zs)
/-- the values of a scope: rows (true) or numbers -/
def kept (b : Bool) (sc : List (Int × Int)) : List Int := (sc.filter fun p => decide (decide (0 < p.2) = b)).map (·.1)
theorem sc_at {H : Hp} {sc : List (Int × Int)} {svs : List V} {i : Nat} {y : V} (d : DpAll K H svs (sc.map pairD)) (h : svs[i]? = some y) : ∃ a b q, sc[i]? = some (a, b) ∧ y = .ref q ∧ SqT K H q [.int a, .int b] := by
  obtain ⟨e, he, hd⟩ := dpAll_getV d h
  rw [List.getElem?_map] at he
  cases hs : sc[i]? with
  | none => rw [hs] at he; cases he
  | some p =>
    rw [hs] at he
    cases he
    obtain ⟨q, xs, rfl, hq, hx⟩ := dp_tup hd
    obtain ⟨v1, r1, rfl, d1, t1⟩ := dpAll_cons hx
    obtain ⟨v2, r2, rfl, d2, t2⟩ := dpAll_cons t1
    rw [dp_int d1, dp_int d2, dpAll_nil t2] at hq
    exact ⟨p.1, p.2, q, rfl, rfl, hq⟩
theorem take_flt {α β : Type} {f : α → Bool} {g : α → β} {l : List α} {i : Nat} {x : α} (h : l[i]? = some x) : ((l.take (i + 1)).filter f).map g = ((l.take i).filter f).map g ++ (if f x = true then [g x] else []) := by
  have hi := (List.getElem?_eq_some_iff.mp h).1
  have e := (List.getElem?_eq_some_iff.mp h).2
  rw [List.take_succ, h, List.filter_append, List.map_append]
  congr 1
  by_cases z : f x = true
  · simp [z]
  · simp [z]
def Picked (sc : List (Int × Int)) (b : Bool) (r : Int) : Prop := (r = -1 ∧ kept b sc = []) ∨ r ∈ kept b sc
theorem kept_mem {b : Bool} {sc : List (Int × Int)} {r : Int} (h : r ∈ kept b sc) : ∃ z, (r, z) ∈ sc ∧ decide (0 < z) = b := by
  obtain ⟨p, hp, rfl⟩ := List.mem_map.mp h
  obtain ⟨h1, h2⟩ := List.mem_filter.mp hp
  exact ⟨p.2, h1, of_decide_eq_true h2⟩
theorem kept_nn {b : Bool} {sc : List (Int × Int)} {r : Int} (z : sz8 sc) (h : r ∈ kept b sc) : 0 ≤ r := by
  obtain ⟨k, hk, _⟩ := kept_mem h
  exact (z _ hk).2.1
def sp_pick (K : PySem.W.Frag) : Sp := fun vs H Q _ => ∃ (A : WA) (s : DSt) (n : Nat) (b : Bool), vs = [.ref A.d, .bl b] ∧ WS K H A s n ∧ ∀ H' r, Ext H A H' A → WS K H' A s n → Picked s.sc b r → Q (.int r) H'
end

section
variable {P : Program} {w : World} {K : PySem.W.Frag} {mg : Str → Option Value} {base : Heap}
theorem at_intsM {ns : List Int} {i : Int} (h0 : 0 ≤ i) (h1 : i < ns.length) : ∃ z ∈ ns, atI (ns.map V.int) i = some (.int z) := by
  obtain ⟨x, hx, e⟩ := at_list (ns := ns.map V.int) h0 (by rw [List.length_map]; exact h1)
  obtain ⟨z, hz, rfl⟩ := List.mem_map.mp hx
  exact ⟨z, hz, e⟩
theorem adrs_ne : ∀ {bs : List (Addr × Addr)} {i j : Nat} {p q : Addr × Addr}, (adrs bs).Nodup → bs[i]? = some p → bs[j]? = some q → i ≠ j → (p.1 ≠ q.1 ∧ p.1 ≠ q.2) ∧ p.2 ≠ q.1 ∧ p.2 ≠ q.2
  | [], i, j, p, q, _, h, _, _ => by simp at h
  | b :: r, i, j, p, q, nd, hp, hq, hij => by
    have e : adrs (b :: r) = b.1 :: b.2 :: adrs r := rfl
    rw [e] at nd
    have n1 := List.nodup_cons.mp nd
    have n2 := List.nodup_cons.mp n1.2
    have f1 : ∀ {x}, x ∈ adrs r → b.1 ≠ x ∧ b.2 ≠ x := fun hx => ⟨fun z => n1.1 (List.mem_cons_of_mem _ (z ▸ hx)), fun z => n2.1 (z ▸ hx)⟩
    cases i with
    | zero =>
      cases j with
      | zero => exact absurd rfl hij
      | succ j =>
        cases hp
        have hq' : r[j]? = some q := hq
        have m := List.mem_of_getElem? hq'
        exact ⟨⟨(f1 (adrs_1 m)).1, (f1 (adrs_2 m)).1⟩, (f1 (adrs_1 m)).2, (f1 (adrs_2 m)).2⟩
    | succ i =>
      have hp' : r[i]? = some p := hp
      cases j with
      | zero =>
        cases hq
        have m := List.mem_of_getElem? hp'
        exact ⟨⟨(f1 (adrs_1 m)).1.symm, (f1 (adrs_1 m)).2.symm⟩, (f1 (adrs_2 m)).1.symm, (f1 (adrs_2 m)).2.symm⟩
      | succ j => exact adrs_ne n2.2 hp' hq fun z => hij (by rw [z])
theorem adrs_12 {bs : List (Addr × Addr)} (nd : (adrs bs).Nodup) {p : Addr × Addr} (h : p ∈ bs) : p.1 ≠ p.2 := by
  induction bs with
  | nil => cases h
  | cons b r ih =>
    have e : adrs (b :: r) = b.1 :: b.2 :: adrs r := rfl
    rw [e] at nd
    have n1 := List.nodup_cons.mp nd
    rcases List.mem_cons.mp h with rfl | h
    · exact fun z => n1.1 (z ▸ List.mem_cons_self ..)
    · exact ih (List.nodup_cons.mp n1.2).2 h
structure Nd (A : WA) : Prop where
  d : ∀ a, a = A.lb ∨ a = A.ls ∨ a ∈ adrs A.bs → a ≠ A.d
  lb : ∀ a, a = A.ls ∨ a ∈ adrs A.bs → a ≠ A.lb
  ls : ∀ a, a ∈ adrs A.bs → a ≠ A.ls
  bs : (adrs A.bs).Nodup
theorem nd_of {A : WA} (h : A.all.Nodup) : Nd A := by
  have h1 := List.nodup_cons.mp h
  have h2 := List.nodup_cons.mp h1.2
  have h3 := List.nodup_cons.mp h2.2
  refine ⟨fun a ha z => h1.1 ?_, fun a ha z => h2.1 ?_, fun a ha z => h3.1 (z ▸ ha), h3.2⟩
  · rw [← z]
    rcases ha with rfl | rfl | ha
    · exact List.mem_cons_self ..
    · exact List.mem_cons_of_mem _ (List.mem_cons_self ..)
    · exact List.mem_cons_of_mem _ (List.mem_cons_of_mem _ ha)
  · rw [← z]
    rcases ha with rfl | ha
    · exact List.mem_cons_self ..
    · exact List.mem_cons_of_mem _ ha
/-- one block changed -/
def modB (f : Blk → Blk) : Nat → List Blk → List Blk
  | _, [] => []
  | 0, b :: r => f b :: r
  | i + 1, b :: r => b :: modB f i r
theorem modB_len (f : Blk → Blk) : ∀ (i : Nat) (l : List Blk), (modB f i l).length = l.length
  | _, [] => by simp [modB]
  | 0, b :: r => by simp [modB]
  | i + 1, b :: r => by simp [modB, modB_len f i r]
theorem modB_at (f : Blk → Blk) : ∀ (i j : Nat) (l : List Blk), (modB f i l)[j]? = if j = i then l[j]?.map f else l[j]?
  | i, j, [] => by simp [modB]
  | 0, 0, b :: r => by simp [modB]
  | 0, j + 1, b :: r => by simp [modB]
  | i + 1, 0, b :: r => by simp [modB]
  | i + 1, j + 1, b :: r => by
    have := modB_at f i j r
    simp only [modB, List.getElem?_cons_succ, this, Nat.add_right_cancel_iff]
theorem modB_mem {f : Blk → Blk} {i : Nat} {l : List Blk} {b : Blk} (h : b ∈ modB f i l) : b ∈ l ∨ ∃ c, l[i]? = some c ∧ b = f c := by
  obtain ⟨j, hj⟩ := List.getElem?_of_mem h
  rw [modB_at] at hj
  by_cases z : j = i
  · rw [if_pos z] at hj
    subst z
    cases e : l[j]? with
    | none => rw [e] at hj; cases hj
    | some c =>
      rw [e] at hj
      cases hj
      exact .inr ⟨c, rfl, rfl⟩
  · rw [if_neg z] at hj
    exact .inl (List.mem_of_getElem? hj)
theorem BlksAt.mod {S : Addr → Prop} {H H' : Hp} {bs : List (Addr × Addr)} {l : List Blk} {i : Nat} {f : Blk → Blk} (h : BlksAt K H bs l) (k : Kp S H H') (hi : ∀ p b, bs[i]? = some p → l[i]? = some b → BlkAt K H' p (f b))
    (ho : ∀ j p, j ≠ i → bs[j]? = some p → H' p.1 = H p.1 ∧ H' p.2 = H p.2) : BlksAt K H' bs (modB f i l) := by
  refine ⟨by rw [modB_len]; exact h.len, fun j p b hp hb => ?_⟩
  rw [modB_at] at hb
  by_cases z : j = i
  · rw [if_pos z] at hb
    subst z
    cases e : l[j]? with
    | none => rw [e] at hb; cases hb
    | some c =>
      rw [e] at hb
      cases hb
      exact hi p c hp e
  · rw [if_neg z] at hb
    exact (h.at_ j p b hp hb).kp k (ho j p z hp).1 (ho j p z hp).2
/-- a block's parts -/
theorem WS.blk {H : Hp} {A : WA} {s : DSt} {n i : Nat} (h : WS K H A s n) (hi : i < s.bls.length) : ∃ (p : Addr × Addr) (b : Blk) (vp ve : V) (rvs : List V), A.bs[i]? = some p ∧ s.bls[i]? = some b ∧ (A.bs.map fun p => V.ref p.1)[i]? = some (.ref p.1) ∧
    H p.1 = some (.lst [vp, .ref p.2, ve]) ∧ Dp K H vp (.tuple (b.ps.map pairD)) ∧ Dp K H ve b.en.d ∧ H p.2 = some (.lst rvs) ∧ DpAll K H rvs (b.rs.map GRow.d) ∧ rvs.length ≤ n ∧ A.own p.1 ∧ A.own p.2 := by
  have hj : i < A.bs.length := by rw [h.bl.len]; exact hi
  have e1 := List.getElem?_eq_getElem hj
  have e2 := List.getElem?_eq_getElem hi
  obtain ⟨vp, ve, rvs, h1, h2, h3, h4, h5⟩ := (h.bl.at_ i _ _ e1 e2).l
  have l5 := dpAll_len h5
  rw [List.length_map] at l5
  have lb := (h.bd.r _ (List.mem_of_getElem? e2)).1
  exact ⟨_, _, vp, ve, rvs, e1, e2, by rw [List.getElem?_map, e1]; rfl, h1, h2.dp, h3, h4, h5, by omega, own_b (adrs_1 (List.mem_of_getElem? e1)), own_b (adrs_2 (List.mem_of_getElem? e1))⟩
theorem WS.blkP {H : Hp} {A : WA} {s : DSt} {n i : Nat} (h : WS K H A s n) (hi : i < s.bls.length) : ∃ (p : Addr × Addr) (b : Blk) (vp ve : V) (rvs : List V), A.bs[i]? = some p ∧ s.bls[i]? = some b ∧ (A.bs.map fun p => V.ref p.1)[i]? = some (.ref p.1) ∧
    H p.1 = some (.lst [vp, .ref p.2, ve]) ∧ PsV K H vp b.ps ∧ Dp K H ve b.en.d ∧ H p.2 = some (.lst rvs) ∧ DpAll K H rvs (b.rs.map GRow.d) ∧ rvs.length ≤ n := by
  have hj : i < A.bs.length := by rw [h.bl.len]; exact hi
  have e1 := List.getElem?_eq_getElem hj
  have e2 := List.getElem?_eq_getElem hi
  obtain ⟨vp, ve, rvs, h1, h2, h3, h4, h5⟩ := (h.bl.at_ i _ _ e1 e2).l
  have l5 := dpAll_len h5
  rw [List.length_map] at l5
  have lb := (h.bd.r _ (List.mem_of_getElem? e2)).1
  exact ⟨_, _, vp, ve, rvs, e1, e2, by rw [List.getElem?_map, e1]; rfl, h1, h2, h3, h4, h5, by omega⟩
/-- rows of a block changed -/
theorem WS.rows {H : Hp} {A : WA} {s : DSt} {n n' i : Nat} {p : Addr × Addr} {f : Blk → Blk} {rvs rvs' : List V} {b : Blk} (h : WS K H A s n) (hp : A.bs[i]? = some p) (hb : s.bls[i]? = some b) (e : H p.2 = some (.lst rvs)) (d : DpAll K H rvs' ((f b).rs.map GRow.d))
    (fp : (f b).ps = b.ps) (fe : (f b).en = b.en) (ln : n ≤ n') (n6 : n' ≤ 6000) (rl : (f b).rs.length ≤ n') :
    WS K (upd H p.2 (.lst rvs')) A { s with bls := modB f i s.bls } n' ∧ Ext H A (upd H p.2 (.lst rvs')) A := by
  have nd := nd_of h.nd
  have m := List.mem_of_getElem? hp
  have k : Kp A.own H (upd H p.2 (.lst rvs')) := Kp.upd e trivial (own_b (adrs_2 m))
  obtain ⟨⟨g, dr, g0, e1⟩, e2, ⟨svs, e3, e4⟩, bl, nd0, bd, _, ot, tl⟩ := h
  have bd' := bd.mono ln
  refine ⟨⟨⟨g, dr, g0, (upd_ne (nd.d _ (.inr (.inr (adrs_2 m)))).symm).trans e1⟩, (upd_ne (nd.lb _ (.inr (adrs_2 m))).symm).trans e2, ⟨svs, (upd_ne (nd.ls _ (adrs_2 m)).symm).trans e3, dpAll_kp k _ _ (pairs_nl _) e4⟩,
    bl.mod k (fun p2 b2 hp2 hb2 => ?_) (fun j q hj hq => ?_), nd0, ⟨bd'.m, by rw [modB_len]; exact bd'.b, bd'.a, bd'.c, fun c hc => ?_, bd'.z⟩, n6, ot, tl⟩, k, fun _ z => .inl z, rfl, rfl⟩
  · rw [hp] at hp2
    rw [hb] at hb2
    cases hp2
    cases hb2
    obtain ⟨vp, ve, rv, h1, h2, h3, h4, h5⟩ := (bl.at_ i p b hp hb).l
    exact ⟨vp, ve, rvs', (upd_ne (adrs_12 nd.bs m)).trans h1, by rw [fp]; exact h2.kp k, by rw [fe]; exact dp_kp k _ _ b.en.nl h3, upd_same, dpAll_kp k _ _ (rows_nl _) d⟩
  · have := adrs_ne nd.bs hq hp hj
    exact ⟨upd_ne this.1.2, upd_ne this.2.2⟩
  · rcases modB_mem hc with hc | ⟨c2, hc2, rfl⟩
    · exact bd'.r c hc
    · rw [hb] at hc2
      cases hc2
      have := bd'.r b (List.mem_of_getElem? hb)
      rw [fp]
      exact ⟨rl, this.2⟩
/-- a block's end changed -/
theorem WS.end {H : Hp} {A : WA} {s : DSt} {n i : Nat} {p : Addr × Addr} {vp v0 ve : V} {b : Blk} {en : En} (h : WS K H A s n) (hp : A.bs[i]? = some p) (hb : s.bls[i]? = some b) (e : H p.1 = some (.lst [vp, .ref p.2, v0])) (d : Dp K H ve en.d) :
    WS K (upd H p.1 (.lst [vp, .ref p.2, ve])) A { s with bls := modB (fun b => { b with en := en }) i s.bls } n ∧ Ext H A (upd H p.1 (.lst [vp, .ref p.2, ve])) A := by
  have nd := nd_of h.nd
  have m := List.mem_of_getElem? hp
  have k : Kp A.own H (upd H p.1 (.lst [vp, .ref p.2, ve])) := Kp.upd e trivial (own_b (adrs_1 m))
  obtain ⟨⟨g, dr, g0, e1⟩, e2, ⟨svs, e3, e4⟩, bl, nd0, bd, n6, ot, tl⟩ := h
  refine ⟨⟨⟨g, dr, g0, (upd_ne (nd.d _ (.inr (.inr (adrs_1 m)))).symm).trans e1⟩, (upd_ne (nd.lb _ (.inr (adrs_1 m))).symm).trans e2, ⟨svs, (upd_ne (nd.ls _ (adrs_1 m)).symm).trans e3, dpAll_kp k _ _ (pairs_nl _) e4⟩,
    bl.mod k (fun p2 b2 hp2 hb2 => ?_) (fun j q hj hq => ?_), nd0, ⟨bd.m, by rw [modB_len]; exact bd.b, bd.a, bd.c, fun c hc => ?_, bd.z⟩, n6, ot, tl⟩, k, fun _ z => .inl z, rfl, rfl⟩
  · rw [hp] at hp2
    rw [hb] at hb2
    cases hp2
    cases hb2
    obtain ⟨vp2, ve2, rv, h1, h2, h3, h4, h5⟩ := (bl.at_ i p b hp hb).l
    rw [e] at h1
    cases h1
    exact ⟨vp, ve, rv, upd_same, h2.kp k, dp_kp k _ _ en.nl d, (upd_ne (adrs_12 nd.bs m).symm).trans h4, dpAll_kp k _ _ (rows_nl _) h5⟩
  · have := adrs_ne nd.bs hq hp hj
    exact ⟨upd_ne this.1.1, upd_ne this.2.1⟩
  · rcases modB_mem hc with hc | ⟨c2, hc2, rfl⟩
    · exact bd.r c hc
    · rw [hb] at hc2
      cases hc2
      exact bd.r b (List.mem_of_getElem? hb)
/-- the scope appended -/
theorem WS.scope {H : Hp} {A : WA} {s : DSt} {n n' : Nat} {svs svs' : List V} {sc : List (Int × Int)} (h : WS K H A s n) (e : H A.ls = some (.lst svs)) (d : DpAll K H svs' (sc.map pairD)) (z : sz8 sc) (l : sc.length ≤ n') (ln : n ≤ n') (n6 : n' ≤ 6000) :
    WS K (upd H A.ls (.lst svs')) A { s with sc := sc } n' ∧ Ext H A (upd H A.ls (.lst svs')) A := by
  have nd := nd_of h.nd
  have k : Kp A.own H (upd H A.ls (.lst svs')) := Kp.upd e trivial (own_ls A)
  obtain ⟨⟨g, dr, g0, e1⟩, e2, _, bl, nd0, bd, _, ot, tl⟩ := h
  have bd' := bd.mono ln
  refine ⟨⟨⟨g, dr, g0, (upd_ne (nd.d _ (.inr (.inl rfl))).symm).trans e1⟩, (upd_ne (nd.lb _ (.inl rfl)).symm).trans e2, ⟨svs', upd_same, dpAll_kp k _ _ (pairs_nl _) d⟩,
    ⟨bl.len, fun j q b hq hb => (bl.at_ j q b hq hb).kp k (upd_ne (nd.ls _ (adrs_1 (List.mem_of_getElem? hq)))) (upd_ne (nd.ls _ (adrs_2 (List.mem_of_getElem? hq))))⟩, nd0, ⟨bd'.m, bd'.b, bd'.a, l, bd'.r, z⟩, n6, ot, tl⟩, k, fun _ z => .inl z, rfl, rfl⟩
end

section
variable {P : Program} {w : World} {K : PySem.W.Frag} {mg : Str → Option Value} {base : Heap}
theorem putK_new {kvs : List (Key × V)} {k : Key} {v : V} (h : ∀ kv ∈ kvs, kv.1 ≠ k) : putK kvs k v = kvs ++ [(k, v)] := by
  unfold putK
  rw [if_neg]
  intro z
  obtain ⟨kv, hk, e⟩ := List.any_eq_true.mp z
  exact h kv hk (of_decide_eq_true e)
theorem merge_nd : ∀ (kvs acc : List (Key × V)), ((acc ++ kvs).map (·.1)).Nodup → mergeK acc kvs = acc ++ kvs
  | [], acc, _ => (List.append_nil _).symm
  | p :: r, acc, h => by
    show mergeK (putK acc p.1 p.2) r = _
    have h2 : ((acc ++ [p]) ++ r).map (·.1) = (acc ++ p :: r).map (·.1) := by rw [List.append_assoc]; rfl
    rw [putK_new fun kv hk z => ?_, merge_nd r (acc ++ [(p.1, p.2)]) (by rw [← h2] at h; exact h), List.append_assoc]
    · rfl
    · rw [List.map_append, List.nodup_append] at h
      exact h.2.2 kv.1 (List.mem_map.mpr ⟨kv, hk, rfl⟩) p.1 (List.mem_cons_self ..) z
def dk7 (dr : Int) (lb ls : Addr) : List (Key × V) := [(.inr "draw", .int dr), (.inr "many", .int 0), (.inr "step", .int 1), (.inr "shift", .int 0), (.inr "blocks", .ref lb), (.inr "at", .int 0), (.inr "scope", .ref ls)]
theorem merge_dk7 (dr : Int) (lb ls : Addr) : mergeK [] (dk7 dr lb ls) = dk7 dr lb ls := merge_nd _ [] (by show (([Sum.inr "draw", .inr "many", .inr "step", .inr "shift", .inr "blocks", .inr "at", .inr "scope"] : List Key)).Nodup; decide +kernel)
theorem put_dk7 (dr g : Int) (lb ls : Addr) : putK (dk7 dr lb ls) (.inr "digits") (.int g) = dkv dr 0 1 0 lb 0 ls g [] := by
  rw [putK_new fun kv hk z => ?_]
  · rfl
  · have h1 : kv.1 ∈ (dk7 dr lb ls).map (·.1) := List.mem_map.mpr ⟨kv, hk, rfl⟩
    rw [z] at h1
    simp only [dk7, List.map_cons, List.map_nil, List.mem_cons, List.not_mem_nil, or_false] at h1
    rcases h1 with z | z | z | z | z | z | z <;> exact nk (by decide +kernel) z
def sp_state (K : PySem.W.Frag) : Sp := fun vs H Q _ => ∃ (c k : Int), vs = [.int c, .int k] ∧
  ∀ H' A s, Same H H' → (∀ b, A.own b → H b = none) → WS K H' A s 0 → A.t = [] → Small s → s.step ∈ ([1, 7, 4986, 8999] : List Int) → Q (.ref A.d) H'
theorem ok__law_state (T : Top K mg) : FnOk P w K mg base CX0 2 (He.ga K "_law_state") T.fd__law_state ["_law_cell", "_law_k"] (sp_state K) := by
  have G__law_next := ok__law_next (P := P) (w := w) (base := base) T
  refine T.F__law_state.ok sc__law_state (fun vs H Q E h => ?_) (fun cdv A0 outer s0 H vs Q E hr h => ?_)
  · obtain ⟨c, k, rfl, _⟩ := h
    rfl
  · obtain ⟨c, k, rfl, q⟩ := h
    refine ⟨_, PSs.nox (pss_cons (ps_set (i := 2) sc__law_state.nd rfl (Or.inl rfl) (pe_op op_mod (pe_op op_mul (pe_op op_add (pv 0) (pe_op op_mul pe_int (pv 1))) pe_int) pe_int))
        (pss_cons (ps_set (i := 3) sc__law_state.nd rfl (Or.inl rfl) (pe_op op_mod (pe_op op_add (pe_op op_add (pe_op op_mul (pv 2) (pv 2)) (pe_op op_mul pe_int (pv 2))) (pv 1)) pe_int))
        (pss_cons (ps_set (i := 4) sc__law_state.nd rfl (Or.inl rfl) (pe_disp (pps_cons pe_str (pv 3) (pps_cons pe_str pe_int (pps_cons pe_str pe_int (pps_cons pe_str pe_int (pps_cons pe_str (pe_lst pa_nil) (pps_cons pe_str pe_int (pps_cons pe_str (pe_lst pa_nil) pps_nil))))))) (by rfl) (by rfl) (fun z => by cases z) (by decide)))
        (pss_cons (ps_dput (hu_of hr) (pv 4) pe_str (pe_callB (call_max2 rfl) (by rfl) T.m_max (by decide +kernel) (pa_cons pe_int (pa_cons (pe_op op_fdivW (pv 0) (pe_op op_pow pe_int pe_int)) pa_nil))) (by rfl))
        (pss_cons (ps_dput (hu_of hr) (pv 4) pe_str (pe_ix ix_list (pe_lst (pa_cons pe_int (pa_cons pe_int (pa_cons pe_int (pa_cons pe_int pa_nil))))) (pe_call G__law_next (hr.mono (by omega)) (by rfl) T.g__law_next T.F__law_next.kp T.b__law_next .nil pass0 (pa_cons (pv 4) (pa_cons pe_int pa_nil))) (fun _ _ => rfl)) (by rfl))
        (pss_cons (ps_dput (hu_of hr) (pv 4) pe_str (pe_ix ix_list (pe_lst (pa_cons pe_int (pa_cons pe_int (pa_cons pe_int pa_nil)))) (pe_call G__law_next (hr.mono (by omega)) (by rfl) T.g__law_next T.F__law_next.kp T.b__law_next .nil pass0 (pa_cons (pv 4) (pa_cons pe_int pa_nil))) (fun _ _ => rfl)) (by rfl))
        (pss_one (ps_ret (pv 4))))))))), ?_⟩
    refine ⟨_, rfl, _, rfl, _, _, rfl, rfl, .inl ⟨by decide, by decide⟩, _, _, rfl, rfl, _, _, rfl, rfl, .inr ⟨by decide, by decide⟩, _, _, rfl, rfl, (by show (0 : Int) < 2147483647; decide), ?_⟩
    have nn : 0 ≤ (c + 7919 * k) * 48271 % 2147483647 ∧ (c + 7919 * k) * 48271 % 2147483647 < 2147483647 := ⟨Int.emod_nonneg _ (by decide), Int.emod_lt_of_pos _ (by decide)⟩
    refine ⟨_, rfl, _, rfl, _, _, rfl, rfl, .inl ⟨by omega, by omega⟩, _, rfl, _, _, rfl, rfl, .inl ⟨by decide, by decide⟩, _, _, rfl, rfl, _, rfl, _, _, rfl, rfl, _, _, rfl, rfl, (by show (0 : Int) < 2147483629; decide), ?_⟩
    obtain ⟨st, hst⟩ : ∃ st : Int, ((c + 7919 * k) * 48271 % 2147483647 * ((c + 7919 * k) * 48271 % 2147483647) + 7 * ((c + 7919 * k) * 48271 % 2147483647) + k) % 2147483629 = st := ⟨_, rfl⟩
    intro D nD
    refine ⟨_, rfl, Nat.zero_le _, fun lb nlb => ⟨Nat.zero_le _, fun ls nls => ?_⟩⟩
    have s1 := same_new (o := .dK []) nD
    have s2 := same_new (o := .lst []) nlb
    have s3 := same_new (o := .lst []) nls
    have s13 := (s1.trans s2).trans s3
    have hlb : H lb = none := s1.free nlb
    have hls : H ls = none := (s1.trans s2).free nls
    have nlbD : lb ≠ D := fun z => by rw [z, upd_same] at nlb; cases nlb
    have nlsD : ls ≠ D := fun z => by rw [z, upd_ne nlbD.symm, upd_same] at nls; cases nls
    have nlsb : ls ≠ lb := fun z => by rw [z, upd_same] at nls; cases nls
    have eD : upd (upd (upd H D (.dK [])) lb (.lst [])) ls (.lst []) D = some (.dK []) := (s2.trans s3) _ _ upd_same
    refine ⟨eD, dk7 st lb ls, by rw [← hst]; rfl, by show 7 ≤ 15; decide, ?_⟩
    rw [merge_dk7]
    generalize hH4 : upd (upd (upd (upd H D (.dK [])) lb (.lst [])) ls (.lst [])) D (.dK (dk7 st lb ls)) = H4
    have s4 : Same H H4 := by rw [← hH4]; exact same_upd s13 nD
    have e4 : H4 D = some (.dK (dk7 st lb ls)) := by rw [← hH4]; exact upd_same
    have e4b : H4 lb = some (.lst []) := by rw [← hH4, upd_ne nlbD, upd_ne nlsb.symm, upd_same]
    have e4s : H4 ls = some (.lst []) := by rw [← hH4, upd_ne nlsD, upd_same]
    refine ⟨_, rfl, _, _, rfl, rfl, ⟨by decide, by decide, by decide⟩, _, _, rfl, rfl, wide_div (b := 64) (by decide) (by decide) (by decide) (by decide), _, _, rfl, _, rfl, _, _, rfl, dput_k e4 (by show 7 ≤ 100; decide), ?_⟩
    have g0 : (0 : Int) ≤ (if c / 10 ^ (18 : Int).toNat > 0 then c / 10 ^ (18 : Int).toNat else 0) := by
      split
      · omega
      · decide
    generalize (if c / 10 ^ (18 : Int).toNat > 0 then c / 10 ^ (18 : Int).toNat else (0 : Int)) = g at g0
    rw [put_dk7]
    generalize hH5 : upd H4 D (.dK (dkv st 0 1 0 lb 0 ls g [])) = H5
    have s5 : Same H H5 := by rw [← hH5]; exact same_upd s4 nD
    have e5 : H5 D = some (.dK (dkv st 0 1 0 lb 0 ls g [])) := by rw [← hH5]; exact upd_same
    have e5b : H5 lb = some (.lst []) := by rw [← hH5, upd_ne nlbD]; exact e4b
    have e5s : H5 ls = some (.lst []) := by rw [← hH5, upd_ne nlsD]; exact e4s
    have w5 : WS K H5 ⟨D, lb, ls, [], []⟩ ⟨0, 1, 0, [], 0, []⟩ 0 := by
      refine ⟨⟨g, st, g0, e5⟩, e5b, ⟨[], e5s, .nil⟩, ⟨rfl, fun i p b hp _ => by simp at hp⟩, ?_, ⟨Nat.le_refl _, Nat.le_refl _, Nat.le_refl _, Nat.le_refl _, fun b hb => (nomatch hb), fun p hp => (nomatch hp)⟩, by decide, fun k _ z => (nomatch z), Nat.zero_le _⟩
      show ([D, lb, ls] : List Addr).Nodup
      simp only [List.nodup_cons, List.mem_cons, List.not_mem_nil, or_false, not_or, not_false_eq_true, List.nodup_nil, and_true]
      exact ⟨⟨nlbD.symm, nlsD.symm⟩, nlsb.symm⟩
    have own5 : ∀ b, WA.own ⟨D, lb, ls, [], []⟩ b → H b = none := fun b hb => by
      rcases List.mem_cons.mp hb with rfl | hb
      · exact nD
      rcases List.mem_cons.mp hb with rfl | hb
      · exact hlb
      rcases List.mem_cons.mp hb with rfl | hb
      · exact hls
      · exact nomatch hb
    have ofK : ∀ {H'}, Kp (WA.own ⟨D, lb, ls, [], []⟩) H5 H' → Same H H' := fun k b o e => k b o (s5 _ _ e) fun z => by
      rw [own5 b z] at e
      cases e
    refine ⟨(by show 4 ≤ sizeLine; rw [sizeLine_eq]; decide), fun L nL => ?_⟩
    have s6 := same_new (o := .lst (([1, 7, 4986, 8999] : List Int).map V.int)) nL
    have w6 := w5.sm s6
    have oL := w5.off nL
    refine ⟨_, rfl, ⟨D, lb, ls, [], []⟩, _, 0, 4, rfl, w6, by decide, by decide, fun H7 r7 x7 w7 a7 b7 => ?_⟩
    have eL := x7.keep upd_same oL
    obtain ⟨z1, hz1, ez1⟩ := at_intsM (ns := [1, 7, 4986, 8999]) a7 (by show r7 < ((4 : Nat) : Int); omega)
    obtain ⟨g7, dr7, g70, e7⟩ := w7.dk
    have x57 := (Ext.same (A := ⟨D, lb, ls, [], []⟩) s6).trans x7
    refine ⟨L, _, _, _, rfl, rfl, .of eL, ez1, _, rfl, _, _, rfl, dput_k e7 (dkv_len w7.tl), ?_⟩
    rw [dkp_step (w7.ot _ (m8 (by decide +kernel)))]
    obtain ⟨w8, x8⟩ := w7.put (s' := ⟨0, z1, 0, [], 0, []⟩) (dr := dr7) g70 rfl rfl ⟨Nat.le_refl _, Nat.le_refl _, Nat.le_refl _, Nat.le_refl _, fun b hb => (nomatch hb), fun p hp => (nomatch hp)⟩
    have x58 := x57.trans x8
    generalize upd H7 _ _ = H8 at w8 x8 x58
    refine ⟨(by show 3 ≤ sizeLine; rw [sizeLine_eq]; decide), fun M nM => ?_⟩
    have s9 := same_new (o := .lst (([0, 3, 5000] : List Int).map V.int)) nM
    have w9 := w8.sm s9
    have oM := w8.off nM
    refine ⟨_, rfl, ⟨D, lb, ls, [], []⟩, _, 0, 3, rfl, w9, by decide, by decide, fun H10 r10 x10 w10 a10 b10 => ?_⟩
    have eM := x10.keep upd_same oM
    obtain ⟨z2, hz2, ez2⟩ := at_intsM (ns := [0, 3, 5000]) a10 (by show r10 < ((3 : Nat) : Int); omega)
    obtain ⟨g10, dr10, g100, e10⟩ := w10.dk
    have x510 := (x58.trans (.same s9)).trans x10
    refine ⟨M, _, _, _, rfl, rfl, .of eM, ez2, _, rfl, _, _, rfl, dput_k e10 (dkv_len w10.tl), ?_⟩
    rw [dkp_shift (w10.ot _ (m8 (by decide +kernel)))]
    obtain ⟨w11, x11⟩ := w10.put (s' := ⟨0, z1, z2, [], 0, []⟩) (dr := dr10) g100 rfl rfl ⟨Nat.le_refl _, Nat.le_refl _, Nat.le_refl _, Nat.le_refl _, fun b hb => (nomatch hb), fun p hp => (nomatch hp)⟩
    have x511 := x510.trans x11
    refine ⟨_, rfl, q _ ⟨D, lb, ls, [], []⟩ ⟨0, z1, z2, [], 0, []⟩ (ofK x511.k) own5 w11 rfl ?_ hz1⟩
    simp only [List.mem_cons, List.not_mem_nil, or_false] at hz1 hz2
    unfold Small
    show 0 ≤ z1 ∧ z1 < 10000 ∧ 0 ≤ z2 ∧ z2 < 10000
    omega
end

section
variable {P : Program} {w : World} {K : PySem.W.Frag} {mg : Str → Option Value} {base : Heap}
def cellA (ns : List Int) (k : Int) : Int := ns.getD k.toNat 0
def sp__law_cell_at (K : PySem.W.Frag) : Sp := fun vs H Q _ => ∃ (a : Addr) (ns : List Int) (k : Int), vs = [.ref a, .int k] ∧ 0 ≤ k ∧ SqL K H a (ns.map V.int) ∧ Q (.int (cellA ns k)) H
theorem ok__law_cell_at (T : Top K mg) : FnOk P w K mg base CX0 1 (He.ga K "_law_cell_at") T.fd__law_cell_at ["_law_script", "_law_k"] (sp__law_cell_at K) := by
  refine T.F__law_cell_at.ok sc__law_cell_at (fun vs H Q E h => ?_) (fun cdv A outer s H vs Q E hr h => ?_)
  · obtain ⟨a, ns, k, rfl, _⟩ := h
    rfl
  · obtain ⟨a, ns, k, rfl, h0, hS, q⟩ := h
    refine ⟨_, PSs.nox (pss_cons (ps_if (pt_cmpR op_lt (pv 1) (pe_callB call_len_seq (by rfl) T.m_len (by decide +kernel) (pa_cons (pv 0) pa_nil)) (nomark _)) (pss_one (ps_ret (pe_ix ix_list (pv 0) (pv 1) (fun _ _ => rfl)))) pss_nil)
        (pss_one (ps_ret pe_int))), ?_⟩
    refine ⟨_, rfl, _, rfl, a, _, rfl, .inl hS, _, _, rfl, rfl, _, rfl, ite2 (fun e => ?_) (fun e => ?_)⟩
    · have e1 : k < (ns.map V.int).length := of_decide_eq_true e
      rw [List.length_map] at e1
      exact ⟨_, rfl, _, rfl, a, _, _, _, rfl, rfl, hS, at_ints h0 e1, q⟩
    · have e1 : ¬ k < (ns.map V.int).length := fun z => e (decide_eq_true z)
      rw [List.length_map] at e1
      have e2 : cellA ns k = 0 := by
        unfold cellA
        have : ns.length ≤ k.toNat := by omega
        simp [List.getD, this]
      rw [e2] at q
      exact q
end

/-! what an expression makes: just this data -/
section
variable {K : PySem.W.Frag} {H0 : Hp} {σ : L2.St}
def Md (K : PySem.W.Frag) (H0 : Hp) (σ : L2.St) (d : PyData) (t : TE) : Prop := ∀ (H : Hp) (Q : VK), Same H0 H → (∀ H' x, Same H H' → Dp K H' x d → Q x H') → t σ H Q
def Mds (K : PySem.W.Frag) (H0 : Hp) (σ : L2.St) (ds : List PyData) (t : TA) : Prop := ∀ (H : Hp) (Q : List V → Hp → Prop), Same H0 H → (∀ H' xs, Same H H' → DpAll K H' xs ds → Q xs H') → t σ H Q
theorem mds_nil : Mds K H0 σ [] tNil := fun H Q _ q => q H [] (Same.refl _) .nil
theorem mds_cons {d : PyData} {ds : List PyData} {t : TE} {u : TA} (h : Md K H0 σ d t) (r : Mds K H0 σ ds u) : Mds K H0 σ (d :: ds) (tCons t u) := fun H Q s q =>
  h H _ s fun H1 x s1 d1 => r H1 _ (s.trans s1) fun H2 xs s2 d2 => q H2 (x :: xs) (s1.trans s2) (.cons (dp_sm s2 d1) d2)
theorem md_tup {ds : List PyData} {u : TA} (r : Mds K H0 σ ds u) (hk : ds.length ≤ 1000 := by simp) : Md K H0 σ (.tuple ds) (tTup u) := fun H Q s q =>
  r H _ s fun H1 xs s1 d1 => ⟨by rw [dpAll_len d1, sizeLine_eq]; omega, fun p np => q _ _ (s1.trans (same_new np)) (.tup (.of upd_same) (dpAll_sm (same_new np) d1))⟩
theorem md_int {i : Int} : Md K H0 σ (.int i) (tC (.int i)) := fun H Q _ q => q H _ (Same.refl _) (.int i)
theorem md_str {z : Str} : Md K H0 σ (.str z) (tC (.str z)) := fun H Q _ q => q H _ (Same.refl _) (.str z)
theorem md_var {i : Nat} {v : V} {d : PyData} (h : σ[i]? = some (some v)) (dp : Dp K H0 v d) : Md K H0 σ d (tVar i) := fun H Q s q => ⟨v, h, q H _ (Same.refl _) (dp_sm s dp)⟩
/-- any expression, read by hand -/
theorem md_by {d : PyData} {t : TE} (h : ∀ (H : Hp) (Q : VK), Same H0 H → (∀ H' x, Same H H' → Dp K H' x d → Q x H') → t σ H Q) : Md K H0 σ d t := h
/-- a new list -/
theorem ml_lst {ds : List PyData} {u : TA} (r : Mds K H0 σ ds u) {H : Hp} {Q : VK} (s : Same H0 H) (q : ∀ H' L vs, Same H H' → H L = none → H' L = some (.lst vs) → DpAll K H' vs ds → Q (.ref L) H') (hk : ds.length ≤ 1000 := by simp) : tLst u σ H Q :=
  r H _ s fun H1 xs s1 d1 => ⟨by rw [dpAll_len d1, sizeLine_eq]; omega, fun p np => q _ p xs (s1.trans (same_new np)) (s1.free np) upd_same (dpAll_sm (same_new np) d1)⟩
end
theorem st_asg {te : TE} {i : Nat} {u : TS} {D : Ends} {σ : L2.St} {H : Hp} (h : te σ H fun v H' => u D (σ.set i (some v)) H') : tSeq (tAsg te (gName i)) u D σ H := h
/-! statements, one step opened -/
section
variable {K : PySem.W.Frag} {te : TE} {g : TG} {tb u : TS} {D : Ends} {σ : L2.St} {H : Hp}
def ForW (J : It) (g : TG) (tb : TS) (D : Ends) (σ : L2.St) (H1 : Hp) : Prop := ∃ W : Nat → Nat → L2.St → Hp → Prop, (∃ m, W 0 m σ H1) ∧ ∀ i m σ H, W i m σ H →
  (J.stop i H ∧ D.nx σ H) ∨ (J.go i H ∧ ∃ N : L2.St → Hp → Prop, (∀ σ' H', N σ' H' → ∃ m', m' < m ∧ W (i + 1) m' σ' H') ∧ ∀ x H', J.yld i H x H' → g x σ H' fun σ2 H2 => tb { D with nx := N, ct := N, bk := D.nx } σ2 H2)
theorem st_forT (h : te σ H fun v H1 => ∃ a, v = .ref a ∧ (∃ xs, SqT K H1 a xs) ∧ ForW (Itt K a) g tb { D with nx := u D } σ H1) : tSeq (tFor (iTup K te) g tb) u D σ H := h
theorem st_forL (h : te σ H fun v H1 => ∃ a, v = .ref a ∧ (∃ xs, SqL K H1 a xs) ∧ ForW (Itl K a) g tb { D with nx := u D } σ H1) : tSeq (tFor (iList K te) g tb) u D σ H := h
theorem st_drop (h : te σ H fun _ H' => u D σ H') : tSeq (tDrop te) u D σ H := h
theorem st_ret (h : te σ H D.rt) : tRet te D σ H := h
theorem fw_tup {a : Addr} {xs : List V} (Pv : Nat → L2.St → Hp → Prop) (h0 : Pv 0 σ H) (hl : ∀ i σ H, i ≤ xs.length → Pv i σ H → SqT K H a xs)
    (hs : ∀ i x σ H, xs[i]? = some x → Pv i σ H → g x σ H fun σ2 H2 => tb { D with nx := Pv (i + 1), ct := Pv (i + 1), bk := D.nx } σ2 H2) (hd : ∀ σ H, Pv xs.length σ H → D.nx σ H) : ForW (Itt K a) g tb D σ H := for_tup Pv h0 hl hs hd
theorem fw_list {a : Addr} {xs : List V} (Pv : Nat → L2.St → Hp → Prop) (h0 : Pv 0 σ H) (hl : ∀ i σ H, i ≤ xs.length → Pv i σ H → SqL K H a xs)
    (hs : ∀ i x σ H, xs[i]? = some x → Pv i σ H → g x σ H fun σ2 H2 => tb { D with nx := Pv (i + 1), ct := Pv (i + 1), bk := D.nx } σ2 H2) (hd : ∀ σ H, Pv xs.length σ H → D.nx σ H) : ForW (Itl K a) g tb D σ H := for_list Pv h0 hl hs hd
end
theorem ar_cons {t : TE} {u : TA} {σ : L2.St} {H : Hp} {Q : List V → Hp → Prop} (h : t σ H fun x H1 => u σ H1 fun xs H2 => Q (x :: xs) H2) : tCons t u σ H Q := h
theorem ar_call {sp : Sp} {dvs : List V} {E : XK} {t : TA} {σ : L2.St} {H : Hp} {Q : VK} (h : t σ H fun vs H1 => sp (vs ++ dvs) H1 Q E) : tCall sp dvs E t σ H Q := h
theorem st_if {c : TT} {t e u : TS} {D : Ends} {σ : L2.St} {H : Hp} (h : c σ H fun b H1 => if b = true then t { D with nx := u D } σ H1 else e { D with nx := u D } σ H1) : tSeq (tIfS c t e) u D σ H := h
theorem tt_test {t : TE} {σ : L2.St} {H : Hp} {Q : Bool → Hp → Prop} (h : t σ H fun x H' => ∃ k, x = .bl k ∧ Q k H') : tTest t σ H Q := h
theorem tt_b {t : TE} {σ : L2.St} {H : Hp} {Q : Bool → Hp → Prop} (h : t σ H fun x H' => ∃ k, x = .bl k ∧ Q k H') : tB t σ H Q := h
theorem tt_not {t : TT} {σ : L2.St} {H : Hp} {Q : Bool → Hp → Prop} (h : t σ H fun c H' => Q (!c) H') : tNot t σ H Q := h
theorem tt_or {t u : TT} {σ : L2.St} {H : Hp} {Q : Bool → Hp → Prop} (h : t σ H fun c H1 => if c = true then Q true H1 else u σ H1 Q) : tOr t u σ H Q := h
theorem te_op {r : R2} {ta tb : TE} {σ : L2.St} {H : Hp} {Q : VK} (h : ta σ H fun x H1 => tb σ H1 fun y H2 => r x y H2 Q) : tOp r ta tb σ H Q := h

section
variable {P : Program} {w : World} {K : PySem.W.Frag} {mg : Str → Option Value} {base : Heap}
def wr (n : Int) : Int := (n + 2147483648) % 4294967296 - 2147483648
def sp_wrapped : Sp := fun vs H Q _ => ∃ n : Int, vs = [.int n] ∧ Q (.int (wr n)) H
theorem ok_wrapped (T : Top K mg) : FnOk P w K mg base CX0 1 (He.ga K "wrapped") T.fd_wrapped ["n"] sp_wrapped := by
  refine T.F_wrapped.ok sc_wrapped (fun vs H Q E h => ?_) (fun cdv A outer s H vs Q E hr h => ?_)
  · obtain ⟨n, rfl, _⟩ := h
    rfl
  · obtain ⟨n, rfl, q⟩ := h
    refine ⟨_, PSs.nox (pss_one (ps_ret (pe_op op_sub (pe_op op_mod (pe_op op_add (pv 0) (pe_glob (v := .int 2147483648) (by rfl) T.c_HALF ⟨_, rfl⟩)) (pe_glob (v := .int 4294967296) (by rfl) T.c_ROUND ⟨_, rfl⟩)) (pe_glob (v := .int 2147483648) (by rfl) T.c_HALF ⟨_, rfl⟩)))), ?_⟩
    exact ⟨_, rfl, _, _, rfl, rfl, _, _, rfl, rfl, (by show (0 : Int) < 4294967296; decide), _, _, rfl, rfl, q⟩
theorem log_small {j : Int} (h : -2147483648 ≤ j ∧ j ≤ 2147483648) : j.natAbs.log2 < 9000 := by
  have h1 : j.natAbs < 2 ^ 40 := by omega
  have := PySem.Flt.log2_lt_of (show 0 < 40 by decide) h1
  omega
def sp_divided : Sp := fun vs H Q _ => ∃ (wd : Str) (a b : Int), vs = [.str wd, .int a, .int b] ∧ In32 a ∧ In32 b ∧ (b = 0 → Q .non H) ∧
  (b ≠ 0 → ∀ H', Same H H' → (wd = "div" → Q (.int (wr (a.fdiv b))) H') ∧ (wd ≠ "div" → Q (.int (wr (a.fmod b))) H'))
theorem ok_divided (T : Top K mg) : FnOk P w K mg base CX0 2 (He.ga K "divided") T.fd_divided ["word", "one", "other"] sp_divided := by
  have G_wrapped := ok_wrapped (P := P) (w := w) (base := base) T
  refine T.F_divided.ok sc_divided (fun vs H Q E h => ?_) (fun cdv A outer s H vs Q E hr h => ?_)
  · obtain ⟨wd, a, b, rfl, _⟩ := h
    rfl
  · obtain ⟨wd, a, b, rfl, ha, hb, q0, q1⟩ := h
    refine ⟨_, PSs.nox (pss_cons (ps_if (pt_cmpR op_eq (pv 2) pe_int (nomark _)) (pss_one (ps_ret pe_non)) pss_nil)
        (pss_cons (ps_asg (pe_callB call_divmodG (by rfl) T.m_divmod (by decide +kernel) (pa_cons (pv 1) (pa_cons (pv 2) pa_nil))) (pg_tup (n := 2) (by rfl) (pgs_cons (pg_name (i := 3) sc_divided.nd rfl (Or.inl rfl)) (pgs_cons (pg_name (i := 4) sc_divided.nd rfl (Or.inl rfl)) pgs_nil))))
        (pss_one (ps_ret (pe_call G_wrapped (hr.mono (by omega)) (by rfl) T.g_wrapped T.F_wrapped.kp T.b_wrapped .nil pass0 (pa_cons (pe_ifExp (pt_cmpR op_eq (pv 0) pe_str (nomark _)) (pv 3) (pv 4)) pa_nil)))))), ?_⟩
    refine ⟨_, rfl, rfl, _, rfl, ite2 (fun e => ?_) (fun e => ?_)⟩
    · have e1 : b = 0 := V.int.inj (of_decide_eq_true e)
      exact q0 e1
    · have e1 : b ≠ 0 := fun z => e (decide_eq_true (congrArg V.int z))
      refine ⟨_, rfl, _, rfl, a, b, rfl, ⟨e1, log_small ⟨hb.1, by have := hb.2; omega⟩⟩, fun p np => ?_⟩
      refine ⟨p, _, rfl, .of upd_same, rfl, _, _, rfl, _, _, rfl, rfl, ?_⟩
      obtain ⟨qa, qb⟩ := q1 e1 _ (same_new np)
      refine ⟨_, rfl, rfl, _, rfl, ite2 (fun e => ?_) (fun e => ?_)⟩
      · have e2 : wd = "div" := V.str.inj (of_decide_eq_true e)
        exact ⟨_, rfl, _, rfl, qa e2⟩
      · have e2 : wd ≠ "div" := fun z => e (decide_eq_true (congrArg V.str z))
        exact ⟨_, rfl, _, rfl, qb e2⟩
def b2n (b : Bool) : Int := if b then 1 else 0
/-- what a word comes to -/
inductive Due (a b : Int) : Str → V → Prop where
  | div0 (h : b = 0) : Due a b "div" .non
  | rem0 (h : b = 0) : Due a b "rem" .non
  | div (h : b ≠ 0) : Due a b "div" (.int (wr (a.fdiv b)))
  | rem (h : b ≠ 0) : Due a b "rem" (.int (wr (a.fmod b)))
  | add : Due a b "add" (.int (wr (a + b)))
  | sub : Due a b "sub" (.int (wr (a - b)))
  | mul : Due a b "mul" (.int (wr (a * b)))
  | less : Due a b "less" (.int (b2n (decide (a < b))))
  | same : Due a b "same" (.int (b2n (decide (a = b))))
def wds : List Str := ["add", "sub", "mul", "div", "rem", "less", "same"]
def sp_reckoned : Sp := fun vs H Q _ => ∃ (wd : Str) (a b : Int) (v : V), vs = [.str wd, .int a, .int b] ∧ In32 a ∧ In32 b ∧ Due a b wd v ∧ ∀ H', Same H H' → Q v H'
theorem ok_reckoned (T : Top K mg) : FnOk P w K mg base CX0 3 (He.ga K "reckoned") T.fd_reckoned ["word", "one", "other"] sp_reckoned := by
  have G_wrapped := ok_wrapped (P := P) (w := w) (base := base) T
  have G_divided := ok_divided (P := P) (w := w) (base := base) T
  refine T.F_reckoned.ok sc_reckoned (fun vs H Q E h => ?_) (fun cdv A outer s H vs Q E hr h => ?_)
  · obtain ⟨wd, a, b, v, rfl, _⟩ := h
    rfl
  · obtain ⟨wd, a, b, v, rfl, ha, hb, hd, q⟩ := h
    refine ⟨_, PSs.nox (pss_cons (ps_if (pt_cmpR op_in_seq (pv 0) (pe_tup (pa_cons pe_str (pa_cons pe_str pa_nil))) (by rfl)) (pss_one (ps_ret (pe_call G_divided (hr.mono (by omega)) (by rfl) T.g_divided T.F_divided.kp T.b_divided .nil pass0 (pa_cons (pv 0) (pa_cons (pv 1) (pa_cons (pv 2) pa_nil)))))) pss_nil)
        (pss_cons (ps_if (pt_cmpR op_eq (pv 0) pe_str (nomark _)) (pss_one (ps_ret (pe_call G_wrapped (hr.mono (by omega)) (by rfl) T.g_wrapped T.F_wrapped.kp T.b_wrapped .nil pass0 (pa_cons (pe_op op_add (pv 1) (pv 2)) pa_nil)))) pss_nil)
        (pss_cons (ps_if (pt_cmpR op_eq (pv 0) pe_str (nomark _)) (pss_one (ps_ret (pe_call G_wrapped (hr.mono (by omega)) (by rfl) T.g_wrapped T.F_wrapped.kp T.b_wrapped .nil pass0 (pa_cons (pe_op op_sub (pv 1) (pv 2)) pa_nil)))) pss_nil)
        (pss_cons (ps_if (pt_cmpR op_eq (pv 0) pe_str (nomark _)) (pss_one (ps_ret (pe_call G_wrapped (hr.mono (by omega)) (by rfl) T.g_wrapped T.F_wrapped.kp T.b_wrapped .nil pass0 (pa_cons (pe_op op_mul (pv 1) (pv 2)) pa_nil)))) pss_nil)
        (pss_cons (ps_if (pt_cmpR op_eq (pv 0) pe_str (nomark _)) (pss_one (ps_ret (pe_callTy call_int1 (by rfl) T.m_int (by decide +kernel) (pa_cons (pe_cmpR op_lt (pv 1) (pv 2) (nomark _)) pa_nil)))) pss_nil)
        (pss_one (ps_ret (pe_callTy call_int1 (by rfl) T.m_int (by decide +kernel) (pa_cons (pe_cmpR op_eq (pv 1) (pv 2) (nomark _)) pa_nil))))))))), ?_⟩
    refine ⟨_, rfl, by decide, fun p np => ?_⟩
    have sm := same_new (o := .tup [.str "div", .str "rem"]) np
    refine ⟨p, _, rfl, .inr (.of upd_same), rfl, by decide +kernel, _, rfl, ?_⟩
    have ok : ∀ {x : Str} {y : Str} {A B : Prop}, x ≠ y → B → if decide (V.str x = V.str y) = true then A else B := fun h hB => ifN (fun z => h (V.str.inj z)) hB
    have gd : wds ≠ [] := by decide
    cases hd with
    | div0 h => exact ⟨_, rfl, _, rfl, _, rfl, _, a, b, rfl, ha, hb, fun _ => q _ sm, fun z => absurd h z⟩
    | rem0 h => exact ⟨_, rfl, _, rfl, _, rfl, _, a, b, rfl, ha, hb, fun _ => q _ sm, fun z => absurd h z⟩
    | div h => exact ⟨_, rfl, _, rfl, _, rfl, _, a, b, rfl, ha, hb, fun z => absurd z h, fun _ H' s2 => ⟨fun _ => q _ (sm.trans s2), fun z => absurd rfl z⟩⟩
    | rem h => exact ⟨_, rfl, _, rfl, _, rfl, _, a, b, rfl, ha, hb, fun z => absurd z h, fun _ H' s2 => ⟨fun z => absurd z (by decide +kernel), fun _ => q _ (sm.trans s2)⟩⟩
    | add => exact ⟨_, rfl, rfl, _, rfl, ifD rfl ⟨_, rfl, _, rfl, _, _, rfl, rfl, _, rfl, q _ sm⟩⟩
    | sub => exact ⟨_, rfl, rfl, _, rfl, ok (by decide +kernel) ⟨_, rfl, rfl, _, rfl, ifD rfl ⟨_, rfl, _, rfl, _, _, rfl, rfl, _, rfl, q _ sm⟩⟩⟩
    | mul => exact ⟨_, rfl, rfl, _, rfl, ok (by decide +kernel) ⟨_, rfl, rfl, _, rfl, ok (by decide +kernel) ⟨_, rfl, rfl, _, rfl, ifD rfl ⟨_, rfl, _, rfl, _, _, rfl, rfl, .inl ⟨by have := ha.1; omega, by have := ha.2; omega⟩, _, rfl, q _ sm⟩⟩⟩⟩
    | less => exact ⟨_, rfl, rfl, _, rfl, ok (by decide +kernel) ⟨_, rfl, rfl, _, rfl, ok (by decide +kernel) ⟨_, rfl, rfl, _, rfl, ok (by decide +kernel) ⟨_, rfl, rfl, _, rfl, ifD rfl ⟨_, rfl, _, rfl, _, _, rfl, rfl, .inr ⟨_, rfl, q _ sm⟩⟩⟩⟩⟩⟩
    | same => exact ⟨_, rfl, rfl, _, rfl, ok (by decide +kernel) ⟨_, rfl, rfl, _, rfl, ok (by decide +kernel) ⟨_, rfl, rfl, _, rfl, ok (by decide +kernel) ⟨_, rfl, rfl, _, rfl, ok (by decide +kernel) ⟨_, rfl, _, rfl, rfl, .inr ⟨_, rfl, by
        rw [show decide (V.int a = V.int b) = decide (a = b) by by_cases z : a = b <;> simp [z]]
        exact q _ sm⟩⟩⟩⟩⟩⟩
theorem wr_in {n : Int} (h : In32 n) : wr n = n := by
  obtain ⟨h1, h2⟩ := h
  unfold wr
  omega
def sp_denied : Sp := fun vs H Q _ => ∃ n : Int, vs = [.int n] ∧ Q (.int (b2n (decide (V.int n = V.int 0)))) H
theorem ok_denied (T : Top K mg) : FnOk P w K mg base CX0 1 (He.ga K "denied") T.fd_denied ["n"] sp_denied := by
  refine T.F_denied.ok sc_denied (fun vs H Q E h => ?_) (fun cdv A outer s H vs Q E hr h => ?_)
  · obtain ⟨n, rfl, _⟩ := h
    rfl
  · obtain ⟨n, rfl, q⟩ := h
    refine ⟨_, PSs.nox (pss_one (ps_ret (pe_callTy call_int1 (by rfl) T.m_int (by decide +kernel) (pa_cons (pe_cmpR op_eq (pv 0) pe_int (nomark _)) pa_nil)))), ?_⟩
    exact ⟨_, rfl, rfl, .inr ⟨_, rfl, q⟩⟩
end

/-! l == [] : own rule -/
namespace LEq
open PySem PySem.Spec PyProof.Rows L2
def rEqNil (K : PySem.W.Frag) : R2 := fun x y H Q => ∃ (a b : Addr) (xs : List V), x = .ref a ∧ y = .ref b ∧ SqL K H a xs ∧ SqL K H b [] ∧ Q (.bl (decide (xs.length = 0))) H
theorem op_eqNil {X : Cx} (hu : X.A.units + 64 < cLine) : OpR X (compareOp .Eq) (rEqNil X.K) := by
  intro pins s σ H x y v u Q I rx ry h
  obtain ⟨a, b, xs, rfl, rfl, ha, hb, q⟩ := h
  cases (show v = Value.ref a from rx)
  cases (show u = Value.ref b from ry)
  obtain ⟨us, r1, p1, _⟩ := I.list ha
  obtain ⟨ws, r2, p2, _⟩ := I.list hb
  have e1 := r1.length
  have e2 := r2.length
  by_cases c : xs.length = 0
  · rw [decide_eq_true c] at q
    have hsz : us.toArray.size = ws.toArray.size := by
      rw [List.size_toArray, List.size_toArray, ← e1, ← e2, c]
      rfl
    refine SeqAt.RcAt.lists (e := fun _ => true) p1.isList p2.isList hsz (by omega) (fun j h1 h2 => ?_) X.prog X.w _ _ ?_
    · rw [List.size_toArray, ← e1] at h1
      omega
    · rw [show ((List.range us.toArray.size).all fun _ => true) = true from List.all_eq_true.mpr fun _ _ => rfl]
      exact ⟨.bl true, H, I, rfl, q⟩
  · rw [decide_eq_false c] at q
    have hsz : (us.toArray.size != ws.toArray.size) = true := by
      rw [List.size_toArray, List.size_toArray, ← e1, ← e2]
      exact bne_iff_ne.mpr fun z => c z
    exact SeqAt.RcAt.lists_lengths p1.isList p2.isList hsz (by omega) X.prog X.w _ _ ⟨.bl false, H, I, rfl, q⟩
def rNeNil (K : PySem.W.Frag) : R2 := fun x y H Q => ∃ (a b : Addr) (xs : List V), x = .ref a ∧ y = .ref b ∧ SqL K H a xs ∧ SqL K H b [] ∧ Q (.bl (!decide (xs.length = 0))) H
theorem op_neNil {X : Cx} (hu : X.A.units + 64 < cLine) : OpR X (compareOp .NotEq) (rNeNil X.K) := by
  intro pins s σ H x y v u Q I rx ry h
  obtain ⟨a, b, xs, rfl, rfl, ha, hb, q⟩ := h
  cases (show v = Value.ref a from rx)
  cases (show u = Value.ref b from ry)
  obtain ⟨us, r1, p1, _⟩ := I.list ha
  obtain ⟨ws, r2, p2, _⟩ := I.list hb
  have e1 := r1.length
  have e2 := r2.length
  by_cases c : xs.length = 0
  · rw [decide_eq_true c] at q
    have hsz : us.toArray.size = ws.toArray.size := by
      rw [List.size_toArray, List.size_toArray, ← e1, ← e2, c]
      rfl
    refine SeqAt.RcNeAt.lists (e := fun _ => true) p1.isList p2.isList hsz (by omega) (fun j h1 h2 => ?_) X.prog X.w _ _ ?_
    · rw [List.size_toArray, ← e1] at h1
      omega
    · rw [show ((List.range us.toArray.size).all fun _ => true) = true from List.all_eq_true.mpr fun _ _ => rfl]
      exact ⟨.bl false, H, I, rfl, q⟩
  · rw [decide_eq_false c] at q
    have hsz : (us.toArray.size != ws.toArray.size) = true := by
      rw [List.size_toArray, List.size_toArray, ← e1, ← e2]
      exact bne_iff_ne.mpr fun z => c z
    exact SeqAt.RcNeAt.lists_lengths p1.isList p2.isList hsz (by omega) X.prog X.w _ _ ⟨.bl true, H, I, rfl, q⟩
end LEq

theorem len_list (z : Str) : z.length = z.cps.toList.length := by simp [Str.length]
theorem nat_log (n : Int) (h : In32 n) : n.natAbs.log2 < 1920 := by
  obtain ⟨h1, h2⟩ := h
  have := PySem.Flt.log2_lt_of (show 0 < 40 by decide) (show n.natAbs < 2 ^ 40 by omega)
  omega
theorem len_ofString (s : String) : (Str.ofString s).length = s.toList.length := by
  rw [len_list]
  have := TL.tl_ofString s
  rw [show (Str.ofString s).cps.toList = s.toList.map Char.toNat from this, List.length_map]
/-! programs as data: what a repr asks -/
def Okd (n w : Nat) (d : PyData) : Prop := d.showable = true ∧ d.canLay0 = true ∧ d.intsShort 13 = true ∧ d.depth ≤ n ∧ d.weight ≤ w
def OkdL (n w : Nat) (ds : List PyData) : Prop := PyData.showableAll ds = true ∧ PyData.canLayAll0 ds = true ∧ PyData.intsShortAll 13 ds = true ∧ PyData.depthAll ds ≤ n ∧ PyData.weightAll ds ≤ w
theorem Okd.mono {n w n' w' : Nat} {d : PyData} (h : Okd n w d) (hn : n ≤ n') (hw : w ≤ w') : Okd n' w' d := ⟨h.1, h.2.1, h.2.2.1, Nat.le_trans h.2.2.2.1 hn, Nat.le_trans h.2.2.2.2 hw⟩
theorem OkdL.mono {n w n' w' : Nat} {d : List PyData} (h : OkdL n w d) (hn : n ≤ n') (hw : w ≤ w') : OkdL n' w' d := ⟨h.1, h.2.1, h.2.2.1, Nat.le_trans h.2.2.2.1 hn, Nat.le_trans h.2.2.2.2 hw⟩
theorem OkdL.nil {n w : Nat} : OkdL n w [] := ⟨rfl, rfl, rfl, Nat.zero_le _, Nat.zero_le _⟩
theorem OkdL.cons {n w w' : Nat} {d : PyData} {ds : List PyData} (h : Okd n w d) (h' : OkdL n w' ds) : OkdL n (w + 1 + w') (d :: ds) := by
  refine ⟨?_, ?_, ?_, ?_, ?_⟩
  · simp only [PyData.showableAll, h.1, h'.1, Bool.and_self]
  · simp only [PyData.canLayAll0, h.2.1, h'.2.1, Bool.and_self]
  · simp only [PyData.intsShortAll, h.2.2.1, h'.2.2.1, Bool.and_self]
  · simp only [PyData.depthAll]
    exact Nat.max_le.mpr ⟨h.2.2.2.1, h'.2.2.2.1⟩
  · simp only [PyData.weightAll]
    have := h.2.2.2.2
    have := h'.2.2.2.2
    omega
theorem Okd.tup {n w : Nat} {ds : List PyData} (h : OkdL n w ds) : Okd (n + 1) w (.tuple ds) := by
  refine ⟨?_, ?_, ?_, ?_, ?_⟩
  · simp only [PyData.showable]; exact h.1
  · simp only [PyData.canLay0]; exact h.2.1
  · simp only [PyData.intsShort]; exact h.2.2.1
  · simp only [PyData.depth]; have := h.2.2.2.1; omega
  · simp only [PyData.weight]; exact h.2.2.2.2
theorem Okd.kw {n : Nat} {z : Str} (h : PyData.strOk z = true) (l : z.length ≤ 8) : Okd n 8 (.str z) := ⟨by simp only [PyData.showable], by simp only [PyData.canLay0]; exact h, by simp only [PyData.intsShort], by simp only [PyData.depth]; exact Nat.zero_le _, by simp only [PyData.weight]; exact l⟩
theorem Okd.int {n : Nat} {i : Int} (h : In32 i) : Okd n 40 (.int i) := by
  refine ⟨?_, rfl, ?_, Nat.zero_le _, ?_⟩
  · simp only [PyData.showable]
    exact decide_eq_true (nat_log i h)
  · simp only [PyData.intsShort, PyData.shown]
    refine decide_eq_true ?_
    obtain ⟨h1, h2⟩ := h
    have : (Str.ofString (toString i)).length ≤ 13 := by
      rw [len_ofString, String.length_toList]
      exact Nat.le_trans (PySem.int_text_length_le10 (k := 10) (by decide) (by omega)) (by decide)
    exact this
  · simp only [PyData.weight]
    split
    · exact Nat.zero_le _
    · have := PySem.Flt.log2_lt_of (show 0 < 39 by decide) (show i.natAbs < 2 ^ 39 by obtain ⟨h1, h2⟩ := h; omega)
      omega

theorem all_okd {α : Type} {f : α → PyData} {n w : Nat} : ∀ {l : List α}, (∀ x ∈ l, Okd n w (f x)) → OkdL n ((w + 1) * l.length) (l.map f)
  | [], _ => OkdL.nil
  | z :: r, h => by
    have i := all_okd fun x hx => h x (List.mem_cons_of_mem _ hx)
    refine (OkdL.cons (h z (List.mem_cons_self ..)) i).mono (Nat.le_refl _) ?_
    rw [List.length_cons, Nat.mul_add]
    omega
theorem Okd.shown_len {n : Nat} {d : PyData} (h : Okd n 1000000 d) (hn : n ≤ 64) : d.shown.length ≤ sizeLine := by
  have := PyProof.Rows.shown_le13 (d := d) (by
    unfold PyData.layable0
    rw [h.2.1, decide_eq_true (Nat.le_trans h.2.2.2.1 hn), decide_eq_true (Nat.le_trans h.2.2.2.2 (by decide))]
    rfl) h.2.2.1
  rw [sizeLine_eq]
  omega

theorem ne_use {x y : V} {H : Hp} {Q : VK} (e : x = y) (s : scal x y = true) (q : Q (.bl false) H) : rNe x y H Q := by
  subst e
  refine ⟨s, ?_⟩
  rw [decide_eq_true rfl]
  exact q
theorem eq_use {x y : V} {H : Hp} {Q : VK} (e : x = y) (s : scal x y = true) (q : Q (.bl true) H) : rEq x y H Q := by
  subst e
  refine ⟨s, ?_⟩
  rw [decide_eq_true rfl]
  exact q

/-! defs that ask for a repr: nothing is being shown around them -/
structure FnG (P : Program) (w : World) (K : PySem.W.Frag) (mg : Str → Option Value) (base : Heap) (CX : CXT) (k : Nat) (f : Addr) (fd : FuncData) (ps : List Str) (sp : Sp) : Prop where
  len : ∀ vs H Q E, sp vs H Q E → vs.length = ps.length
  run : ∀ (A : Around) (outer : List PySem.Env) (s : Shared) (H : Hp) (args : Args) (us : List Value) (vs : List V) (Q : VK) (E : XK), A.guards = some [] → Room k A →
    Env0 P w K mg base A outer s H → BindsTo s fd args (ps.zip us) → Vals vs us → sp vs H Q E → codeAny (model P w) A (.call (.ref f) args) (CR CX outer P w H s Q E) s
theorem FnG.of {P : Program} {w : World} {K : PySem.W.Frag} {mg : Str → Option Value} {base : Heap} {CX : CXT} {k : Nat} {f : Addr} {fd : FuncData} {ps : List Str} {sp : Sp} (G : FnOk P w K mg base CX k f fd ps sp) : FnG P w K mg base CX k f fd ps sp :=
  ⟨G.len, fun A outer s H args us vs Q E _ => G.run A outer s H args us vs Q E⟩
section
variable {P : Program} {w : World} {K : PySem.W.Frag} {mg : Str → Option Value} {base : Heap} {x qual : Str} {params : Arguments} {body : List Stmt} {scope : Scope} {dvs : List V} {kws : List (Str × V)} {f : Addr} {fd : FuncData}
theorem FnG.mk' {CX : CXT} {N ps : List Str} {k : Nat} {sp : Sp} (F : FunD K x qual params body scope dvs kws f fd) (S : FnScope N ps scope) (len : ∀ vs H Q E, sp vs H Q E → vs.length = ps.length)
    (hbody : ∀ (cdv : Value) (A : Around) (outer : List PySem.Env) (s : Shared) (H : Hp) (vs : List V) (Q : VK) (E : XK), A.guards = some [] → Room k (A.deeper (envOfC qual scope s.heap.objs.size f cdv)) →
      sp vs H Q E → ∃ t, PSs (cxOf CX P w K mg base N qual scope f cdv A outer s H E) body t ∧ t { nx := fun _ H' => Q .non H', rt := Q } (start N vs) H) : FnG P w K mg base CX (k + 1) f fd ps sp := by
  obtain ⟨oc, od, dV, kV, doc, pm, an, cdv, ct, osl, rfl, at_, code, -, -⟩ := F.ex
  refine ⟨len, fun A outer s H args us vs Q E gd room e0 bind rel want => ?_⟩
  have kin : K.In s.heap := e0.mod.kin.keeps fun b o e => (e0.bs b o e).1
  have nol : s.heap.NoLimit := e0.mod.nolimit.keeps fun b o e => (e0.bs b o e).1
  refine codeAny_call_function room.depth (kin _ _ at_) rfl S.co S.gen rfl (PySem.W.codeRec_of kin code) (bind _ _ _ _ ?_)
  refine wpAny_newFunctionEnv_cells S.kind ?pars fun env he s1 y => ?go
  case pars =>
    rintro ⟨n, v⟩ hn
    exact (S.par n (List.of_mem_zip hn).1).imp id fun c => ⟨c, PySem.W.cellsFrom_some _ _ _ (.inl c)⟩
  case go =>
    subst he
    obtain ⟨t, ht, go⟩ := hbody cdv A outer s H vs Q E gd (room.deeper _) want
    have I := L2.inv_start (CX := CX) (E := E) (cd := cdv) (qual := qual) (f := f) S room.hd e0 (len _ _ _ _ want) rel y
    refine ⟨nol.keeps y.toInCall.keep, codeAny_func (wpAny_mono (ht.run [] s1 (start N vs) H _ I go) (fun fl s' z => ?_) fun e s' z => z)⟩
    cases fl with
    | ret u => obtain ⟨v, σ', H', J, rv, qv⟩ := z; exact ⟨v, H', J.os, J.bare, J.base, J.hok, rv, qv⟩
    | next => obtain ⟨σ', H', J, qv⟩ := z; exact ⟨.non, H', J.os, J.bare, J.base, J.hok, rfl, qv⟩
    | brk => exact z.elim fun _ h => h.elim fun _ h => h.2.elim
    | cont => exact z.elim fun _ h => h.elim fun _ h => h.2.elim
end
section
variable {X : Cx} {CX : CXT} {k : Nat} {f : Addr} {fd : FuncData} {ps : List Str} {sp : Sp} {dvs : List V} {ds : List Value} {E : XK} {x : Str} {p pos : Pos} {e : Expr} {es : List Expr} {t : TA}
theorem run_fnG {pins : List (Addr × Obj)} {σ : L2.St} {H : Hp} {s : Shared} {us : List Value} {vs : List V} {Q : VK} (F : FnG X.prog X.w X.K X.mg X.base CX k f fd ps sp) (gd : X.A.guards = some []) (hr : Room k X.A) (hb : Binds X.K fd ps ds) (hd : Vals dvs ds)
    (hx : Passes CX X E) (I : L2.Inv X pins σ H s) (r : Vals vs us) (q : sp (vs ++ dvs) H Q E) : wpAny (model X.prog X.w) X.A (call (.ref f) us) (EP X pins σ Q) X.xe s := by
  have both := r.append hd
  have ln : (us ++ ds).length = ps.length := both.length.symm.trans (F.len _ _ _ _ q)
  apply wpAny_call
  refine codeAny_mono (F.run X.A X.stack s H ⟨us, []⟩ _ _ Q E gd hr I.env0 (hb s us I.kIn ln) both q) ?_
  rintro (e | fl) s' z
  · exact hx pins σ H s e s' I z
  · cases fl with
    | ret u => exact I.after z
    | _ => exact z.elim
theorem pe_callG (F : FnG X.prog X.w X.K X.mg X.base CX k f fd ps sp) (gd : X.A.guards = some []) (hr : Room k X.A) (hg : Gl X x) (hm : X.mg x = some (.ref f)) (hk : PySem.W.keepIn X.K (.ref f) = true) (hb : Binds X.K fd ps ds) (hd : Vals dvs ds) (hx : Passes CX X E)
    (ha : PA X (e :: es) t) (hdb : (x == ("__debug__" : Str)) = false := by decide) (he : starEach (e :: es) X.env = (false, eval e X.env) :: starEach es X.env := by rfl) (hpl : (backTo pos (starEach es X.env)).any (·.1) = false := by rfl) :
    PE X (.Call (.Name x p) (e :: es) [] pos) (tCall sp dvs E t) := ⟨fun pins s σ H Q I h => wpAny_Call_Name_kw (ld_glob I hg hm
      (PySem.W.callWith_K (h₀ := X.base) I.ok.mod.kin hk (thn (ha.run pos pins s σ H _ I h) fun us s1 ⟨vs, H1, I1, r, q⟩ => ⟨I1.kIn, run_fnG F gd hr hb hd hx I1 r q⟩) he hpl) hdb)⟩
/-- repr of data -/
def rRepr (K : PySem.W.Frag) : List V → Hp → VK → Prop := fun xs H Q => ∃ (v : V) (ds : List PyData), xs = [v] ∧ Dp K H v (.tuple ds) ∧ (PyData.tuple ds).showable = true ∧ (PyData.tuple ds).canLay0 = true ∧ (PyData.tuple ds).depth ≤ 60 ∧
  (PyData.tuple ds).shown.length ≤ sizeLine ∧ Q (.str (PyData.tuple ds).shown) H
theorem call_reprD (gd : X.A.guards = some []) (hr : Room k X.A) : CallR X (.builtin "repr") (rRepr X.K) := by
  intro pins s σ H xs us Q I r h
  obtain ⟨v, ds, rfl, dp, sh, cl, de, sz, q⟩ := h
  obtain ⟨u, rfl, ru⟩ := vals1 r
  obtain ⟨as, rd⟩ := Dp.reads I _ v u dp ru
  obtain ⟨a, xs, rfl, -, -⟩ := dp_tup dp
  cases ru
  have un := hr.un
  refine repr_of_reads' rd sh (PyData.noDict_hsm (PyData.hasDict_of_canLay _ cl)) gd (by omega) (fun _ _ e => e) (fun h' z tk keep => ?_) sz
  exact ⟨.str _, H, I.kept keep, ⟨_, rfl⟩, q⟩
end
/-- a law's end for a law that asks for a repr -/
theorem walk_bitsG {l : PySem.W.OpenLaw} {n k : Nat} {q : Program} {loose : List Str} {XP : (Str → Option Value) → Heap → Prop} {YP : World → Heap → Prop} {d : DefRec} {CX : CXT} {x : Str}
    (hn : l.most = some n) (hn2 : n ≤ sizeLine) (hdf : d.params.defaults = []) (hr : Room k callerA)
    (F : ∀ (w : World) (mg : Str → Option Value) (fa : Addr) (h : Heap), YP w h → h.Ns mainGlobals mg → mg d.name = some (.ref fa) →
      ∃ (K : PySem.W.Frag) (fd : FuncData) (sp : Sp), K.In h ∧ (∀ (s : Shared) (u : Value), BindsTo s fd ⟨[u], []⟩ [(x, u)]) ∧
        (∀ (H : Hp) (a : Addr) (ns : List Int), ns.length ≤ n → (∀ z ∈ ns, Builtin.Int.intBits z ≤ 1048576) → Only H → SqL K H a (ns.map V.int) →
          sp [.ref a] H (fun v _ => v = .bl true) fun _ _ _ => False) ∧
        ∀ base : Heap, K.In base → base.Ns mainGlobals mg → FnG l.prog w K mg base CX k fa fd [x] sp)
    (hCX : ∀ (H : Hp) (s : Shared) (e : Value) (s' : Shared), CX [] H s (fun _ _ _ => False) e s' → False) :
    PySem.W.WalkO q loose XP YP l.row.toRowW d [] (fun f vs => PySem.call f vs) := by
  apply Att.attach_callB hn hdf
  intro w s0 s1 mg mb fa o pm cd doc a vs ns G Y ho hd hcd hmg hobj hints hlen hbits hg
  obtain ⟨K, fd, sp, KX, hb, hsp, hF⟩ := F w mg fa _ Y G.T.g hmg
  -- from an abstract heap that tracks the script at most
  have core : ∀ H : Hp, Only H → SqL K H a (ns.map V.int) → HOk l.prog w H s1.heap → (∀ b u, H b = some u → b = a) → ((∃ u, H a = some u) → K.lookup a = none) →
      codeAny (model l.prog w) callerA (.call (.ref fa) ⟨[.ref a], []⟩) (fun r s' => r = .ok (.ret (.bool true)) ∧ OldK s1.heap s'.heap ∧ s'.os = s1.os ∧ AllBare s'.gens) s1 := by
    intro H hO hS hok only own
    have dict : ∀ {b : Addr} {ob : Obj} {es : Array DictEntry} {ep : Nat}, s1.heap.get? b = some ob → ob.data = .dict es ep → H b = none := by
      intro b ob es ep e de
      cases z : H b with
      | none => rfl
      | some u =>
        obtain rfl := only b u z
        cases hobj.symm.trans e
        cases de
    have ns_ : ∀ {b : Addr} {m : Str → Option Value}, s1.heap.Ns b m → (hidT s1.heap H).Ns b m := by
      rintro b m ⟨ob, es, ep, e, de, z⟩
      exact ⟨ob, es, ep, hidT_get e (dict e de), de, z⟩
    have kin : K.In (hidT s1.heap H) := by
      intro b ob e
      refine hidT_get (KX b ob e) ?_
      cases z : H b with
      | none => rfl
      | some u =>
        obtain rfl := only b u z
        cases (own ⟨u, z⟩).symm.trans e
    obtain ⟨mc, c1, c2⟩ := G.T.nolimit
    have e0 : Env0 l.prog w K mg (hidT s1.heap H) callerA [] s1 H :=
      ⟨rfl, ⟨kin, ns_ G.T.g, ⟨mb, ns_ G.T.b, G.T.builtins⟩, mc, ns_ c1, c2⟩, fun b ob e => of_hidT e, Nat.le_of_eq (hidT_size _ _), trivial, (fun b z => nomatch z), hok, .of_eq hg⟩
    refine codeAny_mono ((hF _ kin (ns_ G.T.g)).run callerA [] s1 H ⟨[.ref a], []⟩ [.ref a] [.ref a] _ _ rfl hr e0 (hb s1 (.ref a)) (.cons rfl .nil) (hsp H a ns hlen hbits hO hS)) ?_
    rintro (e | fl) s' z
    · exact (hCX H s1 e s' z).elim
    · cases fl with
      | ret u =>
        obtain ⟨v, H', os, bare, un, ok', rv, rfl⟩ := z
        cases rv
        refine ⟨rfl, OldK.of_keep fun b ob e => ?_, os, bare⟩
        rcases hO b with y | ⟨oz, xs, y⟩
        · exact un.keep b ob e y (fun z => nomatch z) (fun z => nomatch z)
        · have t1 := (hok b _ y).1
          have t2 := (ok' b _ (un.frzs b oz _ y)).1
          cases e.symm.trans t1
          exact t2
      | _ => exact z.elim
  have rv := vals_ints hints
  have bound : (ns.map V.int).length ≤ sizeLine := by rw [List.length_map]; exact Nat.le_trans hlen hn2
  cases hk : K.lookup a with
  | some ob =>
    cases hobj.symm.trans (KX a ob hk)
    exact core (fun _ => none) (fun _ => .inl rfl) (.inr ⟨_, vs.toArray, _, hk, rfl, rfl, rfl, by rw [List.size_toArray, ← rv.length]; exact bound, by simpa using rv⟩) (fun b u z => nomatch z) (fun b u z => nomatch z) (fun ⟨u, z⟩ => nomatch z)
  | none =>
    refine core (fun b => if b = a then some (.frz { cls := .type "list", data := .seq vs.toArray } (.lst (ns.map V.int))) else none) (fun b => ?_) (.inl (.inr ⟨_, if_pos rfl⟩)) (fun b u z => ?_) (fun b u z => ?_) fun _ => hk
    · by_cases e : b = a
      · exact .inr ⟨_, _, if_pos e⟩
      · exact .inl (if_neg e)
    · by_cases e : b = a
      · subst e
        cases (if_pos rfl).symm.trans z
        exact ⟨hobj, bound, vs, _, rv, hobj⟩
      · cases (if_neg e).symm.trans z
    · by_cases e : b = a
      · exact e
      · cases (if_neg e).symm.trans z

/-! repr of a list -/
section
variable {X : Cx} {k : Nat}
def rReprL (K : PySem.W.Frag) : List V → Hp → VK → Prop := fun xs H Q => ∃ (v : V) (ds : List PyData), xs = [v] ∧ Dp K H v (.list ds) ∧ (PyData.list ds).showable = true ∧ (PyData.list ds).canLay0 = true ∧ (PyData.list ds).depth ≤ 60 ∧
  (PyData.list ds).shown.length ≤ sizeLine ∧ Q (.str (PyData.list ds).shown) H
theorem call_reprL (gd : X.A.guards = some []) (hr : Room k X.A) : CallR X (.builtin "repr") (rReprL X.K) := by
  intro pins s σ H xs us Q I r h
  obtain ⟨v, ds, rfl, dp, sh, cl, de, sz, q⟩ := h
  obtain ⟨u, rfl, ru⟩ := vals1 r
  obtain ⟨as, rd⟩ := Dp.reads I _ v u dp ru
  obtain ⟨a, rfl⟩ : ∃ a, v = .ref a := by
    cases dp with
    | lst h1 h2 => exact ⟨_, rfl⟩
  cases ru
  have un := hr.un
  refine repr_of_reads' rd sh (PyData.noDict_hsm (PyData.hasDict_of_canLay _ cl)) gd (by omega) (fun _ _ e => e) (fun h' z tk keep => ?_) sz
  exact ⟨.str _, H, I.kept keep, ⟨_, rfl⟩, q⟩
end
theorem Okd.lst {n w : Nat} {ds : List PyData} (h : OkdL n w ds) : Okd (n + 1) w (.list ds) := by
  refine ⟨?_, ?_, ?_, ?_, ?_⟩
  · simp only [PyData.showable]; exact h.1
  · simp only [PyData.canLay0]; exact h.2.1
  · simp only [PyData.intsShort]; exact h.2.2.1
  · simp only [PyData.depth]; have := h.2.2.2.1; omega
  · simp only [PyData.weight]; exact h.2.2.2.2
theorem Okd.repL {H : Hp} {K : PySem.W.Frag} {n m : Nat} {v : V} {ds : List PyData} {Q : VK} (h : Okd n m (.list ds)) (hn : n ≤ 60) (hm : m ≤ 1000000) (d : Dp K H v (.list ds)) (q : Q (.str (PyData.list ds).shown) H) : rReprL K [v] H Q :=
  ⟨v, ds, rfl, d, h.1, h.2.1, Nat.le_trans h.2.2.2.1 hn, (h.mono (Nat.le_refl _) hm).shown_len (by omega), q⟩
theorem Okd.true_ {n : Nat} : Okd n 40 (.bool true) := ⟨by simp only [PyData.showable], by simp only [PyData.canLay0], by simp only [PyData.intsShort], by simp only [PyData.depth]; exact Nat.zero_le _, by simp only [PyData.weight]; decide⟩
/-! how long a list's text is -/
def gl : Nat → List Nat → Nat
  | _, [] => 0
  | k, n :: r => (if k > 0 then 2 else 0) + n + gl (k + 1) r
theorem tf_len : ∀ (ts : List Str) (k : Nat) (acc : Str), (textFrom k acc ts).length = acc.length + gl k (ts.map Str.length)
  | [], k, acc => rfl
  | t :: r, k, acc => by
    have e : (acc ++ (if k > 0 then ", " else "" : String) ++ t).length = acc.length + (if k > 0 then 2 else 0) + t.length := by
      rw [strLen_append, strLen_append]
      split <;> rfl
    have ih := tf_len r (k + 1) (acc ++ (if k > 0 then ", " else "" : String) ++ t)
    rw [e] at ih
    show (textFrom (k + 1) _ r).length = _
    rw [ih, List.map_cons]
    show _ = acc.length + ((if k > 0 then 2 else 0) + t.length + gl (k + 1) (r.map Str.length))
    omega
theorem gl_set : ∀ (l : List Nat) (k i n m : Nat), l[i]? = some m → gl k (l.set i n) + m = gl k l + n
  | [], _, _, _, _, h => by simp at h
  | a :: r, k, 0, n, m, h => by
    cases h
    show (if k > 0 then 2 else 0) + n + gl (k + 1) r + a = (if k > 0 then 2 else 0) + a + gl (k + 1) r + n
    omega
  | a :: r, k, i + 1, n, m, h => by
    have ih := gl_set r (k + 1) i n m h
    show (if k > 0 then 2 else 0) + a + gl (k + 1) (r.set i n) + m = (if k > 0 then 2 else 0) + a + gl (k + 1) r + n
    omega
theorem shownAll_map : ∀ ds : List PyData, PyData.shownAll ds = ds.map PyData.shown
  | [] => by simp only [PyData.shownAll, List.map_nil]
  | d :: r => by simp only [PyData.shownAll, List.map_cons, shownAll_map r]
theorem list_text_ne {ds : List PyData} {i : Nat} {d e : PyData} (h : ds[i]? = some d) (hl : e.shown.length ≠ d.shown.length) : (PyData.list (ds.set i e)).shown ≠ (PyData.list ds).shown := by
  intro z
  have z2 := congrArg Str.length z
  simp only [PyData.shown] at z2
  have t1 : ∀ ts : List Str, (listText ts).length = (textFrom 0 "[" ts).length + 1 := fun ts => by
    show (textFrom 0 "[" ts ++ "]").length = _
    rw [strLen_append]; rfl
  rw [t1, t1, tf_len, tf_len, shownAll_map, shownAll_map, List.map_map, List.map_map, List.map_set] at z2
  have g := gl_set (ds.map (Str.length ∘ PyData.shown)) 0 i ((Str.length ∘ PyData.shown) e) ((Str.length ∘ PyData.shown) d) (by rw [List.getElem?_map, h]; rfl)
  have e1 : (Str.length ∘ PyData.shown) e = e.shown.length := rfl
  have e2 : (Str.length ∘ PyData.shown) d = d.shown.length := rfl
  omega
theorem eqvAll_len : ∀ {xs ys : List PyData}, PyData.eqvAll xs ys = true → xs.length = ys.length
  | [], [], _ => rfl
  | [], _ :: _, h => by simp [PyData.eqvAll] at h
  | _ :: _, [], h => by simp [PyData.eqvAll] at h
  | x :: xs, y :: ys, h => by
    simp only [PyData.eqvAll, Bool.and_eq_true] at h
    rw [List.length_cons, List.length_cons, eqvAll_len h.2]
theorem eqvAll_at : ∀ {xs ys : List PyData} {i : Nat} {x y : PyData}, PyData.eqvAll xs ys = true → xs[i]? = some x → ys[i]? = some y → PyData.eqv x y = true
  | [], _, _, _, _, _, h, _ => by simp at h
  | _ :: _, [], _, _, _, _, _, h => by simp at h
  | a :: xs, b :: ys, 0, x, y, h, h1, h2 => by
    simp only [PyData.eqvAll, Bool.and_eq_true] at h
    cases h1
    cases h2
    exact h.1
  | a :: xs, b :: ys, i + 1, x, y, h, h1, h2 => by
    simp only [PyData.eqvAll, Bool.and_eq_true] at h
    exact eqvAll_at (i := i) h.2 h1 h2
theorem dpAll_set {K : PySem.W.Frag} {H : Hp} {v : V} {d : PyData} (h : Dp K H v d) : ∀ {xs : List V} {ds : List PyData} (i : Nat), DpAll K H xs ds → DpAll K H (xs.set i v) (ds.set i d)
  | _, _, _, .nil => .nil
  | _, _, 0, .cons _ t => .cons h t
  | _, _, i + 1, .cons a t => .cons a (dpAll_set h i t)

/-! zip(t, l), t a tuple, l a list: own rule -/
namespace ZipM
open PySem PySem.Spec PyProof.Rows L2
def ItzM (K : PySem.W.Frag) (a b : Addr) : It :=
  ⟨fun i H => ∃ (xs ys : List V) (x y : V), SqT K H a xs ∧ SqL K H b ys ∧ xs[i]? = some x ∧ ys[i]? = some y,
    fun i H v H' => ∃ T x y, v = .ref T ∧ H T = none ∧ H' = upd H T (.tup [x, y]) ∧ (∀ xs, SqT K H a xs → xs[i]? = some x) ∧ ∀ ys, SqL K H b ys → ys[i]? = some y,
    fun i H => ∃ xs ys : List V, SqT K H a xs ∧ SqL K H b ys ∧ xs.length = i ∧ ys.length = i⟩
theorem sep_of {z TI TO i1 i2 a b : Addr} (D : ZipApart z TI TO i1 i2 a b) : ZipSep2 z TI TO i1 i2 [i1, a] [i2, b] where
  TIz := D.TIz
  TOz := D.TOz
  TITO := D.TITO
  TIi1 := D.TIi1
  mem1 := by simp
  zf1 := by
    intro h
    have h' : z = i1 ∨ z = a := by simpa using h
    rcases h' with e | e
    · exact D.i1z e.symm
    · exact D.l1z e.symm
  Tf1 := by
    intro h
    have h' : TO = i1 ∨ TO = a := by simpa using h
    rcases h' with e | e
    · exact D.TOi1 e
    · exact D.l1TO e.symm
  TIi2 := D.TIi2
  mem2 := by simp
  zf2 := by
    intro h
    have h' : z = i2 ∨ z = b := by simpa using h
    rcases h' with e | e
    · exact D.i2z e.symm
    · exact D.l2z e.symm
  Tf2 := by
    intro h
    have h' : TO = i2 ∨ TO = b := by simpa using h
    rcases h' with e | e
    · exact D.TOi2 e
    · exact D.l2TO e.symm
  sep1_2 := by
    intro h
    have h' : i1 = i2 ∨ i1 = b := by simpa using h
    rcases h' with e | e
    · exact D.i12 e
    · exact D.l2i1 e.symm
  sep2_1 := by
    intro h
    have h' : i2 = i1 ∨ i2 = a := by simpa using h
    rcases h' with e | e
    · exact D.i12 e.symm
    · exact D.l1i2 e.symm
theorem turn {P : Program} {w : World} {K : PySem.W.Frag} {elts : List Expr} {kk : Nat} {tpos : Pos} {a b z TI TO i1 i2 : Addr} (D : ZipApart z TI TO i1 i2 a b) (n1 : a ≠ i1) (n2 : b ≠ i2) :
    Turn P w K (.Tuple elts kk tpos) (ItzM K a b) [z, TI, TO, i1, i2] z (fun i h => IsZip h z TI TO .none ∧ IsPair h TI (.ref i1) (.ref i2) ∧ (∃ x y, IsPair h TO x y) ∧ h.IsTupleIter i1 a i ∧ h.IsListIter i2 b i) where
  mem := by simp
  obj := fun i h st c hc => by
    obtain ⟨hz, hTI, ⟨x, y, hTO⟩, ⟨o1, e1, _, d1⟩, ⟨o2, e2, _, d2⟩⟩ := st
    have e' : c = z ∨ c = TI ∨ c = TO ∨ c = i1 ∨ c = i2 := by simpa using hc
    rcases e' with q | q | q | q | q
    · rw [q]; exact ⟨_, hz, fun v q => nomatch q⟩
    · rw [q]; exact ⟨_, hTI, fun v q => nomatch q⟩
    · rw [q]; exact ⟨_, hTO, fun v q => nomatch q⟩
    · rw [q]; exact ⟨o1, e1, fun v q => by rw [d1] at q; cases q⟩
    · rw [q]; exact ⟨o2, e2, fun v q => by rw [d2] at q; cases q⟩
  keep := fun i h h' st k => by
    obtain ⟨hz, hTI, ⟨x, y, hTO⟩, h1, h2⟩ := st
    exact ⟨k z (by simp) _ hz, k TI (by simp) _ hTI, ⟨x, y, k TO (by simp) _ hTO⟩, h1.at fun o q => k i1 (by simp) o q, h2.at fun o q => k i2 (by simp) o q⟩
  item := by
    intro X hP hw hK hc i pins s σ H E I hf st hg
    subst hP hw hK
    obtain ⟨hz, hTI, ⟨x0, y0, hTO⟩, h1, h2⟩ := st
    obtain ⟨xs, ys, x, y, hqx, hqy, hx, hy⟩ := hg
    obtain ⟨its, rv, p, _⟩ := I.tuple hqx
    obtain ⟨its2, rv2, p2, _⟩ := I.list hqy
    obtain ⟨u, hu, ru⟩ := rv.get hx
    obtain ⟨u2, hu2, ru2⟩ := rv2.get hy
    have hh := I.ok.hd hc
    have hzl : z < s.heap.objs.size := Heap.lt_size hz
    have lt1 : i < its.toArray.size := by
      have := (List.getElem?_eq_some_iff.mp hu).1
      simpa using this
    have lt2 : i < its2.toArray.size := by
      have := (List.getElem?_eq_some_iff.mp hu2).1
      simpa using this
    refine wpAny_pyNext_zipD2_item (sep_of D) (Draws.tuple (A := X.A.in1) hh i1 a n1 its.toArray) (Draws.list (A := X.A.in1) hh i2 b n2 its2.toArray) hz hTI hTO ⟨h1, p⟩ ⟨h2, p2.isList⟩ lt1 lt2 fun x1 x2 h' tk y1 y2 z' TO' d1 d2 hT hsz hk => ?_
    have eu : x1 = u := by
      have q : its.toArray[i]? = some u := by simpa using hu
      rw [q] at y1
      exact (Option.some.inj y1).symm
    have eu2 : x2 = u2 := by
      have q : its2.toArray[i]? = some u2 := by simpa using hu2
      rw [q] at y2
      exact (Option.some.inj y2).symm
    subst eu eu2
    refine ⟨_, rfl, wpAny_letOwnedTupleGo_zip (s := { s with heap := h', toks := tk }) z' fun h'' z'' sb => ?_⟩
    have hT2 : h''.get? s.heap.objs.size = some { cls := .type "tuple", data := .seq #[x1, x2] } := (sb.2 _ (Nat.ne_of_gt hzl)).trans hT
    have new : ObjOk X.prog X.w (upd H s.heap.objs.size (.tup [x, y])) h'' s.heap.objs.size (.tup [x, y]) :=
      ⟨by show 2 ≤ sizeLine; decide, [x1, x2], .cons ru (.cons ru2 .nil), ⟨_, hT2, rfl, _, rfl⟩⟩
    have I1 : Inv X pins σ (upd H s.heap.objs.size (.tup [x, y])) { s with heap := h'', toks := tk } :=
      I.turnedNew (t' := tk) (ch := [z, TI, TO, i1, i2]) (fun c o hb q => (sb.2 c (fun q' => hb (by simp [q']))).trans (hk c o (fun q' => hb (by simp [q'])) (fun q' => hb (by simp [q'])) (fun q' => hb (by simp [q'])) (fun q' => hb (by simp [q'])) q)) hf (Nat.le_refl _) new
    refine ⟨.ref s.heap.objs.size, _, I1, rfl, ⟨_, x, y, rfl, I.hok.fresh (Nat.le_refl _), rfl, fun l hl => by rw [I.tuple_inj hl hqx]; exact hx, fun l hl => by rw [I.list_inj hl hqy]; exact hy⟩, ⟨z'', ?_, ⟨x1, x2, ?_⟩, ?_, ?_⟩, fun c hcm => ?_⟩
    · exact (sb.2 _ D.TIz).trans (hk _ _ D.TIz D.TITO D.TIi1 D.TIi2 hTI)
    · exact (sb.2 _ D.TOz).trans TO'
    · exact d1.1.at fun o q => (sb.2 _ D.i1z).trans q
    · exact d2.1.at fun o q => (sb.2 _ D.i2z).trans q
    · have hlt : c < s.heap.objs.size := by
        have e' : c = z ∨ c = TI ∨ c = TO ∨ c = i1 ∨ c = i2 := by simpa using hcm
        rcases e' with q | q | q | q | q
        · rw [q]; exact hzl
        · rw [q]; exact Heap.lt_size hTI
        · rw [q]; exact Heap.lt_size hTO
        · rw [q]; obtain ⟨_, e1, _⟩ := h1; exact Heap.lt_size e1
        · rw [q]; obtain ⟨_, e2, _⟩ := h2; exact Heap.lt_size e2
      rw [upd_ne (Nat.ne_of_lt hlt)]
      exact (hf c hcm).1
  done := by
    intro X hP hw hK hc i pins s σ H E I hf st hg
    subst hP hw hK
    obtain ⟨hz, hTI, ⟨x0, y0, hTO⟩, h1, h2⟩ := st
    obtain ⟨xs, ys, hqx, hqy, l1, l2⟩ := hg
    obtain ⟨its, rv, p, _⟩ := I.tuple hqx
    obtain ⟨its2, rv2, p2, _⟩ := I.list hqy
    have hh := I.ok.hd hc
    have e1 : i = its.toArray.size := by
      have := rv.length
      rw [List.size_toArray]
      omega
    have e2 : i = its2.toArray.size := by
      have := rv2.length
      rw [List.size_toArray]
      omega
    exact wpAny_pyNext_zipD2_end (sep_of D) (Draws.tuple (A := X.A.in1) hh i1 a n1 its.toArray) (Draws.list (A := X.A.in1) hh i2 b n2 its2.toArray) hz hTI hTO ⟨h1, p⟩ ⟨h2, p2.isList⟩ (Nat.le_of_eq e1) (Nat.le_of_eq e2) (.inl e1) fun h' tk hk => ⟨rfl, I.turnedL (t' := tk) (ch := [z, TI, TO, i1, i2]) (fun c o hb q =>
      hk c o (fun q' => hb (by simp [q'])) (fun q' => hb (by simp [q'])) (fun q' => hb (by simp [q'])) (fun q' => hb (by simp [q'])) q) hf⟩
  self := fun A i s Q E st h => wpAny_pyIter_zip st.1 h
def iZipM (K : PySem.W.Frag) (ta : TA) : TI := fun σ H R => ta σ H fun vs H1 => ∃ a b xs ys, vs = [.ref a, .ref b] ∧ ((SqT K H1 a xs ∧ SqL K H1 b ys ∧ R (ItzM K a b) H1) ∨ (SqT K H1 a xs ∧ SqT K H1 b ys ∧ R (RZ.ItzT K a b) H1))
theorem pi_zipM {X : Cx} {e e2 : Expr} {ta : TA} {p pos tpos : Pos} {elts : List Expr} {kk : Nat} (hg : Gl X "zip") (hm : X.mg "zip" = none) (ha : PA X [e, e2] ta)
    (hs : starEach [e, e2] X.env = (false, eval e X.env) :: starEach [e2] X.env := by rfl) (hpl : (backTo pos (starEach [e2] X.env)).any (·.1) = false := by rfl) :
    PI X (.Tuple elts kk tpos) (.Call (.Name "zip" p) [e, e2] [] pos) (iZipM X.K ta) := by
  refine ⟨fun pins s σ H R I h => ?_⟩
  refine Call_ (ld_blt I hg hm PyProof.Rows.boot_zip (PyProof.Rows.callWith_type1 (thn (ha.run pos pins s σ H _ I h) fun us s1 ⟨vs, H1, I1, r1, q1⟩ => ?_) hs hpl))
  obtain ⟨a, b, xs, ys, ex, q1⟩ := q1
  subst ex
  cases r1 with
  | cons r rr =>
    cases rr with
    | cons r' rr =>
      cases rr
      cases r
      cases r'
      have fresh5 : ∀ c, c ∈ [s1.heap.objs.size + 4, s1.heap.objs.size + 2, s1.heap.objs.size + 3, s1.heap.objs.size, s1.heap.objs.size + 1] → FpOk X pins H1 c := fun c hcm => by
        have e' : c = s1.heap.objs.size + 4 ∨ c = s1.heap.objs.size + 2 ∨ c = s1.heap.objs.size + 3 ∨ c = s1.heap.objs.size ∨ c = s1.heap.objs.size + 1 := by simpa using hcm
        have hle : s1.heap.objs.size ≤ c := by
          rcases e' with z | z | z | z | z
          · rw [z]; exact Nat.le_add_right _ _
          · rw [z]; exact Nat.le_add_right _ _
          · rw [z]; exact Nat.le_add_right _ _
          · rw [z]; exact Nat.le_refl _
          · rw [z]; exact Nat.le_add_right _ _
        exact I1.fpOk hle (I1.hok.fresh hle)
      rcases q1 with ⟨hqx, hqy, q⟩ | ⟨hqx, hqy, q⟩
      · obtain ⟨its, rv, p1, _⟩ := I1.tuple hqx
        obtain ⟨its2, rv2, p2, _⟩ := I1.list hqy
        obtain ⟨o1, ho1, _⟩ := id p1
        have lt1 := Heap.lt_size ho1
        have lt2 := p2.lt
        refine zip_begins2 (begins_tuple a its.toArray) (begins_list b its2.toArray) p1 p2.isList fun h' hz hTI hTO h1 h2 hsz hk => wpAny_pyIter_zip hz ?_
        have I2 : Inv X pins σ H1 { s1 with heap := h' } := I1.kept (t' := s1.toks) hk
        exact ⟨s1.heap.objs.size + 4, [s1.heap.objs.size + 4, s1.heap.objs.size + 2, s1.heap.objs.size + 3, s1.heap.objs.size, s1.heap.objs.size + 1], _, _, H1, rfl, I2, turn (PySem.W.ktu_apart s1.heap.objs.size a b lt1 lt2) (Nat.ne_of_lt lt1) (Nat.ne_of_lt (Nat.lt_succ_of_lt lt2)), ⟨hz, hTI, ⟨_, _, hTO⟩, ⟨_, h1, rfl, rfl⟩, ⟨_, h2, rfl, rfl⟩⟩, fresh5, q⟩
      · obtain ⟨its, rv, p1, _⟩ := I1.tuple hqx
        obtain ⟨its2, rv2, p2, _⟩ := I1.tuple hqy
        obtain ⟨o1, ho1, _⟩ := id p1
        obtain ⟨o2, ho2, _⟩ := id p2
        refine RZ.call_zipT (show s1.heap.IsTuple a its.toArray from p1) (show s1.heap.IsTuple b its2.toArray from p2) fun h' hz hTI hTO h1 h2 hsz hk => wpAny_pyIter_zip hz ?_
        have I2 : Inv X pins σ H1 { s1 with heap := h' } := I1.kept (t' := s1.toks) hk
        exact ⟨s1.heap.objs.size + 4, [s1.heap.objs.size + 4, s1.heap.objs.size + 2, s1.heap.objs.size + 3, s1.heap.objs.size, s1.heap.objs.size + 1], _, _, H1, rfl, I2, RZ.turn_zipT (PySem.W.ktu_apart s1.heap.objs.size a b (Heap.lt_size ho1) (Heap.lt_size ho2)), ⟨hz, hTI, ⟨_, _, hTO⟩, h1, h2⟩, fresh5, q⟩
theorem for_zipM {K : PySem.W.Frag} {a b : Addr} {xs ys : List V} {g : TG} {tb : TS} {D : Ends} {σ : L2.St} {H : Hp} (hl : xs.length = ys.length) (Pv : Nat → L2.St → Hp → Prop) (h0 : Pv 0 σ H) (hq : ∀ i σ H, Pv i σ H → SqT K H a xs ∧ SqL K H b ys)
    (hs : ∀ (i : Nat) (x y : V) (T : Addr) (σ : L2.St) (H : Hp), xs[i]? = some x → ys[i]? = some y → Pv i σ H → H T = none → g (.ref T) σ (upd H T (.tup [x, y])) fun σ2 H2 => tb { D with nx := Pv (i + 1), ct := Pv (i + 1), bk := D.nx } σ2 H2) (hd : ∀ σ H, Pv xs.length σ H → D.nx σ H) :
    ∃ W : Nat → Nat → L2.St → Hp → Prop, (∃ m, W 0 m σ H) ∧ ∀ i m σ H, W i m σ H →
      ((ItzM K a b).stop i H ∧ D.nx σ H) ∨ ((ItzM K a b).go i H ∧ ∃ N : L2.St → Hp → Prop, (∀ σ' H', N σ' H' → ∃ m', m' < m ∧ W (i + 1) m' σ' H') ∧ ∀ v H', (ItzM K a b).yld i H v H' → g v σ H' fun σ2 H2 => tb { D with nx := N, ct := N, bk := D.nx } σ2 H2) := by
  refine ⟨fun i m σ H => m = xs.length - i ∧ i ≤ xs.length ∧ Pv i σ H, ⟨xs.length, rfl, Nat.zero_le _, h0⟩, ?_⟩
  rintro i m σ H ⟨rfl, hi, p⟩
  obtain ⟨qx, qy⟩ := hq i σ H p
  by_cases hlt : i < xs.length
  · have hx : xs[i]? = some xs[i] := List.getElem?_eq_getElem hlt
    have hlt2 : i < ys.length := by omega
    have hy : ys[i]? = some ys[i] := List.getElem?_eq_getElem hlt2
    refine .inr ⟨⟨xs, ys, _, _, qx, qy, hx, hy⟩, Pv (i + 1), fun σ' H' p' => ⟨xs.length - (i + 1), by omega, rfl, hlt, p'⟩, fun v H' y => ?_⟩
    obtain ⟨T, x', y', rfl, hT, rfl, f1, f2⟩ := y
    exact hs i x' y' T σ H (f1 xs qx) (f2 ys qy) p hT
  · have e : i = xs.length := by omega
    subst e
    exact .inl ⟨⟨xs, ys, qx, qy, rfl, hl.symm⟩, hd σ H p⟩
end ZipM

/-! last rows drawn: the drawer's state -/
theorem putK_in {kvs : List (Key × V)} {k : Key} {u v : V} (h : valV kvs k = some u) : (putK kvs k v).length = kvs.length := by
  unfold putK
  rw [valV_any, h, if_pos (show (some u).isSome = true from rfl), List.length_map]
theorem valV_putS (kvs : List (Key × V)) (k x : Str) (v : V) : valV (putK kvs (.inr k) v) (.inr x) = if x = k then some v else valV kvs (.inr x) := by
  rw [valV_put]
  by_cases c : x = k
  · rw [if_pos c, if_pos (congrArg Sum.inr c)]
  · rw [if_neg c, if_neg fun z => c (Sum.inr.inj z)]
section
variable {P : Program} {w : World} {K : PySem.W.Frag} {mg : Str → Option Value} {base : Heap}
/-- the drawer's dict: digits, draws, and what else it has -/
structure DSv (H : Hp) (d : Addr) (n : Nat) (f : Str → Option V) : Prop where
  e : ∃ (kvs : List (Key × V)) (g dr : Int), 0 ≤ g ∧ H d = some (.dK kvs) ∧ kvs.length ≤ n ∧ ∀ k : Str, valV kvs (.inr k) = if k = "digits" then some (.int g) else if k = "draw" then some (.int dr) else f k
  n : n ≤ 20
theorem DSv.get {H : Hp} {d : Addr} {n : Nat} {f : Str → Option V} {k : Str} {v : V} (h : DSv H d n f) (h1 : k ≠ "digits") (h2 : k ≠ "draw") (e : f k = some v) : DGet H d (.str k) (some v) := by
  obtain ⟨kvs, g, dr, g0, eH, l, hv⟩ := h.e
  exact dget_k eH (by rw [hv, if_neg h1, if_neg h2, e])
theorem DSv.keep {H H' : Hp} {d : Addr} {n : Nat} {f : Str → Option V} (h : DSv H d n f) (e : H' d = H d) : DSv H' d n f := by
  obtain ⟨kvs, g, dr, g0, eH, l, hv⟩ := h.e
  exact ⟨⟨kvs, g, dr, g0, e.trans eH, l, hv⟩, h.n⟩
theorem DSv.sm {H H' : Hp} {d : Addr} {n : Nat} {f : Str → Option V} (h : DSv H d n f) (s : Same H H') : DSv H' d n f := by
  obtain ⟨kvs, g, dr, g0, eH, l, hv⟩ := h.e
  exact ⟨⟨kvs, g, dr, g0, s _ _ eH, l, hv⟩, h.n⟩
theorem DSv.kp {S : Addr → Prop} {H H' : Hp} {d : Addr} {n : Nat} {f : Str → Option V} (h : DSv H d n f) (s : Kp S H H') (ns : ¬ S d) : DSv H' d n f := by
  obtain ⟨kvs, g, dr, g0, eH, l, hv⟩ := h.e
  exact ⟨⟨kvs, g, dr, g0, s _ _ eH fun z => absurd z ns, l, hv⟩, h.n⟩
theorem DSv.ne {H : Hp} {d a : Addr} {n : Nat} {f : Str → Option V} (h : DSv H d n f) (na : H a = none) : d ≠ a := by
  obtain ⟨kvs, g, dr, g0, eH, l, hv⟩ := h.e
  exact ne_of_none eH na
/-- something put: at a key that there is, or not yet -/
theorem DSv.put {H : Hp} {d : Addr} {n m : Nat} {f : Str → Option V} {k : Str} {v : V} (h : DSv H d n f) (h1 : k ≠ "digits") (h2 : k ≠ "draw") (hm : (n < m ∨ (n ≤ m ∧ ∃ u, f k = some u)) ∧ m ≤ 20) :
    ∃ H', DPut H d (.str k) v H' ∧ DSv H' d m (fun x => if x = k then some v else f x) ∧ Kp (fun b => b = d) H H' := by
  obtain ⟨kvs, g, dr, g0, eH, l, hv⟩ := h.e
  have hn := h.n
  refine ⟨_, dput_k eH (by omega), ⟨⟨putK kvs (.inr k) v, g, dr, g0, upd_same, ?_, fun x => ?_⟩, hm.2⟩, Kp.upd eH trivial rfl⟩
  · rcases hm.1 with c | ⟨c, u, hu⟩
    · have := length_putK kvs (.inr k) v
      omega
    · rw [putK_in (u := u) (by rw [hv, if_neg h1, if_neg h2, hu])]
      omega
  · rw [valV_putS, hv]
    by_cases c : x = k
    · rw [if_pos c, c, if_neg h1, if_neg h2, if_pos rfl]
    · rw [if_neg c, if_neg c]
def sp_nextD : Sp := fun vs H Q _ => ∃ (d : Addr) (n : Nat) (f : Str → Option V) (k : Int), vs = [.ref d, .int k] ∧ DSv H d n f ∧ 0 < k ∧ k < 2 ^ 64 ∧ ∀ H' r, Kp (fun b => b = d) H H' → DSv H' d n f → 0 ≤ r → r < k → Q (.int r) H'
theorem ok__law_nextD (T : Top K mg) : FnOk P w K mg base CX0 1 (He.ga K "_law_next") T.fd__law_next ["_law_s", "_law_size"] sp_nextD := by
  refine T.F__law_next.ok sc__law_next (fun vs H Q E h => ?_) (fun cdv A0 outer s0 H vs Q E hr h => ?_)
  · obtain ⟨d, n, f, k, rfl, _⟩ := h
    rfl
  · obtain ⟨d, n, f, k, rfl, ds, k0, k1, q⟩ := h
    refine ⟨_, PSs.nox (pss_cons (ps_set (i := 2) sc__law_next.nd rfl (Or.inl rfl) (pe_dget (hu_of hr) (pv 0) pe_str (fun _ _ => rfl)))
        (pss_cons (ps_dput (hu_of hr) (pv 0) pe_str (pe_op op_fdivW (pv 2) (pv 1)) (by rfl))
        (pss_cons (ps_dput (hu_of hr) (pv 0) pe_str (pe_op op_mod (pe_op op_add (pe_op op_mul (pe_dget (hu_of hr) (pv 0) pe_str (fun _ _ => rfl)) pe_int) pe_int) pe_int) (by rfl))
        (pss_one (ps_ret (pe_op op_mod (pe_ifExp (pt_cmpR op_gt (pv 2) pe_int (nomark _)) (pv 2) (pe_op op_fdivW (pe_dget (hu_of hr) (pv 0) pe_str (fun _ _ => rfl)) pe_int)) (pv 1))))))), ?_⟩
    obtain ⟨kvs, g, dr, g0, e, l, hv⟩ := ds.e
    have hn := ds.n
    have cdk : ∀ z : Int, CDivW z k := fun z => wide_div (b := 64) k0 (by omega) (by decide) (by decide)
    have nd : ("draw" : Str) ≠ "digits" := by decide +kernel
    have v1 : valV kvs (.inr "digits") = some (.int g) := by rw [hv, if_pos rfl]
    have v2 : valV kvs (.inr "draw") = some (.int dr) := by rw [hv, if_neg nd, if_pos rfl]
    refine ⟨_, rfl, _, _, rfl, dget_k e v1, ?_⟩
    refine ⟨_, rfl, _, rfl, _, _, rfl, rfl, cdk _, _, rfl, _, _, rfl, dput_k e (by omega), ?_⟩
    have g1 : 0 ≤ g / k := Int.ediv_nonneg g0 (by omega)
    have v3 : valV (putK kvs (.inr "digits") (.int (g / k))) (.inr "draw") = some (.int dr) := by rw [valV_putS, if_neg nd, v2]
    have l3 : (putK kvs (.inr "digits") (.int (g / k))).length = kvs.length := putK_in v1
    refine ⟨_, rfl, _, _, rfl, dget_k upd_same v3, _, _, rfl, rfl, .inr ⟨by decide, by decide⟩, _, _, rfl, rfl, _, _, rfl, rfl, (by show (0 : Int) < 2147483647; decide), _, rfl, _, _, rfl, dput_k upd_same (show (putK kvs (.inr "digits") (.int (g / k))).length ≤ 100 by omega), ?_⟩
    rw [upd_upd]
    have l4 : (putK (putK kvs (.inr "digits") (.int (g / k))) (.inr "draw") (.int ((dr * 48271 + 11) % 2147483647))).length = kvs.length := (putK_in v3).trans l3
    have k4 : Kp (fun b => b = d) H (upd H d (.dK (putK (putK kvs (.inr "digits") (.int (g / k))) (.inr "draw") (.int ((dr * 48271 + 11) % 2147483647))))) := Kp.upd e trivial rfl
    have v4 : valV (putK (putK kvs (.inr "digits") (.int (g / k))) (.inr "draw") (.int ((dr * 48271 + 11) % 2147483647))) (.inr "draw") = some (.int ((dr * 48271 + 11) % 2147483647)) := by rw [valV_putS, if_pos rfl]
    have d4 : DSv (upd H d (.dK (putK (putK kvs (.inr "digits") (.int (g / k))) (.inr "draw") (.int ((dr * 48271 + 11) % 2147483647))))) d n f := by
      refine ⟨⟨_, g / k, (dr * 48271 + 11) % 2147483647, g1, upd_same, by omega, fun x => ?_⟩, hn⟩
      rw [valV_putS, valV_putS, hv]
      by_cases c1 : x = "digits"
      · rw [c1, if_neg nd.symm, if_pos rfl, if_pos rfl]
      · by_cases c2 : x = "draw"
        · rw [if_pos c2, if_neg c1, if_pos c2]
        · rw [if_neg c2, if_neg c1, if_neg c1, if_neg c1, if_neg c2, if_neg c2]
    have fin : ∀ z : Int, Q (.int (z % k)) _ := fun z => q _ _ k4 d4 (Int.emod_nonneg _ (by omega)) (Int.emod_lt_of_pos _ k0)
    refine ⟨_, rfl, _, _, rfl, rfl, _, rfl, ?_⟩
    refine ite2 (fun _ => ?_) (fun _ => ?_)
    · exact ⟨_, rfl, _, rfl, _, _, rfl, rfl, k0, fin _⟩
    · exact ⟨_, rfl, _, _, rfl, dget_k upd_same v4, _, _, rfl, rfl, cd (by decide) (by decide), _, rfl, _, _, rfl, rfl, k0, fin _⟩
end

/-! last rows, plain -/
/-- a place that has a number -/
inductive NP where
  | b (n : Nat)
  | s (n : Nat)
deriving DecidableEq
def NP.k : NP → Str
  | .b _ => "box"
  | .s _ => "shelf"
def NP.i : NP → Nat
  | .b n => n
  | .s n => n
def NP.d (p : NP) : PyData := .tuple [.str p.k, .int (p.i : Nat)]
def trD (t : Nat) : PyData := .tuple [.str "tray", .int (t : Nat)]
inductive LR where
  | num (b : Nat) (n : Int)
  | no (b a : Nat)
  | op (w : Str) (b a c : Nat)
  | tell (b : Nat)
  | mv (p q : NP)
  | sw (p q : NP)
  | tmv (a b : Nat)
  | tsw (a b : Nat)
  | fresh (t s : Nat)
  | get (b t a : Nat)
  | put (t a b : Nat)
  | jump (r : Nat)
  | cho (b r1 r2 : Nat)
  | call (c : Nat) (ps : List NP) (ans : NP)
  | give (b : Nat)
  | fail (n : Nat)
def nD (n : Nat) : PyData := .int (n : Nat)
def LR.d : LR → PyData
  | .num b n => .tuple [.str "number", nD b, .int n]
  | .no b a => .tuple [.str "not", nD b, nD a]
  | .op w b a c => .tuple [.str w, nD b, nD a, nD c]
  | .tell b => .tuple [.str "tell", nD b]
  | .mv p q => .tuple [.str "move", p.d, q.d]
  | .sw p q => .tuple [.str "swap", p.d, q.d]
  | .tmv a b => .tuple [.str "move", trD a, trD b]
  | .tsw a b => .tuple [.str "swap", trD a, trD b]
  | .fresh t s => .tuple [.str "fresh", nD t, nD s]
  | .get b t a => .tuple [.str "get", nD b, nD t, nD a]
  | .put t a b => .tuple [.str "put", nD t, nD a, nD b]
  | .jump r => .tuple [.str "jump", nD r]
  | .cho b r1 r2 => .tuple [.str "choose", nD b, nD r1, nD r2]
  | .call c ps ans => .tuple [.str "call", nD c, .tuple (ps.map NP.d), ans.d]
  | .give b => .tuple [.str "give", nD b]
  | .fail n => .tuple [.str "fail", nD n]
structure LP where
  ins : List (Option NP)
  many : Nat
  rows : List LR
def insD : Option NP → PyData
  | some p => p.d
  | none => .none
def LP.d (p : LP) : PyData := .tuple [.tuple (p.ins.map insD), nD p.many, nD p.many, .tuple (p.rows.map LR.d)]
theorem NP.nl (p : NP) : nLd p.d = true := by simp [NP.d, nLd, nLs]
theorem nps_nl (l : List NP) : nLs (l.map NP.d) = true := noLs_all fun x hx => by
  obtain ⟨q, _, rfl⟩ := List.mem_map.mp hx
  exact q.nl
theorem LR.nl (r : LR) : nLd r.d = true := by cases r <;> simp [LR.d, NP.d, trD, nD, nLd, nLs, nps_nl]
theorem lrs_nl (l : List LR) : nLs (l.map LR.d) = true := noLs_all fun x hx => by
  obtain ⟨q, _, rfl⟩ := List.mem_map.mp hx
  exact q.nl
theorem insD_nl (o : Option NP) : nLd (insD o) = true := by
  cases o with
  | none => simp [insD, nLd]
  | some p => exact p.nl
theorem inss_nl (l : List (Option NP)) : nLs (l.map insD) = true := noLs_all fun x hx => by
  obtain ⟨q, _, rfl⟩ := List.mem_map.mp hx
  exact insD_nl q
theorem LP.nl (p : LP) : nLd p.d = true := by simp [LP.d, nD, nLd, nLs, inss_nl, lrs_nl]
/-- the places at which a row looks, those to which it gives -/
def LR.lk : LR → List NP
  | .num _ _ => []
  | .no _ a => [.b a]
  | .op _ _ a c => [.b a, .b c]
  | .tell b => [.b b]
  | .mv _ q => [q]
  | .sw p q => [p, q]
  | .tmv _ _ => []
  | .tsw _ _ => []
  | .fresh _ _ => []
  | .get _ _ a => [.b a]
  | .put _ a b => [.b a, .b b]
  | .jump _ => []
  | .cho b _ _ => [.b b]
  | .call _ ps _ => ps
  | .give b => [.b b]
  | .fail _ => []
def LR.lt : LR → List Nat
  | .tmv _ b => [b]
  | .tsw a b => [a, b]
  | .get _ t _ => [t]
  | .put t _ _ => [t]
  | _ => []
def LR.gv : LR → List NP
  | .num b _ => [.b b]
  | .no b _ => [.b b]
  | .op _ b _ _ => [.b b]
  | .mv p _ => [p]
  | .get b _ _ => [.b b]
  | .call _ _ ans => [ans]
  | _ => []
def LR.gt : LR → List Nat
  | .tmv a _ => [a]
  | .fresh t _ => [t]
  | _ => []
def NP.lt (nb : Nat) : NP → Prop
  | .b n => n < nb
  | .s n => n < 3
/-- a row that goes on with the next one -/
def LR.flat : LR → Prop
  | .jump _ => False
  | .cho _ _ _ => False
  | .give _ => False
  | .fail _ => False
  | .call _ _ _ => False
  | _ => True
/-- what the numbers in it are -/
def LR.fine : LR → Prop
  | .num _ n => In32 n
  | .op w _ _ _ => w ∈ wds
  | .fresh t s => t < 3 ∧ s ≤ 8
  | .tmv a b => a < 3 ∧ b < 3
  | .tsw a b => a < 3 ∧ b < 3
  | .get _ t _ => t < 3
  | .put t _ _ => t < 3
  | .fail n => n < 100
  | _ => True
/-- a row where these places have something, what has behind it -/
structure RowS (nb : Nat) (kn : List NP) (tr : List Nat) (r : LR) (kn' : List NP) (tr' : List Nat) : Prop where
  lk : ∀ p ∈ r.lk, p ∈ kn
  lt : ∀ t ∈ r.lt, t ∈ tr
  kn : ∀ p ∈ kn', p ∈ kn ∨ p ∈ r.gv
  tr : ∀ t ∈ tr', t ∈ tr ∨ t ∈ r.gt
  gv : ∀ p ∈ r.gv, p.lt nb
  fine : r.fine
/-- rows one behind the other -/
inductive SL (nb : Nat) (kn : List NP) (tr : List Nat) : List LR → List NP → List Nat → Prop where
  | nil {kn' : List NP} {tr' : List Nat} : (∀ p ∈ kn', p ∈ kn) → (∀ t ∈ tr', t ∈ tr) → SL nb kn tr [] kn' tr'
  | snoc {rows : List LR} {kn1 kn2 : List NP} {tr1 tr2 : List Nat} {r : LR} : SL nb kn tr rows kn1 tr1 → RowS nb kn1 tr1 r kn2 tr2 → SL nb kn tr (rows ++ [r]) kn2 tr2
/-! the drawer of a part -/
structure PA where
  d : Addr
  kl : Addr
  tl : Addr
def PA.own (A : PA) (a : Addr) : Prop := a = A.d ∨ a = A.kl ∨ a = A.tl
section
variable {K : PySem.W.Frag}
structure PS (K : PySem.W.Frag) (H : Hp) (A : PA) (nb : Nat) (kn : List NP) (tr : List Nat) (m : Nat) : Prop where
  ds : ∃ n f, DSv H A.d n f ∧ f "boxes" = some (.int (nb : Nat)) ∧ f "known" = some (.ref A.kl) ∧ f "trays" = some (.ref A.tl)
  kl : ∃ ks, H A.kl = some (.lst ks) ∧ DpAll K H ks (kn.map NP.d)
  tl : H A.tl = some (.lst (tr.map fun t => V.int (t : Nat)))
  ne : A.d ≠ A.kl ∧ A.d ≠ A.tl ∧ A.kl ≠ A.tl
  nb2 : 2 ≤ nb ∧ nb ≤ 5
  kb : ∀ p ∈ kn, p.lt nb
  tb : ∀ t ∈ tr, t < 3
  m : kn.length ≤ m ∧ tr.length ≤ m ∧ m ≤ 1000
structure PX (H : Hp) (A : PA) (H' : Hp) (A' : PA) : Prop where
  k : Kp A.own H H'
  o : ∀ b, A'.own b → A.own b ∨ H b = none
  d : A'.d = A.d
theorem PX.refl {H : Hp} {A : PA} : PX H A H A := ⟨Kp.refl, fun _ h => .inl h, rfl⟩
theorem PX.trans {H H1 H2 : Hp} {A A1 A2 : PA} (a : PX H A H1 A1) (b : PX H1 A1 H2 A2) : PX H A H2 A2 := by
  refine ⟨fun c o e k => ?_, fun c hc => ?_, b.d.trans a.d⟩
  · refine b.k c o (a.k c o e k) fun z => ?_
    rcases a.o c z with y | y
    · exact k y
    · rw [y] at e
      cases e
  · rcases b.o c hc with y | y
    · exact a.o c y
    · by_cases z : A.own c
      · exact .inl z
      · exact .inr (kp_none a.k y z)
theorem PX.same {H H' : Hp} {A : PA} (s : Same H H') : PX H A H' A := ⟨Kp.of_same s, fun _ h => .inl h, rfl⟩
theorem PX.dp {H H' : Hp} {A A' : PA} {v : V} {d : PyData} (x : PX H A H' A') (n : nLd d = true) (h : Dp K H v d) : Dp K H' v d := dp_kp x.k _ _ n h
theorem PX.dpAll {H H' : Hp} {A A' : PA} {vs : List V} {ds : List PyData} (x : PX H A H' A') (n : nLs ds = true) (h : DpAll K H vs ds) : DpAll K H' vs ds := dpAll_kp x.k _ _ n h
theorem PX.keep {H H' : Hp} {A A' : PA} {b : Addr} {o : HO} (x : PX H A H' A') (e : H b = some o) (n : ¬ A.own b) : H' b = some o := x.k b o e fun z => absurd z n
theorem PS.there {H : Hp} {A : PA} {nb m : Nat} {kn : List NP} {tr : List Nat} (h : PS K H A nb kn tr m) {a : Addr} (o : A.own a) : ∃ x, H a = some x := by
  rcases o with rfl | rfl | rfl
  · obtain ⟨n, f, ds, _⟩ := h.ds
    obtain ⟨kvs, g, dr, _, e, _⟩ := ds.e
    exact ⟨_, e⟩
  · obtain ⟨ks, e, _⟩ := h.kl
    exact ⟨_, e⟩
  · exact ⟨_, h.tl⟩
theorem PS.off {H : Hp} {A : PA} {nb m : Nat} {kn : List NP} {tr : List Nat} (h : PS K H A nb kn tr m) {a : Addr} (n : H a = none) : ¬ A.own a := fun o => by
  obtain ⟨x, e⟩ := h.there o
  rw [n] at e
  cases e
theorem PS.sm {H H' : Hp} {A : PA} {nb m : Nat} {kn : List NP} {tr : List Nat} (h : PS K H A nb kn tr m) (s : Same H H') : PS K H' A nb kn tr m := by
  obtain ⟨n, f, ds, e⟩ := h.ds
  obtain ⟨ks, ek, dk⟩ := h.kl
  exact ⟨⟨n, f, ds.sm s, e⟩, ⟨ks, s _ _ ek, dpAll_kp (Kp.of_same (S := fun _ => False) s) _ _ (nps_nl _) dk⟩, s _ _ h.tl, h.ne, h.nb2, h.kb, h.tb, h.m⟩
theorem PS.mono {H : Hp} {A : PA} {nb m m' : Nat} {kn : List NP} {tr : List Nat} (h : PS K H A nb kn tr m) (l : m ≤ m') (l2 : m' ≤ 1000) : PS K H A nb kn tr m' := ⟨h.ds, h.kl, h.tl, h.ne, h.nb2, h.kb, h.tb, by have := h.m; omega⟩
/-- draws alone -/
theorem PS.draw {H H' : Hp} {A : PA} {nb m n : Nat} {kn : List NP} {tr : List Nat} {f : Str → Option V} (h : PS K H A nb kn tr m) (k : Kp (fun b => b = A.d) H H') (ds : DSv H' A.d n f) (e1 : f "boxes" = some (.int (nb : Nat))) (e2 : f "known" = some (.ref A.kl)) (e3 : f "trays" = some (.ref A.tl)) : PS K H' A nb kn tr m ∧ PX H A H' A := by
  obtain ⟨ks, ek, dk⟩ := h.kl
  exact ⟨⟨⟨n, f, ds, e1, e2, e3⟩, ⟨ks, k _ _ ek fun z => absurd z h.ne.1.symm, dpAll_kp k _ _ (nps_nl _) dk⟩, k _ _ h.tl fun z => absurd z h.ne.2.1.symm, h.ne, h.nb2, h.kb, h.tb, h.m⟩, ⟨fun b o e n => k b o e fun z => n (.inl z), fun _ h => .inl h, rfl⟩⟩
end

theorem two_leN : 2 ≤ sizeLine := by rw [sizeLine_eq]; decide
section
variable {P : Program} {w : World} {K : PySem.W.Frag} {mg : Str → Option Value} {base : Heap}
theorem kd_lay {H H1 : Hp} {d L : Addr} {o : HO} (k : Kp (fun b => b = d) H H1) (n : H1 L = none) : Kp (fun b => b = d) H (upd H1 L o) := k.trans (.of_same (same_new n))
theorem DSv.there {H : Hp} {d : Addr} {n : Nat} {f : Str → Option V} (h : DSv H d n f) : ∃ o, H d = some o := by
  obtain ⟨kvs, g, dr, g0, eH, l, hv⟩ := h.e
  exact ⟨_, eH⟩
theorem DSv.neL {H : Hp} {d L : Addr} {n : Nat} {f : Str → Option V} (h : DSv H d n f) (z : H L = none) : L ≠ d := (h.ne z).symm
def sp_numD : Sp := fun vs H Q _ => ∃ (d : Addr) (n : Nat) (f : Str → Option V), vs = [.ref d] ∧ DSv H d n f ∧ ∀ H' r, Kp (fun b => b = d) H H' → DSv H' d n f → In32 r → Q (.int r) H'
theorem ok__law_numD (T : Top K mg) : FnOk P w K mg base CX0 2 (He.ga K "_law_number") T.fd__law_number ["_law_s"] sp_numD := by
  have G__law_next := ok__law_nextD (P := P) (w := w) (base := base) T
  refine T.F__law_number.ok sc__law_number (fun vs H Q E h => ?_) (fun cdv A0 outer s0 H vs Q E hr h => ?_)
  · obtain ⟨d, n, f, rfl, _⟩ := h
    rfl
  · obtain ⟨d, n, f, rfl, ds, q⟩ := h
    refine ⟨_, PSs.nox (pss_cons (ps_if (PW.pt (pw_and (pt_cmpR op_gt (pe_dget (hu_of hr) (pv 0) pe_str (fun _ _ => rfl)) pe_int (nomark _)) (pw_and1 (pt_cmpR op_eq (pe_call G__law_next (hr.mono (by omega)) (by rfl) T.g__law_next T.F__law_next.kp T.b__law_next .nil pass0 (pa_cons (pv 0) (pa_cons pe_int pa_nil))) pe_int (nomark _))))) (pss_one (ps_ret (pe_op op_sub (pe_call G__law_next (hr.mono (by omega)) (by rfl) T.g__law_next T.F__law_next.kp T.b__law_next .nil pass0 (pa_cons (pv 0) (pa_cons pe_int pa_nil))) pe_int))) pss_nil)
        (pss_cons (ps_set (i := 1) sc__law_number.nd rfl (Or.inl rfl) (pe_ix ix_list (pe_lst (pa_cons pe_int (pa_cons (pe_un un_neg pe_int) (pa_cons pe_int (pa_cons (pe_un un_neg pe_int) (pa_cons pe_int pa_nil)))))) (pe_call G__law_next (hr.mono (by omega)) (by rfl) T.g__law_next T.F__law_next.kp T.b__law_next .nil pass0 (pa_cons (pv 0) (pa_cons pe_int pa_nil))) (fun _ _ => rfl)))
        (pss_one (ps_ret (pe_ix ix_list (pe_lst (pa_cons (pe_call G__law_next (hr.mono (by omega)) (by rfl) T.g__law_next T.F__law_next.kp T.b__law_next .nil pass0 (pa_cons (pv 0) (pa_cons pe_int pa_nil))) (pa_cons (pe_op op_sub (pe_call G__law_next (hr.mono (by omega)) (by rfl) T.g__law_next T.F__law_next.kp T.b__law_next .nil pass0 (pa_cons (pv 0) (pa_cons pe_int pa_nil))) pe_int) (pa_cons pe_int (pa_cons pe_int (pa_cons (pv 1) (pa_cons (pe_call G__law_next (hr.mono (by omega)) (by rfl) T.g__law_next T.F__law_next.kp T.b__law_next .nil pass0 (pa_cons (pv 0) (pa_cons pe_int pa_nil))) pa_nil))))))) (pe_call G__law_next (hr.mono (by omega)) (by rfl) T.g__law_next T.F__law_next.kp T.b__law_next .nil pass0 (pa_cons (pv 0) (pa_cons pe_int pa_nil))) (fun _ _ => rfl)))))), ?_⟩
    dsimp only [gName]
    refine ifs_by (fun σ' H' => Kp (fun b => b = d) H H' ∧ DSv H' d n f ∧ σ' = [some (.ref d), none]) ?_ ?_
    · rintro σ' H0 ⟨x0, w0, rfl⟩
      refine ⟨_, rfl, _, rfl, (by show 5 ≤ sizeLine; rw [sizeLine_eq]; decide), fun L nL => ?_⟩
      have x1 := kd_lay (o := .lst (([2147483647, -2147483648, 65536, -7, 100] : List Int).map V.int)) x0 nL
      have w1 := w0.sm (same_new (o := .lst (([2147483647, -2147483648, 65536, -7, 100] : List Int).map V.int)) nL)
      have oL := w0.neL nL
      refine ⟨_, rfl, d, n, f, 5, rfl, w1, by decide, by decide, fun H2 r2 x2 w2 a2 b2 => ?_⟩
      have eL := x2 _ _ upd_same fun z => absurd z oL
      refine ⟨L, _, r2, _, rfl, rfl, .inl (.of eL), at_ints (ns := [2147483647, -2147483648, 65536, -7, 100]) a2 (by show r2 < ((5 : Nat) : Int); omega), ?_⟩
      have far : In32 (([2147483647, -2147483648, 65536, -7, 100] : List Int).getD r2.toNat 0) := getD_all (fun y hy => by
        simp only [List.mem_cons, List.not_mem_nil, or_false] at hy
        unfold In32
        omega) a2 (by show r2 < ((5 : Nat) : Int); omega)
      generalize ([2147483647, -2147483648, 65536, -7, 100] : List Int).getD r2.toNat 0 = fz at far
      have x02 := x1.trans x2
      refine ⟨_, rfl, d, n, f, 4, rfl, w2, by decide, by decide, fun H3 r3 x3 w3 a3 b3 => ?_⟩
      refine ⟨_, rfl, d, n, f, 9, rfl, w3, by decide, by decide, fun H4 r4 x4 w4 a4 b4 => ?_⟩
      refine ⟨_, _, rfl, rfl, _, rfl, _, rfl, d, n, f, 3, rfl, w4, by decide, by decide, fun H5 r5 x5 w5 a5 b5 => ?_⟩
      refine ⟨(by show 6 ≤ sizeLine; rw [sizeLine_eq]; decide), fun M nM => ?_⟩
      have oM := w5.neL nM
      refine ⟨_, rfl, d, n, f, 6, rfl, w5.sm (same_new (o := .lst (([r3, r4 - 4, 0, 1, fz, r5] : List Int).map V.int)) nM), by decide, by decide, fun H6 r6 x6 w6 a6 b6 => ?_⟩
      have eM := x6 _ _ upd_same fun z => absurd z oM
      refine ⟨M, _, r6, _, rfl, rfl, .inl (.of eM), at_ints (ns := [r3, r4 - 4, 0, 1, fz, r5]) a6 (by show r6 < ((6 : Nat) : Int); omega), ?_⟩
      refine q _ _ ((kd_lay (((x02.trans x3).trans x4).trans x5) nM).trans x6) w6 (getD_all (fun y hy => ?_) a6 (by show r6 < ((6 : Nat) : Int); omega))
      simp only [List.mem_cons, List.not_mem_nil, or_false] at hy
      obtain ⟨f1, f2⟩ := far
      unfold In32
      omega
    · intro N hN
      obtain ⟨kvs, g, dr, g0, e, l, hv⟩ := ds.e
      have v1 : valV kvs (.inr "digits") = some (.int g) := by rw [hv, if_pos rfl]
      refine ⟨_, rfl, _, _, rfl, dget_k e v1, _, _, rfl, rfl, _, rfl, ite2 (fun _ => ?_) (fun _ => hN _ _ ⟨.refl, ds, rfl⟩)⟩
      refine ⟨_, rfl, d, n, f, 4, rfl, ds, by decide, by decide, fun H1 r1 x1 w1 a1 b1 => ?_⟩
      refine ⟨rfl, _, rfl, ite2 (fun _ => ?_) (fun _ => hN _ _ ⟨x1, w1, rfl⟩)⟩
      refine ⟨_, rfl, d, n, f, 4294967296, rfl, w1, by decide, by decide, fun H2 r2 x2 w2 a2 b2 => ?_⟩
      refine ⟨_, _, rfl, rfl, q _ _ (x1.trans x2) w2 ?_⟩
      unfold In32
      omega
/-- a place that has something, or any -/
theorem np_dp {H : Hp} {k : Str} {i : Nat} {p : Addr} (e : H p = some (.tup [.str k, .int (i : Nat)])) {q : NP} (h1 : q.k = k) (h2 : q.i = i) : Dp K H (.ref p) q.d := by
  subst h1 h2
  exact .tup (.of e) (.cons (.str _) (.cons (.int _) .nil))
theorem bsk {k : Str} (h : k = "boxes" ∨ k = "known" ∨ k = "trays") : k ≠ "digits" ∧ k ≠ "draw" := by
  rcases h with rfl | rfl | rfl <;> exact ⟨by decide +kernel, by decide +kernel⟩
theorem PS.gb {H : Hp} {A : PA} {nb m : Nat} {kn : List NP} {tr : List Nat} (h : PS K H A nb kn tr m) : DGet H A.d (.str "boxes") (some (.int (nb : Nat))) := by
  obtain ⟨n, f, ds, e1, e2, e3⟩ := h.ds
  exact ds.get (bsk (.inl rfl)).1 (bsk (.inl rfl)).2 e1
theorem PS.gk {H : Hp} {A : PA} {nb m : Nat} {kn : List NP} {tr : List Nat} (h : PS K H A nb kn tr m) : DGet H A.d (.str "known") (some (.ref A.kl)) := by
  obtain ⟨n, f, ds, e1, e2, e3⟩ := h.ds
  exact ds.get (bsk (.inr (.inl rfl))).1 (bsk (.inr (.inl rfl))).2 e2
theorem PS.gt {H : Hp} {A : PA} {nb m : Nat} {kn : List NP} {tr : List Nat} (h : PS K H A nb kn tr m) : DGet H A.d (.str "trays") (some (.ref A.tl)) := by
  obtain ⟨n, f, ds, e1, e2, e3⟩ := h.ds
  exact ds.get (bsk (.inr (.inr rfl))).1 (bsk (.inr (.inr rfl))).2 e3
/-- a draw, over a part's drawer -/
theorem PS.nx {H : Hp} {A : PA} {nb m : Nat} {kn : List NP} {tr : List Nat} (h : PS K H A nb kn tr m) : ∃ n f, DSv H A.d n f ∧ ∀ H', Kp (fun b => b = A.d) H H' → DSv H' A.d n f → PS K H' A nb kn tr m ∧ PX H A H' A := by
  obtain ⟨n, f, ds, e1, e2, e3⟩ := h.ds
  exact ⟨n, f, ds, fun H' k' ds' => h.draw k' ds' e1 e2 e3⟩
def sp_shelf (K : PySem.W.Frag) : Sp := fun vs H Q _ => ∃ (A : PA) (nb m : Nat) (kn : List NP) (tr : List Nat) (z : Str), vs = [.ref A.d, .str z] ∧ PS K H A nb kn tr m ∧ (z ≠ "any" → kn ≠ []) ∧
  ∀ H' v p, PX H A H' A → PS K H' A nb kn tr m → Dp K H' v p.d → p.lt nb → (z ≠ "any" → p ∈ kn) → Q v H'
theorem ok__law_shelf (T : Top K mg) : FnOk P w K mg base CX0 2 (He.ga K "_law_shelf") T.fd__law_shelf ["_law_s", "_law_kind"] (sp_shelf K) := by
  have G__law_next := ok__law_nextD (P := P) (w := w) (base := base) T
  refine T.F__law_shelf.ok sc__law_shelf (fun vs H Q E h => ?_) (fun cdv A0 outer s0 H vs Q E hr h => ?_)
  · obtain ⟨A, nb, m, kn, tr, z, rfl, _⟩ := h
    rfl
  · obtain ⟨A, nb, m, kn, tr, z, rfl, ps, hz, q⟩ := h
    refine ⟨_, PSs.nox (pss_cons (ps_set (i := 2) sc__law_shelf.nd rfl (Or.inl rfl) (pe_dget (hu_of hr) (pv 0) pe_str (fun _ _ => rfl)))
        (pss_cons (ps_if (pt_cmpR op_eq (pv 1) pe_str (nomark _)) (pss_one (ps_ret (pe_ix ix_list (pe_lst (pa_cons (pe_tup (pa_cons pe_str (pa_cons (pe_call G__law_next (hr.mono (by omega)) (by rfl) T.g__law_next T.F__law_next.kp T.b__law_next .nil pass0 (pa_cons (pv 0) (pa_cons (pe_dget (hu_of hr) (pv 0) pe_str (fun _ _ => rfl)) pa_nil))) pa_nil))) (pa_cons (pe_tup (pa_cons pe_str (pa_cons (pe_call G__law_next (hr.mono (by omega)) (by rfl) T.g__law_next T.F__law_next.kp T.b__law_next .nil pass0 (pa_cons (pv 0) (pa_cons pe_int pa_nil))) pa_nil))) pa_nil))) (pe_call G__law_next (hr.mono (by omega)) (by rfl) T.g__law_next T.F__law_next.kp T.b__law_next .nil pass0 (pa_cons (pv 0) (pa_cons pe_int pa_nil))) (fun _ _ => rfl)))) pss_nil)
        (pss_one (ps_ret (pe_ix ix_list (pv 2) (pe_call G__law_next (hr.mono (by omega)) (by rfl) T.g__law_next T.F__law_next.kp T.b__law_next .nil pass0 (pa_cons (pv 0) (pa_cons (pe_callB call_len_seq (by rfl) T.m_len (by decide +kernel) (pa_cons (pv 2) pa_nil)) pa_nil))) (fun _ _ => rfl)))))), ?_⟩
    have nb2 := ps.nb2
    obtain ⟨n0, f0, ds0, up0⟩ := ps.nx
    refine ⟨_, rfl, _, _, rfl, ps.gk, ?_⟩
    dsimp only [gName, List.set]
    by_cases c : z = "any"
    · refine ⟨_, rfl, rfl, _, rfl, ifD (congrArg V.str c) ?_⟩
      refine ⟨_, rfl, _, rfl, _, _, rfl, ps.gb, A.d, n0, f0, _, rfl, ds0, (by omega), (by omega), fun H1 r1 k1 d1 a1 b1 => ⟨two_leN, fun t nt => ?_⟩⟩
      obtain ⟨p1, x1⟩ := up0 H1 k1 d1
      have s1 := same_new (o := .tup [V.str "box", .int r1]) nt
      have p1' := p1.sm s1
      obtain ⟨n1, f1, ds1, up1⟩ := p1'.nx
      refine ⟨_, rfl, A.d, n1, f1, 3, rfl, ds1, by decide, by decide, fun H2 r2 k2 d2 a2 b2 => ⟨two_leN, fun t2 nt2 => ?_⟩⟩
      obtain ⟨p2, x2⟩ := up1 H2 k2 d2
      have s2 := same_new (o := .tup [V.str "shelf", .int r2]) nt2
      have p2' := p2.sm s2
      refine ⟨two_leN, fun L nL => ?_⟩
      have s3 := same_new (o := .lst [V.ref t, .ref t2]) nL
      obtain ⟨n2, f2, ds2, up2⟩ := (p2'.sm s3).nx
      refine ⟨_, rfl, A.d, n2, f2, 2, rfl, ds2, by decide, by decide, fun H3 r3 k3 d3 a3 b3 => ?_⟩
      obtain ⟨p3, x3⟩ := up2 H3 k3 d3
      have oL := p2'.off nL
      have eL := x3.keep (show upd _ L (.lst [V.ref t, .ref t2]) L = _ from upd_same) oL
      have et2 := x3.keep (s3 _ _ (show upd _ t2 (.tup [V.str "shelf", .int r2]) t2 = _ from upd_same)) (p2.off nt2)
      have et := x3.keep (s3 _ _ (s2 _ _ (x2.keep (show upd _ t (.tup [V.str "box", .int r1]) t = _ from upd_same) (p1.off nt)))) (p1.off nt)
      have xx := ((((x1.trans (.same s1)).trans x2).trans (.same s2)).trans (.same s3)).trans x3
      have h2 : r3 = 0 ∨ r3 = 1 := by omega
      obtain ⟨j1, rfl⟩ := Int.eq_ofNat_of_zero_le a1
      obtain ⟨j2, rfl⟩ := Int.eq_ofNat_of_zero_le a2
      rcases h2 with rfl | rfl
      · exact ⟨L, _, 0, _, rfl, rfl, .inl (.of eL), rfl, q H3 _ (.b j1) xx p3 (np_dp et rfl rfl) (by show j1 < nb; omega) fun n => absurd c n⟩
      · exact ⟨L, _, 1, _, rfl, rfl, .inl (.of eL), rfl, q H3 _ (.s j2) xx p3 (np_dp et2 rfl rfl) (by show j2 < 3; omega) fun n => absurd c n⟩
    · refine ⟨_, rfl, rfl, _, rfl, ifN (fun e => c (V.str.inj e)) ?_⟩
      have kne := hz c
      obtain ⟨ks, ek, dk⟩ := ps.kl
      have lk := dpAll_len dk
      rw [List.length_map] at lk
      have l0 := List.length_pos_iff.mpr kne
      have lm := ps.m
      refine ⟨_, rfl, _, rfl, _, rfl, A.kl, _, rfl, .inl (.of ek), A.d, n0, f0, _, rfl, ds0, (by omega), (by omega), fun H1 r1 k1 d1 a1 b1 => ?_⟩
      obtain ⟨p1, x1⟩ := up0 H1 k1 d1
      obtain ⟨j, rfl⟩ := Int.eq_ofNat_of_zero_le a1
      obtain ⟨ks1, ek1, dk1⟩ := p1.kl
      have lk1 := dpAll_len dk1
      rw [List.length_map] at lk1
      have jl : j < kn.length := by omega
      have e1 := List.getElem?_eq_getElem (l := ks1) (i := j) (by omega)
      obtain ⟨dx, hdx, dvx⟩ := dpAll_getV dk1 e1
      rw [List.getElem?_map, List.getElem?_eq_getElem jl] at hdx
      cases hdx
      exact ⟨A.kl, _, _, _, rfl, rfl, .of ek1, atI_nat e1, q H1 _ kn[j] x1 p1 dvx (p1.kb _ (List.getElem_mem jl)) fun _ => List.getElem_mem jl⟩
end

theorem units65 {k : Nat} {A : Around} (hr : Room k A) : A.units + 65 < cLine := by have := hr.un; omega
def bxs (kn : List NP) : List Nat := kn.filterMap fun p => match p with
  | .b n => some n
  | .s _ => none
theorem bxs_in {kn : List NP} {n : Nat} : n ∈ bxs kn ↔ NP.b n ∈ kn := by
  unfold bxs
  rw [List.mem_filterMap]
  constructor
  · rintro ⟨p, hp, e⟩
    cases p with
    | b i => cases e; exact hp
    | s i => cases e
  · exact fun h => ⟨_, h, rfl⟩
section
variable {P : Program} {w : World} {K : PySem.W.Frag} {mg : Str → Option Value} {base : Heap}
def sp_box (K : PySem.W.Frag) : Sp := fun vs H Q _ => ∃ (A : PA) (nb m : Nat) (kn : List NP) (tr : List Nat), vs = [.ref A.d] ∧ PS K H A nb kn tr m ∧
  ∀ H' (i : Int), PX H A H' A → PS K H' A nb kn tr m → ((bxs kn = [] ∧ i = -1) ∨ ∃ n : Nat, i = n ∧ NP.b n ∈ kn) → Q (.int i) H'
theorem ok__law_box (T : Top K mg) : FnOk P w K mg base CX0 2 (He.ga K "_law_box") T.fd__law_box ["_law_s"] (sp_box K) := by
  have G__law_next := ok__law_nextD (P := P) (w := w) (base := base) T
  refine T.F__law_box.ok sc__law_box (fun vs H Q E h => ?_) (fun cdv A0 outer s0 H vs Q E hr h => ?_)
  · obtain ⟨A, nb, m, kn, tr, rfl, _⟩ := h
    rfl
  · obtain ⟨A, nb, m, kn, tr, rfl, ps, q⟩ := h
    refine ⟨_, PSs.nox (pss_cons (ps_setLc (i := 1) (own := [("_law_place", 2)]) (by rfl) sc__law_box.nd rfl rfl (sw_true rfl rfl rfl (by decide +kernel)) (pi_list (pe_dget (hu_of hr) (pv 0) pe_str (fun _ _ => rfl))) (blkOk_by (own := [("_law_place", 2)]) (N := N__law_box) (sc := defScope s__law_box) (by decide +kernel)) (fun _ _ _ _ _ => (pg_name (i := 2) sc__law_box.nd rfl (Or.inl rfl))) (fun _ _ _ _ _ => (pts_one (pt_cmpR op_eq (pe_ix (ix_tupK (K := K) rfl) (pv 2) pe_int (fun _ _ => rfl)) pe_str (nomark _)))) (fun _ _ _ _ _ => (pe_ix (ix_tupK (K := K) rfl) (pv 2) pe_int (fun _ _ => rfl))))
        (pss_cons (ps_if (pt_cmpR (LEq.op_eqNil hr.units) (pv 1) (pe_lst pa_nil) (nomark _)) (pss_one (ps_ret (pe_un un_neg pe_int))) pss_nil)
        (pss_one (ps_ret (pe_ix ix_list (pv 1) (pe_call G__law_next (hr.mono (by omega)) (by rfl) T.g__law_next T.F__law_next.kp T.b__law_next .nil pass0 (pa_cons (pv 0) (pa_cons (pe_callB call_len_seq (by rfl) T.m_len (by decide +kernel) (pa_cons (pv 1) pa_nil)) pa_nil))) (fun _ _ => rfl)))))), ?_⟩
    obtain ⟨ks, ek, dk⟩ := ps.kl
    have lk := dpAll_len dk
    rw [List.length_map] at lk
    have lm := ps.m
    refine ⟨_, rfl, _, _, rfl, ps.gk, A.kl, rfl, ⟨_, .of ek⟩, fun D nD => ?_⟩
    refine lc_list (K := K) (a := A.kl) (xs := ks) (fun i H' => Same H H' ∧ H' D = some (.lst ((bxs (kn.take i)).map fun n => V.int (n : Nat)))) ?_ ?_ ?_ ?_
    · exact ⟨same_new nD, upd_same⟩
    · rintro i H' _ ⟨s', _⟩
      exact s'.seq (.of ek)
    · rintro i y H' hy ⟨s', eD⟩
      have hi := (List.getElem?_eq_some_iff.mp hy).1
      have hik : i < kn.length := by omega
      obtain ⟨dx, hdx, dvx⟩ := dpAll_getV dk hy
      rw [List.getElem?_map, List.getElem?_eq_getElem hik] at hdx
      cases hdx
      have tk : kn.take (i + 1) = kn.take i ++ [kn[i]] := (List.take_append_getElem hik).symm
      have lt : (bxs (kn.take i)).length ≤ i := Nat.le_trans (List.length_filterMap_le ..) (List.length_take_le ..)
      generalize kn[i] = p at dvx tk
      obtain ⟨pq, xq, rfl, hpq, dq⟩ := dp_tup (dp_sm s' dvx)
      obtain ⟨z0, w0, rfl, g0, u0⟩ := dpAll_cons dq
      obtain ⟨z1, w1, rfl, g1, u1⟩ := dpAll_cons u0
      cases u1
      cases dp_str g0
      cases dp_int g1
      dsimp only [gName]
      refine ⟨rfl, _, rfl, pq, _, 0, _, rfl, rfl, hpq, atI_nat (j := 0) rfl, rfl, _, rfl, ?_⟩
      cases p with
      | b n =>
        refine ifD rfl ⟨_, rfl, pq, _, 1, _, rfl, rfl, hpq, atI_nat (j := 1) rfl, _, eD, by rw [List.length_map, sizeLine_eq]; omega, same_upd s' nD, ?_⟩
        rw [upd_same, tk]
        unfold bxs
        rw [List.filterMap_append, List.map_append]
        rfl
      | s n =>
        refine ifN (by show ¬ V.str "shelf" = V.str "box"; intro z; exact absurd (V.str.inj z) (by decide +kernel)) ⟨s', ?_⟩
        rw [eD, tk]
        unfold bxs
        rw [List.filterMap_append, show ([NP.s n].filterMap fun p => match p with | .b n => some n | .s _ => none) = ([] : List Nat) from rfl, List.append_nil]
    · rintro H1 ⟨s1, eD⟩
      rw [show ks.length = kn.length from lk, List.take_length] at eD
      have p1 := ps.sm s1
      have eL : ∀ j, j < (bxs kn).length → ((bxs kn).map fun n => V.int (n : Nat))[j]? = some (.int (((bxs kn).getD j 0 : Nat) : Int)) := fun j hj => by
        rw [List.getElem?_map, List.getElem?_eq_getElem hj, List.getD_eq_getElem?_getD, List.getElem?_eq_getElem hj]
        rfl
      have lb : (bxs kn).length ≤ kn.length := List.length_filterMap_le ..
      dsimp only [gName, List.set]
      refine ⟨_, rfl, Nat.zero_le _, fun L nL => ⟨D, L, _, rfl, rfl, .of (same_new nL _ _ eD), .of upd_same, ?_⟩⟩
      have sL := same_new (o := .lst []) nL
      have p2 := p1.sm sL
      have xL : PX H A (upd H1 L (.lst [])) A := .same (s1.trans sL)
      rw [List.length_map]
      by_cases c : (bxs kn).length = 0
      · refine ⟨_, rfl, ifD c ?_⟩
        exact ⟨_, rfl, q _ _ xL p2 (.inl ⟨List.eq_nil_of_length_eq_zero c, rfl⟩)⟩
      · refine ⟨_, rfl, ifN c ?_⟩
        obtain ⟨n1, f1, ds1, up1⟩ := p2.nx
        have eD2 := sL _ _ eD
        have nDo := ps.off nD
        refine ⟨_, rfl, _, rfl, _, rfl, D, _, rfl, .inl (.of eD2), A.d, n1, f1, _, rfl, ds1, ?_, ?_, fun H3 r3 k3 d3 a3 b3 => ?_⟩
        · rw [List.length_map]
          omega
        · rw [List.length_map]
          omega
        rw [List.length_map] at b3
        obtain ⟨p3, x3⟩ := up1 H3 k3 d3
        obtain ⟨j, rfl⟩ := Int.eq_ofNat_of_zero_le a3
        have jl : j < (bxs kn).length := by omega
        have eD3 := x3.keep eD2 nDo
        refine ⟨D, _, _, _, rfl, rfl, .of eD3, atI_nat (eL j jl), q H3 _ (xL.trans x3) p3 (.inr ⟨_, rfl, bxs_in.mp ?_⟩)⟩
        rw [List.getD_eq_getElem?_getD, List.getElem?_eq_getElem jl]
        exact List.getElem_mem jl
theorem np_eqv (p q : NP) : PyData.eqv p.d q.d = decide (p = q) := by
  cases p with
  | b i =>
    cases q with
    | b j =>
      by_cases c : i = j
      · subst c
        simp [NP.d, NP.k, NP.i, PyData.eqv, PyData.eqvAll]
      · have c2 : ¬ ((i : Int) = (j : Int)) := by omega
        simp [NP.d, NP.k, NP.i, PyData.eqv, PyData.eqvAll, c]
        exact c2
    | s j =>
      simp [NP.d, NP.k, NP.i, PyData.eqv, PyData.eqvAll]
      exact fun z => absurd z (by decide +kernel)
  | s i =>
    cases q with
    | b j =>
      simp [NP.d, NP.k, NP.i, PyData.eqv, PyData.eqvAll]
      exact fun z => absurd z (by decide +kernel)
    | s j =>
      by_cases c : i = j
      · subst c
        simp [NP.d, NP.k, NP.i, PyData.eqv, PyData.eqvAll]
      · have c2 : ¬ ((i : Int) = (j : Int)) := by omega
        simp [NP.d, NP.k, NP.i, PyData.eqv, PyData.eqvAll, c]
        exact c2
theorem np_shaped (p : NP) : SeqAt.shaped p.d = true := by
  have h1 : PyData.strOk "box" = true := by decide +kernel
  have h2 : PyData.strOk "shelf" = true := by decide +kernel
  cases p <;> (unfold SeqAt.shaped NP.d; simp only [PyData.canLay0, PyData.canLayAll0, PyData.depth, PyData.depthAll, NP.k, h1, h2]; rfl)
theorem nps_lay (kn : List NP) : PyData.canLayAll0 (kn.map NP.d) = true ∧ PyData.depthAll (kn.map NP.d) ≤ 1 := by
  induction kn with
  | nil => exact ⟨by simp only [List.map_nil, PyData.canLayAll0], by simp only [List.map_nil, PyData.depthAll]; omega⟩
  | cons p r ih =>
    have h := SeqAt.canLay_of_shaped (np_shaped p)
    have d : p.d.depth = 1 := by cases p <;> simp [NP.d, PyData.depth, PyData.depthAll]
    refine ⟨by simp only [List.map_cons, PyData.canLayAll0, ih.1, h]; rfl, ?_⟩
    simp only [List.map_cons, PyData.depthAll, d]
    omega
theorem nps_shaped (kn : List NP) : SeqAt.shaped (.list (kn.map NP.d)) = true := by
  have h := nps_lay kn
  unfold SeqAt.shaped
  rw [Bool.and_eq_true]
  refine ⟨by simp only [PyData.canLay0]; exact h.1, decide_eq_true ?_⟩
  have h2 := h.2
  simp only [PyData.depth]
  omega
theorem PS.app {H : Hp} {A : PA} {nb m : Nat} {kn : List NP} {tr : List Nat} (h : PS K H A nb kn tr m) {ks : List V} {v : V} {p : NP} (ek : H A.kl = some (.lst ks)) (dk : DpAll K H ks (kn.map NP.d)) (dv : Dp K H v p.d) (hp : p.lt nb) (hm : m + 1 ≤ 1000) : PS K (upd H A.kl (.lst (ks ++ [v]))) A nb (kn ++ [p]) tr (m + 1) ∧ PX H A (upd H A.kl (.lst (ks ++ [v]))) A := by
  have k : Kp (fun b => b = A.kl) H (upd H A.kl (.lst (ks ++ [v]))) := Kp.upd ek trivial rfl
  obtain ⟨n, f, ds, e1, e2, e3⟩ := h.ds
  refine ⟨⟨⟨n, f, ds.kp k h.ne.1, e1, e2, e3⟩, ⟨_, upd_same, ?_⟩, ?_, h.ne, h.nb2, fun q hq => ?_, h.tb, ?_⟩, ⟨fun b o e z => k b o e fun y => z (.inr (.inl y)), fun _ h => .inl h, rfl⟩⟩
  · rw [List.map_append]
    exact dpAll_app (dpAll_kp k _ _ (nps_nl _) dk) (.cons (dp_kp k _ _ p.nl dv) .nil)
  · rw [upd_ne h.ne.2.2.symm]
    exact h.tl
  · rcases List.mem_append.mp hq with hq | hq
    · exact h.kb q hq
    · rw [List.mem_singleton.mp hq]
      exact hp
  · have := h.m
    rw [List.length_append, List.length_singleton]
    omega
def sp_note (K : PySem.W.Frag) : Sp := fun vs H Q _ => ∃ (A : PA) (nb m : Nat) (kn : List NP) (tr : List Nat) (v : V) (p : NP), vs = [.ref A.d, v] ∧ PS K H A nb kn tr m ∧ m + 1 ≤ 1000 ∧ Dp K H v p.d ∧ p.lt nb ∧
  ∀ H' kn', PX H A H' A → PS K H' A nb kn' tr (m + 1) → (∀ x ∈ kn', x ∈ kn ∨ x = p) → (∀ x ∈ kn, x ∈ kn') → p ∈ kn' → Q .non H'
theorem ok__law_note (T : Top K mg) : FnOk P w K mg base CX0 1 (He.ga K "_law_note") T.fd__law_note ["_law_s", "_law_place"] (sp_note K) := by
  refine T.F__law_note.ok sc__law_note (fun vs H Q E h => ?_) (fun cdv A0 outer s0 H vs Q E hr h => ?_)
  · obtain ⟨A, nb, m, kn, tr, v, p, rfl, _⟩ := h
    rfl
  · obtain ⟨A, nb, m, kn, tr, v, p, rfl, ps, hm, dv, hp, q⟩ := h
    refine ⟨_, PSs.nox (pss_one (ps_if (pt_cmpR (op_notInD (units65 hr)) (pv 1) (pe_dget (hu_of hr) (pv 0) pe_str (fun _ _ => rfl)) (by rfl)) (pss_one (ps_expr (pe_bm PySem.F.plainAttrs_list PySem.F.slot_list_append PySem.F.type_list_append mt_append (pe_dget (hu_of hr) (pv 0) pe_str (fun _ _ => rfl)) (pa_cons (pv 1) pa_nil)))) pss_nil)), ?_⟩
    obtain ⟨ks, ek, dk⟩ := ps.kl
    have lk := dpAll_len dk
    rw [List.length_map] at lk
    have lm := ps.m
    refine ⟨_, rfl, _, rfl, _, _, rfl, ps.gk, p.d, kn.map NP.d, dv, .lst (.of ek) dk, np_shaped p, nps_shaped kn, ?_⟩
    have e : ((kn.map NP.d).any fun z => PyData.eqv z p.d) = decide (p ∈ kn) := by
      rw [List.any_map]
      have : ((fun z => PyData.eqv z p.d) ∘ NP.d) = fun x => decide (x = p) := funext fun x => np_eqv x p
      rw [this]
      by_cases c : p ∈ kn
      · rw [decide_eq_true c, List.any_eq_true]
        exact ⟨p, c, decide_eq_true rfl⟩
      · rw [decide_eq_false c]
        refine Bool.eq_false_iff.mpr fun z => ?_
        obtain ⟨x, hx, hz⟩ := List.any_eq_true.mp z
        exact c (of_decide_eq_true hz ▸ hx)
    rw [e]
    by_cases c : p ∈ kn
    · rw [decide_eq_true c]
      refine ⟨_, rfl, ifF rfl ?_⟩
      exact q _ kn .refl (ps.mono (by omega) hm) (fun x hx => .inl hx) (fun x hx => hx) c
    · rw [decide_eq_false c]
      refine ⟨_, rfl, ifT rfl ?_⟩
      obtain ⟨a, b⟩ := ps.app ek dk dv hp hm
      exact ⟨_, rfl, _, _, rfl, ps.gk, .inl ⟨rfl, _, .of ek⟩, _, rfl, A.kl, ks, v, rfl, rfl, ek, by rw [sizeLine_eq]; omega, q _ _ b a (fun x hx => (List.mem_append.mp hx).imp id List.mem_singleton.mp) (fun x hx => List.mem_append_left _ hx) (List.mem_append_right _ (List.mem_singleton.mpr rfl))⟩
end

section
variable {P : Program} {w : World} {K : PySem.W.Frag} {mg : Str → Option Value} {base : Heap}
theorem PX.lay {H H1 : Hp} {A A1 : PA} {L : Addr} {o : HO} (x : PX H A H1 A1) (n : H1 L = none) : PX H A (upd H1 L o) A1 := x.trans (.same (same_new n))
theorem PS.lay {H : Hp} {A : PA} {nb m : Nat} {kn : List NP} {tr : List Nat} {L : Addr} {o : HO} (h : PS K H A nb kn tr m) (n : H L = none) : PS K (upd H L o) A nb kn tr m := h.sm (same_new n)
/-- a tray's number added -/
theorem PS.appT {H : Hp} {A : PA} {nb m : Nat} {kn : List NP} {tr : List Nat} (h : PS K H A nb kn tr m) {t : Nat} (t3 : t < 3) (hm : m + 1 ≤ 1000) : PS K (upd H A.tl (.lst (tr.map (fun t => V.int (t : Nat)) ++ [V.int (t : Nat)]))) A nb kn (tr ++ [t]) (m + 1) ∧ PX H A (upd H A.tl (.lst (tr.map (fun t => V.int (t : Nat)) ++ [V.int (t : Nat)]))) A := by
  have k : Kp (fun b => b = A.tl) H (upd H A.tl (.lst (tr.map (fun t => V.int (t : Nat)) ++ [V.int (t : Nat)]))) := Kp.upd h.tl trivial rfl
  obtain ⟨n, f, ds, e1, e2, e3⟩ := h.ds
  obtain ⟨ks, ek, dk⟩ := h.kl
  refine ⟨⟨⟨n, f, ds.kp k h.ne.2.1, e1, e2, e3⟩, ⟨ks, k _ _ ek fun z => absurd z h.ne.2.2, dpAll_kp k _ _ (nps_nl _) dk⟩, ?_, h.ne, h.nb2, h.kb, fun q hq => ?_, ?_⟩, ⟨fun b o e z => k b o e fun y => z (.inr (.inr y)), fun _ h => .inl h, rfl⟩⟩
  · rw [upd_same, List.map_append]
    rfl
  · rcases List.mem_append.mp hq with hq | hq
    · exact h.tb q hq
    · rw [List.mem_singleton.mp hq]
      exact t3
  · have := h.m
    rw [List.length_append, List.length_singleton]
    omega
def HeadNe (d : PyData) (x : Str) : Prop := ∃ w ds, d = .tuple (.str w :: ds) ∧ w ≠ x
def sp_tray (K : PySem.W.Frag) : Sp := fun vs H Q _ => ∃ (A : PA) (nb m : Nat) (kn : List NP) (tr : List Nat), vs = [.ref A.d] ∧ PS K H A nb kn tr m ∧ m + 1 ≤ 1000 ∧
  ∀ H' v r kn' tr', PX H A H' A → PS K H' A nb kn' tr' (m + 1) → Dp K H' v r.d → RowS nb kn tr r kn' tr' → r.flat → (∀ x ∈ kn, x ∈ kn') → ((∃ a b, r = .tmv a b) ∨ HeadNe r.d "move") → Q v H'
theorem triple_dp {H : Hp} {p : Addr} {x : Str} {a b c : Nat} (e : H p = some (.tup [.str x, .int (a : Nat), .int (b : Nat), .int (c : Nat)])) : Dp K H (.ref p) (.tuple [.str x, nD a, nD b, nD c]) := .tup (.of e) (.cons (.str _) (.cons (.int _) (.cons (.int _) (.cons (.int _) .nil))))
theorem ok__law_tray_by (T : Top K mg) : FnOk P w K mg base CX0 3 (He.ga K "_law_tray_by") T.fd__law_tray_by ["_law_s"] (sp_tray K) := by
  have G__law_next := ok__law_nextD (P := P) (w := w) (base := base) T
  have G__law_box := ok__law_box (P := P) (w := w) (base := base) T
  have G__law_note := ok__law_note (P := P) (w := w) (base := base) T
  refine T.F__law_tray_by.ok sc__law_tray_by (fun vs H Q E h => ?_) (fun cdv A0 outer s0 H vs Q E hr h => ?_)
  · obtain ⟨A, nb, m, kn, tr, rfl, _⟩ := h
    rfl
  · obtain ⟨A, nb, m, kn, tr, rfl, ps, hm, q⟩ := h
    refine ⟨_, PSs.nox (pss_cons (ps_set (i := 1) sc__law_tray_by.nd rfl (Or.inl rfl) (pe_call G__law_box (hr.mono (by omega)) (by rfl) T.g__law_box T.F__law_box.kp T.b__law_box .nil pass0 (pa_cons (pv 0) pa_nil)))
        (pss_cons (ps_set (i := 2) sc__law_tray_by.nd rfl (Or.inl rfl) (pe_call G__law_next (hr.mono (by omega)) (by rfl) T.g__law_next T.F__law_next.kp T.b__law_next .nil pass0 (pa_cons (pv 0) (pa_cons pe_int pa_nil))))
        (pss_cons (ps_set (i := 3) sc__law_tray_by.nd rfl (Or.inl rfl) (pe_dget (hu_of hr) (pv 0) pe_str (fun _ _ => rfl)))
        (pss_cons (ps_if (PW.pt (pw_or (pt_cmpR (LEq.op_eqNil hr.units) (pv 3) (pe_lst pa_nil) (nomark _)) (pw_or (pt_cmpR op_eq (pv 2) pe_int (nomark _)) (pw_or1 (pt_cmpR op_lt (pv 1) pe_int (nomark _)))))) (pss_cons (ps_set (i := 4) sc__law_tray_by.nd rfl (Or.inl rfl) (pe_call G__law_next (hr.mono (by omega)) (by rfl) T.g__law_next T.F__law_next.kp T.b__law_next .nil pass0 (pa_cons (pv 0) (pa_cons pe_int pa_nil))))
        (pss_cons (ps_expr (pe_bm PySem.F.plainAttrs_list PySem.F.slot_list_append PySem.F.type_list_append mt_append (pv 3) (pa_cons (pv 4) pa_nil)))
        (pss_one (ps_ret (pe_tup (pa_cons pe_str (pa_cons (pv 4) (pa_cons (pe_ix ix_list (pe_lst (pa_cons pe_int (pa_cons pe_int (pa_cons pe_int pa_nil)))) (pe_call G__law_next (hr.mono (by omega)) (by rfl) T.g__law_next T.F__law_next.kp T.b__law_next .nil pass0 (pa_cons (pv 0) (pa_cons pe_int pa_nil))) (fun _ _ => rfl)) pa_nil)))))))) pss_nil)
        (pss_cons (ps_set (i := 4) sc__law_tray_by.nd rfl (Or.inl rfl) (pe_ix ix_list (pv 3) (pe_call G__law_next (hr.mono (by omega)) (by rfl) T.g__law_next T.F__law_next.kp T.b__law_next .nil pass0 (pa_cons (pv 0) (pa_cons (pe_callB call_len_seq (by rfl) T.m_len (by decide +kernel) (pa_cons (pv 3) pa_nil)) pa_nil))) (fun _ _ => rfl)))
        (pss_cons (ps_if (pt_cmpR op_eq (pv 2) pe_int (nomark _)) (pss_one (ps_ret (pe_tup (pa_cons pe_str (pa_cons (pe_tup (pa_cons pe_str (pa_cons (pe_call G__law_next (hr.mono (by omega)) (by rfl) T.g__law_next T.F__law_next.kp T.b__law_next .nil pass0 (pa_cons (pv 0) (pa_cons pe_int pa_nil))) pa_nil))) (pa_cons (pe_tup (pa_cons pe_str (pa_cons (pv 4) pa_nil))) pa_nil)))))) pss_nil)
        (pss_cons (ps_if (pt_cmpR op_eq (pv 2) pe_int (nomark _)) (pss_one (ps_ret (pe_tup (pa_cons pe_str (pa_cons (pe_tup (pa_cons pe_str (pa_cons (pe_ix ix_list (pv 3) (pe_call G__law_next (hr.mono (by omega)) (by rfl) T.g__law_next T.F__law_next.kp T.b__law_next .nil pass0 (pa_cons (pv 0) (pa_cons (pe_callB call_len_seq (by rfl) T.m_len (by decide +kernel) (pa_cons (pv 3) pa_nil)) pa_nil))) (fun _ _ => rfl)) pa_nil))) (pa_cons (pe_tup (pa_cons pe_str (pa_cons (pv 4) pa_nil))) pa_nil)))))) pss_nil)
        (pss_cons (ps_if (pt_cmpR op_eq (pv 2) pe_int (nomark _)) (pss_one (ps_ret (pe_tup (pa_cons pe_str (pa_cons (pv 4) (pa_cons (pv 1) (pa_cons (pe_call G__law_box (hr.mono (by omega)) (by rfl) T.g__law_box T.F__law_box.kp T.b__law_box .nil pass0 (pa_cons (pv 0) pa_nil)) pa_nil))))))) pss_nil)
        (pss_cons (ps_set (i := 5) sc__law_tray_by.nd rfl (Or.inl rfl) (pe_call G__law_next (hr.mono (by omega)) (by rfl) T.g__law_next T.F__law_next.kp T.b__law_next .nil pass0 (pa_cons (pv 0) (pa_cons (pe_dget (hu_of hr) (pv 0) pe_str (fun _ _ => rfl)) pa_nil))))
        (pss_cons (ps_expr (pe_call G__law_note (hr.mono (by omega)) (by rfl) T.g__law_note T.F__law_note.kp T.b__law_note .nil pass0 (pa_cons (pv 0) (pa_cons (pe_tup (pa_cons pe_str (pa_cons (pv 5) pa_nil))) pa_nil))))
        (pss_one (ps_ret (pe_tup (pa_cons pe_str (pa_cons (pv 5) (pa_cons (pv 4) (pa_cons (pv 1) pa_nil))))))))))))))))), ?_⟩
    have big : ∀ n : Nat, n ≤ 10000 → n ≤ sizeLine := fun n h => by rw [sizeLine_eq]; omega
    have nb2 := ps.nb2
    have lm := ps.m
    refine ⟨_, rfl, A, nb, m, kn, tr, rfl, ps, fun H1 one x1 p1 hone => ?_⟩
    dsimp only [gName, List.set]
    obtain ⟨n1, f1, ds1, up1⟩ := p1.nx
    refine ⟨_, rfl, A.d, n1, f1, 6, rfl, ds1, by decide, by decide, fun H2 kd k2 d2 a2 b2 => ?_⟩
    obtain ⟨p2, x2⟩ := up1 H2 k2 d2
    have x02 := x1.trans x2
    refine ⟨_, rfl, _, _, rfl, p2.gt, ?_⟩
    dsimp only [gName, List.set]
    refine ⟨_, rfl, Nat.zero_le _, fun L nL => ⟨A.tl, L, _, rfl, rfl, .of (same_new nL _ _ p2.tl), .of upd_same, _, rfl, ite2 (fun c1 => ?a) (fun c1 => ⟨_, rfl, rfl, _, rfl, ite2 (fun c2 => ?b) (fun c2 => ⟨_, rfl, _, _, rfl, rfl, _, rfl, ite2 (fun c3 => ?c) (fun c3 => ?d)⟩)⟩)⟩⟩
    case a | b | c =>
      have p3 := p2.lay (o := .lst []) nL
      have x03 := x02.lay (o := .lst []) nL
      generalize upd H2 L (.lst []) = H3 at p3 x03 ⊢
      obtain ⟨n4, f4, ds4, up4⟩ := p3.nx
      refine ⟨_, rfl, A.d, n4, f4, 3, rfl, ds4, by decide, by decide, fun H4 t k4 d4 a4 b4 => ?_⟩
      obtain ⟨p4, x4⟩ := up4 H4 k4 d4
      obtain ⟨t, rfl⟩ := Int.eq_ofNat_of_zero_le a4
      have t3 : t < 3 := by omega
      obtain ⟨p5, x5⟩ := p4.appT t3 hm
      refine ⟨_, rfl, .inl ⟨rfl, _, .of p4.tl⟩, _, rfl, A.tl, _, _, rfl, rfl, p4.tl, by rw [List.length_map, sizeLine_eq]; omega, ?_⟩
      dsimp only []
      refine ⟨_, rfl, big 3 (by decide), fun M nM => ?_⟩
      have p6 := p5.lay (o := .lst [V.int 1, .int 2, .int 8]) nM
      have oM := p5.off nM
      obtain ⟨n7, f7, ds7, up7⟩ := p6.nx
      refine ⟨_, rfl, A.d, n7, f7, 3, rfl, ds7, by decide, by decide, fun H7 z k7 d7 a7 b7 => ?_⟩
      obtain ⟨p7, x7⟩ := up7 H7 k7 d7
      have eM := x7.keep upd_same oM
      obtain ⟨sz, hsz, hz⟩ : ∃ sz : Nat, atI [V.int 1, .int 2, .int 8] z = some (.int (sz : Nat)) ∧ sz ≤ 8 := by
        have h : z = 0 ∨ z = 1 ∨ z = 2 := by omega
        rcases h with rfl | rfl | rfl
        · exact ⟨1, rfl, by decide⟩
        · exact ⟨2, rfl, by decide⟩
        · exact ⟨8, rfl, by decide⟩
      refine ⟨M, _, _, _, rfl, rfl, .inl (.of eM), hsz, big 3 (by decide), fun pt npt => ?_⟩
      refine q _ _ (.fresh t sz) kn (tr ++ [t]) (((((x03.trans x4).trans x5).lay nM).trans x7).lay npt) ((p7.lay npt).mono (by omega) (by omega)) (.tup (.of upd_same) (.cons (.str _) (.cons (.int _) (.cons (.int _) .nil)))) ⟨(fun p hp => nomatch hp), (fun p hp => nomatch hp), fun p hp => .inl hp, fun x hx => (List.mem_append.mp hx).imp id id, (fun p hp => nomatch hp), ⟨t3, hz⟩⟩ trivial (fun x hx => hx) (.inr ⟨"fresh", _, rfl, by decide +kernel⟩)
    dsimp only [tNext]
    have p3 := p2.lay (o := .lst []) nL
    have x03 := x02.lay (o := .lst []) nL
    have tne : 0 < tr.length := by
      have h : ¬ (tr.map fun t => V.int ((t : Nat) : Int)).length = 0 := fun z => c1 (decide_eq_true z)
      rw [List.length_map] at h
      omega
    obtain ⟨ob, rfl, hob⟩ : ∃ n : Nat, one = n ∧ NP.b n ∈ kn := by
      rcases hone with ⟨_, e⟩ | e
      · exact absurd (decide_eq_true (by rw [e]; decide)) c3
      · exact e
    generalize upd H2 L (.lst []) = H3 at p3 x03 ⊢
    obtain ⟨n4, f4, ds4, up4⟩ := p3.nx
    refine ⟨_, rfl, _, rfl, _, rfl, A.tl, _, rfl, .inl (.of p3.tl), A.d, n4, f4, _, rfl, ds4, ?_, ?_, fun H4 j k4 d4 a4 b4 => ?_⟩
    · rw [List.length_map]
      omega
    · rw [List.length_map]
      omega
    rw [List.length_map] at b4
    obtain ⟨p4, x4⟩ := up4 H4 k4 d4
    obtain ⟨j, rfl⟩ := Int.eq_ofNat_of_zero_le a4
    have jl : j < tr.length := by omega
    have ej : (tr.map fun t => V.int (t : Nat))[j]? = some (.int (tr[j] : Nat)) := by
      rw [List.getElem?_map, List.getElem?_eq_getElem jl]
      rfl
    have ti := List.getElem_mem jl
    refine ⟨A.tl, _, _, _, rfl, rfl, .of p4.tl, atI_nat ej, ?_⟩
    generalize tr[j] = t at ti
    have t3 := p4.tb t ti
    have x04 := x03.trans x4
    dsimp only [gName, List.set]
    refine ⟨_, rfl, rfl, _, rfl, ite2 (fun e1 => ?_) (fun e1 => ?_)⟩
    · obtain ⟨n5, f5, ds5, up5⟩ := p4.nx
      refine ⟨_, rfl, A.d, n5, f5, 3, rfl, ds5, by decide, by decide, fun H5 z k5 d5 a5 b5 => ⟨two_leN, fun t1 nt1 => ?_⟩⟩
      obtain ⟨p5, x5⟩ := up5 H5 k5 d5
      obtain ⟨z, rfl⟩ := Int.eq_ofNat_of_zero_le a5
      refine ⟨_, rfl, two_leN, fun t2 nt2 => ⟨big 3 (by decide), fun t3' nt3 => ?_⟩⟩
      have s1 := same_new (o := .tup [V.str "tray", .int ((z : Nat) : Int)]) nt1
      have s2 := same_new (o := .tup [V.str "tray", .int ((t : Nat) : Int)]) nt2
      have s3 := same_new (o := .tup [V.str "move", .ref t1, .ref t2]) nt3
      refine q _ _ (.tmv z t) kn tr (((x04.trans x5).trans (.same s1)).trans (.same (s2.trans s3))) ((((p5.sm s1).sm s2).sm s3).mono (by omega) (by omega)) ?_ ⟨(fun p hp => nomatch hp), fun x hx => (List.mem_singleton.mp hx) ▸ ti, fun p hp => .inl hp, fun p hp => .inl hp, (fun p hp => nomatch hp), ⟨by omega, t3⟩⟩ trivial (fun x hx => hx) (.inl ⟨z, t, rfl⟩)
      exact .tup (.of upd_same) (.cons (.str _) (.cons (.tup (.of (s3 _ _ (s2 _ _ upd_same))) (.cons (.str _) (.cons (.int _) .nil))) (.cons (.tup (.of (s3 _ _ upd_same)) (.cons (.str _) (.cons (.int _) .nil))) .nil)))
    refine ⟨_, rfl, rfl, _, rfl, ite2 (fun e2 => ?_) (fun e2 => ?_)⟩
    · obtain ⟨n5, f5, ds5, up5⟩ := p4.nx
      refine ⟨_, rfl, _, rfl, _, rfl, A.tl, _, rfl, .inl (.of p4.tl), A.d, n5, f5, _, rfl, ds5, ?_, ?_, fun H5 z k5 d5 a5 b5 => ?_⟩
      · rw [List.length_map]
        omega
      · rw [List.length_map]
        omega
      rw [List.length_map] at b5
      obtain ⟨p5, x5⟩ := up5 H5 k5 d5
      obtain ⟨z, rfl⟩ := Int.eq_ofNat_of_zero_le a5
      have zl : z < tr.length := by omega
      have ez : (tr.map fun t => V.int (t : Nat))[z]? = some (.int (tr[z] : Nat)) := by
        rw [List.getElem?_map, List.getElem?_eq_getElem zl]
        rfl
      have zi := List.getElem_mem zl
      refine ⟨A.tl, _, _, _, rfl, rfl, .of p5.tl, atI_nat ez, two_leN, fun t1 nt1 => ?_⟩
      generalize tr[z] = y at zi
      have y3 := p5.tb y zi
      refine ⟨_, rfl, two_leN, fun t2 nt2 => ⟨big 3 (by decide), fun t3' nt3 => ?_⟩⟩
      have s1 := same_new (o := .tup [V.str "tray", .int ((y : Nat) : Int)]) nt1
      have s2 := same_new (o := .tup [V.str "tray", .int ((t : Nat) : Int)]) nt2
      have s3 := same_new (o := .tup [V.str "swap", .ref t1, .ref t2]) nt3
      refine q _ _ (.tsw y t) kn tr (((x04.trans x5).trans (.same s1)).trans (.same (s2.trans s3))) ((((p5.sm s1).sm s2).sm s3).mono (by omega) (by omega)) ?_ ⟨(fun p hp => nomatch hp), fun x hx => ?_, fun p hp => .inl hp, fun p hp => .inl hp, (fun p hp => nomatch hp), ⟨y3, t3⟩⟩ trivial (fun x hx => hx) (.inr ⟨"swap", _, rfl, by decide +kernel⟩)
      · exact .tup (.of upd_same) (.cons (.str _) (.cons (.tup (.of (s3 _ _ (s2 _ _ upd_same))) (.cons (.str _) (.cons (.int _) .nil))) (.cons (.tup (.of (s3 _ _ upd_same)) (.cons (.str _) (.cons (.int _) .nil))) .nil)))
      · rcases List.mem_cons.mp hx with rfl | hx
        · exact zi
        · exact (List.mem_singleton.mp hx) ▸ ti
    refine ⟨_, rfl, rfl, _, rfl, ite2 (fun e3 => ?_) (fun e3 => ?_)⟩
    · refine ⟨_, rfl, _, rfl, _, rfl, A, nb, m, kn, tr, rfl, p4, fun H5 o2 x5 p5 ho2 => ⟨big 4 (by decide), fun pt npt => ?_⟩⟩
      obtain ⟨o2, rfl, hb2⟩ : ∃ n : Nat, o2 = n ∧ NP.b n ∈ kn := by
        rcases ho2 with ⟨e, _⟩ | e
        · have := bxs_in.mpr hob
          rw [e] at this
          exact nomatch this
        · exact e
      refine q _ _ (.put t ob o2) kn tr ((x04.trans x5).lay npt) ((p5.lay npt).mono (by omega) (by omega)) (triple_dp upd_same) ⟨fun p hp => ?_, fun x hx => (List.mem_singleton.mp hx) ▸ ti, fun p hp => .inl hp, fun p hp => .inl hp, (fun p hp => nomatch hp), t3⟩ trivial (fun x hx => hx) (.inr ⟨"put", _, rfl, by decide +kernel⟩)
      rcases List.mem_cons.mp hp with rfl | hp
      · exact hob
      · exact (List.mem_singleton.mp hp) ▸ hb2
    · obtain ⟨n5, f5, ds5, up5⟩ := p4.nx
      refine ⟨_, rfl, _, rfl, _, _, rfl, p4.gb, A.d, n5, f5, _, rfl, ds5, (by omega), (by omega), fun H5 to k5 d5 a5 b5 => ?_⟩
      obtain ⟨p5, x5⟩ := up5 H5 k5 d5
      obtain ⟨to, rfl⟩ := Int.eq_ofNat_of_zero_le a5
      dsimp only [gName, List.set]
      refine ⟨_, rfl, _, rfl, two_leN, fun t1 nt1 => ?_⟩
      have s1 := same_new (o := .tup [V.str "box", .int ((to : Nat) : Int)]) nt1
      refine ⟨A, nb, m, kn, tr, _, .b to, rfl, p5.sm s1, hm, np_dp upd_same rfl rfl, by show to < nb; omega, fun H6 kn' x6 p6 hin hk hp => ?_⟩
      refine ⟨_, rfl, _, rfl, _, rfl, big 4 (by decide), fun pt npt => ?_⟩
      refine q _ _ (.get to t ob) kn' tr ((((x04.trans x5).trans (.same s1)).trans x6).lay npt) (p6.lay npt) (triple_dp upd_same) ⟨fun p hp => (List.mem_singleton.mp hp) ▸ hob, fun x hx => (List.mem_singleton.mp hx) ▸ ti, fun p hp => (hin p hp).imp id fun (e : p = NP.b to) => List.mem_singleton.mpr e, fun p hp => .inl hp, fun p hp => (List.mem_singleton.mp hp) ▸ (by show to < nb; omega), t3⟩ trivial hk (.inr ⟨"get", _, rfl, by decide +kernel⟩)
end

section
variable {P : Program} {w : World} {K : PySem.W.Frag} {mg : Str → Option Value} {base : Heap}
theorem RowS.up {nb : Nat} {kn kn' kn2 : List NP} {tr tr' tr2 : List Nat} {r : LR} (h : RowS nb kn tr r kn' tr') (hk : ∀ p ∈ kn2, p ∈ kn' ∨ p ∈ r.gv) (ht : ∀ t ∈ tr2, t ∈ tr' ∨ t ∈ r.gt) : RowS nb kn tr r kn2 tr2 :=
  ⟨h.lk, h.lt, fun p hp => (hk p hp).elim (h.kn p) .inr, fun t hp => (ht t hp).elim (h.tr t) .inr, h.gv, h.fine⟩
def sp_rowby (K : PySem.W.Frag) : Sp := fun vs H Q _ => ∃ (A : PA) (nb m : Nat) (kn : List NP) (tr : List Nat), vs = [.ref A.d] ∧ PS K H A nb kn tr m ∧ m + 2 ≤ 1000 ∧
  ∀ H' v r kn' tr', PX H A H' A → PS K H' A nb kn' tr' (m + 2) → Dp K H' v r.d → RowS nb kn tr r kn' tr' → r.flat → (∀ x ∈ kn, x ∈ kn') → Q v H'
def wds7N : List Str := ["add", "sub", "mul", "div", "rem", "less", "same"]
theorem ok__law_row_by (T : Top K mg) : FnOk P w K mg base CX0 4 (He.ga K "_law_row_by") T.fd__law_row_by ["_law_s"] (sp_rowby K) := by
  have G__law_next := ok__law_nextD (P := P) (w := w) (base := base) T
  have G__law_number := ok__law_numD (P := P) (w := w) (base := base) T
  have G__law_box := ok__law_box (P := P) (w := w) (base := base) T
  have G__law_note := ok__law_note (P := P) (w := w) (base := base) T
  have G__law_shelf := ok__law_shelf (P := P) (w := w) (base := base) T
  have G__law_tray_by := ok__law_tray_by (P := P) (w := w) (base := base) T
  refine T.F__law_row_by.ok sc__law_row_by (fun vs H Q E h => ?_) (fun cdv A0 outer s0 H vs Q E hr h => ?_)
  · obtain ⟨A, nb, m, kn, tr, rfl, _⟩ := h
    rfl
  · obtain ⟨A, nb, m, kn, tr, rfl, ps, hm, q⟩ := h
    refine ⟨_, PSs.nox (pss_cons (ps_set (i := 1) sc__law_row_by.nd rfl (Or.inl rfl) (pe_call G__law_next (hr.mono (by omega)) (by rfl) T.g__law_next T.F__law_next.kp T.b__law_next .nil pass0 (pa_cons (pv 0) (pa_cons (pe_dget (hu_of hr) (pv 0) pe_str (fun _ _ => rfl)) pa_nil))))
        (pss_cons (ps_set (i := 2) sc__law_row_by.nd rfl (Or.inl rfl) (pe_call G__law_box (hr.mono (by omega)) (by rfl) T.g__law_box T.F__law_box.kp T.b__law_box .nil pass0 (pa_cons (pv 0) pa_nil)))
        (pss_cons (ps_set (i := 3) sc__law_row_by.nd rfl (Or.inl rfl) (pe_call G__law_next (hr.mono (by omega)) (by rfl) T.g__law_next T.F__law_next.kp T.b__law_next .nil pass0 (pa_cons (pv 0) (pa_cons pe_int pa_nil))))
        (pss_cons (ps_if (PW.pt (pw_or (pt_cmpR op_lt (pv 2) pe_int (nomark _)) (pw_or1 (pt_cmpR op_eq (pv 3) pe_int (nomark _))))) (pss_cons (ps_expr (pe_call G__law_note (hr.mono (by omega)) (by rfl) T.g__law_note T.F__law_note.kp T.b__law_note .nil pass0 (pa_cons (pv 0) (pa_cons (pe_tup (pa_cons pe_str (pa_cons (pv 1) pa_nil))) pa_nil))))
        (pss_one (ps_ret (pe_tup (pa_cons pe_str (pa_cons (pv 1) (pa_cons (pe_call G__law_number (hr.mono (by omega)) (by rfl) T.g__law_number T.F__law_number.kp T.b__law_number .nil pass0 (pa_cons (pv 0) pa_nil)) pa_nil))))))) pss_nil)
        (pss_cons (ps_if (pt_cmpR op_lt (pv 3) pe_int (nomark _)) (pss_cons (ps_set (i := 4) sc__law_row_by.nd rfl (Or.inl rfl) (pe_call G__law_tray_by (hr.mono (by omega)) (by rfl) T.g__law_tray_by T.F__law_tray_by.kp T.b__law_tray_by .nil pass0 (pa_cons (pv 0) pa_nil)))
        (pss_cons (ps_if (PW.pt (pw_and (pt_cmpR op_eq (pe_ix ix_tup (pv 4) pe_int (fun _ _ => rfl)) pe_str (nomark _)) (pw_and1 (pt_cmpR op_notIn_seq (pe_ix ix_tup (pe_ix ix_tup (pv 4) pe_int (fun _ _ => rfl)) pe_int (fun _ _ => rfl)) (pe_dget (hu_of hr) (pv 0) pe_str (fun _ _ => rfl)) (by rfl))))) (pss_one (ps_expr (pe_bm PySem.F.plainAttrs_list PySem.F.slot_list_append PySem.F.type_list_append mt_append (pe_dget (hu_of hr) (pv 0) pe_str (fun _ _ => rfl)) (pa_cons (pe_ix ix_tup (pe_ix ix_tup (pv 4) pe_int (fun _ _ => rfl)) pe_int (fun _ _ => rfl)) pa_nil)))) pss_nil)
        (pss_one (ps_ret (pv 4))))) pss_nil)
        (pss_cons (ps_if (pt_cmpR op_eq (pv 3) pe_int (nomark _)) (pss_one (ps_ret (pe_tup (pa_cons pe_str (pa_cons (pv 2) pa_nil))))) pss_nil)
        (pss_cons (ps_if (pt_cmpR op_eq (pv 3) pe_int (nomark _)) (pss_one (ps_ret (pe_tup (pa_cons pe_str (pa_cons (pe_call G__law_shelf (hr.mono (by omega)) (by rfl) T.g__law_shelf T.F__law_shelf.kp T.b__law_shelf .nil pass0 (pa_cons (pv 0) (pa_cons pe_str pa_nil))) (pa_cons (pe_call G__law_shelf (hr.mono (by omega)) (by rfl) T.g__law_shelf T.F__law_shelf.kp T.b__law_shelf .nil pass0 (pa_cons (pv 0) (pa_cons pe_str pa_nil))) pa_nil)))))) pss_nil)
        (pss_cons (ps_if (pt_cmpR op_lt (pv 3) pe_int (nomark _)) (pss_cons (ps_set (i := 4) sc__law_row_by.nd rfl (Or.inl rfl) (pe_tup (pa_cons pe_str (pa_cons (pe_call G__law_shelf (hr.mono (by omega)) (by rfl) T.g__law_shelf T.F__law_shelf.kp T.b__law_shelf .nil pass0 (pa_cons (pv 0) (pa_cons pe_str pa_nil))) (pa_cons (pe_call G__law_shelf (hr.mono (by omega)) (by rfl) T.g__law_shelf T.F__law_shelf.kp T.b__law_shelf .nil pass0 (pa_cons (pv 0) (pa_cons pe_str pa_nil))) pa_nil)))))
        (pss_cons (ps_expr (pe_call G__law_note (hr.mono (by omega)) (by rfl) T.g__law_note T.F__law_note.kp T.b__law_note .nil pass0 (pa_cons (pv 0) (pa_cons (pe_ix ix_tup (pv 4) pe_int (fun _ _ => rfl)) pa_nil))))
        (pss_one (ps_ret (pv 4))))) pss_nil)
        (pss_cons (ps_set (i := 5) sc__law_row_by.nd rfl (Or.inl rfl) (pe_call G__law_box (hr.mono (by omega)) (by rfl) T.g__law_box T.F__law_box.kp T.b__law_box .nil pass0 (pa_cons (pv 0) pa_nil)))
        (pss_cons (ps_expr (pe_call G__law_note (hr.mono (by omega)) (by rfl) T.g__law_note T.F__law_note.kp T.b__law_note .nil pass0 (pa_cons (pv 0) (pa_cons (pe_tup (pa_cons pe_str (pa_cons (pv 1) pa_nil))) pa_nil))))
        (pss_cons (ps_if (pt_cmpR op_eq (pv 3) pe_int (nomark _)) (pss_one (ps_ret (pe_tup (pa_cons pe_str (pa_cons (pv 1) (pa_cons (pv 2) pa_nil)))))) pss_nil)
        (pss_cons (ps_set (i := 6) sc__law_row_by.nd rfl (Or.inl rfl) (pe_ix ix_list (pe_lst (pa_cons pe_str (pa_cons pe_str (pa_cons pe_str (pa_cons pe_str (pa_cons pe_str (pa_cons pe_str (pa_cons pe_str pa_nil)))))))) (pe_call G__law_next (hr.mono (by omega)) (by rfl) T.g__law_next T.F__law_next.kp T.b__law_next .nil pass0 (pa_cons (pv 0) (pa_cons pe_int pa_nil))) (fun _ _ => rfl)))
        (pss_cons (ps_if (PW.pt (pw_and (pt_cmpR op_in_seq (pv 6) (pe_lst (pa_cons pe_str (pa_cons pe_str pa_nil))) (by rfl)) (pw_and1 (pt_cmpR op_gt (pe_call G__law_next (hr.mono (by omega)) (by rfl) T.g__law_next T.F__law_next.kp T.b__law_next .nil pass0 (pa_cons (pv 0) (pa_cons pe_int pa_nil))) pe_int (nomark _))))) (pss_one (ps_set (i := 6) sc__law_row_by.nd rfl (Or.inl rfl) pe_str)) pss_nil)
        (pss_one (ps_ret (pe_tup (pa_cons (pv 6) (pa_cons (pv 1) (pa_cons (pv 2) (pa_cons (pv 5) pa_nil)))))))))))))))))))), ?_⟩
    have big : ∀ n : Nat, n ≤ 10000 → n ≤ sizeLine := fun n h => by rw [sizeLine_eq]; omega
    have nb2 := ps.nb2
    have lm := ps.m
    obtain ⟨n0, f0, ds0, up0⟩ := ps.nx
    refine ⟨_, rfl, _, rfl, _, _, rfl, ps.gb, A.d, n0, f0, _, rfl, ds0, (by omega), (by omega), fun H1 to k1 d1 a1 b1 => ?_⟩
    obtain ⟨p1, x1⟩ := up0 H1 k1 d1
    obtain ⟨to, rfl⟩ := Int.eq_ofNat_of_zero_le a1
    have tol : to < nb := by omega
    dsimp only [gName, List.set]
    refine ⟨_, rfl, A, nb, m, kn, tr, rfl, p1, fun H2 one x2 p2 hone => ?_⟩
    dsimp only [gName, List.set]
    obtain ⟨n2, f2, ds2, up2⟩ := p2.nx
    refine ⟨_, rfl, A.d, n2, f2, 12, rfl, ds2, by decide, by decide, fun H3 kd k3 d3 a3 b3 => ?_⟩
    obtain ⟨p3, x3⟩ := up2 H3 k3 d3
    have x03 := (x1.trans x2).trans x3
    dsimp only [gName, List.set]
    refine ⟨_, rfl, _, _, rfl, rfl, _, rfl, ite2 (fun c1 => ?a) (fun c1 => ⟨_, rfl, rfl, _, rfl, ite2 (fun c2 => ?b) (fun c2 => ?d)⟩)⟩
    case a | b =>
      refine ⟨_, rfl, _, rfl, two_leN, fun t1 nt1 => ?_⟩
      have s1 := same_new (o := .tup [V.str "box", .int ((to : Nat) : Int)]) nt1
      refine ⟨A, nb, m, kn, tr, _, .b to, rfl, p3.sm s1, by omega, np_dp upd_same rfl rfl, tol, fun H4 kn' x4 p4 hin hk hp => ?_⟩
      obtain ⟨n4, f4, ds4, up4⟩ := p4.nx
      refine ⟨_, rfl, _, rfl, A.d, n4, f4, rfl, ds4, fun H5 v k5 d5 v32 => ⟨big 3 (by decide), fun pt npt => ?_⟩⟩
      obtain ⟨p5, x5⟩ := up4 H5 k5 d5
      refine q _ _ (.num to v) kn' tr ((((x03.trans (.same s1)).trans x4).trans x5).lay npt) ((p5.lay npt).mono (by omega) (by omega)) (.tup (.of upd_same) (.cons (.str _) (.cons (.int _) (.cons (.int _) .nil)))) ⟨(fun p hp => nomatch hp), (fun p hp => nomatch hp), fun p hp => (hin p hp).imp id fun (e : p = NP.b to) => List.mem_singleton.mpr e, fun p hp => .inl hp, fun p hp => (List.mem_singleton.mp hp) ▸ tol, v32⟩ trivial hk
    dsimp only [tNext]
    obtain ⟨ob, rfl, hob⟩ : ∃ n : Nat, one = n ∧ NP.b n ∈ kn := by
      rcases hone with ⟨_, e⟩ | e
      · exact absurd (decide_eq_true (by rw [e]; decide)) c1
      · exact e
    have kne : kn ≠ [] := fun z => by rw [z] at hob; exact nomatch hob
    refine ⟨_, rfl, _, _, rfl, rfl, _, rfl, ite2 (fun c3 => ?_) (fun c3 => ?_)⟩
    · refine ⟨_, rfl, A, nb, m, kn, tr, rfl, p3, by omega, fun H4 v r kn' tr' x4 p4 dv rs rf hk hd => ?_⟩
      dsimp only [gName, List.set]
      rcases hd with ⟨a, b, rfl⟩ | ⟨wd, dl, ed, hne⟩
      · obtain ⟨pv, xv, rfl, hpv, dx⟩ := dp_tup dv
        obtain ⟨z0, w0, rfl, g0, u0⟩ := dpAll_cons dx
        obtain ⟨z1, w1, rfl, g1, u1⟩ := dpAll_cons u0
        cases dp_str g0
        obtain ⟨pa, xa, rfl, hpa, da⟩ := dp_tup g1
        obtain ⟨y0, v0, rfl, h0, t0⟩ := dpAll_cons da
        obtain ⟨y1, v1, rfl, h1, t1⟩ := dpAll_cons t0
        cases dp_int h1
        refine ifs_by (fun σ' H' => ∃ tr2, PX H A H' A ∧ PS K H' A nb kn' tr2 (m + 2) ∧ (∀ t ∈ tr2, t ∈ tr' ∨ t = a) ∧ Dp K H' (.ref pv) (LR.tmv a b).d ∧ σ' = [some (.ref A.d), some (.int (to : Nat)), some (.int (ob : Nat)), some (.int kd), some (.ref pv), none, none]) ?_ ?_
        · rintro σ' H' ⟨tr2, x5, p5, ht, dv5, rfl⟩
          exact ⟨_, rfl, q _ _ (.tmv a b) kn' tr2 x5 p5 dv5 (rs.up (fun p hp => .inl hp) fun t ht' => (ht t ht').imp id fun (e : t = a) => List.mem_singleton.mpr e) trivial hk⟩
        · intro N hN
          refine ⟨_, rfl, pv, _, 0, _, rfl, rfl, hpv, atI_nat (j := 0) rfl, rfl, _, rfl, ifT rfl ?_⟩
          refine ⟨_, rfl, pv, _, 1, _, rfl, rfl, hpv, atI_nat (j := 1) rfl, pa, _, 1, _, rfl, rfl, hpa, atI_nat (j := 1) rfl, _, rfl, _, _, rfl, p4.gt, A.tl, _, rfl, .inl (.of p4.tl), rfl, ?_, _, rfl, ite2 (fun _ => ?_) (fun _ => ?_)⟩
          · rw [List.all_map, List.all_eq_true]
            exact fun _ _ => rfl
          · obtain ⟨p5, x5⟩ := p4.appT (t := a) rs.fine.1 (by omega)
            refine ⟨_, rfl, _, _, rfl, p4.gt, .inl ⟨rfl, _, .of p4.tl⟩, _, rfl, pv, _, 1, _, rfl, rfl, hpv, atI_nat (j := 1) rfl, pa, _, 1, _, rfl, rfl, hpa, atI_nat (j := 1) rfl, A.tl, _, _, rfl, rfl, p4.tl, by have := p4.m; rw [List.length_map, sizeLine_eq]; omega, hN _ _ ⟨tr' ++ [a], (x03.trans x4).trans x5, p5, fun t ht => (List.mem_append.mp ht).imp id List.mem_singleton.mp, x5.dp (LR.nl _) dv, rfl⟩⟩
          · exact hN _ _ ⟨tr', x03.trans x4, p4.mono (by omega) (by omega), fun t ht => .inl ht, dv, rfl⟩
      · rw [ed] at dv
        have dv' := dv
        obtain ⟨pv, xv, rfl, hpv, dx⟩ := dp_tup dv
        obtain ⟨z0, w0, rfl, g0, u0⟩ := dpAll_cons dx
        cases dp_str g0
        refine ⟨_, rfl, pv, _, 0, _, rfl, rfl, hpv, atI_nat (j := 0) rfl, rfl, _, rfl, ifN (fun z => hne (V.str.inj z)) ?_⟩
        exact ⟨_, rfl, q _ _ r kn' tr' (x03.trans x4) (p4.mono (by omega) (by omega)) (by rw [ed]; exact dv') rs rf hk⟩
    dsimp only [tNext]
    have m0 : ("" : Str) ≠ "any" := by decide +kernel
    refine ⟨_, rfl, rfl, _, rfl, ite2 (fun c4 => ?_) (fun c4 => ?_)⟩
    · refine ⟨_, rfl, two_leN, fun pt npt => ?_⟩
      exact q _ _ (.tell ob) kn tr (x03.lay npt) ((p3.lay npt).mono (by omega) (by omega)) (.tup (.of upd_same) (.cons (.str _) (.cons (.int _) .nil))) ⟨fun p hp => (List.mem_singleton.mp hp) ▸ hob, (fun p hp => nomatch hp), fun p hp => .inl hp, fun p hp => .inl hp, (fun p hp => nomatch hp), trivial⟩ trivial (fun x hx => hx)
    refine ⟨_, rfl, rfl, _, rfl, ite2 (fun c5 => ?_) (fun c5 => ?_)⟩
    · refine ⟨_, rfl, A, nb, m, kn, tr, "", rfl, p3, fun _ => kne, fun H4 v1 q1 x4 p4 dv1 lt1 in1 => ?_⟩
      refine ⟨_, rfl, A, nb, m, kn, tr, "", rfl, p4, fun _ => kne, fun H5 v2 q2 x5 p5 dv2 lt2 in2 => ⟨big 3 (by decide), fun pt npt => ?_⟩⟩
      have s6 := same_new (o := .tup [V.str "swap", v1, v2]) npt
      refine q _ _ (.sw q1 q2) kn tr (((x03.trans x4).trans x5).lay npt) ((p5.lay npt).mono (by omega) (by omega)) (.tup (.of upd_same) (.cons (.str _) (.cons (dp_sm s6 (x5.dp q1.nl dv1)) (.cons (dp_sm s6 dv2) .nil)))) ⟨fun p hp => ?_, (fun p hp => nomatch hp), fun p hp => .inl hp, fun p hp => .inl hp, (fun p hp => nomatch hp), trivial⟩ trivial (fun x hx => hx)
      rcases List.mem_cons.mp hp with rfl | hp
      · exact in1 m0
      · exact (List.mem_singleton.mp hp) ▸ in2 m0
    refine ⟨_, rfl, _, _, rfl, rfl, _, rfl, ite2 (fun c6 => ?_) (fun c6 => ?_)⟩
    · refine ⟨_, rfl, A, nb, m, kn, tr, "any", rfl, p3, fun z => absurd rfl z, fun H4 v1 q1 x4 p4 dv1 lt1 in1 => ?_⟩
      refine ⟨_, rfl, A, nb, m, kn, tr, "", rfl, p4, fun _ => kne, fun H5 v2 q2 x5 p5 dv2 lt2 in2 => ⟨big 3 (by decide), fun pt npt => ?_⟩⟩
      have s6 := same_new (o := .tup [V.str "move", v1, v2]) npt
      have p6 := p5.sm s6
      have dv1' := dp_sm s6 (x5.dp q1.nl dv1)
      have dv2' := dp_sm s6 dv2
      have hpt : SqT K (upd H5 pt (.tup [V.str "move", v1, v2])) pt [V.str "move", v1, v2] := .of upd_same
      generalize upd H5 pt (.tup [V.str "move", v1, v2]) = H6 at s6 p6 dv1' dv2' hpt ⊢
      dsimp only [gName, List.set]
      refine ⟨_, rfl, _, rfl, pt, _, 1, _, rfl, rfl, hpt, atI_nat (j := 1) rfl, A, nb, m, kn, tr, _, q1, rfl, p6, by omega, dv1', lt1, fun H7 kn' x7 p7 hin hk hp => ?_⟩
      have dr : Dp K H6 (.ref pt) (LR.mv q1 q2).d := .tup hpt (.cons (.str _) (.cons dv1' (.cons dv2' .nil)))
      exact ⟨_, rfl, q _ _ (.mv q1 q2) kn' tr ((((x03.trans x4).trans x5).trans (.same s6)).trans x7) (p7.mono (by omega) (by omega)) (x7.dp (LR.nl _) dr) ⟨fun p hp => (List.mem_singleton.mp hp) ▸ in2 m0, (fun p hp => nomatch hp), fun p hp => (hin p hp).imp id fun (e : p = q1) => List.mem_singleton.mpr e, fun p hp => .inl hp, fun p hp => (List.mem_singleton.mp hp) ▸ lt1, trivial⟩ trivial hk⟩
    refine ⟨_, rfl, A, nb, m, kn, tr, rfl, p3, fun H4 o2 x4 p4 ho2 => ?_⟩
    obtain ⟨o2, rfl, hb2⟩ : ∃ n : Nat, o2 = n ∧ NP.b n ∈ kn := by
      rcases ho2 with ⟨e, _⟩ | e
      · have := bxs_in.mpr hob
        rw [e] at this
        exact nomatch this
      · exact e
    dsimp only [gName, List.set]
    refine ⟨_, rfl, _, rfl, two_leN, fun t1 nt1 => ?_⟩
    have s1 := same_new (o := .tup [V.str "box", .int ((to : Nat) : Int)]) nt1
    refine ⟨A, nb, m, kn, tr, _, .b to, rfl, p4.sm s1, by omega, np_dp upd_same rfl rfl, tol, fun H5 kn' x5 p5 hin hk hp => ?_⟩
    have x05 := ((x03.trans x4).trans (.same s1)).trans x5
    have gvT : ∀ {r : LR}, r.gv = [.b to] → (∀ p ∈ kn', p ∈ kn ∨ p ∈ r.gv) ∧ ∀ p ∈ r.gv, p.lt nb := fun {r} e => by
      rw [e]
      exact ⟨fun p hp => (hin p hp).imp id fun (e : p = NP.b to) => List.mem_singleton.mpr e, fun p hp => (List.mem_singleton.mp hp) ▸ tol⟩
    refine ⟨_, rfl, rfl, _, rfl, ite2 (fun c8 => ?_) (fun c8 => ?_)⟩
    · refine ⟨_, rfl, _, rfl, big 3 (by decide), fun pt npt => ?_⟩
      exact q _ _ (.no to ob) kn' tr (x05.lay npt) ((p5.lay npt).mono (by omega) (by omega)) (.tup (.of upd_same) (.cons (.str _) (.cons (.int _) (.cons (.int _) .nil)))) ⟨fun p hp => (List.mem_singleton.mp hp) ▸ hob, (fun p hp => nomatch hp), (gvT (r := .no to ob) rfl).1, fun p hp => .inl hp, (gvT (r := .no to ob) rfl).2, trivial⟩ trivial hk
    refine ⟨big 7 (by decide), fun L nL => ?_⟩
    have p6 := p5.lay (o := .lst (wds7N.map V.str)) nL
    have oL := p5.off nL
    obtain ⟨n6, f6, ds6, up6⟩ := p6.nx
    refine ⟨_, rfl, A.d, n6, f6, 7, rfl, ds6, by decide, by decide, fun H7 z k7 d7 a7 b7 => ?_⟩
    obtain ⟨p7, x7⟩ := up6 H7 k7 d7
    have eL := x7.keep upd_same oL
    obtain ⟨z, rfl⟩ := Int.eq_ofNat_of_zero_le a7
    have z7 : z < wds7N.length := by show z < 7; omega
    have ez : (wds7N.map V.str)[z]? = some (.str wds7N[z]) := by
      rw [List.getElem?_map, List.getElem?_eq_getElem z7]
      rfl
    have wi : wds7N[z] ∈ wds := List.getElem_mem z7
    refine ⟨L, _, _, _, rfl, rfl, .inl (.of eL), atI_nat ez, ?_⟩
    generalize wds7N[z] = wd at wi
    have x07 := (x05.lay nL).trans x7
    dsimp only [gName, List.set]
    refine ifs_by (fun σ' H' => ∃ wd', wd' ∈ wds ∧ PX H A H' A ∧ PS K H' A nb kn' tr (m + 1) ∧ σ' = [some (.ref A.d), some (.int (to : Nat)), some (.int (ob : Nat)), some (.int kd), none, some (.int (o2 : Nat)), some (.str wd')]) ?_ ?_
    · rintro σ' H' ⟨wd', hw, x8, p8, rfl⟩
      refine ⟨_, rfl, _, rfl, _, rfl, _, rfl, big 4 (by decide), fun pt npt => ?_⟩
      refine q _ _ (.op wd' to ob o2) kn' tr (x8.lay npt) ((p8.lay npt).mono (by omega) (by omega)) (triple_dp upd_same) ⟨fun p hp => ?_, (fun p hp => nomatch hp), (gvT (r := .op wd' to ob o2) rfl).1, fun p hp => .inl hp, (gvT (r := .op wd' to ob o2) rfl).2, hw⟩ trivial hk
      rcases List.mem_cons.mp hp with rfl | hp
      · exact hob
      · exact (List.mem_singleton.mp hp) ▸ hb2
    · intro N hN
      refine ⟨_, rfl, two_leN, fun M nM => ?_⟩
      have p8 := p7.lay (o := .lst [V.str "div", .str "rem"]) nM
      refine ⟨M, _, rfl, .inl (.of upd_same), rfl, rfl, _, rfl, ite2 (fun _ => ?_) (fun _ => hN _ _ ⟨wd, wi, x07.lay nM, p8, rfl⟩)⟩
      obtain ⟨n8, f8, ds8, up8⟩ := p8.nx
      refine ⟨_, rfl, A.d, n8, f8, 3, rfl, ds8, by decide, by decide, fun H9 y k9 d9 a9 b9 => ?_⟩
      obtain ⟨p9, x9⟩ := up8 H9 k9 d9
      refine ⟨_, _, rfl, rfl, _, rfl, ite2 (fun _ => ?_) (fun _ => hN _ _ ⟨wd, wi, (x07.lay nM).trans x9, p9, rfl⟩)⟩
      exact hN _ _ ⟨"add", by decide +kernel, (x07.lay nM).trans x9, p9, rfl⟩
end

section
variable {P : Program} {w : World} {K : PySem.W.Frag} {mg : Str → Option Value} {base : Heap}
/-- another list of what is known -/
theorem PS.setK {H : Hp} {A : PA} {nb m : Nat} {kn kn2 : List NP} {tr : List Nat} (h : PS K H A nb kn tr m) {L : Addr} {ks : List V} (eL : H L = some (.lst ks)) (dk : DpAll K H ks (kn2.map NP.d)) (no : ¬ A.own L) (kb : ∀ p ∈ kn2, p.lt nb) (lk : kn2.length ≤ m) :
    ∃ H', DPut H A.d (.str "known") (.ref L) H' ∧ PS K H' { A with kl := L } nb kn2 tr m ∧ Kp (fun b => b = A.d) H H' := by
  obtain ⟨n, f, ds, e1, e2, e3⟩ := h.ds
  obtain ⟨H', hp, ds', k⟩ := ds.put (m := n) (v := .ref L) (bsk (.inr (.inl rfl))).1 (bsk (.inr (.inl rfl))).2 ⟨.inr ⟨Nat.le_refl _, _, e2⟩, ds.n⟩
  have nd : L ≠ A.d := fun z => no (.inl z)
  refine ⟨H', hp, ⟨⟨n, _, ds', ?_, ?_, ?_⟩, ⟨ks, k _ _ eL fun z => absurd z nd, dpAll_kp k _ _ (nps_nl _) dk⟩, k _ _ h.tl fun z => absurd z h.ne.2.1.symm, ⟨nd.symm, h.ne.2.1, fun z => no (.inr (.inr z))⟩, h.nb2, kb, h.tb, ⟨lk, h.m.2⟩⟩, k⟩
  · show (if ("boxes" : Str) = "known" then _ else f "boxes") = _
    rw [if_neg (by decide +kernel), e1]
  · show (if ("known" : Str) = "known" then _ else f "known") = _
    rw [if_pos rfl]
  · show (if ("trays" : Str) = "known" then _ else f "trays") = _
    rw [if_neg (by decide +kernel), e3]
def shl (kn : List NP) : List NP := kn.filter fun p => match p with
  | .b _ => false
  | .s _ => true
theorem shl_in {kn : List NP} {p : NP} (h : p ∈ shl kn) : p ∈ kn := (List.mem_filter.mp h).1
theorem shl_le (kn : List NP) : (shl kn).length ≤ kn.length := List.length_filter_le ..
def sp_callby (K : PySem.W.Frag) : Sp := fun vs H Q _ => ∃ (A : PA) (nb m : Nat) (kn : List NP) (tr : List Nat) (L : Addr) (hd : List Nat), vs = [.ref A.d, .ref L] ∧ PS K H A nb kn tr m ∧ H L = some (.lst (hd.map fun n => V.int (n : Nat))) ∧ ¬ A.own L ∧ hd ≠ [] ∧ hd.length ≤ 3 ∧ (∀ h ∈ hd, h ≤ 3) ∧ m + 1 ≤ 1000 ∧
  ∀ H' A' p v kn', PX H A H' A' → PS K H' A' nb kn' tr (m + 1) → H' p = some (.lst [v]) → H p = none → ¬ A'.own p →
    ((kn' = kn ∧ Dp K H' v (LR.num 0 3).d) ∨ ∃ c ps ans, Dp K H' v (LR.call c ps ans).d ∧ hd[c]? = some ps.length ∧ (∀ x ∈ ps, x ∈ kn) ∧ ans.lt nb ∧ ∀ x ∈ kn', x ∈ kn ∨ x = ans) → Q (.ref p) H'
theorem ok__law_call_by (T : Top K mg) : FnOk P w K mg base CX0 3 (He.ga K "_law_call_by") T.fd__law_call_by ["_law_s", "_law_heads"] (sp_callby K) := by
  have G__law_next := ok__law_nextD (P := P) (w := w) (base := base) T
  have G__law_note := ok__law_note (P := P) (w := w) (base := base) T
  have G__law_shelf := ok__law_shelf (P := P) (w := w) (base := base) T
  refine T.F__law_call_by.ok sc__law_call_by (fun vs H Q E h => ?_) (fun cdv A0 outer s0 H vs Q E hr h => ?_)
  · obtain ⟨A, nb, m, kn, tr, L, hd, rfl, _⟩ := h
    rfl
  · obtain ⟨A, nb, m, kn, tr, L, hd, rfl, ps, eL, oL, hne, hl, h3, hm, q⟩ := h
    refine ⟨_, PSs.nox (pss_cons (ps_set (i := 2) sc__law_call_by.nd rfl (Or.inl rfl) (pe_call G__law_next (hr.mono (by omega)) (by rfl) T.g__law_next T.F__law_next.kp T.b__law_next .nil pass0 (pa_cons (pv 0) (pa_cons (pe_callB call_len_seq (by rfl) T.m_len (by decide +kernel) (pa_cons (pv 1) pa_nil)) pa_nil))))
        (pss_cons (ps_if (pt_cmpR (LEq.op_eqNil hr.units) (pe_dget (hu_of hr) (pv 0) pe_str (fun _ _ => rfl)) (pe_lst pa_nil) (nomark _)) (pss_one (ps_ret (pe_lst (pa_cons (pe_tup (pa_cons pe_str (pa_cons pe_int (pa_cons pe_int pa_nil)))) pa_nil)))) pss_nil)
        (pss_cons (ps_set (i := 3) sc__law_call_by.nd rfl (Or.inl rfl) (pe_callTy call_tuple_of (by rfl) T.m_tuple (by decide +kernel) (pa_cons (pe_lc (own := [("_law_turn", 5)]) (by rfl) sc__law_call_by.nd (pi_range1 (by rfl) T.m_range (pa_cons (pe_ix ix_list (pv 1) (pv 2) (fun _ _ => rfl)) pa_nil)) (blkOk_by (own := [("_law_turn", 5)]) (N := N__law_call_by) (sc := defScope s__law_call_by) (by decide +kernel)) (fun _ _ _ _ _ => (pg_name (i := 5) sc__law_call_by.nd rfl (Or.inl rfl))) (fun _ _ _ _ _ => pts_nil) (fun _ _ _ _ _ => (pe_call G__law_shelf (hr.mono (by omega)) (by rfl) T.g__law_shelf T.F__law_shelf.kp T.b__law_shelf .nil pass0 (pa_cons (pv 0) (pa_cons pe_str pa_nil))))) pa_nil)))
        (pss_cons (ps_set (i := 4) sc__law_call_by.nd rfl (Or.inl rfl) (pe_call G__law_shelf (hr.mono (by omega)) (by rfl) T.g__law_shelf T.F__law_shelf.kp T.b__law_shelf .nil pass0 (pa_cons (pv 0) (pa_cons pe_str pa_nil))))
        (pss_cons (ps_dput (hu_of hr) (pv 0) pe_str (pe_lc (own := [("_law_place", 6)]) (by rfl) sc__law_call_by.nd (pi_list (pe_dget (hu_of hr) (pv 0) pe_str (fun _ _ => rfl))) (blkOk_by (own := [("_law_place", 6)]) (N := N__law_call_by) (sc := defScope s__law_call_by) (by decide +kernel)) (fun _ _ _ _ _ => (pg_name (i := 6) sc__law_call_by.nd rfl (Or.inl rfl))) (fun _ _ _ _ _ => (pts_one (pt_cmpR op_eq (pe_ix (ix_tupK (K := K) rfl) (pv 6) pe_int (fun _ _ => rfl)) pe_str (nomark _)))) (fun _ _ _ _ _ => (pv 6))) (by rfl))
        (pss_cons (ps_expr (pe_call G__law_note (hr.mono (by omega)) (by rfl) T.g__law_note T.F__law_note.kp T.b__law_note .nil pass0 (pa_cons (pv 0) (pa_cons (pv 4) pa_nil))))
        (pss_one (ps_ret (pe_lst (pa_cons (pe_tup (pa_cons pe_str (pa_cons (pv 2) (pa_cons (pv 3) (pa_cons (pv 4) pa_nil))))) pa_nil)))))))))), ?_⟩
    have big : ∀ n : Nat, n ≤ 10000 → n ≤ sizeLine := fun n h => by rw [sizeLine_eq]; omega
    have nb2 := ps.nb2
    have lm := ps.m
    have h0 := List.length_pos_iff.mpr hne
    have m0 : ("" : Str) ≠ "any" := by decide +kernel
    obtain ⟨n0, f0, ds0, up0⟩ := ps.nx
    refine ⟨_, rfl, _, rfl, L, _, rfl, .inl (.of eL), A.d, n0, f0, _, rfl, ds0, ?_, ?_, fun H1 c k1 d1 a1 b1 => ?_⟩
    · rw [List.length_map]
      omega
    · rw [List.length_map]
      omega
    rw [List.length_map] at b1
    obtain ⟨p1, x1⟩ := up0 H1 k1 d1
    obtain ⟨c, rfl⟩ := Int.eq_ofNat_of_zero_le a1
    have cl : c < hd.length := by omega
    have eL1 := x1.keep eL oL
    dsimp only [gName, List.set]
    obtain ⟨ks, ek, dk⟩ := p1.kl
    have lk := dpAll_len dk
    rw [List.length_map] at lk
    refine ⟨_, rfl, _, _, rfl, p1.gk, Nat.zero_le _, fun M nM => ⟨A.kl, M, _, rfl, rfl, .of (same_new nM _ _ ek), .of upd_same, _, rfl, ite2 (fun c1 => ?_) (fun c1 => ?_)⟩⟩
    · have k0 : kn = [] := by
        have : ks.length = 0 := of_decide_eq_true c1
        exact List.eq_nil_of_length_eq_zero (by omega)
      have p2 := p1.lay (o := .lst []) nM
      have x2 := x1.lay (o := .lst []) nM
      generalize upd H1 M (.lst []) = H2 at p2 x2 ⊢
      refine ⟨big 3 (by decide), fun pt npt => ⟨big 1 (by decide), fun pl npl => ?_⟩⟩
      have p3 := (p2.lay (o := .tup [V.str "number", .int 0, .int 3]) npt)
      have s3 := same_new (o := .tup [V.str "number", .int 0, .int 3]) npt
      have s4 := same_new (o := .lst [V.ref pt]) npl
      have np : H pl = none := by
        cases e : H pl with
        | none => rfl
        | some o =>
          obtain ⟨o', e'⟩ : ∃ o', upd H2 pt (.tup [V.str "number", .int 0, .int 3]) pl = some o' := by
            by_cases ow : A.own pl
            · exact p3.there ow
            · exact ⟨_, s3 _ _ (x2.keep e ow)⟩
          rw [e'] at npl
          cases npl
      refine q _ A pl _ kn ((x2.trans (.same s3)).lay npl) ((p3.lay npl).mono (by omega) hm) upd_same np (p3.off npl) (.inl ⟨rfl, .tup (.of (s4 _ _ upd_same)) (.cons (.str _) (.cons (.int _) (.cons (.int _) .nil)))⟩)
    dsimp only [tNext]
    have kne : kn ≠ [] := fun z => c1 (decide_eq_true (by rw [lk, z]; rfl))
    have p2 := p1.lay (o := .lst []) nM
    have x2 := x1.lay (o := .lst []) nM
    have eL2 := same_new (o := .lst []) nM _ _ eL1
    generalize upd H1 M (.lst []) = H2 at p2 x2 eL2 ⊢
    have ec : (hd.map fun n => V.int (n : Nat))[c]? = some (.int (hd[c] : Nat)) := by
      rw [List.getElem?_map, List.getElem?_eq_getElem cl]
      rfl
    have hc3 := h3 _ (List.getElem_mem cl)
    have hce := List.getElem?_eq_getElem cl
    refine ⟨_, rfl, _, rfl, L, _, _, _, rfl, rfl, .of eL2, atI_nat ec, ?_⟩
    generalize hd[c] = h at hc3 hce
    refine ⟨_, rfl, by omega, by omega, fun D nD => ?_⟩
    refine lc_range (lo := 0) (n := ((h : Nat) : Int).toNat) (fun i H' => PX H2 A H' A ∧ PS K H' A nb kn tr m ∧ ∃ (acc : List V) (qs : List NP), H' D = some (.lst acc) ∧ DpAll K H' acc (qs.map NP.d) ∧ qs.length = i ∧ ∀ x ∈ qs, x ∈ kn) ?_ ?_ ?_
    · exact ⟨.same (same_new nD), p2.lay nD, [], [], upd_same, .nil, rfl, fun x hx => nomatch hx⟩
    · rintro i H' hi ⟨x3, p3, acc, qs, eD, dA, lq, hq⟩
      refine ⟨rfl, _, rfl, A, nb, m, kn, tr, "", rfl, p3, fun _ => kne, fun H4 v y x4 p4 dv lt in_ => ?_⟩
      have la := dpAll_len dA
      rw [List.length_map] at la
      have eD4 := x4.keep eD (p2.off nD)
      have kD : Kp (fun b => b = D) H4 (upd H4 D (.lst (acc ++ [v]))) := Kp.upd eD4 trivial rfl
      have p5 : PS K (upd H4 D (.lst (acc ++ [v]))) A nb kn tr m := by
        obtain ⟨n5, f5, ds5, e1, e2, e3⟩ := p4.ds
        obtain ⟨ks5, ek5, dk5⟩ := p4.kl
        have no := p2.off nD
        exact ⟨⟨n5, f5, ds5.kp kD (fun z : A.d = D => no (.inl z.symm)), e1, e2, e3⟩, ⟨ks5, kD _ _ ek5 fun z => absurd (.inr (.inl z.symm)) no, dpAll_kp kD _ _ (nps_nl _) dk5⟩, kD _ _ p4.tl fun z => absurd (.inr (.inr z.symm)) no, p4.ne, p4.nb2, p4.kb, p4.tb, p4.m⟩
      refine ⟨acc, eD4, by rw [la, lq, sizeLine_eq]; omega, ⟨fun b o e z => ?_, fun b hb => .inl hb, rfl⟩, p5, _, qs ++ [y], upd_same, ?_, by rw [List.length_append, lq]; rfl, fun x hx => ?_⟩
      · have ne : b ≠ D := fun w => by rw [w, nD] at e; cases e
        rw [upd_ne ne]
        exact (x3.trans x4).k b o e z
      · rw [List.map_append]
        exact dpAll_app (dpAll_kp kD _ _ (nps_nl _) (x4.dpAll (nps_nl _) dA)) (.cons (dp_kp kD _ _ y.nl dv) .nil)
      · rcases List.mem_append.mp hx with hx | hx
        · exact hq x hx
        · exact (List.mem_singleton.mp hx) ▸ in_ m0
    · rintro H3 ⟨x3, p3, acc, qs, eD, dA, lq, hq⟩
      refine ⟨_, _, rfl, .inl ⟨.of eD, fun pq npq => ?_⟩⟩
      have p4 := p3.lay (o := .tup acc) npq
      have s4 := same_new (o := .tup acc) npq
      have dq : Dp K (upd H3 pq (.tup acc)) (.ref pq) (.tuple (qs.map NP.d)) := .tup (.of upd_same) (dpAll_kp (Kp.of_same (S := fun _ => False) s4) _ _ (nps_nl _) dA)
      have x04 := (x2.trans x3).trans (.same s4)
      generalize upd H3 pq (.tup acc) = H4 at p4 dq x04 ⊢
      dsimp only [gName, List.set]
      refine ⟨_, rfl, A, nb, m, kn, tr, "any", rfl, p4, fun z => absurd rfl z, fun H5 va ans x5 p5 dva lta _ => ?_⟩
      have dq5 := x5.dp (by simp [nLd, nps_nl]) dq
      have x05 := x04.trans x5
      dsimp only [gName, List.set]
      obtain ⟨k5, ek5, dk5⟩ := p5.kl
      have lk5 := dpAll_len dk5
      rw [List.length_map] at lk5
      have lm5 := p5.m
      refine ⟨_, rfl, _, _, rfl, p5.gk, A.kl, rfl, ⟨_, .of ek5⟩, fun D2 nD2 => ?_⟩
      refine lc_list (K := K) (a := A.kl) (xs := k5) (fun i H' => Same H5 H' ∧ ∃ acc, H' D2 = some (.lst acc) ∧ DpAll K H' acc ((shl (kn.take i)).map NP.d)) ?_ ?_ ?_ ?_
      · exact ⟨same_new nD2, [], upd_same, .nil⟩
      · rintro i H' _ ⟨s', _⟩
        exact s'.seq (.of ek5)
      · rintro i y H' hy ⟨s', acc2, eD2, dA2⟩
        have hi := (List.getElem?_eq_some_iff.mp hy).1
        have hik : i < kn.length := by omega
        obtain ⟨dx, hdx, dvx⟩ := dpAll_getV dk5 hy
        rw [List.getElem?_map, List.getElem?_eq_getElem hik] at hdx
        cases hdx
        have tk : kn.take (i + 1) = kn.take i ++ [kn[i]] := (List.take_append_getElem hik).symm
        have lt : (shl (kn.take i)).length ≤ i := Nat.le_trans (shl_le _) (List.length_take_le ..)
        have la := dpAll_len dA2
        rw [List.length_map] at la
        generalize kn[i] = y0 at dvx tk
        have dv' := dp_sm s' dvx
        have dv2 := dv'
        obtain ⟨pq2, xq2, rfl, hpq2, dq2⟩ := dp_tup dv2
        obtain ⟨z0, w0, rfl, g0, u0⟩ := dpAll_cons dq2
        cases dp_str g0
        dsimp only [gName]
        refine ⟨rfl, _, rfl, pq2, _, 0, _, rfl, rfl, hpq2, atI_nat (j := 0) rfl, rfl, _, rfl, ?_⟩
        cases y0 with
        | b n =>
          refine ifN (by show ¬ V.str "box" = V.str "shelf"; intro z; exact absurd (V.str.inj z) (by decide +kernel)) ⟨s', acc2, eD2, ?_⟩
          rw [tk]
          unfold shl at dA2 ⊢
          rw [List.filter_append]
          rw [show ([NP.b n].filter fun p => match p with | .b _ => false | .s _ => true) = ([] : List NP) from rfl, List.append_nil]
          exact dA2
        | s n =>
          have kD : Kp (fun b => b = D2) H' (upd H' D2 (.lst (acc2 ++ [V.ref pq2]))) := Kp.upd eD2 trivial rfl
          refine ifD rfl ⟨_, rfl, _, eD2, by rw [la, sizeLine_eq]; omega, same_upd s' nD2, _, upd_same, ?_⟩
          rw [tk]
          unfold shl at dA2 ⊢
          rw [List.filter_append, List.map_append]
          exact dpAll_app (dpAll_kp kD _ _ (nps_nl _) dA2) (.cons (dp_kp kD _ _ (NP.nl _) dv') .nil)
      · rintro H6 ⟨s6, acc2, eD2, dA2⟩
        rw [show k5.length = kn.length from lk5, List.take_length] at dA2
        have p6 := p5.sm s6
        have nD2o := p5.off nD2
        obtain ⟨H7, hput, p7, k7⟩ := p6.setK eD2 dA2 nD2o (fun p hp => p6.kb p (shl_in hp)) (Nat.le_trans (shl_le _) p6.m.1)
        refine ⟨_, rfl, _, _, rfl, hput, ?_⟩
        have nd7 : ∀ {v : V} {d : PyData}, nLd d = true → Dp K H5 v d → Dp K H7 v d := fun {v d} n h => dp_kp k7 _ _ n (dp_sm s6 h)
        dsimp only [gName, List.set]
        have nHD2 : H D2 = none := by
          cases e : H D2 with
          | none => rfl
          | some o =>
            obtain ⟨o', e'⟩ : ∃ o', H5 D2 = some o' := by
              by_cases ow : A.own D2
              · exact p5.there ow
              · exact ⟨_, x05.keep e ow⟩
            rw [e'] at nD2
            cases nD2
        have x07 : PX H A H7 { A with kl := D2 } := by
          refine ⟨fun b o e z => k7 b o (s6 b o (x05.k b o e z)) fun y => z (.inl y), fun b hb => ?_, rfl⟩
          rcases hb with h | h | h
          · exact .inl (.inl h)
          · exact .inr (by rw [h]; exact nHD2)
          · exact .inl (.inr (.inr h))
        refine ⟨_, rfl, _, rfl, { A with kl := D2 }, nb, m, shl kn, tr, _, ans, rfl, p7, hm, nd7 ans.nl dva, lta, fun H8 kn' x8 p8 hin hk hp => ?_⟩
        have dq8 := x8.dp (by simp [nLd, nps_nl]) (nd7 (by simp [nLd, nps_nl]) dq5)
        have da8 := x8.dp ans.nl (nd7 ans.nl dva)
        refine ⟨_, rfl, _, rfl, _, rfl, big 4 (by decide), fun pt npt => ⟨big 1 (by decide), fun pl npl => ?_⟩⟩
        have s9 := same_new (o := .tup [V.str "call", .int ((c : Nat) : Int), .ref pq, va]) npt
        have s10 := same_new (o := .lst [V.ref pt]) npl
        have x08 := x07.trans x8
        have p9 := p8.sm s9
        have npH : H pl = none := by
          cases e : H pl with
          | none => rfl
          | some o =>
            obtain ⟨o', e'⟩ : ∃ o', upd H8 pt (.tup [V.str "call", .int ((c : Nat) : Int), .ref pq, va]) pl = some o' := by
              by_cases ow : A.own pl
              · obtain ⟨o2, e2⟩ := ps.there ow
                by_cases ow2 : PA.own { A with kl := D2 } pl
                · exact p9.there ow2
                · have epl : pl = A.kl := by
                    rcases ow with h | h | h
                    · exact absurd (.inl h) ow2
                    · exact h
                    · exact absurd (.inr (.inr h)) ow2
                  have e5 := s6 _ _ ek5
                  rw [← epl] at e5
                  have ne : pl ≠ A.d := fun z => ow2 (.inl z)
                  exact ⟨_, s9 _ _ (x8.keep (k7 _ _ e5 fun z => absurd z ne) ow2)⟩
              · exact ⟨_, s9 _ _ (x08.keep e ow)⟩
            rw [e'] at npl
            cases npl
        refine q _ _ pl _ kn' ((x08.trans (.same s9)).lay npl) (p9.lay npl) upd_same npH (p9.off npl) (.inr ⟨c, qs, ans, ?_, ?_, hq, lta, fun x hx => (hin x hx).imp shl_in id⟩)
        · exact .tup (.of (s10 _ _ upd_same)) (.cons (.str _) (.cons (.int _) (.cons (dp_sm s10 (dp_sm s9 dq8)) (.cons (dp_sm s10 (dp_sm s9 da8)) .nil))))
        · rw [hce, lq]
          rfl
end

/-! a part drawn -/
theorem shl_b (l : List NP) (n : Nat) : shl (l ++ [.b n]) = shl l := by simp [shl]
theorem shl_s (l : List NP) (n : Nat) : shl (l ++ [.s n]) = shl l ++ [.s n] := by simp [shl]
theorem nLs_appN : ∀ {a b : List PyData}, nLs a = true → nLs b = true → nLs (a ++ b) = true
  | [], _, _, h => h
  | x :: r, b, h, h' => by
    simp only [nLs, Bool.and_eq_true] at h
    show nLs (x :: (r ++ b)) = true
    simp only [nLs, Bool.and_eq_true]
    exact ⟨h.1, nLs_appN h.2 h'⟩
def RL (K : PySem.W.Frag) (H : Hp) (R : Addr) (rows : List LR) : Prop := ∃ vs, H R = some (.lst vs) ∧ DpAll K H vs (rows.map LR.d)
/-- rows one behind the other, with so many calls -/
inductive SLc (nb : Nat) (hd : List Nat) (kn : List NP) (tr : List Nat) : List LR → Nat → List NP → List Nat → Prop where
  | nil {kn' : List NP} {tr' : List Nat} : (∀ p ∈ kn', p ∈ kn) → (∀ t ∈ tr', t ∈ tr) → SLc nb hd kn tr [] 0 kn' tr'
  | snoc {rows : List LR} {n : Nat} {kn1 kn2 : List NP} {tr1 tr2 : List Nat} {r : LR} : SLc nb hd kn tr rows n kn1 tr1 → RowS nb kn1 tr1 r kn2 tr2 → r.flat → SLc nb hd kn tr (rows ++ [r]) n kn2 tr2
  | call {rows : List LR} {n c : Nat} {kn1 kn2 : List NP} {tr1 : List Nat} {ps : List NP} {ans : NP} : SLc nb hd kn tr rows n kn1 tr1 → hd[c]? = some ps.length → (∀ x ∈ ps, x ∈ kn1) → ans.lt nb → (∀ x ∈ kn2, x ∈ kn1 ∨ x = ans) → SLc nb hd kn tr (rows ++ [.call c ps ans]) (n + 1) kn2 tr1
section
variable {P : Program} {w : World} {K : PySem.W.Frag} {mg : Str → Option Value} {base : Heap}
theorem RL.px {H H' : Hp} {A A' : PA} {R : Addr} {rows : List LR} (h : RL K H R rows) (x : PX H A H' A') (no : ¬ A.own R) : RL K H' R rows := by
  obtain ⟨vs, e, d⟩ := h
  exact ⟨vs, x.keep e no, x.dpAll (lrs_nl _) d⟩
theorem RL.sm {H H' : Hp} {R : Addr} {rows : List LR} (h : RL K H R rows) (s : Same H H') : RL K H' R rows := by
  obtain ⟨vs, e, d⟩ := h
  exact ⟨vs, s _ _ e, dpAll_kp (Kp.of_same (S := fun _ => False) s) _ _ (lrs_nl _) d⟩
/-- two lists of rows put together -/
theorem RL.cat {H : Hp} {R S p : Addr} {rows more : List LR} {vs us : List V} (e1 : H R = some (.lst vs)) (d1 : DpAll K H vs (rows.map LR.d)) (e2 : H S = some (.lst us)) (d2 : DpAll K H us (more.map LR.d)) (np : H p = none) : RL K (upd H p (.lst (vs ++ us))) p (rows ++ more) := by
  have s := same_new (o := .lst (vs ++ us)) np
  refine ⟨_, upd_same, ?_⟩
  rw [List.map_append]
  exact dpAll_kp (Kp.of_same (S := fun _ => False) s) _ _ (nLs_appN (lrs_nl _) (lrs_nl _)) (dpAll_app d1 d2)
/-- the loop's rows: counted down, told -/
def bodyA (at_ : Nat) : List LR := [.tell 0, .mv (.s 0) (.b 0), .op "sub" 0 0 1, .jump at_]
def bodyB (at_ b : Nat) : List LR := [.tell 0, .cho b (at_ + 3) (at_ + 4), .tell 1, .mv (.s 0) (.b 0), .op "sub" 0 0 1, .jump at_]
/-- a part as it is drawn -/
structure PDr (nb : Nat) (hd : List Nat) (ins : List (Option NP)) (rows : List LR) : Prop where
  e : ∃ (pre bd : List LR) (n : Nat) (kn : List NP) (tr : List Nat) (t : Int) (c : Nat) (en : LR), rows = pre ++ [.num 0 (t * (c : Nat)), .num 1 t] ++ (.cho 0 (pre.length + 3) (pre.length + 3 + bd.length) :: bd) ++ [en] ∧
    SLc nb hd (ins.filterMap id) [] pre n kn tr ∧ n ≤ 1 ∧ pre.length ≤ 30 ∧ (t = 1 ∨ t = -1) ∧ c ≤ 4 ∧ (bd = bodyA (pre.length + 2) ∨ ∃ b, (NP.b b ∈ kn ∨ b = 0) ∧ bd = bodyB (pre.length + 2) b) ∧ (en = .give 0 ∨ en = .give 1 ∨ ∃ k, k < 100 ∧ en = .fail k)
/-- the drawer begins a part -/
theorem PS.begin {H : Hp} {A : PA} {nb n : Nat} {f : Str → Option V} (ds : DSv H A.d n f) (e1 : f "boxes" = some (.int (nb : Nat))) (e2 : f "known" = some (.ref A.kl)) (e3 : f "trays" = some (.ref A.tl)) {ks : List V} {kn : List NP} (ek : H A.kl = some (.lst ks)) (dk : DpAll K H ks (kn.map NP.d)) (et : H A.tl = some (.lst [])) (ne : A.d ≠ A.kl ∧ A.d ≠ A.tl ∧ A.kl ≠ A.tl) (nb2 : 2 ≤ nb ∧ nb ≤ 5) (kb : ∀ p ∈ kn, p.lt nb) (l : kn.length ≤ 10) : PS K H A nb kn [] 10 :=
  ⟨⟨n, f, ds, e1, e2, e3⟩, ⟨ks, ek, dk⟩, et, ne, nb2, kb, (fun t ht => nomatch ht), ⟨l, Nat.zero_le _, by decide⟩⟩
def sp_part (K : PySem.W.Frag) : Sp := fun vs H Q _ => ∃ (d Li L : Addr) (n nb : Nat) (f : Str → Option V) (iv : List V) (ins : List (Option NP)) (hd : List Nat), vs = [.ref d, .ref Li, .ref L] ∧ DSv H d n f ∧ (n ≤ 16 ∨ ((∃ u, f "known" = some u) ∧ ∃ u, f "trays" = some u)) ∧ f "boxes" = some (.int (nb : Nat)) ∧ 2 ≤ nb ∧ nb ≤ 5 ∧
  H Li = some (.lst iv) ∧ DpAll K H iv (ins.map insD) ∧ ins.length ≤ 3 ∧ (∀ o ∈ ins, ∀ p, o = some p → p.lt nb) ∧ H L = some (.lst (hd.map fun n => V.int (n : Nat))) ∧ hd.length ≤ 2 ∧ (∀ h ∈ hd, h ≤ 3) ∧ d ≠ Li ∧ d ≠ L ∧
  ∀ H' v rows f' n', Kp (fun b => b = d) H H' → DSv H' d n' f' → f' "boxes" = some (.int (nb : Nat)) → (∃ u, f' "known" = some u) → (∃ u, f' "trays" = some u) → Dp K H' v (.tuple (rows.map LR.d)) → PDr nb hd ins rows → Q v H'
/-- a part half drawn: what stood at the beginning stays but the drawer's dict -/
structure PWk (K : PySem.W.Frag) (H : Hp) (d : Addr) (nb : Nat) (hd : List Nat) (kn0 : List NP) (H' : Hp) (A : PA) (R : Addr) (rows : List LR) (c : Nat) (kn : List NP) (tr : List Nat) (m : Nat) : Prop where
  k : Kp (fun b => b = d) H H'
  ad : A.d = d
  oH : ∀ b, A.own b → b = d ∨ H b = none
  ps : PS K H' A nb kn tr m
  rl : RL K H' R rows
  oR : ¬ A.own R
  nR : H R = none
  sl : SLc nb hd kn0 [] rows c kn tr
theorem PWk.kpx {H : Hp} {d : Addr} {H1 H2 : Hp} {A1 A2 : PA} (k : Kp (fun b => b = d) H H1) (e : A1.d = d) (oH : ∀ b, A1.own b → b = d ∨ H b = none) (x : PX H1 A1 H2 A2) : Kp (fun b => b = d) H H2 ∧ A2.d = d ∧ ∀ b, A2.own b → b = d ∨ H b = none := by
  refine ⟨fun b o eb z => x.k b o (k b o eb z) fun y => ?_, x.d.trans e, fun b hb => ?_⟩
  · rcases oH b (y) with h | h
    · exact z h
    · rw [h] at eb
      cases eb
  · rcases x.o b hb with h | h
    · exact oH b h
    · by_cases c : b = d
      · exact .inl c
      · refine .inr ?_
        cases eb : H b with
        | none => rfl
        | some o => rw [k b o eb fun z => absurd z c] at h; cases h
/-- the drawer goes on, the rows stay -/
theorem PWk.go {H : Hp} {d : Addr} {nb c m m2 : Nat} {hd : List Nat} {kn0 kn kn2 : List NP} {tr tr2 : List Nat} {H1 H2 : Hp} {A1 A2 : PA} {R : Addr} {rows : List LR} (w : PWk K H d nb hd kn0 H1 A1 R rows c kn tr m) (x : PX H1 A1 H2 A2) (p2 : PS K H2 A2 nb kn2 tr2 m2) (sl : SLc nb hd kn0 [] rows c kn2 tr2) (oR : ¬ A2.own R) : PWk K H d nb hd kn0 H2 A2 R rows c kn2 tr2 m2 := by
  obtain ⟨a, b, e⟩ := PWk.kpx w.k w.ad w.oH x
  exact ⟨a, b, e, p2, w.rl.px x w.oR, oR, w.nR, sl⟩
theorem PWk.free {H : Hp} {d : Addr} {H1 : Hp} {L : Addr} (k : Kp (fun b => b = d) H H1) (hd : ∃ o, H1 d = some o) (n : H1 L = none) : H L = none := by
  cases e : H L with
  | none => rfl
  | some o =>
    by_cases c : L = d
    · obtain ⟨o', e'⟩ := hd
      rw [← c, n] at e'
      cases e'
    · rw [k _ _ e fun z => absurd z c] at n
      cases n
theorem PS.dd {H : Hp} {A : PA} {nb m : Nat} {kn : List NP} {tr : List Nat} (h : PS K H A nb kn tr m) : ∃ o, H A.d = some o := h.there (.inl rfl)
/-- a new list of rows -/
theorem PWk.list {H : Hp} {d : Addr} {nb c c2 m : Nat} {hd : List Nat} {kn0 kn : List NP} {tr : List Nat} {H1 : Hp} {A1 : PA} {R R2 : Addr} {rows rows2 : List LR} {vs : List V} (w : PWk K H d nb hd kn0 H1 A1 R rows c kn tr m) (nR : H1 R2 = none) (dv : DpAll K H1 vs (rows2.map LR.d)) (sl : SLc nb hd kn0 [] rows2 c2 kn tr) : PWk K H d nb hd kn0 (upd H1 R2 (.lst vs)) A1 R2 rows2 c2 kn tr m := by
  have s := same_new (o := .lst vs) nR
  exact ⟨kd_lay w.k nR, w.ad, w.oH, w.ps.sm s, ⟨vs, upd_same, dpAll_kp (Kp.of_same (S := fun _ => False) s) _ _ (lrs_nl _) dv⟩, w.ps.off nR, PWk.free w.k (by rw [← w.ad]; exact w.ps.dd) nR, sl⟩
theorem PWk.sm {H : Hp} {d : Addr} {nb c m : Nat} {hd : List Nat} {kn0 kn : List NP} {tr : List Nat} {H1 H2 : Hp} {A1 : PA} {R : Addr} {rows : List LR} (w : PWk K H d nb hd kn0 H1 A1 R rows c kn tr m) (s : Same H1 H2) : PWk K H d nb hd kn0 H2 A1 R rows c kn tr m :=
  ⟨w.k.trans (.of_same s), w.ad, w.oH, w.ps.sm s, w.rl.sm s, w.oR, w.nR, w.sl⟩
theorem PWk.nx {H : Hp} {d : Addr} {nb c m : Nat} {hd : List Nat} {kn0 kn : List NP} {tr : List Nat} {H1 : Hp} {A1 : PA} {R : Addr} {rows : List LR} (w : PWk K H d nb hd kn0 H1 A1 R rows c kn tr m) : ∃ n f, DSv H1 d n f ∧ ∀ H2, Kp (fun b => b = d) H1 H2 → DSv H2 d n f → PWk K H d nb hd kn0 H2 A1 R rows c kn tr m ∧ PX H1 A1 H2 A1 := by
  obtain ⟨n, f, ds, up⟩ := w.ps.nx
  rw [w.ad] at ds up
  refine ⟨n, f, ds, fun H2 k d2 => ?_⟩
  obtain ⟨p2, x2⟩ := up H2 k d2
  exact ⟨w.go x2 p2 w.sl w.oR, x2⟩
theorem PS.kp {H H' : Hp} {S : Addr → Prop} {A : PA} {nb m : Nat} {kn : List NP} {tr : List Nat} (h : PS K H A nb kn tr m) (k : Kp S H H') (no : ∀ b, A.own b → ¬ S b) : PS K H' A nb kn tr m := by
  obtain ⟨n5, f5, ds5, e1, e2, e3⟩ := h.ds
  obtain ⟨ks5, ek5, dk5⟩ := h.kl
  exact ⟨⟨n5, f5, ds5.kp k (no _ (.inl rfl)), e1, e2, e3⟩, ⟨ks5, k _ _ ek5 fun z => absurd z (no _ (.inr (.inl rfl))), dpAll_kp k _ _ (nps_nl _) dk5⟩, k _ _ h.tl fun z => absurd z (no _ (.inr (.inr rfl))), h.ne, h.nb2, h.kb, h.tb, h.m⟩
/-- a list of one's own changed beside -/
theorem PWk.side {H : Hp} {d : Addr} {nb c m : Nat} {hd : List Nat} {kn0 kn : List NP} {tr : List Nat} {H1 : Hp} {A1 : PA} {R R1 : Addr} {rows : List LR} {vs us : List V} (w : PWk K H d nb hd kn0 H1 A1 R rows c kn tr m) (e : H1 R1 = some (.lst vs)) (no : ¬ A1.own R1) (nR : H R1 = none) (ne : R1 ≠ R) : PWk K H d nb hd kn0 (upd H1 R1 (.lst us)) A1 R rows c kn tr m ∧ Kp (fun b => b = R1) H1 (upd H1 R1 (.lst us)) := by
  have k : Kp (fun b => b = R1) H1 (upd H1 R1 (.lst us)) := Kp.upd e trivial rfl
  refine ⟨⟨fun b o eb z => k b o (w.k b o eb z) fun y => ?_, w.ad, w.oH, w.ps.kp k fun b hb z => no (z ▸ hb), ?_, w.oR, w.nR, w.sl⟩, k⟩
  · rw [y, nR] at eb
    cases eb
  · obtain ⟨zs, ez, dz⟩ := w.rl
    exact ⟨zs, k _ _ ez fun z => absurd z ne.symm, dpAll_kp k _ _ (lrs_nl _) dz⟩
theorem PWk.off {H : Hp} {d : Addr} {nb c m : Nat} {hd : List Nat} {kn0 kn : List NP} {tr : List Nat} {H1 : Hp} {A1 : PA} {R R1 : Addr} {rows : List LR} (w : PWk K H d nb hd kn0 H1 A1 R rows c kn tr m) (n : H1 R1 = none) : H R1 = none ∧ ¬ A1.own R1 ∧ R1 ≠ R := by
  refine ⟨PWk.free w.k (by rw [← w.ad]; exact w.ps.dd) n, w.ps.off n, fun z => ?_⟩
  obtain ⟨zs, ez, dz⟩ := w.rl
  rw [z, ez] at n
  cases n
/-- the first rows that a part may have -/
theorem head7 {nb : Nat} {hd : List Nat} {kn0 : List NP} {x : Int} {a : Nat} (h : 2 ≤ nb) (x32 : In32 x) (ha : a < 2) : SLc nb hd kn0 [] [.fresh 0 2, .num 0 x, .num 1 7, .tmv 1 0, .put a 0 1, .get 0 0 0, .tell 0] 0 ([.b 0, .b 1] ++ shl kn0) [0, 1] := by
  have r0 : SLc nb hd kn0 [] [] 0 kn0 [] := .nil (fun p h => h) (fun t h => h)
  have r1 : SLc nb hd kn0 [] [.fresh 0 2] 0 kn0 [0] := r0.snoc (r := .fresh 0 2) ⟨(fun p h => nomatch h), (fun p h => nomatch h), fun p h => .inl h, fun t h => .inr h, (fun p h => nomatch h), ⟨by decide, by decide⟩⟩ trivial
  have r2 : SLc nb hd kn0 [] [.fresh 0 2, .num 0 x] 0 (.b 0 :: kn0) [0] := r1.snoc (r := .num 0 x) ⟨(fun p h => nomatch h), (fun p h => nomatch h), fun p hp => (List.mem_cons.mp hp).elim (fun e => .inr (List.mem_singleton.mpr e)) .inl, fun t h => .inl h, fun p hp => (List.mem_singleton.mp hp) ▸ (by show 0 < nb; omega), x32⟩ trivial
  have r3 : SLc nb hd kn0 [] [.fresh 0 2, .num 0 x, .num 1 7] 0 (.b 1 :: .b 0 :: kn0) [0] := r2.snoc (r := .num 1 7) ⟨(fun p h => nomatch h), (fun p h => nomatch h), fun p hp => (List.mem_cons.mp hp).elim (fun e => .inr (List.mem_singleton.mpr e)) .inl, fun t h => .inl h, fun p hp => (List.mem_singleton.mp hp) ▸ (by show 1 < nb; omega), ⟨by decide, by decide⟩⟩ trivial
  have r4 : SLc nb hd kn0 [] [.fresh 0 2, .num 0 x, .num 1 7, .tmv 1 0] 0 (.b 1 :: .b 0 :: kn0) [0, 1] := r3.snoc (r := .tmv 1 0) ⟨(fun p h => nomatch h), fun t h => h, fun p h => .inl h, fun t h => (List.mem_cons.mp h).elim (fun e => .inl (List.mem_singleton.mpr e)) fun e => .inr e, (fun p h => nomatch h), ⟨by decide, by decide⟩⟩ trivial
  have i0 : NP.b 0 ∈ (NP.b 1 :: NP.b 0 :: kn0) := List.mem_cons_of_mem _ (List.mem_cons_self ..)
  have i1 : NP.b 1 ∈ (NP.b 1 :: NP.b 0 :: kn0) := List.mem_cons_self ..
  have l1 : ∀ p ∈ (LR.put a 0 1).lk, p ∈ (NP.b 1 :: NP.b 0 :: kn0) := fun p hp => by
    rcases List.mem_cons.mp hp with e | hp
    · rw [e]; exact i0
    · rw [List.mem_singleton.mp hp]; exact i1
  have l2 : ∀ t ∈ (LR.put a 0 1).lt, t ∈ [0, 1] := fun t ht => by
    rw [List.mem_singleton.mp ht]
    have : a = 0 ∨ a = 1 := by omega
    rcases this with rfl | rfl <;> simp
  have l3 : ∀ p ∈ (LR.get 0 0 0).lk, p ∈ (NP.b 1 :: NP.b 0 :: kn0) := fun p hp => by rw [List.mem_singleton.mp hp]; exact i0
  have l4 : ∀ t ∈ (LR.get 0 0 0).lt, t ∈ [0, 1] := fun t ht => by rw [List.mem_singleton.mp ht]; simp
  have l5 : ∀ p ∈ (LR.tell 0).lk, p ∈ (NP.b 1 :: NP.b 0 :: kn0) := fun p hp => by rw [List.mem_singleton.mp hp]; exact i0
  have r5 : SLc nb hd kn0 [] [.fresh 0 2, .num 0 x, .num 1 7, .tmv 1 0, .put a 0 1] 0 (.b 1 :: .b 0 :: kn0) [0, 1] := r4.snoc (r := .put a 0 1) ⟨l1, l2, fun p h => .inl h, fun t h => .inl h, (fun p h => nomatch h), by show a < 3; omega⟩ trivial
  have r6 : SLc nb hd kn0 [] [.fresh 0 2, .num 0 x, .num 1 7, .tmv 1 0, .put a 0 1, .get 0 0 0] 0 (.b 1 :: .b 0 :: kn0) [0, 1] := r5.snoc (r := .get 0 0 0) ⟨l3, l4, fun p h => .inl h, fun t h => .inl h, fun p hp => (List.mem_singleton.mp hp) ▸ (by show 0 < nb; omega), by show 0 < 3; decide⟩ trivial
  refine r6.snoc (r := .tell 0) ⟨l5, (fun t h => nomatch h), fun p hp => .inl ?_, fun t h => .inl h, (fun p h => nomatch h), trivial⟩ trivial
  rcases List.mem_append.mp hp with h | h
  · rcases List.mem_cons.mp h with rfl | h
    · exact i0
    · rw [List.mem_singleton.mp h]
      exact i1
  · exact List.mem_cons_of_mem _ (List.mem_cons_of_mem _ (shl_in h))
/-- another list of trays -/
theorem PS.setT {H : Hp} {A : PA} {nb m : Nat} {kn : List NP} {tr tr2 : List Nat} (h : PS K H A nb kn tr m) {L : Addr} (eL : H L = some (.lst (tr2.map fun t => V.int (t : Nat)))) (no : ¬ A.own L) (tb : ∀ t ∈ tr2, t < 3) (lt : tr2.length ≤ m) :
    ∃ H', DPut H A.d (.str "trays") (.ref L) H' ∧ PS K H' { A with tl := L } nb kn tr2 m ∧ Kp (fun b => b = A.d) H H' := by
  obtain ⟨n, f, ds, e1, e2, e3⟩ := h.ds
  obtain ⟨ks, ek, dk⟩ := h.kl
  obtain ⟨H', hp, ds', k⟩ := ds.put (m := n) (v := .ref L) (bsk (.inr (.inr rfl))).1 (bsk (.inr (.inr rfl))).2 ⟨.inr ⟨Nat.le_refl _, _, e3⟩, ds.n⟩
  have nd : L ≠ A.d := fun z => no (.inl z)
  refine ⟨H', hp, ⟨⟨n, _, ds', ?_, ?_, ?_⟩, ⟨ks, k _ _ ek fun z => absurd z h.ne.1.symm, dpAll_kp k _ _ (nps_nl _) dk⟩, k _ _ eL fun z => absurd z nd, ⟨h.ne.1, nd.symm, fun z => no (.inr (.inl z.symm))⟩, h.nb2, h.kb, tb, ⟨h.m.1, lt, h.m.2.2⟩⟩, k⟩
  · show (if ("boxes" : Str) = "trays" then _ else f "boxes") = _
    rw [if_neg (by decide +kernel), e1]
  · show (if ("known" : Str) = "trays" then _ else f "known") = _
    rw [if_neg (by decide +kernel), e2]
  · show (if ("trays" : Str) = "trays" then _ else f "trays") = _
    rw [if_pos rfl]
/-- more rows, in a list beside -/
structure RW (K : PySem.W.Frag) (H : Hp) (d : Addr) (nb : Nat) (hd : List Nat) (kn0 : List NP) (H' : Hp) (A : PA) (R : Addr) (rows : List LR) (D : Addr) (acc : List V) (more : List LR) (c : Nat) (kn : List NP) (tr : List Nat) (m : Nat) : Prop where
  k : Kp (fun b => b = d) H H'
  ad : A.d = d
  oH : ∀ b, A.own b → b = d ∨ H b = none
  ps : PS K H' A nb kn tr m
  rl : RL K H' R rows
  oR : ¬ A.own R
  nR : H R = none
  eD : H' D = some (.lst acc)
  dA : DpAll K H' acc (more.map LR.d)
  oD : ¬ A.own D
  nD : H D = none
  ne : D ≠ R
  sl : SLc nb hd kn0 [] (rows ++ more) c kn tr
theorem PWk.rw {H : Hp} {d : Addr} {nb c m : Nat} {hd : List Nat} {kn0 kn : List NP} {tr : List Nat} {H1 : Hp} {A1 : PA} {R D : Addr} {rows : List LR} (w : PWk K H d nb hd kn0 H1 A1 R rows c kn tr m) (n : H1 D = none) : RW K H d nb hd kn0 (upd H1 D (.lst [])) A1 R rows D [] [] c kn tr m := by
  obtain ⟨a, b, e⟩ := w.off n
  have w2 := w.sm (same_new (o := .lst []) n)
  exact ⟨w2.k, w2.ad, w2.oH, w2.ps, w2.rl, w2.oR, w2.nR, upd_same, .nil, b, a, e, by rw [List.append_nil]; exact w.sl⟩
theorem RW.step {H : Hp} {d : Addr} {nb c m m2 : Nat} {hd : List Nat} {kn0 kn kn2 : List NP} {tr tr2 : List Nat} {H1 H2 : Hp} {A : PA} {R D : Addr} {rows more : List LR} {acc : List V} {v : V} {r : LR} (w : RW K H d nb hd kn0 H1 A R rows D acc more c kn tr m) (x : PX H1 A H2 A) (p2 : PS K H2 A nb kn2 tr2 m2) (dv : Dp K H2 v r.d) (rs : RowS nb kn tr r kn2 tr2) (rf : r.flat) :
    H2 D = some (.lst acc) ∧ RW K H d nb hd kn0 (upd H2 D (.lst (acc ++ [v]))) A R rows D (acc ++ [v]) (more ++ [r]) c kn2 tr2 m2 := by
  obtain ⟨k2, ad, oH⟩ := PWk.kpx w.k w.ad w.oH x
  have eD := x.keep w.eD w.oD
  have k : Kp (fun b => b = D) H2 (upd H2 D (.lst (acc ++ [v]))) := Kp.upd eD trivial rfl
  have rl2 := w.rl.px x w.oR
  refine ⟨eD, ⟨fun b o eb z => k b o (k2 b o eb z) fun y => ?_, ad, oH, p2.kp k fun b hb z => w.oD (z ▸ hb), ?_, w.oR, w.nR, upd_same, ?_, w.oD, w.nD, w.ne, ?_⟩⟩
  · rw [y, w.nD] at eb
    cases eb
  · obtain ⟨zs, ez, dz⟩ := rl2
    exact ⟨zs, k _ _ ez fun z => absurd z w.ne.symm, dpAll_kp k _ _ (lrs_nl _) dz⟩
  · rw [List.map_append]
    exact dpAll_app (dpAll_kp k _ _ (lrs_nl _) (x.dpAll (lrs_nl _) w.dA)) (.cons (dp_kp k _ _ r.nl dv) .nil)
  · rw [← List.append_assoc]
    exact w.sl.snoc rs rf
/-- both put together -/
theorem RW.join {H : Hp} {d : Addr} {nb c m : Nat} {hd : List Nat} {kn0 kn : List NP} {tr : List Nat} {H1 : Hp} {A : PA} {R D R2 : Addr} {rows more : List LR} {acc vs : List V} (w : RW K H d nb hd kn0 H1 A R rows D acc more c kn tr m) (eR : H1 R = some (.lst vs)) (dR : DpAll K H1 vs (rows.map LR.d)) (n : H1 R2 = none) : PWk K H d nb hd kn0 (upd H1 R2 (.lst (vs ++ acc))) A R2 (rows ++ more) c kn tr m := by
  have s := same_new (o := .lst (vs ++ acc)) n
  exact ⟨kd_lay w.k n, w.ad, w.oH, w.ps.sm s, RL.cat eR dR w.eD w.dA n, w.ps.off n, PWk.free w.k (by rw [← w.ad]; exact w.ps.dd) n, w.sl⟩
theorem dpIE {H : Hp} {i j : Int} (e : i = j) : Dp K H (.int i) (.int j) := e ▸ .int i
end

theorem cutV_to (xs : List V) (j : Nat) : cutV xs none (some (j : Int)) = xs.take j := by
  unfold cutV
  rw [HT.sIx_none, HT.sIx_nat, List.drop_zero, Nat.sub_zero, ← List.take_take, List.take_length]
theorem cutV_from (xs : List V) (j : Nat) : cutV xs (some (j : Int)) none = xs.drop j := by
  unfold cutV
  rw [HT.sIx_none, HT.sIx_nat]
  rcases Nat.le_total j xs.length with h | h
  · rw [Nat.min_eq_left h, List.take_of_length_le (by rw [List.length_drop]; omega)]
  · rw [Nat.min_eq_right h, List.drop_length, List.drop_of_length_le h, List.take_nil]

section
variable {P : Program} {w : World} {K : PySem.W.Frag} {mg : Str → Option Value} {base : Heap}
theorem ok__law_part_by (T : Top K mg) : FnOk P w K mg base CX0 5 (He.ga K "_law_part_by") T.fd__law_part_by ["_law_s", "_law_ins", "_law_heads"] (sp_part K) := by
  have G__law_next := ok__law_nextD (P := P) (w := w) (base := base) T
  have G__law_box := ok__law_box (P := P) (w := w) (base := base) T
  have G__law_note := ok__law_note (P := P) (w := w) (base := base) T
  have G__law_row_by := ok__law_row_by (P := P) (w := w) (base := base) T
  have G__law_call_by := ok__law_call_by (P := P) (w := w) (base := base) T
  refine T.F__law_part_by.ok sc__law_part_by (fun vs H Q E h => ?_) (fun cdv A0 outer s0 H vs Q E hr h => ?_)
  · obtain ⟨d, Li, L, n, nb, f, iv, ins, hd, rfl, _⟩ := h
    rfl
  · obtain ⟨d, Li, L, n, nb, f, iv, ins, hd, rfl, ds, n10, eb, nb2, nb5, eI, dI, lI, hI, eL, lL, hL, neI, neL, q⟩ := h
    refine ⟨_, PSs.nox (pss_cons (ps_dput (hu_of hr) (pv 0) pe_str (pe_lc (own := [("_law_place", 7)]) (by rfl) sc__law_part_by.nd (pi_list (pv 1)) (blkOk_by (own := [("_law_place", 7)]) (N := N__law_part_by) (sc := defScope s__law_part_by) (by decide +kernel)) (fun _ _ _ _ _ => (pg_name (i := 7) sc__law_part_by.nd rfl (Or.inl rfl))) (fun _ _ _ _ _ => (pts_one (pt_cmpR op_notN (pv 7) pe_non (nomark _)))) (fun _ _ _ _ _ => (pv 7))) (by rfl))
        (pss_cons (ps_dput (hu_of hr) (pv 0) pe_str (pe_lst pa_nil) (by rfl))
        (pss_cons (ps_set (i := 3) sc__law_part_by.nd rfl (Or.inl rfl) (pe_lst pa_nil))
        (pss_cons (ps_if (pt_cmpR op_eq (pe_call G__law_next (hr.mono (by omega)) (by rfl) T.g__law_next T.F__law_next.kp T.b__law_next .nil pass0 (pa_cons (pv 0) (pa_cons pe_int pa_nil))) pe_int (nomark _)) (pss_cons (ps_set (i := 3) sc__law_part_by.nd rfl (Or.inl rfl) (pe_lst (pa_cons (pe_tup (pa_cons pe_str (pa_cons pe_int (pa_cons pe_int pa_nil)))) (pa_cons (pe_tup (pa_cons pe_str (pa_cons pe_int (pa_cons (pe_op op_sub (pe_call G__law_next (hr.mono (by omega)) (by rfl) T.g__law_next T.F__law_next.kp T.b__law_next .nil pass0 (pa_cons (pv 0) (pa_cons pe_int pa_nil))) pe_int) pa_nil)))) (pa_cons (pe_tup (pa_cons pe_str (pa_cons pe_int (pa_cons pe_int pa_nil)))) pa_nil)))))
        (pss_cons (ps_expr (pe_bm PySem.F.plainAttrs_list PySem.F.slot_list_append PySem.F.type_list_append mt_append (pv 3) (pa_cons (pe_tup (pa_cons pe_str (pa_cons (pe_tup (pa_cons pe_str (pa_cons pe_int pa_nil))) (pa_cons (pe_tup (pa_cons pe_str (pa_cons pe_int pa_nil))) pa_nil)))) pa_nil)))
        (pss_cons (ps_expr (pe_bm PySem.F.plainAttrs_list PySem.F.slot_list_append PySem.F.type_list_append mt_append (pv 3) (pa_cons (pe_ix ix_list (pe_lst (pa_cons (pe_tup (pa_cons pe_str (pa_cons pe_int (pa_cons pe_int (pa_cons pe_int pa_nil))))) (pa_cons (pe_tup (pa_cons pe_str (pa_cons pe_int (pa_cons pe_int (pa_cons pe_int pa_nil))))) pa_nil))) (pe_call G__law_next (hr.mono (by omega)) (by rfl) T.g__law_next T.F__law_next.kp T.b__law_next .nil pass0 (pa_cons (pv 0) (pa_cons pe_int pa_nil))) (fun _ _ => rfl)) pa_nil)))
        (pss_cons (ps_set (i := 3) sc__law_part_by.nd rfl (Or.inl rfl) (pe_op op_cat (pv 3) (pe_lst (pa_cons (pe_tup (pa_cons pe_str (pa_cons pe_int (pa_cons pe_int (pa_cons pe_int pa_nil))))) (pa_cons (pe_tup (pa_cons pe_str (pa_cons pe_int pa_nil))) pa_nil)))))
        (pss_cons (ps_dput (hu_of hr) (pv 0) pe_str (pe_op op_cat (pe_lst (pa_cons (pe_tup (pa_cons pe_str (pa_cons pe_int pa_nil))) (pa_cons (pe_tup (pa_cons pe_str (pa_cons pe_int pa_nil))) pa_nil))) (pe_lc (own := [("_law_place", 7)]) (by rfl) sc__law_part_by.nd (pi_list (pe_dget (hu_of hr) (pv 0) pe_str (fun _ _ => rfl))) (blkOk_by (own := [("_law_place", 7)]) (N := N__law_part_by) (sc := defScope s__law_part_by) (by decide +kernel)) (fun _ _ _ _ _ => (pg_name (i := 7) sc__law_part_by.nd rfl (Or.inl rfl))) (fun _ _ _ _ _ => (pts_one (pt_cmpR op_eq (pe_ix (ix_tupK (K := K) rfl) (pv 7) pe_int (fun _ _ => rfl)) pe_str (nomark _)))) (fun _ _ _ _ _ => (pv 7)))) (by rfl))
        (pss_one (ps_dput (hu_of hr) (pv 0) pe_str (pe_lst (pa_cons pe_int (pa_cons pe_int pa_nil))) (by rfl)))))))) pss_nil)
        (pss_cons (ps_set (i := 3) sc__law_part_by.nd rfl (Or.inl rfl) (pe_op op_cat (pv 3) (pe_lc (own := [("_law_turn", 4)]) (by rfl) sc__law_part_by.nd (pi_range1 (by rfl) T.m_range (pa_cons (pe_op op_add pe_int (pe_call G__law_next (hr.mono (by omega)) (by rfl) T.g__law_next T.F__law_next.kp T.b__law_next .nil pass0 (pa_cons (pv 0) (pa_cons pe_int pa_nil)))) pa_nil)) (blkOk_by (own := [("_law_turn", 4)]) (N := N__law_part_by) (sc := defScope s__law_part_by) (by decide +kernel)) (fun _ _ _ _ _ => (pg_name (i := 4) sc__law_part_by.nd rfl (Or.inl rfl))) (fun _ _ _ _ _ => pts_nil) (fun _ _ _ _ _ => (pe_call G__law_row_by (hr.mono (by omega)) (by rfl) T.g__law_row_by T.F__law_row_by.kp T.b__law_row_by .nil pass0 (pa_cons (pv 0) pa_nil))))))
        (pss_cons (ps_if (PW.pt (pw_and (pt_cmpR (LEq.op_neNil hr.units) (pv 2) (pe_lst pa_nil) (nomark _)) (pw_and1 (pt_cmpR op_gt (pe_call G__law_next (hr.mono (by omega)) (by rfl) T.g__law_next T.F__law_next.kp T.b__law_next .nil pass0 (pa_cons (pv 0) (pa_cons pe_int pa_nil))) pe_int (nomark _))))) (pss_cons (ps_set (i := 3) sc__law_part_by.nd rfl (Or.inl rfl) (pe_op op_cat (pv 3) (pe_call G__law_call_by (hr.mono (by omega)) (by rfl) T.g__law_call_by T.F__law_call_by.kp T.b__law_call_by .nil pass0 (pa_cons (pv 0) (pa_cons (pv 2) pa_nil)))))
        (pss_cons (ps_if (pt_cmpR op_eq (pe_ix ix_tup (pe_ix ix_list (pv 3) (pe_un un_neg pe_int) (fun _ _ => rfl)) pe_int (fun _ _ => rfl)) pe_str (nomark _)) (pss_one (ps_expr (pe_call G__law_note (hr.mono (by omega)) (by rfl) T.g__law_note T.F__law_note.kp T.b__law_note .nil pass0 (pa_cons (pv 0) (pa_cons (pe_tup (pa_cons pe_str (pa_cons pe_int pa_nil))) pa_nil))))) pss_nil)
        (pss_one (ps_set (i := 3) sc__law_part_by.nd rfl (Or.inl rfl) (pe_op op_cat (pv 3) (pe_lc (own := [("_law_turn", 4)]) (by rfl) sc__law_part_by.nd (pi_range1 (by rfl) T.m_range (pa_cons (pe_call G__law_next (hr.mono (by omega)) (by rfl) T.g__law_next T.F__law_next.kp T.b__law_next .nil pass0 (pa_cons (pv 0) (pa_cons pe_int pa_nil))) pa_nil)) (blkOk_by (own := [("_law_turn", 4)]) (N := N__law_part_by) (sc := defScope s__law_part_by) (by decide +kernel)) (fun _ _ _ _ _ => (pg_name (i := 4) sc__law_part_by.nd rfl (Or.inl rfl))) (fun _ _ _ _ _ => pts_nil) (fun _ _ _ _ _ => (pe_call G__law_row_by (hr.mono (by omega)) (by rfl) T.g__law_row_by T.F__law_row_by.kp T.b__law_row_by .nil pass0 (pa_cons (pv 0) pa_nil))))))))) pss_nil)
        (pss_cons (ps_set (i := 4) sc__law_part_by.nd rfl (Or.inl rfl) (pe_op op_sub pe_int (pe_op op_mul pe_int (pe_call G__law_next (hr.mono (by omega)) (by rfl) T.g__law_next T.F__law_next.kp T.b__law_next .nil pass0 (pa_cons (pv 0) (pa_cons pe_int pa_nil))))))
        (pss_cons (ps_set (i := 3) sc__law_part_by.nd rfl (Or.inl rfl) (pe_op op_cat (pv 3) (pe_lst (pa_cons (pe_tup (pa_cons pe_str (pa_cons pe_int (pa_cons (pe_op op_mul (pv 4) (pe_call G__law_next (hr.mono (by omega)) (by rfl) T.g__law_next T.F__law_next.kp T.b__law_next .nil pass0 (pa_cons (pv 0) (pa_cons pe_int pa_nil)))) pa_nil)))) (pa_cons (pe_tup (pa_cons pe_str (pa_cons pe_int (pa_cons (pv 4) pa_nil)))) pa_nil)))))
        (pss_cons (ps_expr (pe_call G__law_note (hr.mono (by omega)) (by rfl) T.g__law_note T.F__law_note.kp T.b__law_note .nil pass0 (pa_cons (pv 0) (pa_cons (pe_tup (pa_cons pe_str (pa_cons pe_int pa_nil))) pa_nil))))
        (pss_cons (ps_set (i := 5) sc__law_part_by.nd rfl (Or.inl rfl) (pe_callB call_len_seq (by rfl) T.m_len (by decide +kernel) (pa_cons (pv 3) pa_nil)))
        (pss_cons (ps_set (i := 6) sc__law_part_by.nd rfl (Or.inl rfl) (pe_lst (pa_cons (pe_tup (pa_cons pe_str (pa_cons pe_int pa_nil))) (pa_cons (pe_tup (pa_cons pe_str (pa_cons (pe_tup (pa_cons pe_str (pa_cons pe_int pa_nil))) (pa_cons (pe_tup (pa_cons pe_str (pa_cons pe_int pa_nil))) pa_nil)))) (pa_cons (pe_tup (pa_cons pe_str (pa_cons pe_int (pa_cons pe_int (pa_cons pe_int pa_nil))))) (pa_cons (pe_tup (pa_cons pe_str (pa_cons (pv 5) pa_nil))) pa_nil))))))
        (pss_cons (ps_if (pt_cmpR op_eq (pe_call G__law_next (hr.mono (by omega)) (by rfl) T.g__law_next T.F__law_next.kp T.b__law_next .nil pass0 (pa_cons (pv 0) (pa_cons pe_int pa_nil))) pe_int (nomark _)) (pss_one (ps_set (i := 6) sc__law_part_by.nd rfl (Or.inl rfl) (pe_op op_cat (pe_op op_cat (pe_slice sl_list (pv 6) po_none (po_some pe_int)) (pe_lst (pa_cons (pe_tup (pa_cons pe_str (pa_cons (pe_call G__law_box (hr.mono (by omega)) (by rfl) T.g__law_box T.F__law_box.kp T.b__law_box .nil pass0 (pa_cons (pv 0) pa_nil)) (pa_cons (pe_op op_add (pv 5) pe_int) (pa_cons (pe_op op_add (pv 5) pe_int) pa_nil))))) (pa_cons (pe_tup (pa_cons pe_str (pa_cons pe_int pa_nil))) pa_nil)))) (pe_slice sl_list (pv 6) (po_some pe_int) po_none)))) pss_nil)
        (pss_cons (ps_set (i := 3) sc__law_part_by.nd rfl (Or.inl rfl) (pe_op op_cat (pe_op op_cat (pv 3) (pe_lst (pa_cons (pe_tup (pa_cons pe_str (pa_cons pe_int (pa_cons (pe_op op_add (pv 5) pe_int) (pa_cons (pe_op op_add (pe_op op_add (pv 5) pe_int) (pe_callB call_len_seq (by rfl) T.m_len (by decide +kernel) (pa_cons (pv 6) pa_nil))) pa_nil))))) pa_nil))) (pv 6)))
        (pss_one (ps_ret (pe_callTy call_tuple_of (by rfl) T.m_tuple (by decide +kernel) (pa_cons (pe_op op_cat (pv 3) (pe_lst (pa_cons (pe_ix ix_list (pe_lst (pa_cons (pe_tup (pa_cons pe_str (pa_cons pe_int pa_nil))) (pa_cons (pe_tup (pa_cons pe_str (pa_cons (pe_call G__law_next (hr.mono (by omega)) (by rfl) T.g__law_next T.F__law_next.kp T.b__law_next .nil pass0 (pa_cons (pv 0) (pa_cons pe_int pa_nil))) pa_nil))) (pa_cons (pe_tup (pa_cons pe_str (pa_cons pe_int pa_nil))) pa_nil)))) (pe_call G__law_next (hr.mono (by omega)) (by rfl) T.g__law_next T.F__law_next.kp T.b__law_next .nil pass0 (pa_cons (pv 0) (pa_cons pe_int pa_nil))) (fun _ _ => rfl)) pa_nil))) pa_nil))))))))))))))))), ?_⟩
    have big : ∀ n : Nat, n ≤ 10000 → n ≤ sizeLine := fun n h => by rw [sizeLine_eq]; omega
    have li := dpAll_len dI
    rw [List.length_map] at li
    refine ⟨_, rfl, Li, rfl, ⟨_, .of eI⟩, fun D nD => ?_⟩
    refine lc_list (K := K) (a := Li) (xs := iv) (fun i H' => Same H H' ∧ ∃ acc, H' D = some (.lst acc) ∧ DpAll K H' acc (((ins.take i).filterMap id).map NP.d)) ?_ ?_ ?_ ?_
    · exact ⟨same_new nD, [], upd_same, .nil⟩
    · rintro i H' _ ⟨s', _⟩
      exact s'.seq (.of eI)
    · rintro i y H' hy ⟨s', acc, eD, dA⟩
      have hi := (List.getElem?_eq_some_iff.mp hy).1
      have hik : i < ins.length := by omega
      obtain ⟨dx, hdx, dvx⟩ := dpAll_getV dI hy
      rw [List.getElem?_map, List.getElem?_eq_getElem hik] at hdx
      cases hdx
      have tk : ins.take (i + 1) = ins.take i ++ [ins[i]] := (List.take_append_getElem hik).symm
      have lt : ((ins.take i).filterMap id).length ≤ i := Nat.le_trans (List.length_filterMap_le ..) (List.length_take_le ..)
      have la := dpAll_len dA
      rw [List.length_map] at la
      generalize ins[i] = o at dvx tk
      have dv' := dp_sm s' dvx
      dsimp only [gName]
      cases o with
      | none =>
        have ey : y = .non := by
          cases dvx
          rfl
        subst ey
        refine ⟨rfl, _, rfl, rfl, _, rfl, ifF (by rw [decide_eq_true rfl]; rfl) ⟨s', acc, eD, ?_⟩⟩
        rw [tk, List.filterMap_append, List.map_append]
        rw [show (([none] : List (Option NP)).filterMap id).map NP.d = [] from rfl, List.append_nil]
        exact dA
      | some p =>
        have dv2 : Dp K H' y p.d := dv'
        have dv3 := dv2
        obtain ⟨pa, xa, rfl, hpa, _⟩ := dp_tup dv2
        have kD : Kp (fun b => b = D) H' (upd H' D (.lst (acc ++ [V.ref pa]))) := Kp.upd eD trivial rfl
        refine ⟨rfl, _, rfl, rfl, _, rfl, ifT (by rw [decide_eq_false (fun z => nomatch z)]; rfl) ⟨_, rfl, acc, eD, by rw [la, sizeLine_eq]; omega, same_upd s' nD, _, upd_same, ?_⟩⟩
        rw [tk, List.filterMap_append, List.map_append]
        exact dpAll_app (dpAll_kp kD _ _ (nps_nl _) dA) (.cons (dp_kp kD _ _ p.nl dv3) .nil)
    · rintro H1 ⟨s1, acc, eD, dA⟩
      rw [show iv.length = ins.length from li, List.take_length] at dA
      have ds1 := ds.sm s1
      have nDd : D ≠ d := ds.neL nD
      have nds := ds.n
      obtain ⟨n1, n2, c1, c2⟩ : ∃ n1 n2, ((n < n1 ∨ (n ≤ n1 ∧ ∃ u, f "known" = some u)) ∧ n1 ≤ 20) ∧ ((n1 < n2 ∨ (n1 ≤ n2 ∧ ∃ u, (fun x => if x = ("known" : Str) then some (V.ref D) else f x) "trays" = some u)) ∧ n2 ≤ 20) := by
        rcases n10 with h | ⟨h1, u, h2⟩
        · exact ⟨n + 1, n + 2, ⟨.inl (Nat.lt_succ_self _), by omega⟩, ⟨.inl (Nat.lt_succ_self _), by omega⟩⟩
        · exact ⟨n, n, ⟨.inr ⟨Nat.le_refl _, h1⟩, nds⟩, ⟨.inr ⟨Nat.le_refl _, u, (if_neg (by decide +kernel)).trans h2⟩, nds⟩⟩
      obtain ⟨H2, hp2, ds2, k2⟩ := ds1.put (m := n1) (v := .ref D) (bsk (.inr (.inl rfl))).1 (bsk (.inr (.inl rfl))).2 c1
      refine ⟨_, rfl, _, _, rfl, hp2, ?_⟩
      refine ⟨Nat.zero_le _, fun D2 nD2 => ?_⟩
      have s3 := same_new (o := .lst []) nD2
      have ds3 := ds2.sm s3
      obtain ⟨H4, hp4, ds4, k4⟩ := ds3.put (m := n2) (v := .ref D2) (bsk (.inr (.inr rfl))).1 (bsk (.inr (.inr rfl))).2 c2
      refine ⟨_, rfl, _, _, rfl, hp4, ?_⟩
      have eD2 := k2 _ _ eD fun z => absurd z nDd
      have ne2 : D2 ≠ d := ds2.neL nD2
      have neD : D ≠ D2 := ne_of_none eD2 nD2
      have eD4 := k4 _ _ (s3 _ _ eD2) fun z => absurd z nDd
      have eT4 := k4 _ _ (show upd H2 D2 (.lst []) D2 = some (.lst []) from upd_same) fun z => absurd z ne2
      have kn3 : (ins.filterMap id).length ≤ 3 := Nat.le_trans (List.length_filterMap_le ..) lI
      have p4 : PS K H4 ⟨d, D, D2⟩ nb (ins.filterMap id) [] 10 := by
        refine PS.begin (A := ⟨d, D, D2⟩) ds4 ?_ ?_ ?_ eD4 ?_ eT4 ⟨nDd.symm, ne2.symm, neD⟩ ⟨nb2, nb5⟩ (fun p hp => ?_) (by omega)
        · show (if ("boxes" : Str) = "trays" then _ else if ("boxes" : Str) = "known" then _ else f "boxes") = _
          rw [if_neg (by decide +kernel), if_neg (by decide +kernel), eb]
        · show (if ("known" : Str) = "trays" then _ else if ("known" : Str) = "known" then _ else f "known") = _
          rw [if_neg (by decide +kernel), if_pos rfl]
        · show (if ("trays" : Str) = "trays" then _ else _) = _
          rw [if_pos rfl]
        · exact dpAll_kp k4 _ _ (nps_nl _) (dpAll_kp (Kp.of_same (S := fun _ => False) s3) _ _ (nps_nl _) (dpAll_kp k2 _ _ (nps_nl _) dA))
        · obtain ⟨o, ho, e⟩ := List.mem_filterMap.mp hp
          exact hI o ho p e
      have eL4 := k4 _ _ (s3 _ _ (k2 _ _ (s1 _ _ eL) fun z => absurd z neL.symm)) fun z => absurd z neL.symm
      have k04 : Kp (fun b => b = d) H H4 := fun b o e z => k4 b o (s3 b o (k2 b o (s1 b o e) z)) z
      have oA : ∀ b, PA.own ⟨d, D, D2⟩ b → b = d ∨ H b = none := fun b hb => by
        rcases hb with h | h | h
        · exact .inl h
        · exact .inr (by rw [h]; exact nD)
        · refine .inr ?_
          rw [h]
          cases e : H D2 with
          | none => rfl
          | some o => rw [k2 _ _ (s1 _ _ e) fun z => absurd z ne2] at nD2; cases nD2
      have oL : ¬ PA.own ⟨d, D, D2⟩ L := fun z => by
        rcases oA L z with h | h
        · exact neL h.symm
        · rw [eL] at h; cases h
      clear dI eI dA eD eD2 eD4 eT4 hp2 hp4
      refine ⟨Nat.zero_le _, fun R nR => ?_⟩
      have p5 := p4.lay (o := .lst []) nR
      have oR := p4.off nR
      have e5 := same_new (o := .lst []) nR _ _ eL4
      have r5 : RL K (upd H4 R (.lst [])) R [] := ⟨[], upd_same, .nil⟩
      have k05 : Kp (fun b => b = d) H (upd H4 R (.lst [])) := kd_lay k04 nR
      have nRH : H R = none := by
        cases e : H R with
        | none => rfl
        | some o =>
          by_cases c : R = d
          · exact absurd (.inl c) oR
          · rw [k04 _ _ e fun z => absurd z c] at nR
            cases nR
      have w5 : PWk K H d nb hd (ins.filterMap id) (upd H4 R (.lst [])) ⟨d, D, D2⟩ R [] 0 (ins.filterMap id) [] 10 := ⟨k05, rfl, oA, p5, r5, oR, nRH, .nil (fun p h => h) (fun t h => h)⟩
      have kb0 := p5.kb
      generalize upd H4 R (.lst []) = H5 at w5
      clear p5 e5 r5 k05 k04 p4 eL4 oR nR ds1 ds2 ds3 ds4 s1 s3 k2 k4 nD nD2 oA oL
      have n8 : ∀ {r : LR}, r.gv = [] → (∀ p ∈ r.gv, p.lt nb) := fun {r} e => by rw [e]; exact fun p hp => nomatch hp
      have n9 : ∀ {r : LR} {i : Nat}, i < nb → r.gv = [.b i] → (∀ p ∈ r.gv, p.lt nb) := fun {r i} hi e => by rw [e]; exact fun p hp => (List.mem_singleton.mp hp) ▸ hi
      dsimp only [gName, List.set]
      refine ifs_by (fun σ' H' => ∃ A' R' rows kn tr, PWk K H d nb hd (ins.filterMap id) H' A' R' rows 0 kn tr 10 ∧ rows.length ≤ 7 ∧ σ' = [some (.ref d), some (.ref Li), some (.ref L), some (.ref R'), none, none, none, none]) ?_ ?_
      rotate_left
      · intro N hN
        obtain ⟨n5, f5, ds5, up5⟩ := w5.nx
        refine ⟨_, rfl, d, n5, f5, 3, rfl, ds5, by decide, by decide, fun H6 r k6 d6 a6 b6 => ?_⟩
        obtain ⟨w6, x6⟩ := up5 H6 k6 d6
        refine ⟨rfl, _, rfl, ite2 (fun _ => ?_) (fun _ => hN _ _ ⟨_, R, [], _, [], w6, by simp, rfl⟩)⟩
        refine ⟨big 3 (by decide), fun t1 nt1 => ?_⟩
        have s1 := same_new (o := .tup [V.str "fresh", .int 0, .int 2]) nt1
        have w7 := w6.sm s1
        have g1 : Dp K (upd H6 t1 (.tup [V.str "fresh", .int 0, .int 2])) (.ref t1) (LR.fresh 0 2).d := .tup (.of upd_same) (.cons (.str _) (.cons (.int _) (.cons (.int _) .nil)))
        generalize upd H6 t1 (.tup [V.str "fresh", .int 0, .int 2]) = H7 at w7 g1 ⊢
        obtain ⟨n7, f7, ds7, up7⟩ := w7.nx
        refine ⟨_, rfl, d, n7, f7, 4, rfl, ds7, by decide, by decide, fun H8 x k8 d8 a8 b8 => ⟨_, _, rfl, rfl, big 3 (by decide), fun t2 nt2 => ⟨big 3 (by decide), fun t3 nt3 => ⟨big 3 (by decide), fun R1 nR1 => ?_⟩⟩⟩⟩
        obtain ⟨w8, x8⟩ := up7 H8 k8 d8
        have x32 : In32 (x - 1) := ⟨by omega, by omega⟩
        have s2 := same_new (o := .tup [V.str "number", .int 0, .int (x - 1)]) nt2
        have s3 := same_new (o := .tup [V.str "number", .int 1, .int 7]) nt3
        have g1' := dp_sm s3 (dp_sm s2 (x8.dp (LR.nl _) g1))
        have g2 := dp_sm s3 (show Dp K (upd H8 t2 (.tup [V.str "number", .int 0, .int (x - 1)])) (.ref t2) (LR.num 0 (x - 1)).d from .tup (.of upd_same) (.cons (.str _) (.cons (.int _) (.cons (.int _) .nil))))
        have g3 : Dp K (upd (upd H8 t2 (.tup [V.str "number", .int 0, .int (x - 1)])) t3 (.tup [V.str "number", .int 1, .int 7])) (.ref t3) (LR.num 1 7).d := .tup (.of upd_same) (.cons (.str _) (.cons (.int _) (.cons (.int _) .nil)))
        have w9 := (w8.sm s2).sm s3
        generalize upd (upd H8 t2 (.tup [V.str "number", .int 0, .int (x - 1)])) t3 (.tup [V.str "number", .int 1, .int 7]) = H9 at w9 g1' g2 g3 nR1 ⊢
        obtain ⟨fR1, oR1, neR1⟩ := w9.off nR1
        have sR := same_new (o := .lst [V.ref t1, .ref t2, .ref t3]) nR1
        have w10 := w9.sm sR
        have e10 : upd H9 R1 (.lst [V.ref t1, .ref t2, .ref t3]) R1 = some (.lst [V.ref t1, .ref t2, .ref t3]) := upd_same
        have D10 : DpAll K (upd H9 R1 (.lst [V.ref t1, .ref t2, .ref t3])) [V.ref t1, .ref t2, .ref t3] ([LR.fresh 0 2, .num 0 (x - 1), .num 1 7].map LR.d) := dpAll_kp (Kp.of_same (S := fun _ => False) sR) _ _ (lrs_nl _) (.cons g1' (.cons g2 (.cons g3 .nil)))
        generalize upd H9 R1 (.lst [V.ref t1, .ref t2, .ref t3]) = H10 at w10 e10 D10 ⊢
        generalize ([V.ref t1, .ref t2, .ref t3] : List V) = v3 at e10 D10 ⊢
        have l3 := dpAll_len D10
        have l3 : v3.length = 3 := l3
        clear w9 w8 g1 g1' g2 g3 s2 s3 nR1 sR w7 w6
        dsimp only [gName, List.set]
        refine ⟨_, rfl, .inl ⟨rfl, _, .of e10⟩, two_leN, fun ta nta => ⟨two_leN, fun tb ntb => ⟨big 3 (by decide), fun tm ntm => ?_⟩⟩⟩
        have sa := same_new (o := .tup [V.str "tray", .int 1]) nta
        have sb := same_new (o := .tup [V.str "tray", .int 0]) ntb
        have sm := same_new (o := .tup [V.str "move", .ref ta, .ref tb]) ntm
        have s11 := (sa.trans sb).trans sm
        have g4 : Dp K (upd (upd (upd H10 ta (.tup [V.str "tray", .int 1])) tb (.tup [V.str "tray", .int 0])) tm (.tup [V.str "move", .ref ta, .ref tb])) (.ref tm) (LR.tmv 1 0).d := .tup (.of upd_same) (.cons (.str _) (.cons (.tup (.of (sm _ _ (sb _ _ upd_same))) (.cons (.str _) (.cons (.int _) .nil))) (.cons (.tup (.of (sm _ _ upd_same)) (.cons (.str _) (.cons (.int _) .nil))) .nil)))
        have w11 := w10.sm s11
        have e11 := s11 _ _ e10
        have D11 := dpAll_kp (Kp.of_same (S := fun _ => False) s11) _ _ (lrs_nl _) D10
        generalize upd (upd (upd H10 ta (.tup [V.str "tray", .int 1])) tb (.tup [V.str "tray", .int 0])) tm (.tup [V.str "move", .ref ta, .ref tb]) = H11 at g4 w11 e11 D11 ⊢
        refine ⟨R1, _, _, rfl, rfl, e11, by rw [l3, sizeLine_eq]; omega, ?_⟩
        obtain ⟨w12, k12⟩ := w11.side (us := v3 ++ [.ref tm]) e11 oR1 fR1 neR1
        have D12 : DpAll K (upd H11 R1 (.lst (v3 ++ [V.ref tm]))) (v3 ++ [V.ref tm]) ([LR.fresh 0 2, .num 0 (x - 1), .num 1 7, .tmv 1 0].map LR.d) := dpAll_kp k12 _ _ (lrs_nl _) (dpAll_app D11 (.cons g4 .nil))
        have e12 : upd H11 R1 (.lst (v3 ++ [V.ref tm])) R1 = some (.lst (v3 ++ [V.ref tm])) := upd_same
        generalize upd H11 R1 (.lst (v3 ++ [V.ref tm])) = H12 at w12 D12 e12 ⊢
        have l4 : (v3 ++ [V.ref tm]).length = 4 := by rw [List.length_append, l3]; rfl
        generalize v3 ++ [V.ref tm] = v4 at D12 e12 l4 ⊢
        clear w10 w11 D10 D11 e10 e11 k12 g4 sa sb sm s11
        dsimp only []
        refine ⟨_, rfl, .inl ⟨rfl, _, .of e12⟩, big 4 (by decide), fun ta nta => ⟨big 4 (by decide), fun tb ntb => ⟨two_leN, fun M nM => ?_⟩⟩⟩
        have sa := same_new (o := .tup [V.str "put", .int 1, .int 0, .int 1]) nta
        have sb := same_new (o := .tup [V.str "put", .int 0, .int 0, .int 1]) ntb
        have sm := same_new (o := .lst [V.ref ta, .ref tb]) nM
        have s13 := (sa.trans sb).trans sm
        have ga : Dp K (upd (upd (upd H12 ta (.tup [V.str "put", .int 1, .int 0, .int 1])) tb (.tup [V.str "put", .int 0, .int 0, .int 1])) M (.lst [V.ref ta, .ref tb])) (.ref ta) (LR.put 1 0 1).d := triple_dp (sm _ _ (sb _ _ upd_same))
        have gb : Dp K (upd (upd (upd H12 ta (.tup [V.str "put", .int 1, .int 0, .int 1])) tb (.tup [V.str "put", .int 0, .int 0, .int 1])) M (.lst [V.ref ta, .ref tb])) (.ref tb) (LR.put 0 0 1).d := triple_dp (sm _ _ upd_same)
        have w13 := w12.sm s13
        have e13 := s13 _ _ e12
        have D13 := dpAll_kp (Kp.of_same (S := fun _ => False) s13) _ _ (lrs_nl _) D12
        have oM := ((w12.sm sa).sm sb).off nM
        have eM : upd (upd (upd H12 ta (.tup [V.str "put", .int 1, .int 0, .int 1])) tb (.tup [V.str "put", .int 0, .int 0, .int 1])) M (.lst [V.ref ta, .ref tb]) M = some (.lst [V.ref ta, .ref tb]) := upd_same
        generalize upd (upd (upd H12 ta (.tup [V.str "put", .int 1, .int 0, .int 1])) tb (.tup [V.str "put", .int 0, .int 0, .int 1])) M (.lst [V.ref ta, .ref tb]) = H13 at ga gb w13 e13 D13 eM ⊢
        obtain ⟨n13, f13, ds13, up13⟩ := w13.nx
        refine ⟨_, rfl, d, n13, f13, 2, rfl, ds13, by decide, by decide, fun H14 z k14 d14 a14 b14 => ?_⟩
        obtain ⟨w14, x14⟩ := up13 H14 k14 d14
        have nMd : M ≠ d := fun z => oM.2.1 (.inl z)
        have nRd : R1 ≠ d := fun z => oR1 (.inl z)
        have eM14 := k14 _ _ eM fun z => absurd z nMd
        have e14 := k14 _ _ e13 fun z => absurd z nRd
        have D14 := dpAll_kp k14 _ _ (lrs_nl _) D13
        obtain ⟨pv, aa, hz, ha2, gp⟩ : ∃ (pv : Addr) (aa : Nat), atI [V.ref ta, .ref tb] z = some (.ref pv) ∧ aa < 2 ∧ Dp K H14 (.ref pv) (LR.put aa 0 1).d := by
          have h : z = 0 ∨ z = 1 := by omega
          rcases h with rfl | rfl
          · exact ⟨ta, 1, rfl, by decide, dp_kp k14 _ _ (LR.nl _) ga⟩
          · exact ⟨tb, 0, rfl, by decide, dp_kp k14 _ _ (LR.nl _) gb⟩
        refine ⟨M, _, _, _, rfl, rfl, .inl (.of eM14), hz, R1, _, _, rfl, rfl, e14, by rw [l4, sizeLine_eq]; omega, ?_⟩
        obtain ⟨w15, k15⟩ := w14.side (us := v4 ++ [.ref pv]) e14 oR1 fR1 neR1
        have D15 : DpAll K (upd H14 R1 (.lst (v4 ++ [V.ref pv]))) (v4 ++ [V.ref pv]) ([LR.fresh 0 2, .num 0 (x - 1), .num 1 7, .tmv 1 0, .put aa 0 1].map LR.d) := dpAll_kp k15 _ _ (lrs_nl _) (dpAll_app D14 (.cons gp .nil))
        have e15 : upd H14 R1 (.lst (v4 ++ [V.ref pv])) R1 = some (.lst (v4 ++ [V.ref pv])) := upd_same
        generalize upd H14 R1 (.lst (v4 ++ [V.ref pv])) = H15 at w15 D15 e15 ⊢
        have l5 : (v4 ++ [V.ref pv]).length = 5 := by rw [List.length_append, l4]; rfl
        generalize v4 ++ [V.ref pv] = v5 at D15 e15 l5 ⊢
        clear w12 w13 w14 D12 D13 D14 e12 e13 e14 k15 gp ga gb sa sb sm s13 eM eM14 oM nMd
        dsimp only []
        refine ⟨_, rfl, big 4 (by decide), fun ta nta => ⟨two_leN, fun tb ntb => ⟨two_leN, fun M nM => ?_⟩⟩⟩
        have sa := same_new (o := .tup [V.str "get", .int 0, .int 0, .int 0]) nta
        have sb := same_new (o := .tup [V.str "tell", .int 0]) ntb
        have sm := same_new (o := .lst [V.ref ta, .ref tb]) nM
        have s16 := (sa.trans sb).trans sm
        have ga : Dp K (upd (upd (upd H15 ta (.tup [V.str "get", .int 0, .int 0, .int 0])) tb (.tup [V.str "tell", .int 0])) M (.lst [V.ref ta, .ref tb])) (.ref ta) (LR.get 0 0 0).d := triple_dp (sm _ _ (sb _ _ upd_same))
        have gb : Dp K (upd (upd (upd H15 ta (.tup [V.str "get", .int 0, .int 0, .int 0])) tb (.tup [V.str "tell", .int 0])) M (.lst [V.ref ta, .ref tb])) (.ref tb) (LR.tell 0).d := .tup (.of (sm _ _ upd_same)) (.cons (.str _) (.cons (.int _) .nil))
        have w16 := w15.sm s16
        have e16 := s16 _ _ e15
        have D16 := dpAll_kp (Kp.of_same (S := fun _ => False) s16) _ _ (lrs_nl _) D15
        have eM : upd (upd (upd H15 ta (.tup [V.str "get", .int 0, .int 0, .int 0])) tb (.tup [V.str "tell", .int 0])) M (.lst [V.ref ta, .ref tb]) M = some (.lst [V.ref ta, .ref tb]) := upd_same
        generalize upd (upd (upd H15 ta (.tup [V.str "get", .int 0, .int 0, .int 0])) tb (.tup [V.str "tell", .int 0])) M (.lst [V.ref ta, .ref tb]) = H16 at ga gb w16 e16 D16 eM ⊢
        refine ⟨R1, M, _, _, rfl, rfl, e16, eM, by rw [l5, sizeLine_eq]; show 5 + 2 ≤ 16777216; decide, fun R2 nR2 => ?_⟩
        obtain ⟨fR2, oR2, neR2⟩ := w16.off nR2
        have s17 := same_new (o := .lst (v5 ++ [V.ref ta, .ref tb])) nR2
        have w17 := w16.sm s17
        have e17 : upd H16 R2 (.lst (v5 ++ [V.ref ta, .ref tb])) R2 = some (.lst (v5 ++ [V.ref ta, .ref tb])) := upd_same
        have D17 : DpAll K (upd H16 R2 (.lst (v5 ++ [V.ref ta, .ref tb]))) (v5 ++ [V.ref ta, .ref tb]) ([LR.fresh 0 2, .num 0 (x - 1), .num 1 7, .tmv 1 0, .put aa 0 1, .get 0 0 0, .tell 0].map LR.d) := dpAll_kp (Kp.of_same (S := fun _ => False) s17) _ _ (lrs_nl _) (dpAll_app D16 (.cons ga (.cons gb .nil)))
        generalize upd H16 R2 (.lst (v5 ++ [V.ref ta, .ref tb])) = H17 at w17 e17 D17 ⊢
        generalize v5 ++ [V.ref ta, .ref tb] = v7 at D17 e17 ⊢
        clear w15 w16 D15 D16 e15 e16 ga gb sa sb sm s16 s17 eM nR2
        dsimp only [gName, List.set]
        refine ⟨two_leN, fun ta nta => ⟨two_leN, fun tb ntb => ⟨two_leN, fun M nM => ?_⟩⟩⟩
        have sa := same_new (o := .tup [V.str "box", .int 0]) nta
        have sb := same_new (o := .tup [V.str "box", .int 1]) ntb
        have sm := same_new (o := .lst [V.ref ta, .ref tb]) nM
        have s18 := (sa.trans sb).trans sm
        have ga : Dp K (upd (upd (upd H17 ta (.tup [V.str "box", .int 0])) tb (.tup [V.str "box", .int 1])) M (.lst [V.ref ta, .ref tb])) (.ref ta) (NP.b 0).d := np_dp (i := 0) (sm _ _ (sb _ _ upd_same)) rfl rfl
        have gb : Dp K (upd (upd (upd H17 ta (.tup [V.str "box", .int 0])) tb (.tup [V.str "box", .int 1])) M (.lst [V.ref ta, .ref tb])) (.ref tb) (NP.b 1).d := np_dp (i := 1) (sm _ _ upd_same) rfl rfl
        have w18 := w17.sm s18
        have e18 := s18 _ _ e17
        have D18 := dpAll_kp (Kp.of_same (S := fun _ => False) s18) _ _ (lrs_nl _) D17
        have eM : upd (upd (upd H17 ta (.tup [V.str "box", .int 0])) tb (.tup [V.str "box", .int 1])) M (.lst [V.ref ta, .ref tb]) M = some (.lst [V.ref ta, .ref tb]) := upd_same
        generalize upd (upd (upd H17 ta (.tup [V.str "box", .int 0])) tb (.tup [V.str "box", .int 1])) M (.lst [V.ref ta, .ref tb]) = H18 at ga gb w18 e18 D18 eM ⊢
        clear w17 D17 e17 sa sb sm s18
        have kb18 := w18.ps.kb
        have lm18 := w18.ps.m
        obtain ⟨ks, ek, dk⟩ := w18.ps.kl
        have lks := dpAll_len dk
        rw [List.length_map] at lks
        generalize ins.filterMap id = kn0 at w18 kb18 lm18 dk lks kn3 hN ⊢
        refine ⟨_, rfl, _, _, rfl, w18.ps.gk, _, rfl, ⟨_, .of ek⟩, fun D3 nD3 => ?_⟩
        refine lc_list (K := K) (a := D) (xs := ks) (fun i H' => Same H18 H' ∧ ∃ acc, H' D3 = some (.lst acc) ∧ DpAll K H' acc ((shl (kn0.take i)).map NP.d)) ?_ ?_ ?_ ?_
        · exact ⟨same_new nD3, [], upd_same, .nil⟩
        · rintro i H' _ ⟨s', _⟩
          exact s'.seq (.of ek)
        · rintro i y H' hy ⟨s', acc2, eD2, dA2⟩
          have hi := (List.getElem?_eq_some_iff.mp hy).1
          have hik : i < kn0.length := by omega
          obtain ⟨dx, hdx, dvx⟩ := dpAll_getV dk hy
          rw [List.getElem?_map, List.getElem?_eq_getElem hik] at hdx
          cases hdx
          have tk : kn0.take (i + 1) = kn0.take i ++ [kn0[i]] := (List.take_append_getElem hik).symm
          have lt : (shl (kn0.take i)).length ≤ i := Nat.le_trans (shl_le _) (List.length_take_le ..)
          have la := dpAll_len dA2
          rw [List.length_map] at la
          generalize kn0[i] = y0 at dvx tk
          have dv' := dp_sm s' dvx
          have dv2 := dv'
          obtain ⟨pq2, xq2, rfl, hpq2, dq2⟩ := dp_tup dv2
          obtain ⟨z0, w0, rfl, g0, u0⟩ := dpAll_cons dq2
          cases dp_str g0
          dsimp only [gName]
          refine ⟨rfl, _, rfl, pq2, _, 0, _, rfl, rfl, hpq2, atI_nat (j := 0) rfl, rfl, _, rfl, ?_⟩
          cases y0 with
          | b n =>
            refine ifN (by show ¬ V.str "box" = V.str "shelf"; intro z; exact absurd (V.str.inj z) (by decide +kernel)) ⟨s', acc2, eD2, ?_⟩
            rw [tk, shl_b]
            exact dA2
          | s n =>
            have kD : Kp (fun b => b = D3) H' (upd H' D3 (.lst (acc2 ++ [V.ref pq2]))) := Kp.upd eD2 trivial rfl
            refine ifD rfl ⟨_, rfl, _, eD2, by rw [la, sizeLine_eq]; omega, same_upd s' nD3, _, upd_same, ?_⟩
            rw [tk, shl_s, List.map_append]
            exact dpAll_app (dpAll_kp kD _ _ (nps_nl _) dA2) (.cons (dp_kp kD _ _ (NP.nl _) dv') .nil)
        · rintro H19 ⟨s19, acc2, eD3, dA3⟩
          rw [show ks.length = kn0.length from lks, List.take_length] at dA3
          have la3 := dpAll_len dA3
          rw [List.length_map] at la3
          have lsh := shl_le kn0
          refine ⟨M, D3, _, _, rfl, rfl, s19 _ _ eM, eD3, by rw [la3, sizeLine_eq]; show 2 + _ ≤ _; omega, fun K2 nK2 => ?_⟩
          have s20 := same_new (o := .lst ([V.ref ta, .ref tb] ++ acc2)) nK2
          have neK : R2 ≠ K2 := ne_of_none (s19 _ _ e18) nK2
          have w20 := (w18.sm s19).sm s20
          have oK2 := ((w18.sm s19).off nK2).2.1
          have eK : upd H19 K2 (.lst ([V.ref ta, .ref tb] ++ acc2)) K2 = some (.lst ([V.ref ta, .ref tb] ++ acc2)) := upd_same
          have DK : DpAll K (upd H19 K2 (.lst ([V.ref ta, .ref tb] ++ acc2))) ([V.ref ta, .ref tb] ++ acc2) (([NP.b 0, .b 1] ++ shl kn0).map NP.d) := dpAll_kp (Kp.of_same (S := fun _ => False) s20) _ _ (nps_nl _) (by
            rw [List.map_append]
            exact dpAll_app (.cons (dp_sm s19 ga) (.cons (dp_sm s19 gb) .nil)) dA3)
          have s18' := s19.trans s20
          have e20 := s18' _ _ e18
          have D20 := dpAll_kp (Kp.of_same (S := fun _ => False) s18') _ _ (lrs_nl _) D18
          have fK2 := ((w18.sm s19).off nK2).1
          generalize upd H19 K2 (.lst ([V.ref ta, .ref tb] ++ acc2)) = H20 at w20 eK DK e20 D20 ⊢
          generalize [V.ref ta, .ref tb] ++ acc2 = kv at eK DK
          clear w18 e18 D18 s18' s19 s20 ga gb eM
          obtain ⟨H21, hput, p21, k21⟩ := w20.ps.setK eK DK oK2 (fun p hp => by
            rcases List.mem_append.mp hp with h | h
            · rcases List.mem_cons.mp h with rfl | h
              · show 0 < nb; omega
              · rw [List.mem_singleton.mp h]; show 1 < nb; omega
            · exact kb18 p (shl_in h)) (by rw [List.length_append]; show 2 + _ ≤ 10; have := w20.ps.m; omega)
          refine ⟨_, rfl, _, _, rfl, hput, ?_⟩
          have k021 : Kp (fun b => b = d) H H21 := w20.k.trans k21
          have nRd2 : R2 ≠ d := fun z => oR2 (.inl z)
          have e21 := k21 _ _ e20 fun z => absurd z nRd2
          have D21 := dpAll_kp k21 _ _ (lrs_nl _) D20
          have o21 : ∀ b, PA.own ⟨d, K2, D2⟩ b → b = d ∨ H b = none := fun b hb => by
            rcases hb with h | h | h
            · exact .inl h
            · exact .inr (by rw [h]; exact fK2)
            · exact w20.oH b (.inr (.inr h))
          dsimp only []
          refine ⟨two_leN, fun T2 nT2 => ?_⟩
          have s22 := same_new (o := .lst [V.int 0, .int 1]) nT2
          have p22 := p21.sm s22
          have oT2 := p21.off nT2
          have fT2 : H T2 = none := PWk.free k021 p21.dd nT2
          have e22 := s22 _ _ e21
          have D22 := dpAll_kp (Kp.of_same (S := fun _ => False) s22) _ _ (lrs_nl _) D21
          have eT : upd H21 T2 (.lst [V.int 0, .int 1]) T2 = some (.lst ([0, 1].map fun t : Nat => V.int (t : Nat))) := upd_same
          have k022 : Kp (fun b => b = d) H (upd H21 T2 (.lst [V.int 0, .int 1])) := kd_lay k021 nT2
          generalize upd H21 T2 (.lst [V.int 0, .int 1]) = H22 at p22 e22 D22 eT k022 ⊢
          obtain ⟨H23, hputT, p23, k23⟩ := p22.setT eT oT2 (fun t ht => by
            rcases List.mem_cons.mp ht with rfl | ht
            · decide
            · rw [List.mem_singleton.mp ht]; decide) (by show 2 ≤ 10; decide)
          refine ⟨_, rfl, _, _, rfl, hputT, ?_⟩
          refine hN _ _ ⟨⟨d, K2, T2⟩, R2, _, _, _, ⟨k022.trans k23, rfl, fun b hb => ?_, p23, ⟨_, k23 _ _ e22 fun z => absurd z nRd2, dpAll_kp k23 _ _ (lrs_nl _) D22⟩, fun z => ?_, fR2, head7 nb2 x32 ha2⟩, Nat.le_refl 7, rfl⟩
          · rcases hb with h | h | h
            · exact .inl h
            · exact .inr (by rw [h]; exact fK2)
            · exact .inr (by rw [h]; exact fT2)
          · rcases z with h | h | h
            · exact nRd2 h
            · exact neK h
            · rw [h] at e21
              rw [nT2] at e21
              cases e21
      rintro σ' H1 ⟨A1, R1, rows, kn, tr, w1, lr, rfl⟩
      generalize hk0 : ins.filterMap id = kn0 at w1 kn3 ⊢
      obtain ⟨n1, f1, ds1, up1⟩ := w1.nx
      refine ⟨_, rfl, _, rfl, d, n1, f1, 9, rfl, ds1, by decide, by decide, fun H2 r k2 d2 a2 b2 => ⟨_, _, rfl, rfl, ?_⟩⟩
      obtain ⟨w2, x2⟩ := up1 H2 k2 d2
      obtain ⟨r, rfl⟩ := Int.eq_ofNat_of_zero_le a2
      refine ⟨_, rfl, by omega, by omega, fun D3 nD3 => ?_⟩
      refine lc_range (lo := 0) (n := (3 + ((r : Nat) : Int)).toNat) (fun i H' => ∃ acc more kn tr, RW K H d nb hd kn0 H' A1 R1 rows D3 acc more 0 kn tr (10 + 2 * i) ∧ more.length = i ∧ acc.length = i) ?_ ?_ ?_
      · exact ⟨[], [], kn, tr, w2.rw nD3, rfl, rfl⟩
      · rintro i H' hi ⟨acc, more, kn, tr, w3, lm, la⟩
        have ad := w3.ad
        refine ⟨rfl, _, rfl, A1, nb, 10 + 2 * i, kn, tr, by rw [ad]; rfl, w3.ps, by omega, fun H4 v y kn2 tr2 x4 p4 dv rs rf hk => ?_⟩
        obtain ⟨eD, w4⟩ := w3.step x4 p4 dv rs rf
        exact ⟨acc, eD, by rw [la, sizeLine_eq]; omega, _, _, kn2, tr2, w4, by rw [List.length_append, lm]; rfl, by rw [List.length_append, la]; rfl⟩
      rintro H3 ⟨acc, more, kn3', tr3, w3, lm, la⟩
      obtain ⟨vs, eR, dR⟩ := w3.rl
      have lv := dpAll_len dR
      rw [List.length_map] at lv
      refine ⟨R1, D3, _, _, rfl, rfl, eR, w3.eD, by rw [la, lv, sizeLine_eq]; omega, fun R2 nR2 => ?_⟩
      have w4 := w3.join eR dR nR2
      have l4 : (rows ++ more).length ≤ 18 := by rw [List.length_append, lm]; omega
      generalize upd H3 R2 (.lst (vs ++ acc)) = H4 at w4 ⊢
      generalize rows ++ more = rows4 at w4 l4
      replace w4 : PWk K H d nb hd kn0 H4 A1 R2 rows4 0 kn3' tr3 40 := ⟨w4.k, w4.ad, w4.oH, w4.ps.mono (by omega) (by omega), w4.rl, w4.oR, w4.nR, w4.sl⟩
      clear w3 eR dR w2 w1 x2 ds1 up1 d2 k2
      dsimp only [gName, List.set]
      have eLof : ∀ {H' : Hp}, Kp (fun b => b = d) H H' → H' L = some (.lst (hd.map fun n => V.int (n : Nat))) := fun {H'} k => k _ _ eL fun z => absurd z neL.symm
      have oLof : ∀ {A : PA}, (∀ b, A.own b → b = d ∨ H b = none) → ¬ A.own L := fun {A} o z => by
        rcases o L z with h | h
        · exact neL h.symm
        · rw [eL] at h; cases h
      refine ifs_by (fun σ' H' => ∃ A' R' rows c kn tr, PWk K H d nb hd kn0 H' A' R' rows c kn tr 60 ∧ c ≤ 1 ∧ rows.length ≤ 23 ∧ σ' = [some (.ref d), some (.ref Li), some (.ref L), some (.ref R'), none, none, none, none]) ?_ ?_
      rotate_left
      · intro N hN
        have w60 : PWk K H d nb hd kn0 H4 A1 R2 rows4 0 kn3' tr3 60 := ⟨w4.k, w4.ad, w4.oH, w4.ps.mono (by omega) (by omega), w4.rl, w4.oR, w4.nR, w4.sl⟩
        refine ⟨_, rfl, Nat.zero_le _, fun M nM => ?_⟩
        have s5 := same_new (o := .lst []) nM
        have w5 := w4.sm s5
        have w60' := w60.sm s5
        have eM : upd H4 M (.lst []) M = some (.lst []) := upd_same
        generalize upd H4 M (.lst []) = H5 at w5 w60' eM ⊢
        have eL5 := eLof w5.k
        refine ⟨L, M, _, rfl, rfl, .of eL5, .of eM, _, rfl, ite2 (fun c1 => ?_) (fun _ => hN _ _ ⟨A1, R2, rows4, 0, kn3', tr3, w60', by decide, by omega, rfl⟩)⟩
        have hne : hd ≠ [] := fun z => by
          rw [z] at c1
          exact absurd c1 (by simp)
        obtain ⟨n5, f5, ds5, up5⟩ := w5.nx
        refine ⟨_, rfl, d, n5, f5, 3, rfl, ds5, by decide, by decide, fun H6 z k6 d6 a6 b6 => ?_⟩
        obtain ⟨w6, x6⟩ := up5 H6 k6 d6
        have w66 : PWk K H d nb hd kn0 H6 A1 R2 rows4 0 kn3' tr3 60 := ⟨w6.k, w6.ad, w6.oH, w6.ps.mono (by omega) (by omega), w6.rl, w6.oR, w6.nR, w6.sl⟩
        refine ⟨_, _, rfl, rfl, _, rfl, ite2 (fun _ => ?_) (fun _ => hN _ _ ⟨A1, R2, rows4, 0, kn3', tr3, w66, by decide, by omega, rfl⟩)⟩
        have ad := w6.ad
        refine ⟨_, rfl, _, rfl, _, rfl, A1, nb, 40, kn3', tr3, L, hd, by rw [ad]; rfl, w6.ps, eLof w6.k, oLof w6.oH, hne, by omega, hL, by decide, fun H7 A7 p v kn7 x7 p7 ep nHp op hv => ?_⟩
        obtain ⟨k7, ad7, oH7⟩ := PWk.kpx w6.k w6.ad w6.oH x7
        have rl7 := w6.rl.px x7 w6.oR
        have oR7 : ¬ A7.own R2 := fun z => by
          rcases x7.o R2 z with h | h
          · exact w6.oR h
          · obtain ⟨zs, ez, _⟩ := w6.rl
            rw [ez] at h
            cases h
        obtain ⟨vs, eR, dR⟩ := rl7
        have lv := dpAll_len dR
        rw [List.length_map] at lv
        refine ⟨R2, p, _, _, rfl, rfl, eR, ep, by rw [lv, sizeLine_eq]; show _ + 1 ≤ _; omega, fun R3 nR3 => ?_⟩
        have s8 := same_new (o := .lst (vs ++ [v])) nR3
        have p8 := p7.sm s8
        have oR3 := p7.off nR3
        have fR3 : H R3 = none := PWk.free k7 (by rw [← ad7]; exact p7.dd) nR3
        have k8 := kd_lay (o := .lst (vs ++ [v])) k7 nR3
        have e8 : upd H7 R3 (.lst (vs ++ [v])) R3 = some (.lst (vs ++ [v])) := upd_same
        have dR8 := dpAll_kp (Kp.of_same (S := fun _ => False) s8) _ _ (lrs_nl _) dR
        dsimp only [gName, List.set]
        refine ifs_by (fun σ' H' => ∃ y c kn tr, PWk K H d nb hd kn0 H' A7 R3 (rows4 ++ [y]) c kn tr 43 ∧ c ≤ 1 ∧ σ' = [some (.ref d), some (.ref Li), some (.ref L), some (.ref R3), none, none, none, none]) ?_ ?_
        rotate_left
        · intro N2 hN2
          have atl : atI (vs ++ [v]) (-1) = some v := atI_last vs v
          rcases hv with ⟨rfl, dv⟩ | ⟨cc, qs, ans, dv, hcc, hqs, lta, hin⟩
          · have dv8 := dp_sm s8 dv
            have dv9 := dv8
            generalize upd H7 R3 (.lst (vs ++ [v])) = H8 at p8 k8 e8 dR8 dv8 dv9 ⊢
            obtain ⟨pv, xv, rfl, hpv, dx⟩ := dp_tup dv8
            obtain ⟨z0, w0, rfl, g0, u0⟩ := dpAll_cons dx
            cases dp_str g0
            refine ⟨_, rfl, _, rfl, R3, _, _, _, rfl, rfl, .of e8, atl, pv, _, 0, _, rfl, rfl, hpv, atI_nat (j := 0) rfl, rfl, _, rfl, ifT rfl ?_⟩
            refine ⟨_, rfl, two_leN, fun t1 nt1 => ?_⟩
            have s9 := same_new (o := .tup [V.str "box", .int 0]) nt1
            refine ⟨A7, nb, 41, _, tr3, _, .b 0, by rw [ad7]; rfl, p8.sm s9, by omega, np_dp (i := 0) upd_same rfl rfl, by show 0 < nb; omega, fun H9 kn' x9 p9 hin hk hp => ?_⟩
            have kk := PWk.kpx (k8.trans (.of_same s9)) ad7 oH7 x9
            refine hN2 _ _ ⟨.num 0 3, 0, kn', tr3, ⟨kk.1, ad7, oH7, p9.mono (by omega) (by omega), ⟨_, x9.keep (s9 _ _ e8) oR3, ?_⟩, oR3, fR3, w6.sl.snoc (r := .num 0 3) ⟨(fun p h => nomatch h), (fun p h => nomatch h), fun p hp' => (hin p hp').imp id fun (e : p = NP.b 0) => List.mem_singleton.mpr e, fun t h => .inl h, fun p hp' => (List.mem_singleton.mp hp') ▸ (by show 0 < nb; omega), ⟨by decide, by decide⟩⟩ trivial⟩, by decide, rfl⟩
            rw [List.map_append]
            exact x9.dpAll (nLs_appN (lrs_nl _) (lrs_nl [LR.num 0 3])) (dpAll_kp (Kp.of_same (S := fun _ => False) s9) _ _ (nLs_appN (lrs_nl _) (lrs_nl [LR.num 0 3])) (dpAll_app dR8 (.cons dv9 .nil)))
          · have dv8 := dp_sm s8 dv
            have dv9 := dv8
            generalize upd H7 R3 (.lst (vs ++ [v])) = H8 at p8 k8 e8 dR8 dv8 dv9 ⊢
            obtain ⟨pv, xv, rfl, hpv, dx⟩ := dp_tup dv8
            obtain ⟨z0, w0, rfl, g0, u0⟩ := dpAll_cons dx
            cases dp_str g0
            refine ⟨_, rfl, _, rfl, R3, _, _, _, rfl, rfl, .of e8, atl, pv, _, 0, _, rfl, rfl, hpv, atI_nat (j := 0) rfl, rfl, _, rfl, ifN (fun z => absurd (V.str.inj z) (by decide +kernel)) ?_⟩
            refine hN2 _ _ ⟨.call cc qs ans, 1, kn7, tr3, ⟨k8, ad7, oH7, p8.mono (by omega) (by omega), ⟨_, e8, ?_⟩, oR3, fR3, w6.sl.call hcc hqs lta hin⟩, by decide, rfl⟩
            rw [List.map_append]
            exact dpAll_app dR8 (.cons dv9 .nil)
        rintro σ9 H9 ⟨y, c9, kn9, tr9, w9, c91, rfl⟩
        generalize hr5 : rows4 ++ [y] = rows5 at w9
        have l5 : rows5.length ≤ 19 := by rw [← hr5, List.length_append]; show _ + 1 ≤ 19; omega
        obtain ⟨n9', f9, ds9, up9⟩ := w9.nx
        refine ⟨_, rfl, _, rfl, d, n9', f9, 5, rfl, ds9, by decide, by decide, fun HA r5 kA dA0 aA bA => ?_⟩
        obtain ⟨wA, xA⟩ := up9 HA kA dA0
        obtain ⟨r5, rfl⟩ := Int.eq_ofNat_of_zero_le aA
        refine ⟨_, rfl, by omega, by omega, fun D4 nD4 => ?_⟩
        refine lc_range (lo := 0) (n := ((r5 : Nat) : Int).toNat) (fun i H' => ∃ acc more kn tr, RW K H d nb hd kn0 H' A7 R3 rows5 D4 acc more c9 kn tr (43 + 2 * i) ∧ more.length = i ∧ acc.length = i) ?_ ?_ ?_
        · exact ⟨[], [], kn9, tr9, wA.rw nD4, rfl, rfl⟩
        · rintro i H' hi ⟨acc, more, kn, tr, w3, lm, la⟩
          have ad' := w3.ad
          refine ⟨rfl, _, rfl, A7, nb, 43 + 2 * i, kn, tr, by rw [ad']; rfl, w3.ps, by omega, fun H4 v y kn2 tr2 x4 p4 dv rs rf hk => ?_⟩
          obtain ⟨eD, w4'⟩ := w3.step x4 p4 dv rs rf
          exact ⟨acc, eD, by rw [la, sizeLine_eq]; omega, _, _, kn2, tr2, w4', by rw [List.length_append, lm]; rfl, by rw [List.length_append, la]; rfl⟩
        rintro HB ⟨acc, more, knB, trB, wB, lm, la⟩
        obtain ⟨vB, eRB, dRB⟩ := wB.rl
        have lvB := dpAll_len dRB
        rw [List.length_map] at lvB
        refine ⟨R3, D4, _, _, rfl, rfl, eRB, wB.eD, by rw [la, lvB, sizeLine_eq]; omega, fun RC nRC => ?_⟩
        have wC := wB.join eRB dRB nRC
        exact hN _ _ ⟨A7, RC, rows5 ++ more, c9, knB, trB, ⟨wC.k, wC.ad, wC.oH, wC.ps.mono (by omega) (by omega), wC.rl, wC.oR, wC.nR, wC.sl⟩, c91, by rw [List.length_append, lm]; omega, rfl⟩
      rintro σ6 H6 ⟨A6, R6, rows6, c6, kn6, tr6, w6, c61, l6, rfl⟩
      clear w4 eLof oLof
      obtain ⟨n7, f7, ds7, up7⟩ := w6.nx
      refine ⟨_, rfl, d, n7, f7, 2, rfl, ds7, by decide, by decide, fun H7 r2 k7 d7 a7 b7 => ⟨_, _, rfl, rfl, .inl ⟨by decide, by decide⟩, _, _, rfl, rfl, ?_⟩⟩
      obtain ⟨w7, x7⟩ := up7 H7 k7 d7
      obtain ⟨t, ht, ht2⟩ : ∃ t : Int, 1 - 2 * r2 = t ∧ (t = 1 ∨ t = -1) := ⟨_, rfl, by omega⟩
      show gName 4 (V.int (1 - 2 * r2)) _ _ _
      rw [ht]
      dsimp only [gName, List.set]
      obtain ⟨n8', f8, ds8, up8⟩ := w7.nx
      refine ⟨_, rfl, _, rfl, _, rfl, d, n8', f8, 5, rfl, ds8, by decide, by decide, fun H8 cc k8 d8 a8 b8 => ⟨_, _, rfl, rfl, .inl ⟨by omega, by omega⟩, big 3 (by decide), fun ta nta => ⟨_, rfl, big 3 (by decide), fun tb ntb => ⟨two_leN, fun M nM => ?_⟩⟩⟩⟩
      obtain ⟨w8, x8⟩ := up8 H8 k8 d8
      obtain ⟨cc, rfl⟩ := Int.eq_ofNat_of_zero_le a8
      have sa := same_new (o := .tup [V.str "number", .int 0, .int (t * ((cc : Nat) : Int))]) nta
      have sb := same_new (o := .tup [V.str "number", .int 1, .int t]) ntb
      have sm := same_new (o := .lst [V.ref ta, .ref tb]) nM
      have s9 := (sa.trans sb).trans sm
      have ga : Dp K (upd (upd (upd H8 ta (.tup [V.str "number", .int 0, .int (t * ((cc : Nat) : Int))])) tb (.tup [V.str "number", .int 1, .int t])) M (.lst [V.ref ta, .ref tb])) (.ref ta) (LR.num 0 (t * (cc : Nat))).d := .tup (.of (sm _ _ (sb _ _ upd_same))) (.cons (.str _) (.cons (.int _) (.cons (.int _) .nil)))
      have gb : Dp K (upd (upd (upd H8 ta (.tup [V.str "number", .int 0, .int (t * ((cc : Nat) : Int))])) tb (.tup [V.str "number", .int 1, .int t])) M (.lst [V.ref ta, .ref tb])) (.ref tb) (LR.num 1 t).d := .tup (.of (sm _ _ upd_same)) (.cons (.str _) (.cons (.int _) (.cons (.int _) .nil)))
      have w9 := w8.sm s9
      have eM : upd (upd (upd H8 ta (.tup [V.str "number", .int 0, .int (t * ((cc : Nat) : Int))])) tb (.tup [V.str "number", .int 1, .int t])) M (.lst [V.ref ta, .ref tb]) M = some (.lst [V.ref ta, .ref tb]) := upd_same
      generalize upd (upd (upd H8 ta (.tup [V.str "number", .int 0, .int (t * ((cc : Nat) : Int))])) tb (.tup [V.str "number", .int 1, .int t])) M (.lst [V.ref ta, .ref tb]) = H9 at ga gb w9 eM ⊢
      clear w8 w7 w6 sa sb sm s9 x8 x7
      obtain ⟨vs, eR, dR⟩ := w9.rl
      have lv := dpAll_len dR
      rw [List.length_map] at lv
      refine ⟨R6, M, _, _, rfl, rfl, eR, eM, by rw [lv, sizeLine_eq]; show _ + 2 ≤ _; omega, fun R7 nR7 => ?_⟩
      have s10 := same_new (o := .lst (vs ++ [V.ref ta, .ref tb])) nR7
      have oR7 := w9.off nR7
      have w10 := w9.sm s10
      have e10 : upd H9 R7 (.lst (vs ++ [V.ref ta, .ref tb])) R7 = some (.lst (vs ++ [V.ref ta, .ref tb])) := upd_same
      have d10 : DpAll K (upd H9 R7 (.lst (vs ++ [V.ref ta, .ref tb]))) (vs ++ [V.ref ta, .ref tb]) ((rows6 ++ [LR.num 0 (t * (cc : Nat)), LR.num 1 t]).map LR.d) := by
        rw [List.map_append]
        exact dpAll_kp (Kp.of_same (S := fun _ => False) s10) _ _ (nLs_appN (lrs_nl _) (lrs_nl [LR.num 0 (t * (cc : Nat)), LR.num 1 t])) (dpAll_app dR (.cons ga (.cons gb .nil)))
      generalize upd H9 R7 (.lst (vs ++ [V.ref ta, .ref tb])) = H10 at w10 e10 d10 ⊢
      generalize hv7 : vs ++ [V.ref ta, .ref tb] = v7 at e10 d10
      have l7 : v7.length = rows6.length + 2 := by rw [← hv7, List.length_append, lv]; rfl
      dsimp only [gName, List.set]
      refine ⟨_, rfl, two_leN, fun t1 nt1 => ?_⟩
      have s11 := same_new (o := .tup [V.str "box", .int 0]) nt1
      have ad6 := w10.ad
      refine ⟨A6, nb, 60, kn6, tr6, _, .b 0, by rw [ad6]; rfl, w10.ps.sm s11, by decide, np_dp (i := 0) upd_same rfl rfl, by show 0 < nb; omega, fun H12 kn' x12 p12 hin hk hp => ?_⟩
      have kk := PWk.kpx (w10.k.trans (.of_same s11)) ad6 w10.oH x12
      have oR12 : ¬ A6.own R7 := oR7.2.1
      have e12 := x12.keep (s11 _ _ e10) oR12
      have d12 := x12.dpAll (lrs_nl _) (dpAll_kp (Kp.of_same (S := fun _ => False) s11) _ _ (lrs_nl _) d10)
      refine ⟨_, rfl, R7, _, rfl, .inl (.of e12), ?_⟩
      rw [l7]
      dsimp only [gName, List.set]
      have sl6 := w10.sl
      have w10o := w10.oH
      clear w9 w10 ga gb eM dR eR d10 e10
      have r12 : RL K H12 R7 (rows6 ++ [LR.num 0 (t * (cc : Nat)), LR.num 1 t]) := ⟨v7, e12, d12⟩
      refine st_asg (ml_lst (K := K) (H0 := H12) (ds := (bodyA (rows6.length + 2)).map LR.d) ?_ (Same.refl _) (fun H13 B vb s13 nB eB dB => ?_) (by simp [bodyA]))
      · exact mds_cons (md_tup (mds_cons md_str (mds_cons md_int mds_nil))) (mds_cons (md_tup (mds_cons md_str (mds_cons (md_tup (mds_cons md_str (mds_cons md_int mds_nil))) (mds_cons (md_tup (mds_cons md_str (mds_cons md_int mds_nil))) mds_nil)))) (mds_cons (md_tup (mds_cons md_str (mds_cons md_int (mds_cons md_int (mds_cons md_int mds_nil))))) (mds_cons (md_tup (mds_cons md_str (mds_cons (md_var rfl (.int _)) mds_nil))) mds_nil)))
      dsimp only [gName, List.set]
      have k13 : Kp (fun b => b = d) H H13 := kk.1.trans (.of_same s13)
      have p13 := p12.sm s13
      have r13 := r12.sm s13
      have nR7 : R7 ≠ d := fun z => oR12 (.inl (z.trans ad6.symm))
      have nB7 : B ≠ d := fun z => by
        have := p12.off nB
        exact this (.inl (z.trans ad6.symm))
      refine ifs_by (fun σ' H' => ∃ B' bd, Kp (fun b => b = d) H H' ∧ PS K H' A6 nb kn' tr6 61 ∧ RL K H' R7 (rows6 ++ [LR.num 0 (t * (cc : Nat)), LR.num 1 t]) ∧ RL K H' B' bd ∧ B' ≠ d ∧ (bd = bodyA (rows6.length + 2) ∨ ∃ b, (NP.b b ∈ kn6 ∨ b = 0) ∧ bd = bodyB (rows6.length + 2) b) ∧ σ' = [some (.ref d), some (.ref Li), some (.ref L), some (.ref R7), some (.int t), some (.int ((rows6.length + 2 : Nat) : Int)), some (.ref B'), none]) ?_ ?_
      rotate_left
      · intro N hN
        obtain ⟨nE, fE, dsE, upE⟩ := p13.nx
        rw [ad6] at dsE upE
        refine ⟨_, rfl, d, nE, fE, 2, rfl, dsE, by decide, by decide, fun H14 z k14 d14 a14 b14 => ?_⟩
        obtain ⟨p14, x14⟩ := upE H14 k14 d14
        have k014 := k13.trans k14
        have rl14 : RL K H14 R7 (rows6 ++ [LR.num 0 (t * (cc : Nat)), LR.num 1 t]) := by
          obtain ⟨zs, ez, dz⟩ := r13
          exact ⟨zs, k14 _ _ ez fun z => absurd z nR7, dpAll_kp k14 _ _ (lrs_nl _) dz⟩
        have eB14 := k14 _ _ eB fun z => absurd z nB7
        have dB14 := dpAll_kp k14 _ _ (lrs_nl _) dB
        refine ⟨rfl, _, rfl, ite2 (fun _ => ?_) (fun _ => hN _ _ ⟨B, _, k014, p14, rl14, ⟨vb, eB14, dB14⟩, nB7, .inl rfl, rfl⟩)⟩
        refine ⟨_, rfl, 1, rfl, B, vb, rfl, .of eB14, fun q1 nq1 => ?_⟩
        rw [show cutV vb none (some 1) = vb.take 1 from cutV_to vb 1]
        have s15 := same_new (o := .lst (vb.take 1)) nq1
        have p15 := p14.sm s15
        have oq1 := p14.off nq1
        refine ⟨_, rfl, A6, nb, 61, kn', tr6, by rw [ad6]; rfl, p15, fun H16 bx x16 p16 hbx => ⟨_, rfl, _, _, rfl, rfl, _, rfl, _, _, rfl, rfl, big 4 (by decide), fun t4 nt4 => ⟨two_leN, fun t5 nt5 => ⟨two_leN, fun M2 nM2 => ?_⟩⟩⟩⟩
        obtain ⟨b, rfl, hb⟩ : ∃ n : Nat, bx = n ∧ (NP.b n ∈ kn6 ∨ n = 0) := by
          rcases hbx with ⟨e, _⟩ | ⟨n, e, hn⟩
          · have := bxs_in.mpr hp
            rw [e] at this
            exact nomatch this
          · refine ⟨n, e, (hin _ hn).imp id fun e => ?_⟩
            injection e
        have s4 := same_new (o := .tup [V.str "choose", .int ((b : Nat) : Int), .int ((rows6.length + 2 : Nat) + 3), .int ((rows6.length + 2 : Nat) + 4)]) nt4
        have s5 := same_new (o := .tup [V.str "tell", .int 1]) nt5
        have s6 := same_new (o := .lst [V.ref t4, .ref t5]) nM2
        have s7 := (s4.trans s5).trans s6
        have q16 := x16.keep (show upd H14 q1 (.lst (vb.take 1)) q1 = some (.lst (vb.take 1)) from upd_same) oq1
        have oB : ¬ A6.own B := p12.off nB
        have oR7' := oR12
        have eB16 := x16.keep (s15 _ _ eB14) oB
        have dB16 := x16.dpAll (lrs_nl _) (dpAll_kp (Kp.of_same (S := fun _ => False) s15) _ _ (lrs_nl _) dB14)
        have rl16 := (rl14.sm s15).px x16 oR12
        have k016 : Kp (fun b => b = d) H H16 := (PWk.kpx (k014.trans (.of_same s15)) ad6 w10o x16).1
        have q17 := s7 _ _ q16
        have eB17 := s7 _ _ eB16
        have dB17 := dpAll_kp (Kp.of_same (S := fun _ => False) s7) _ _ (lrs_nl _) dB16
        have rl17 := rl16.sm s7
        have p17 := p16.sm s7
        have k017 := k016.trans (.of_same s7)
        have g4 : Dp K (upd (upd (upd H16 t4 (.tup [V.str "choose", .int ((b : Nat) : Int), .int ((rows6.length + 2 : Nat) + 3), .int ((rows6.length + 2 : Nat) + 4)])) t5 (.tup [V.str "tell", .int 1])) M2 (.lst [V.ref t4, .ref t5])) (.ref t4) (LR.cho b (rows6.length + 2 + 3) (rows6.length + 2 + 4)).d := .tup (.of (s6 _ _ (s5 _ _ upd_same))) (.cons (.str _) (.cons (.int _) (.cons (.int _) (.cons (.int _) .nil))))
        have g5 : Dp K (upd (upd (upd H16 t4 (.tup [V.str "choose", .int ((b : Nat) : Int), .int ((rows6.length + 2 : Nat) + 3), .int ((rows6.length + 2 : Nat) + 4)])) t5 (.tup [V.str "tell", .int 1])) M2 (.lst [V.ref t4, .ref t5])) (.ref t5) (LR.tell 1).d := .tup (.of (s6 _ _ upd_same)) (.cons (.str _) (.cons (.int _) .nil))
        have eM2 : upd (upd (upd H16 t4 (.tup [V.str "choose", .int ((b : Nat) : Int), .int ((rows6.length + 2 : Nat) + 3), .int ((rows6.length + 2 : Nat) + 4)])) t5 (.tup [V.str "tell", .int 1])) M2 (.lst [V.ref t4, .ref t5]) M2 = some (.lst [V.ref t4, .ref t5]) := upd_same
        show rCat (V.ref q1) (V.ref M2) (upd (upd (upd H16 t4 (.tup [V.str "choose", .int ((b : Nat) : Int), .int ((rows6.length + 2 : Nat) + 3), .int ((rows6.length + 2 : Nat) + 4)])) t5 (.tup [V.str "tell", .int 1])) M2 (.lst [V.ref t4, .ref t5])) _
        generalize upd (upd (upd H16 t4 (.tup [V.str "choose", .int ((b : Nat) : Int), .int ((rows6.length + 2 : Nat) + 3), .int ((rows6.length + 2 : Nat) + 4)])) t5 (.tup [V.str "tell", .int 1])) M2 (.lst [V.ref t4, .ref t5]) = H17 at q17 eB17 dB17 rl17 p17 k017 g4 g5 eM2 ⊢
        have lvb := dpAll_len dB17
        have lvb : vb.length = 4 := lvb
        refine ⟨q1, M2, _, _, rfl, rfl, q17, eM2, by rw [List.length_take, lvb, sizeLine_eq]; show 1 + 2 ≤ 16777216; decide, fun q2 nq2 => ?_⟩
        obtain ⟨v1, u1, rfl, g1', h1'⟩ := dpAll_cons dB17
        have sq2 := same_new (o := .lst ((v1 :: u1).take 1 ++ [V.ref t4, .ref t5])) nq2
        refine ⟨_, rfl, 1, rfl, B, _, rfl, .of (sq2 _ _ eB17), fun q3 nq3 => ?_⟩
        rw [show cutV (v1 :: u1) (some 1) none = (v1 :: u1).drop 1 from cutV_from (v1 :: u1) 1]
        have sq3 := same_new (o := .lst ((v1 :: u1).drop 1)) nq3
        refine ⟨q2, q3, _, _, rfl, rfl, sq3 _ _ upd_same, upd_same, by rw [sizeLine_eq]; show (1 + 2) + u1.length ≤ 16777216; have : u1.length = 3 := Nat.succ.inj lvb; omega, fun q4 nq4 => ?_⟩
        have sq4 := same_new (o := .lst ((v1 :: u1).take 1 ++ [V.ref t4, .ref t5] ++ (v1 :: u1).drop 1)) nq4
        have s20 := (sq2.trans sq3).trans sq4
        have fq4 : q4 ≠ d := fun z => (((p17.sm sq2).sm sq3).off nq4) (.inl (z.trans ad6.symm))
        refine hN _ _ ⟨q4, bodyB (rows6.length + 2) b, k017.trans (.of_same s20), p17.sm s20, rl17.sm s20, ⟨_, upd_same, dpAll_kp (Kp.of_same (S := fun _ => False) s20) _ _ (lrs_nl _) ?_⟩, fq4, .inr ⟨b, hb, rfl⟩, rfl⟩
        exact .cons g1' (.cons g4 (.cons g5 h1'))
      rintro σ9 H15 ⟨B', bd, k15, p15, r15, rb15, nB', hbd, rfl⟩
      obtain ⟨vs15, eR15, dR15⟩ := r15
      obtain ⟨vb15, eB15, dB15⟩ := rb15
      have lr15 := dpAll_len dR15
      have lb15 := dpAll_len dB15
      rw [List.length_map] at lr15 lb15
      refine ⟨_, rfl, _, rfl, _, _, rfl, rfl, _, rfl, _, _, rfl, rfl, _, rfl, B', _, rfl, .inl (.of eB15), _, _, rfl, rfl, big 4 (by decide), fun t1 nt1 => ⟨big 1 (by decide), fun M nM => ?_⟩⟩
      have sa1 := same_new (o := .tup [V.str "choose", .int 0, .int ((rows6.length + 2 : Nat) + 1), .int ((rows6.length + 2 : Nat) + 1 + (vb15.length : Nat))]) nt1
      have sa2 := same_new (o := .lst [V.ref t1]) nM
      have sa := sa1.trans sa2
      have gc : Dp K (upd (upd H15 t1 (.tup [V.str "choose", .int 0, .int ((rows6.length + 2 : Nat) + 1), .int ((rows6.length + 2 : Nat) + 1 + (vb15.length : Nat))])) M (.lst [V.ref t1])) (.ref t1) (LR.cho 0 (rows6.length + 3) (rows6.length + 3 + bd.length)).d := by
        have e1 : (((rows6.length + 2 : Nat) : Int) + 1) = ((rows6.length + 3 : Nat) : Int) := by omega
        have e2 : (((rows6.length + 2 : Nat) : Int) + 1 + (vb15.length : Nat)) = ((rows6.length + 3 + bd.length : Nat) : Int) := by omega
        exact .tup (.of (sa2 _ _ upd_same)) (.cons (.str _) (.cons (.int _) (.cons (dpIE e1) (.cons (dpIE e2) .nil))))
      have eM15 : upd (upd H15 t1 (.tup [V.str "choose", .int 0, .int ((rows6.length + 2 : Nat) + 1), .int ((rows6.length + 2 : Nat) + 1 + (vb15.length : Nat))])) M (.lst [V.ref t1]) M = some (.lst [V.ref t1]) := upd_same
      have eRa := sa _ _ eR15
      have eBa := sa _ _ eB15
      have dRa := dpAll_kp (Kp.of_same (S := fun _ => False) sa) _ _ (lrs_nl _) dR15
      have dBa := dpAll_kp (Kp.of_same (S := fun _ => False) sa) _ _ (lrs_nl _) dB15
      have pa := p15.sm sa
      have ka := k15.trans (.of_same sa)
      show rCat (V.ref R7) (V.ref M) (upd (upd H15 t1 (.tup [V.str "choose", .int 0, .int ((rows6.length + 2 : Nat) + 1), .int ((rows6.length + 2 : Nat) + 1 + (vb15.length : Nat))])) M (.lst [V.ref t1])) _
      generalize upd (upd H15 t1 (.tup [V.str "choose", .int 0, .int ((rows6.length + 2 : Nat) + 1), .int ((rows6.length + 2 : Nat) + 1 + (vb15.length : Nat))])) M (.lst [V.ref t1]) = HA at gc eM15 eRa eBa dRa dBa pa ka ⊢
      have lbd : bd.length ≤ 6 := by
        rcases hbd with rfl | ⟨b, _, rfl⟩
        · show 4 ≤ 6; decide
        · show 6 ≤ 6; decide
      have lrr : (rows6 ++ [LR.num 0 (t * (cc : Nat)), LR.num 1 t]).length = rows6.length + 2 := by rw [List.length_append]; rfl
      refine ⟨R7, M, _, _, rfl, rfl, eRa, eM15, by rw [lr15, lrr, sizeLine_eq]; show _ + 1 ≤ _; omega, fun p1 np1 => ?_⟩
      have sp1 := same_new (o := .lst (vs15 ++ [V.ref t1])) np1
      refine ⟨_, rfl, p1, B', _, _, rfl, rfl, upd_same, sp1 _ _ eBa, by rw [List.length_append, lr15, lrr, lb15, sizeLine_eq]; show _ + 1 + _ ≤ _; omega, fun p2 np2 => ?_⟩
      have sp2 := same_new (o := .lst (vs15 ++ [V.ref t1] ++ vb15)) np2
      have s30 := sp1.trans sp2
      have r30 : RL K (upd (upd HA p1 (.lst (vs15 ++ [V.ref t1]))) p2 (.lst (vs15 ++ [V.ref t1] ++ vb15))) p2 (rows6 ++ [LR.num 0 (t * (cc : Nat)), LR.num 1 t] ++ [LR.cho 0 (rows6.length + 3) (rows6.length + 3 + bd.length)] ++ bd) := by
        refine ⟨_, upd_same, dpAll_kp (Kp.of_same (S := fun _ => False) s30) _ _ (lrs_nl _) ?_⟩
        rw [List.map_append, List.map_append]
        exact dpAll_app (dpAll_app dRa (.cons gc .nil)) dBa
      have p30 := pa.sm s30
      have k30 := ka.trans (.of_same s30)
      generalize upd (upd HA p1 (.lst (vs15 ++ [V.ref t1]))) p2 (.lst (vs15 ++ [V.ref t1] ++ vb15)) = H30 at r30 p30 k30 ⊢
      dsimp only [gName, List.set]
      obtain ⟨v30, e30, d30⟩ := r30
      refine ⟨_, rfl, two_leN, fun ta nta => ?_⟩
      have q1 := same_new (o := .tup [V.str "give", .int 0]) nta
      have p31 := p30.sm q1
      obtain ⟨nF, fF, dsF, upF⟩ := p31.nx
      rw [ad6] at dsF upF
      refine ⟨_, rfl, d, nF, fF, 100, rfl, dsF, by decide, by decide, fun H32 kx k32 d32 a32 b32 => ⟨two_leN, fun tb ntb => ⟨two_leN, fun tc ntc => ⟨big 3 (by decide), fun M3 nM3 => ?_⟩⟩⟩⟩
      obtain ⟨p32, x32'⟩ := upF H32 k32 d32
      obtain ⟨kx, rfl⟩ := Int.eq_ofNat_of_zero_le a32
      have q2 := same_new (o := .tup [V.str "fail", .int ((kx : Nat) : Int)]) ntb
      have q3 := same_new (o := .tup [V.str "give", .int 1]) ntc
      have q4 := same_new (o := .lst [V.ref ta, .ref tb, .ref tc]) nM3
      have p33 := ((p32.sm q2).sm q3).sm q4
      obtain ⟨nG, fG, dsG, upG⟩ := p33.nx
      rw [ad6] at dsG upG
      refine ⟨_, rfl, d, nG, fG, 3, rfl, dsG, by decide, by decide, fun H34 z k34 d34 a34 b34 => ?_⟩
      obtain ⟨p34, x34⟩ := upG H34 k34 d34
      have oM3 := ((p32.sm q2).sm q3).off nM3
      have eM3 := x34.keep (show upd _ M3 (.lst [V.ref ta, .ref tb, .ref tc]) M3 = _ from upd_same) oM3
      obtain ⟨pe, en, hz, hen, ge⟩ : ∃ (pe : Addr) (en : LR), atI [V.ref ta, .ref tb, .ref tc] z = some (.ref pe) ∧ (en = .give 0 ∨ en = .give 1 ∨ ∃ k, k < 100 ∧ en = .fail k) ∧ Dp K H34 (.ref pe) en.d := by
        have ga0 : Dp K H34 (.ref ta) (LR.give 0).d := x34.dp (LR.nl _) (dp_sm q4 (dp_sm q3 (dp_sm q2 (x32'.dp (LR.nl _) (show Dp K _ (.ref ta) (LR.give 0).d from .tup (.of (show upd H30 ta (.tup [V.str "give", .int 0]) ta = _ from upd_same)) (.cons (.str _) (.cons (.int _) .nil)))))))
        have gb0 : Dp K H34 (.ref tb) (LR.fail kx).d := x34.dp (LR.nl _) (dp_sm q4 (dp_sm q3 (show Dp K _ (.ref tb) (LR.fail kx).d from .tup (.of (show upd H32 tb (.tup [V.str "fail", .int ((kx : Nat) : Int)]) tb = _ from upd_same)) (.cons (.str _) (.cons (.int _) .nil)))))
        have gc0 : Dp K H34 (.ref tc) (LR.give 1).d := x34.dp (LR.nl _) (dp_sm q4 (show Dp K _ (.ref tc) (LR.give 1).d from .tup (.of (show upd _ tc (.tup [V.str "give", .int 1]) tc = _ from upd_same)) (.cons (.str _) (.cons (.int _) .nil))))
        have h : z = 0 ∨ z = 1 ∨ z = 2 := by omega
        rcases h with rfl | rfl | rfl
        · exact ⟨ta, _, rfl, .inl rfl, ga0⟩
        · exact ⟨tb, _, rfl, .inr (.inr ⟨kx, by omega, rfl⟩), gb0⟩
        · exact ⟨tc, _, rfl, .inr (.inl rfl), gc0⟩
      refine ⟨M3, _, _, _, rfl, rfl, .inl (.of eM3), hz, big 1 (by decide), fun M4 nM4 => ?_⟩
      have np2d : p2 ≠ d := fun z => (PS.off (pa.sm sp1) np2) (.inl (z.trans ad6.symm))
      have k34a : Kp (fun b => b = d) H30 H34 := ((((Kp.of_same q1).trans k32).trans (.of_same q2)).trans (.of_same q3)).trans ((Kp.of_same q4).trans k34)
      have e34 := k34a _ _ e30 fun z => absurd z np2d
      have d34' := dpAll_kp k34a _ _ (lrs_nl _) d30
      have l30 := dpAll_len d34'
      rw [List.length_map] at l30
      have sM4 := same_new (o := .lst [V.ref pe]) nM4
      refine ⟨p2, M4, _, _, rfl, rfl, sM4 _ _ e34, upd_same, by rw [l30, sizeLine_eq]; simp only [List.length_append, List.length_cons, List.length_nil]; omega, fun p5 np5 => ?_⟩
      have sp5 := same_new (o := .lst ((v30 ++ [V.ref pe]))) np5
      refine ⟨_, _, rfl, .inl ⟨.of upd_same, fun pt npt => ?_⟩⟩
      have sF := (sM4.trans sp5).trans (same_new (o := .tup (v30 ++ [V.ref pe])) npt)
      obtain ⟨nz, fz, dsz, ez1, ez2, ez3⟩ := p34.ds
      rw [ad6] at dsz
      have cc4 : cc ≤ 4 := by omega
      refine q _ _ (rows6 ++ [LR.num 0 (t * (cc : Nat)), LR.num 1 t] ++ [LR.cho 0 (rows6.length + 3) (rows6.length + 3 + bd.length)] ++ bd ++ [en]) fz nz (k30.trans (k34a.trans (.of_same sF))) (dsz.sm sF) ez1 ⟨_, ez2⟩ ⟨_, ez3⟩ (.tup (.of upd_same) ?_) ⟨rows6, bd, c6, kn6, tr6, t, cc, en, by simp [List.append_assoc], by rw [hk0]; exact sl6, c61, by omega, ht2, cc4, hbd, hen⟩
      refine dpAll_kp (Kp.of_same (S := fun _ => False) sF) _ _ (lrs_nl _) ?_
      rw [List.map_append]
      exact dpAll_app d34' (.cons ge .nil)
end

/-! last rows drawn -/
structure LDr (nb : Nat) (L : List LP) : Prop where
  p : ∀ (i : Nat) (q : LP), L[i]? = some q → PDr nb ((L.take i).map fun q => q.ins.length) q.ins q.rows ∧ q.ins.length ≤ 3 ∧ (∀ o ∈ q.ins, ∀ p, o = some p → p.lt nb) ∧ q.many = 3
  l : L.length ≤ 3
theorem LDr.nil {nb : Nat} : LDr nb [] := ⟨fun i q h => by simp at h, by decide⟩
theorem LDr.snoc {nb : Nat} {L : List LP} {q : LP} (h : LDr nb L) (a : PDr nb (L.map fun q => q.ins.length) q.ins q.rows) (b : q.ins.length ≤ 3) (c : ∀ o ∈ q.ins, ∀ p, o = some p → p.lt nb) (d : q.many = 3) (l : L.length < 3) : LDr nb (L ++ [q]) := by
  refine ⟨fun i x hx => ?_, by rw [List.length_append]; exact l⟩
  by_cases e : i < L.length
  · rw [List.getElem?_append_left e] at hx
    rw [List.take_append_of_le_length (by omega)]
    exact h.p i x hx
  · have e2 : i = L.length := by
      have := (List.getElem?_eq_some_iff.mp hx).1
      rw [List.length_append, List.length_singleton] at this
      omega
    subst e2
    rw [List.getElem?_append_right (Nat.le_refl _), Nat.sub_self] at hx
    cases hx
    rw [List.take_left]
    exact ⟨a, b, c, d⟩
theorem atI_lst {xs : List V} {x : V} : atI (xs ++ [x]) (-1) = some x := by
  have e : ixN (xs ++ [x]).length (-1) = some xs.length := by
    unfold ixN
    rw [if_neg (by decide), if_pos (by rw [List.length_append, List.length_singleton]; omega), List.length_append, List.length_singleton]
    congr 1
    omega
  unfold atI
  rw [e]
  simp
section
variable {P : Program} {w : World} {K : PySem.W.Frag} {mg : Str → Option Value} {base : Heap}
theorem same_kd {H H1 H2 : Hp} {d : Addr} (s : Same H H1) (k : Kp (fun b => b = d) H1 H2) (n : H d = none) : Same H H2 := fun b o e => k b o (s b o e) fun z => by
  rw [z, n] at e
  cases e
theorem nLs_map {α : Type} {f : α → PyData} (h : ∀ x, nLd (f x) = true) {l : List α} : nLs (l.map f) = true := noLs_all fun x hx => by
  obtain ⟨q, _, rfl⟩ := List.mem_map.mp hx
  exact h q
/-- the drawer's dict, as it begins -/
theorem WS.dsv {H : Hp} {A : WA} {s : DSt} {n : Nat} (h : WS K H A s n) (t : A.t = []) : ∃ f, DSv H A.d 8 f := by
  obtain ⟨g, dr, g0, e⟩ := h.dk
  rw [t] at e
  refine ⟨fun k => valV (dkv dr s.many s.step s.shift A.lb s.at_ A.ls g []) (.inr k), ⟨_, g, dr, g0, e, Nat.le_refl _, fun k => ?_⟩, by decide⟩
  by_cases c1 : k = "digits"
  · rw [if_pos c1, c1, dkv_digits]
  · rw [if_neg c1]
    by_cases c2 : k = "draw"
    · rw [if_pos c2, c2, dkv_draw]
    · rw [if_neg c2]
def lastD (L : List LP) (nb m : Nat) : PyData := .tuple [.tuple (L.map LP.d), nD nb, nD m]
def sp_lastby (K : PySem.W.Frag) : Sp := fun vs H Q _ => ∃ c k : Int, vs = [.int c, .int k] ∧ ∀ H' v L nb q, Same H H' → Dp K H' v (lastD (L ++ [q]) nb q.ins.length) → LDr nb (L ++ [q]) → 2 ≤ nb → nb ≤ 5 → Q v H'
def some6 : List (Option NP) := [some (.b 0), some (.s 1), none, some (.b 1), some (.s 0), some (.s 2)]
theorem ok__law_last_by (T : Top K mg) : FnOk P w K mg base CX0 6 (He.ga K "_law_last_by") T.fd__law_last_by ["_law_cell", "_law_k"] (sp_lastby K) := by
  have G__law_state := ok__law_state (P := P) (w := w) (base := base) T
  have G__law_next := ok__law_nextD (P := P) (w := w) (base := base) T
  have G__law_part_by := ok__law_part_by (P := P) (w := w) (base := base) T
  refine T.F__law_last_by.ok sc__law_last_by (fun vs H Q E h => ?_) (fun cdv A0 outer s0 H vs Q E hr h => ?_)
  · obtain ⟨c, k, rfl, _⟩ := h
    rfl
  · obtain ⟨c, k, rfl, q⟩ := h
    refine ⟨_, PSs.nox (pss_cons (ps_set (i := 2) sc__law_last_by.nd rfl (Or.inl rfl) (pe_call G__law_state (hr.mono (by omega)) (by rfl) T.g__law_state T.F__law_state.kp T.b__law_state .nil pass0 (pa_cons (pv 0) (pa_cons (pv 1) pa_nil))))
        (pss_cons (ps_dput (hu_of hr) (pv 2) pe_str (pe_op op_add pe_int (pe_call G__law_next (hr.mono (by omega)) (by rfl) T.g__law_next T.F__law_next.kp T.b__law_next .nil pass0 (pa_cons (pv 2) (pa_cons pe_int pa_nil)))) (by rfl))
        (pss_cons (ps_set (i := 3) sc__law_last_by.nd rfl (Or.inl rfl) (pe_lst pa_nil))
        (pss_cons (ps_set (i := 4) sc__law_last_by.nd rfl (Or.inl rfl) (pe_lst pa_nil))
        (pss_cons (ps_for PassesOwn.never (by rfl) (pi_range1 (by rfl) T.m_range (pa_cons (pe_op op_add pe_int (pe_call G__law_next (hr.mono (by omega)) (by rfl) T.g__law_next T.F__law_next.kp T.b__law_next .nil pass0 (pa_cons (pv 2) (pa_cons pe_int pa_nil)))) pa_nil)) (pg_name (i := 5) sc__law_last_by.nd rfl (Or.inl rfl)) (pss_cons (ps_set (i := 6) sc__law_last_by.nd rfl (Or.inl rfl) (pe_lst (pa_cons (pe_tup (pa_cons pe_str (pa_cons pe_int pa_nil))) (pa_cons (pe_tup (pa_cons pe_str (pa_cons pe_int pa_nil))) (pa_cons pe_non (pa_cons (pe_tup (pa_cons pe_str (pa_cons pe_int pa_nil))) (pa_cons (pe_tup (pa_cons pe_str (pa_cons pe_int pa_nil))) (pa_cons (pe_tup (pa_cons pe_str (pa_cons pe_int pa_nil))) pa_nil))))))))
        (pss_cons (ps_set (i := 7) sc__law_last_by.nd rfl (Or.inl rfl) (pe_call G__law_next (hr.mono (by omega)) (by rfl) T.g__law_next T.F__law_next.kp T.b__law_next .nil pass0 (pa_cons (pv 2) (pa_cons pe_int pa_nil))))
        (pss_cons (ps_set (i := 8) sc__law_last_by.nd rfl (Or.inl rfl) (pe_slice sl_list (pe_op op_cat (pe_slice sl_list (pv 6) (po_some (pv 7)) po_none) (pe_slice sl_list (pv 6) po_none (po_some (pv 7)))) po_none (po_some (pe_call G__law_next (hr.mono (by omega)) (by rfl) T.g__law_next T.F__law_next.kp T.b__law_next .nil pass0 (pa_cons (pv 2) (pa_cons pe_int pa_nil))))))
        (pss_cons (ps_expr (pe_bm PySem.F.plainAttrs_list PySem.F.slot_list_append PySem.F.type_list_append mt_append (pv 4) (pa_cons (pe_tup (pa_cons (pe_callTy call_tuple_of (by rfl) T.m_tuple (by decide +kernel) (pa_cons (pv 8) pa_nil)) (pa_cons pe_int (pa_cons pe_int (pa_cons (pe_call G__law_part_by (hr.mono (by omega)) (by rfl) T.g__law_part_by T.F__law_part_by.kp T.b__law_part_by .nil pass0 (pa_cons (pv 2) (pa_cons (pv 8) (pa_cons (pv 3) pa_nil)))) pa_nil))))) pa_nil)))
        (pss_one (ps_expr (pe_bm PySem.F.plainAttrs_list PySem.F.slot_list_append PySem.F.type_list_append mt_append (pv 3) (pa_cons (pe_callB call_len_seq (by rfl) T.m_len (by decide +kernel) (pa_cons (pv 8) pa_nil)) pa_nil)))))))))
        (pss_one (ps_ret (pe_tup (pa_cons (pe_callTy call_tuple_of (by rfl) T.m_tuple (by decide +kernel) (pa_cons (pv 4) pa_nil)) (pa_cons (pe_dget (hu_of hr) (pv 2) pe_str (fun _ _ => rfl)) (pa_cons (pe_ix ix_list (pv 3) (pe_un un_neg pe_int) (fun _ _ => rfl)) pa_nil))))))))))), ?_⟩
    have big : ∀ n : Nat, n ≤ 10000 → n ≤ sizeLine := fun n h => by rw [sizeLine_eq]; omega
    refine ⟨_, rfl, _, rfl, c, k, rfl, fun H1 A s s1 nA ws tA _ _ => ?_⟩
    obtain ⟨f, ds⟩ := ws.dsv tA
    have nd : H A.d = none := nA _ (own_d A)
    generalize A.d = d at ds nd ⊢
    dsimp only [gName, List.set]
    refine ⟨_, rfl, d, 8, f, 4, rfl, ds, by decide, by decide, fun H2 r k2 d2 a2 b2 => ⟨_, _, rfl, rfl, ?_⟩⟩
    obtain ⟨r, rfl⟩ := Int.eq_ofNat_of_zero_le a2
    have s2 := same_kd s1 k2 nd
    obtain ⟨H3, hp3, ds3, k3⟩ := d2.put (m := 9) (v := .int ((2 + r : Nat) : Int)) (bsk (.inl rfl)).1 (bsk (.inl rfl)).2 ⟨.inl (by decide), by decide⟩
    refine ⟨_, rfl, _, _, rfl, hp3, ?_⟩
    have s3 := same_kd s2 k3 nd
    have eb3 : (fun x => if x = ("boxes" : Str) then some (V.int ((2 + r : Nat) : Int)) else f x) "boxes" = some (.int ((2 + r : Nat) : Int)) := if_pos rfl
    generalize (fun x => if x = ("boxes" : Str) then some (V.int ((2 + r : Nat) : Int)) else f x) = f3 at ds3 eb3
    have hnb : 2 ≤ 2 + r ∧ 2 + r ≤ 5 := by omega
    generalize 2 + r = nb at ds3 eb3 hnb hp3
    refine ⟨Nat.zero_le _, fun Hd nHd => ?_⟩
    dsimp only [gName, List.set]
    refine ⟨Nat.zero_le _, fun La nLa => ?_⟩
    dsimp only [gName, List.set]
    have q1 := same_new (o := .lst []) nHd
    have q2 := same_new (o := .lst []) nLa
    have ds5 := (ds3.sm q1).sm q2
    have nH : H Hd = none := s3.free nHd
    have nL : H La = none := (s3.trans q1).free nLa
    have neHL : Hd ≠ La := ne_of_none (show upd H3 Hd (.lst []) Hd = some (.lst []) from upd_same) nLa
    have neH : Hd ≠ d := ds3.neL nHd
    have neL : La ≠ d := (ds3.sm q1).neL nLa
    have eH5 := q2 _ _ (show upd H3 Hd (.lst []) Hd = some (.lst []) from upd_same)
    have eL5 : upd (upd H3 Hd (.lst [])) La (.lst []) La = some (.lst []) := upd_same
    have s5 := (s3.trans q1).trans q2
    generalize upd (upd H3 Hd (.lst [])) La (.lst []) = H5 at ds5 eH5 eL5 s5 ⊢
    refine ⟨_, rfl, d, 9, f3, 3, rfl, ds5, by decide, by decide, fun H6 r6 k6 d6 a6 b6 => ⟨_, _, rfl, rfl, _, rfl, by omega, by omega, ?_⟩⟩
    obtain ⟨r6, rfl⟩ := Int.eq_ofNat_of_zero_le a6
    have s6 := same_kd s5 k6 nd
    have eH6 := k6 _ _ eH5 fun z => absurd z neH
    have eL6 := k6 _ _ eL5 fun z => absurd z neL
    refine for_range (lo := 0) (n := (1 + ((r6 : Nat) : Int)).toNat) (fun i σ' H' => ∃ f n L lv x5 x6 x7 x8, Same H H' ∧ DSv H' d n f ∧ f "boxes" = some (.int (nb : Nat)) ∧ (n ≤ 16 ∨ ((∃ u, f "known" = some u) ∧ ∃ u, f "trays" = some u)) ∧ H' Hd = some (.lst ((L.map fun q : LP => q.ins.length).map fun n => V.int (n : Nat))) ∧ H' La = some (.lst lv) ∧ DpAll K H' lv (L.map LP.d) ∧ LDr nb L ∧ L.length = i ∧ σ' = [some (.int c), some (.int k), some (.ref d), some (.ref Hd), some (.ref La), x5, x6, x7, x8]) ?_ ?_ ?_
    · exact ⟨f3, 9, [], [], _, _, _, _, s6, d6, eb3, .inl (by decide), eH6, eL6, .nil, .nil, rfl, rfl⟩
    · rintro i σ' H7 hi ⟨f7, n7, L, lv, y5, y6, y7, y8, s7, ds7, eb7, hn7, eH7, eL7, dL7, lL7, ll, rfl⟩
      dsimp only [gName, List.set]
      have i3 : i < 3 := by omega
      refine st_asg (ml_lst (K := K) (H0 := H7) (ds := some6.map insD) ?_ (Same.refl _) (fun H8 S sv s8 nS eS dS => ?_) (by simp [some6]))
      · have two : ∀ {σ : L2.St} {x : Str} {z : Int}, Mds K H7 σ [.str x, .int z] (tCons (tC (.str x)) (tCons (tC (.int z)) tNil)) := mds_cons md_str (mds_cons md_int mds_nil)
        have non : ∀ {σ : L2.St}, Md K H7 σ .none (tC .non) := fun {_} H Q _ q => q H _ (Same.refl _) .non
        exact mds_cons (md_tup two) (mds_cons (md_tup two) (mds_cons non (mds_cons (md_tup two) (mds_cons (md_tup two) (mds_cons (md_tup two) mds_nil)))))
      have ls : sv.length = 6 := dpAll_len dS
      have ds8 := ds7.sm s8
      dsimp only [gName, List.set]
      refine ⟨_, rfl, d, n7, f7, 6, rfl, ds8, by decide, by decide, fun H9 z k9 d9 a9 b9 => ?_⟩
      obtain ⟨z, rfl⟩ := Int.eq_ofNat_of_zero_le a9
      have nSd : S ≠ d := fun y => by
        obtain ⟨o, e⟩ := ds7.there
        rw [y, e] at nS
        cases nS
      have eS9 := k9 _ _ eS fun y => absurd y nSd
      have dS9 := dpAll_kp k9 _ _ (inss_nl _) dS
      have eH9 := k9 _ _ (s8 _ _ eH7) fun y => absurd y neH
      have eL9 := k9 _ _ (s8 _ _ eL7) fun y => absurd y neL
      have s9 := same_kd (s7.trans s8) k9 nd
      have dL9 := dpAll_kp k9 _ _ (nLs_map (fun q : LP => q.nl)) (dpAll_kp (Kp.of_same (S := fun _ => False) s8) _ _ (nLs_map (fun q : LP => q.nl)) dL7)
      clear eS dS eH7 eL7 dL7 ds7 ds8 s8 k9 nS
      dsimp only [gName, List.set]
      refine ⟨_, rfl, _, rfl, (z : Int), rfl, S, sv, rfl, .of eS9, fun p1 np1 => ?_⟩
      rw [cutV_from]
      have q1 := same_new (o := .lst (sv.drop z)) np1
      have e1 : upd H9 p1 (.lst (sv.drop z)) p1 = some (.lst (sv.drop z)) := upd_same
      generalize upd H9 p1 (.lst (sv.drop z)) = G1 at q1 e1 ⊢
      refine ⟨_, rfl, _, rfl, (z : Int), rfl, S, sv, rfl, .of (q1 _ _ eS9), fun p2 np2 => ?_⟩
      rw [cutV_to]
      have q2 := same_new (o := .lst (sv.take z)) np2
      have e2 : upd G1 p2 (.lst (sv.take z)) p2 = some (.lst (sv.take z)) := upd_same
      generalize upd G1 p2 (.lst (sv.take z)) = G2 at q2 e2 ⊢
      refine ⟨p1, p2, _, _, rfl, rfl, q2 _ _ e1, e2, big _ (by rw [List.length_drop, List.length_take]; omega), fun p3 np3 => ?_⟩
      have q3 := same_new (o := .lst (sv.drop z ++ sv.take z)) np3
      have e3 : upd G2 p3 (.lst (sv.drop z ++ sv.take z)) p3 = some (.lst (sv.drop z ++ sv.take z)) := upd_same
      generalize upd G2 p3 (.lst (sv.drop z ++ sv.take z)) = G3 at q3 e3 ⊢
      have q93 := (q1.trans q2).trans q3
      have dd3 := d9.sm q93
      refine ⟨_, rfl, d, n7, f7, 4, rfl, dd3, by decide, by decide, fun H10 z2 k10 d10 a10 b10 => ?_⟩
      obtain ⟨z2, rfl⟩ := Int.eq_ofNat_of_zero_le a10
      have k910 : Kp (fun b => b = d) H9 H10 := (Kp.of_same q93).trans k10
      have ne1 : S ≠ d := nSd
      have ne3 : p3 ≠ d := (d9.sm (q1.trans q2)).neL np3
      have e10 := k10 _ _ e3 fun y => absurd y ne3
      refine ⟨(z2 : Int), rfl, p3, _, rfl, .of e10, fun p4 np4 => ?_⟩
      rw [cutV_to]
      have q4 := same_new (o := .lst ((sv.drop z ++ sv.take z).take z2)) np4
      have e4 : upd H10 p4 (.lst ((sv.drop z ++ sv.take z).take z2)) p4 = some (.lst ((sv.drop z ++ sv.take z).take z2)) := upd_same
      have ne4 : p4 ≠ d := d10.neL np4
      have nLp4 : La ≠ p4 := ne_of_none (k910 _ _ eL9 fun y => absurd y neL) np4
      generalize upd H10 p4 (.lst ((sv.drop z ++ sv.take z).take z2)) = G4 at q4 e4 ⊢
      dsimp only [gName, List.set]
      have k4 := k910.trans (.of_same q4)
      have dS4 : DpAll K G4 ((sv.drop z ++ sv.take z).take z2) (((some6.drop z ++ some6.take z).take z2).map insD) := by
        rw [List.map_take, List.map_append, List.map_drop, List.map_take]
        exact dpAll_kp k4 _ _ (by rw [← List.map_take, ← List.map_drop, ← List.map_append, ← List.map_take]; exact inss_nl _) (dpAll_take z2 (dpAll_app (dpAll_drop z dS9) (dpAll_take z dS9)))
      have lI : ((some6.drop z ++ some6.take z).take z2).length ≤ 3 := by rw [List.length_take]; omega
      have hI : ∀ o ∈ (some6.drop z ++ some6.take z).take z2, ∀ p, o = some p → p.lt nb := fun o ho p hp => by
        have h6 : o ∈ some6 := (List.mem_append.mp (List.mem_of_mem_take ho)).elim List.mem_of_mem_drop List.mem_of_mem_take
        subst hp
        simp only [some6, List.mem_cons, List.not_mem_nil, or_false, Option.some.injEq, reduceCtorEq, false_or] at h6
        rcases h6 with rfl | rfl | rfl | rfl | rfl <;> show _ < _ <;> omega
      generalize (some6.drop z ++ some6.take z).take z2 = ins at dS4 lI hI
      generalize (sv.drop z ++ sv.take z).take z2 = iv at dS4 e4
      have dd4 := d10.sm q4
      have eH4 := k4 _ _ eH9 fun y => absurd y neH
      have eL4 := k4 _ _ eL9 fun y => absurd y neL
      have dL4 := dpAll_kp k4 _ _ (nLs_map (fun q : LP => q.nl)) dL9
      have s4 : Same H G4 := same_kd s9 k4 nd
      clear d10 k10 e10 np4 e3 np3 e2 np2 e1 np1 eS9 dS9 eH9 eL9 dL9
      refine ⟨_, rfl, .inl ⟨rfl, _, .of eL4⟩, _, rfl, p4, _, rfl, .inl ⟨.of e4, fun t nt => ?_⟩⟩
      have q5 := same_new (o := .tup iv) nt
      have e5 : upd G4 t (.tup iv) t = some (.tup iv) := upd_same
      have net : t ≠ d := dd4.neL nt
      generalize upd G4 t (.tup iv) = G5 at q5 e5 ⊢
      refine ⟨_, rfl, _, rfl, _, rfl, d, p4, Hd, n7, nb, f7, iv, ins, L.map (fun q : LP => q.ins.length), rfl, dd4.sm q5, hn7, eb7, hnb.1, hnb.2, q5 _ _ e4, dpAll_sm q5 dS4, lI, hI, q5 _ _ eH4, by rw [List.length_map]; omega, ?_, ne4.symm, neH.symm, fun H11 v rows f11 n11 k11 d11 eb11 uk ut dv pd => ?_⟩
      · intro x hx
        obtain ⟨y, hy, rfl⟩ := List.mem_map.mp hx
        obtain ⟨j, hj, e⟩ := List.mem_iff_getElem.mp hy
        exact (lL7.p j y (by rw [List.getElem?_eq_getElem hj, e])).2.1
      have k5 := (Kp.of_same q5).trans k11
      have e11 := k11 _ _ e5 fun y => absurd y net
      have eL11 := k5 _ _ eL4 fun y => absurd y neL
      have eH11 := k5 _ _ eH4 fun y => absurd y neH
      have e411 := k5 _ _ e4 fun y => absurd y ne4
      have dS11 := dpAll_kp k5 _ _ (inss_nl _) dS4
      have dL11 := dpAll_kp k5 _ _ (nLs_map (fun q : LP => q.nl)) dL4
      have s11 : Same H H11 := same_kd s4 k5 nd
      refine ⟨big 4 (by decide), fun u nu => ?_⟩
      have lv3 := dpAll_len dL11
      rw [List.length_map] at lv3
      refine ⟨La, lv, _, rfl, rfl, same_new nu _ _ eL11, by rw [sizeLine_eq]; omega, ?_⟩
      have q6 := same_new (o := .tup [.ref t, .int 3, .int 3, v]) nu
      have e6 : upd H11 u (.tup [.ref t, .int 3, .int 3, v]) u = some (.tup [.ref t, .int 3, .int 3, v]) := upd_same
      have neu : La ≠ u := ne_of_none eL11 nu
      have neuH : Hd ≠ u := ne_of_none eH11 nu
      generalize upd H11 u (.tup [.ref t, .int 3, .int 3, v]) = G6 at q6 e6 ⊢
      have eL6' := q6 _ _ eL11
      have s6' := s11.trans q6
      have kL : Kp (fun b => b = La) G6 (upd G6 La (.lst (lv ++ [.ref u]))) := Kp.upd eL6' trivial rfl
      have sL := same_upd (o := .lst (lv ++ [.ref u])) s6' nL
      have eL8 : upd G6 La (.lst (lv ++ [.ref u])) La = some (.lst (lv ++ [.ref u])) := upd_same
      have dv6 := dp_sm q6 dv
      have dq6 : Dp K G6 (.ref u) (LP.d ⟨ins, 3, rows⟩) := .tup (.of e6) (.cons (.tup (.of (q6 _ _ e11)) (dpAll_sm q6 dS11)) (.cons (.int _) (.cons (.int _) (.cons dv6 .nil))))
      have dL8 := dpAll_kp kL _ _ (nLs_map (fun q : LP => q.nl)) (dpAll_sm q6 dL11)
      have dq8 := dp_kp kL _ _ (LP.nl _) dq6
      have eH8 := kL _ _ (q6 _ _ eH11) fun y => absurd y neHL
      have e48 := kL _ _ (q6 _ _ e411) fun y => absurd y.symm nLp4
      have d8 := (d11.sm q6).kp kL neL.symm
      generalize upd G6 La (.lst (lv ++ [.ref u])) = H12 at *
      refine ⟨_, rfl, .inl ⟨rfl, _, .of eH8⟩, _, rfl, ⟨p4, _, rfl, .inl (.of e48), Hd, _, _, rfl, rfl, eH8, by simp; rw [sizeLine_eq]; omega, ?_⟩⟩
      have kH : Kp (fun b => b = Hd) H12 (upd H12 Hd (.lst (((L.map fun q : LP => q.ins.length).map fun n => V.int (n : Nat)) ++ [.int (iv.length : Nat)]))) := Kp.upd eH8 trivial rfl
      have liv := dpAll_len dS11
      rw [List.length_map] at liv
      refine ⟨f11, n11, L ++ [⟨ins, 3, rows⟩], lv ++ [.ref u], _, _, _, _, same_upd sL nH, d8.kp kH neH.symm, eb11, .inr ⟨uk, ut⟩, ?_, kH _ _ eL8 fun y => absurd y neHL.symm, ?_, lL7.snoc pd lI hI rfl (by omega), by simp [ll], rfl⟩
      · rw [upd_same, liv]
        simp
      · rw [List.map_append]
        exact dpAll_kp kH _ _ (nLs_appN (nLs_map (fun q : LP => q.nl)) (by simp [nLs, LP.nl])) (dpAll_app dL8 (.cons dq8 .nil))
    · rintro σ' H7 ⟨f7, n7, L, lv, y5, y6, y7, y8, s7, ds7, eb7, hn7, eH7, eL7, dL7, lL7, ll, rfl⟩
      obtain ⟨L', q', rfl⟩ : ∃ L' q', L = L' ++ [q'] := by
        rcases List.eq_nil_or_concat L with e | ⟨a, b, e⟩
        · rw [e] at ll
          simp at ll
          omega
        · exact ⟨a, b, by rw [e, List.concat_eq_append]⟩
      dsimp only
      refine ⟨_, rfl, La, _, rfl, .inl ⟨.of eL7, fun t nt => ?_⟩⟩
      have q1 := same_new (o := .tup lv) nt
      refine ⟨_, rfl, _, _, rfl, (ds7.sm q1).get (bsk (.inl rfl)).1 (bsk (.inl rfl)).2 eb7, _, rfl, 1, rfl, Hd, _, -1, .int (q'.ins.length : Nat), rfl, rfl, .of (q1 _ _ eH7), ?_, ?_⟩
      · rw [List.map_append, List.map_append]
        exact atI_lst
      refine ⟨big 3 (by decide), fun u nu => ?_⟩
      have q2 := same_new (o := .tup [.ref t, .int (nb : Nat), .int (q'.ins.length : Nat)]) nu
      refine q _ _ L' nb q' ((s7.trans q1).trans q2) (.tup (.of upd_same) (.cons (.tup (.of (q2 _ _ upd_same)) (dpAll_sm (q1.trans q2) dL7)) (.cons (.int _) (.cons (.int _) .nil)))) lL7 hnb.1 hnb.2
end

/-! what a word makes of two numbers -/
def rck (w : Str) (a b : Int) : Option Int :=
  if w = "add" then some (wr (a + b)) else if w = "sub" then some (wr (a - b)) else if w = "mul" then some (wr (a * b))
  else if w = "less" then some (b2n (decide (a < b))) else if w = "same" then some (b2n (decide (a = b)))
  else if w = "div" then (if b = 0 then none else some (wr (a.fdiv b))) else (if b = 0 then none else some (wr (a.fmod b)))
def vOf : Option Int → V
  | some v => .int v
  | none => .non
theorem due_rck {w : Str} {a b : Int} (hw : w ∈ wds) : Due a b w (vOf (rck w a b)) := by
  unfold rck
  by_cases h1 : w = "add"
  · subst h1; rw [if_pos rfl]; exact .add
  rw [if_neg h1]
  by_cases h2 : w = "sub"
  · subst h2; rw [if_pos rfl]; exact .sub
  rw [if_neg h2]
  by_cases h3 : w = "mul"
  · subst h3; rw [if_pos rfl]; exact .mul
  rw [if_neg h3]
  by_cases h4 : w = "less"
  · subst h4; rw [if_pos rfl]; exact .less
  rw [if_neg h4]
  by_cases h5 : w = "same"
  · subst h5; rw [if_pos rfl]; exact .same
  rw [if_neg h5]
  by_cases h6 : w = "div"
  · subst h6
    rw [if_pos rfl]
    by_cases hb : b = 0
    · rw [if_pos hb]; exact .div0 hb
    · rw [if_neg hb]; exact .div hb
  rw [if_neg h6]
  have h7 : w = "rem" := by
    unfold wds at hw
    simp only [List.mem_cons, List.not_mem_nil, or_false] at hw
    rcases hw with h | h | h | h | h | h | h
    all_goals first | exact absurd h h1 | exact absurd h h2 | exact absurd h h3 | exact absurd h h4 | exact absurd h h5 | exact absurd h h6 | exact h
  subst h7
  by_cases hb : b = 0
  · rw [if_pos hb]; exact .rem0 hb
  · rw [if_neg hb]; exact .rem hb
theorem wr_32 (n : Int) : In32 (wr n) := by
  unfold wr In32
  omega
theorem b2n_32 (b : Bool) : In32 (b2n b) := by cases b <;> exact ⟨by decide, by decide⟩
theorem rck_32 {w : Str} {a b v : Int} (h : rck w a b = some v) : In32 v := by
  unfold rck at h
  repeat' (split at h)
  all_goals first | (cases h; exact wr_32 _) | (cases h; exact b2n_32 _) | cases h

theorem pigeon : ∀ (n : Nat) (l : List Nat), l.Nodup → (∀ x ∈ l, x < n) → l.length ≤ n
  | 0, [], _, _ => Nat.le_refl _
  | 0, x :: r, _, h => absurd (h x (List.mem_cons_self ..)) (Nat.not_lt_zero _)
  | n + 1, l, nd, h => by
    have h1 : (l.erase n).length ≤ n := pigeon n (l.erase n) (nd.erase n) fun x hx => by
      have := (List.Nodup.mem_erase_iff nd).mp hx
      have h2 := h x this.2
      have h3 := this.1
      omega
    have h4 : l.length ≤ (l.erase n).length + 1 := by
      by_cases hm : n ∈ l
      · rw [List.length_erase_of_mem hm]
        omega
      · rw [List.erase_of_not_mem hm]
        omega
    omega

/-! what one owns: cells new since a beginning -/
structure Ow (H0 H : Hp) (M : List (Addr × HO)) : Prop where
  s : Same H0 H
  n : (M.map (·.1)).Nodup
  h : ∀ x ∈ M, H x.1 = some x.2 ∧ H0 x.1 = none
theorem Ow.get {H0 H : Hp} {M : List (Addr × HO)} {a : Addr} {o : HO} (w : Ow H0 H M) (m : (a, o) ∈ M) : H a = some o := (w.h _ m).1
theorem Ow.sm {H0 H H' : Hp} {M : List (Addr × HO)} (w : Ow H0 H M) (s : Same H H') : Ow H0 H' M := ⟨w.s.trans s, w.n, fun x hx => ⟨s _ _ (w.h x hx).1, (w.h x hx).2⟩⟩
theorem Ow.in {H0 H : Hp} {M : List (Addr × HO)} {a : Addr} (w : Ow H0 H M) (m : a ∈ M.map (·.1)) : (∃ o, H a = some o) ∧ H0 a = none := by
  obtain ⟨x, hx, rfl⟩ := List.mem_map.mp m
  exact ⟨⟨_, (w.h x hx).1⟩, (w.h x hx).2⟩
theorem Ow.off {H0 H : Hp} {M : List (Addr × HO)} {a : Addr} (w : Ow H0 H M) (n : H a = none) : a ∉ M.map (·.1) := fun m => by
  obtain ⟨⟨o, e⟩, _⟩ := w.in m
  rw [n] at e
  cases e
theorem nd_inj {α : Type} : ∀ {l : List (Nat × α)}, (l.map (·.1)).Nodup → ∀ {x y : Nat × α}, x ∈ l → y ∈ l → x.1 = y.1 → x = y
  | [], _, _, _, h, _, _ => nomatch h
  | p :: r, n, x, y, hx, hy, e => by
    rw [List.map_cons, List.nodup_cons] at n
    rcases List.mem_cons.mp hx with ex | hx2
    · rcases List.mem_cons.mp hy with ey | hy2
      · rw [ex, ey]
      · exact absurd (List.mem_map.mpr ⟨y, hy2, by rw [← e, ex]⟩) n.1
    · rcases List.mem_cons.mp hy with ey | hy2
      · exact absurd (List.mem_map.mpr ⟨x, hx2, by rw [e, ey]⟩) n.1
      · exact nd_inj n.2 hx2 hy2 e
/-- a part of them made another one, by one cell written -/
theorem Ow.upd {H0 H : Hp} {X T T' Y : List (Addr × HO)} {a : Addr} {o : HO} (w : Ow H0 H (X ++ T ++ Y)) (c : H a = none ∨ a ∈ T.map (·.1)) (n : (T'.map (·.1)).Nodup) (m : ∀ x ∈ T', x ∈ T ∨ x = (a, o)) (i : (a, o) ∈ T') : Ow H0 (upd H a o) (X ++ T' ++ Y) := by
  have a0 : H0 a = none := c.elim (fun h => w.s.free h) fun h => (w.in (by rw [List.map_append, List.map_append]; exact List.mem_append_left _ (List.mem_append_right _ h))).2
  have wn := w.n
  rw [List.map_append, List.map_append, List.nodup_append, List.nodup_append] at wn
  obtain ⟨⟨n1, n2, n3⟩, n4, n5⟩ := wn
  have key : ∀ x ∈ T', x.1 ∈ T.map (·.1) ∨ (x.1 = a ∧ H a = none) := fun x hx => by
    rcases m x hx with h | h
    · exact .inl (List.mem_map.mpr ⟨x, h, rfl⟩)
    · rw [h]
      rcases c with c | c
      · exact .inr ⟨rfl, c⟩
      · exact .inl c
  have nX : ∀ x ∈ X, x.1 ≠ a := fun x hx z => by
    rcases c with c | c
    · have := (w.h x (List.mem_append_left _ (List.mem_append_left _ hx))).1
      rw [z, c] at this
      cases this
    · exact n3 _ (List.mem_map.mpr ⟨x, hx, rfl⟩) _ c z
  have nY : ∀ x ∈ Y, x.1 ≠ a := fun x hx z => by
    rcases c with c | c
    · have := (w.h x (List.mem_append_right _ hx)).1
      rw [z, c] at this
      cases this
    · exact n5 _ (List.mem_append_right _ c) _ (List.mem_map.mpr ⟨x, hx, rfl⟩) z.symm
  refine ⟨fun b x e => ?_, ?_, fun x hx => ?_⟩
  · rw [upd_ne fun z => by rw [z, a0] at e; cases e]
    exact w.s b x e
  · rw [List.map_append, List.map_append, List.nodup_append, List.nodup_append]
    refine ⟨⟨n1, n, fun x hx y hy z => ?_⟩, n4, fun x hx y hy z => ?_⟩
    · obtain ⟨t, ht, rfl⟩ := List.mem_map.mp hy
      obtain ⟨s, hs, rfl⟩ := List.mem_map.mp hx
      rcases key t ht with k | ⟨k, _⟩
      · exact n3 _ hx _ k z
      · exact nX s hs (z.trans k)
    · obtain ⟨t, ht, rfl⟩ := List.mem_map.mp hy
      rcases List.mem_append.mp hx with hx | hx
      · exact n5 _ (List.mem_append_left _ hx) _ hy z
      · obtain ⟨s, hs, rfl⟩ := List.mem_map.mp hx
        rcases key s hs with k | ⟨k, _⟩
        · exact n5 _ (List.mem_append_right _ k) _ hy z
        · exact nY t ht (z.symm.trans k)
  · rcases List.mem_append.mp hx with hx | hx
    · rcases List.mem_append.mp hx with hx | hx
      · rw [upd_ne (nX x hx)]
        exact w.h x (List.mem_append_left _ (List.mem_append_left _ hx))
      · by_cases z : x.1 = a
        · have e : x = (a, o) := nd_inj n hx i z
          rw [e]
          exact ⟨upd_same, a0⟩
        · rw [upd_ne z]
          rcases m x hx with h | h
          · exact w.h x (List.mem_append_left _ (List.mem_append_right _ h))
          · exact absurd (by rw [h]) z
    · rw [upd_ne (nY x hx)]
      exact w.h x (List.mem_append_right _ hx)
theorem Ow.sub {H0 H : Hp} {M M' : List (Addr × HO)} (w : Ow H0 H M) (s : M'.Sublist M) : Ow H0 H M' := ⟨w.s, (s.map _).nodup w.n, fun x hx => w.h x (s.subset hx)⟩
/-- one more, that is there already -/
theorem Ow.add {H0 H : Hp} {M : List (Addr × HO)} {a : Addr} {o : HO} (w : Ow H0 H M) (e : H a = some o) (n0 : H0 a = none) (n : a ∉ M.map (·.1)) : Ow H0 H ((a, o) :: M) := ⟨w.s, List.nodup_cons.mpr ⟨n, w.n⟩, fun x hx => by
  rcases List.mem_cons.mp hx with rfl | hx
  · exact ⟨e, n0⟩
  · exact w.h x hx⟩
/-- all but these -/
def Hp.less (H : Hp) (M : List (Addr × HO)) : Hp := fun a => if a ∈ M.map (·.1) then none else H a
theorem Hp.less_of {H : Hp} {M : List (Addr × HO)} {a : Addr} {o : HO} (e : H a = some o) (n : a ∉ M.map (·.1)) : Hp.less H M a = some o := by
  unfold Hp.less
  rw [if_neg n, e]
theorem Hp.less_same {H : Hp} {M : List (Addr × HO)} : Same (Hp.less H M) H := fun b o e => by
  unfold Hp.less at e
  split at e
  · cases e
  · exact e
theorem Ow.wide {H0 H : Hp} {M : List (Addr × HO)} (w : Ow H0 H M) : Ow (Hp.less H M) H M ∧ Same H0 (Hp.less H M) :=
  ⟨⟨Hp.less_same, w.n, fun x hx => ⟨(w.h x hx).1, if_pos (List.mem_map.mpr ⟨x, hx, rfl⟩)⟩⟩, fun b o e => Hp.less_of (w.s b o e) fun m => by
    obtain ⟨_, z⟩ := w.in m
    rw [z] at e
    cases e⟩
theorem Ow.narrow {H0 H1 H : Hp} {M : List (Addr × HO)} (w : Ow H1 H M) (s : Same H0 H1) : Ow H0 H M := ⟨s.trans w.s, w.n, fun x hx => ⟨(w.h x hx).1, s.free (w.h x hx).2⟩⟩
/-! small tables -/
section
variable {α β : Type}
def lkA (l : List (Nat × α)) (n : Nat) : Option α := (l.find? fun p => decide (p.1 = n)).map (·.2)
def ptA (l : List (Nat × α)) (n : Nat) (x : α) : List (Nat × α) := if (l.any fun p => decide (p.1 = n)) = true then l.map (fun p => if p.1 = n then (p.1, x) else p) else l ++ [(n, x)]
theorem lkA_cons {p : Nat × α} {l : List (Nat × α)} {n : Nat} : lkA (p :: l) n = if p.1 = n then some p.2 else lkA l n := by
  unfold lkA
  rw [List.find?_cons]
  by_cases c : p.1 = n
  · rw [if_pos c, decide_eq_true c]
    rfl
  · rw [if_neg c, decide_eq_false c]
theorem lkA_any {n : Nat} : ∀ {l : List (Nat × α)}, (l.any fun p => decide (p.1 = n)) = (lkA l n).isSome
  | [] => rfl
  | p :: l => by
    rw [List.any_cons, lkA_cons, lkA_any]
    by_cases c : p.1 = n
    · rw [if_pos c, decide_eq_true c]
      rfl
    · rw [if_neg c, decide_eq_false c]
      rfl
theorem lkA_mem {n : Nat} {x : α} : ∀ {l : List (Nat × α)}, lkA l n = some x → (n, x) ∈ l
  | [], h => by cases h
  | p :: l, h => by
    rw [lkA_cons] at h
    by_cases c : p.1 = n
    · rw [if_pos c] at h
      cases h
      subst c
      exact List.mem_cons_self ..
    · rw [if_neg c] at h
      exact List.mem_cons_of_mem _ (lkA_mem h)
theorem lkA_map {f : α → β} {n : Nat} : ∀ {l : List (Nat × α)}, lkA (l.map fun p => (p.1, f p.2)) n = (lkA l n).map f
  | [] => rfl
  | p :: l => by
    rw [List.map_cons, lkA_cons, lkA_cons, lkA_map]
    dsimp only
    split <;> rfl
theorem ptA_map {f : α → β} {n : Nat} {x : α} {l : List (Nat × α)} : (ptA l n x).map (fun p => (p.1, f p.2)) = ptA (l.map fun p => (p.1, f p.2)) n (f x) := by
  unfold ptA
  have e : ((l.map fun p => (p.1, f p.2)).any fun p => decide (p.1 = n)) = l.any fun p => decide (p.1 = n) := by rw [List.any_map]; rfl
  rw [e]
  split
  · rw [List.map_map, List.map_map]
    refine List.map_congr_left fun p _ => ?_
    show ((if p.1 = n then (p.1, x) else p).1, f (if p.1 = n then (p.1, x) else p).2) = if p.1 = n then (p.1, f x) else (p.1, f p.2)
    split <;> rfl
  · rw [List.map_append]
    rfl
theorem lkA_pt {n m : Nat} {x : α} : ∀ {l : List (Nat × α)}, lkA (ptA l n x) m = if m = n then some x else lkA l m := by
  intro l
  unfold ptA
  by_cases c : (l.any fun p => decide (p.1 = n)) = true
  · rw [if_pos c]
    induction l with
    | nil => cases c
    | cons p r ih =>
      rw [List.map_cons, lkA_cons, lkA_cons]
      by_cases e : p.1 = n
      · rw [if_pos e]
        dsimp only
        by_cases d : m = n
        · rw [if_pos (e.trans d.symm), if_pos d]
        · rw [if_neg fun z => d (z.symm.trans e), if_neg d, if_neg fun z => d (z.symm.trans e)]
          by_cases c2 : (r.any fun p => decide (p.1 = n)) = true
          · rw [ih c2, if_neg d]
          · rw [List.map_congr_left (g := id) fun q hq => ?_, List.map_id]
            by_cases f : q.1 = n
            · exact absurd (List.any_eq_true.mpr ⟨q, hq, decide_eq_true f⟩) c2
            · rw [if_neg f]
              rfl
      · rw [if_neg e]
        have c2 : (r.any fun p => decide (p.1 = n)) = true := by
          rw [List.any_cons, decide_eq_false e] at c
          exact c
        rw [ih c2]
        by_cases d : m = n
        · rw [if_pos d, if_pos d]
          rw [if_neg fun z => e (z.trans d)]
        · rw [if_neg d, if_neg d]
  · rw [if_neg c]
    rw [lkA_any] at c
    induction l with
    | nil =>
      show lkA [(n, x)] m = _
      rw [lkA_cons]
      by_cases d : m = n
      · rw [if_pos d, if_pos d.symm]
      · rw [if_neg d, if_neg fun z => d z.symm]
    | cons p r ih =>
      rw [lkA_cons] at c
      by_cases e : p.1 = n
      · rw [if_pos e] at c
        exact absurd rfl c
      · rw [if_neg e] at c
        rw [List.cons_append, lkA_cons, lkA_cons, ih c]
        by_cases d : m = n
        · rw [if_pos d, if_pos d, if_neg fun z => e (z.trans d)]
        · rw [if_neg d, if_neg d]
theorem ptA_keys (l : List (Nat × α)) (n : Nat) (x : α) : (ptA l n x).map (·.1) = l.map (·.1) ∨ n ∉ l.map (·.1) ∧ ptA l n x = l ++ [(n, x)] := by
  unfold ptA
  by_cases h : (l.any fun p => decide (p.1 = n)) = true
  · refine .inl ?_
    rw [if_pos h, List.map_map]
    refine List.map_congr_left fun p _ => ?_
    show (if p.1 = n then (p.1, x) else p).1 = p.1
    split <;> rfl
  · refine .inr ⟨fun z => ?_, if_neg h⟩
    obtain ⟨p, hp, e⟩ := List.mem_map.mp z
    exact h (List.any_eq_true.mpr ⟨p, hp, decide_eq_true e⟩)
theorem mem_ptA {l : List (Nat × α)} {n : Nat} {x : α} {p : Nat × α} (h : p ∈ ptA l n x) : p ∈ l ∨ p = (n, x) := by
  unfold ptA at h
  split at h
  · obtain ⟨q, hq, e⟩ := List.mem_map.mp h
    by_cases c : q.1 = n
    · rw [if_pos c] at e
      exact .inr (by rw [← e, c])
    · rw [if_neg c] at e
      exact .inl (e ▸ hq)
  · exact (List.mem_append.mp h).imp id List.mem_singleton.mp
theorem ptA_mem {l : List (Nat × α)} {n : Nat} {x : α} : (n, x) ∈ ptA l n x := lkA_mem (by rw [lkA_pt, if_pos rfl])
/-- keys, each once, below a bound -/
def WfA (k : Nat) (l : List (Nat × α)) : Prop := (l.map (·.1)).Nodup ∧ ∀ p ∈ l, p.1 < k
theorem WfA.nil {k : Nat} : WfA k ([] : List (Nat × α)) := ⟨List.nodup_nil, fun _ h => nomatch h⟩
theorem WfA.pt {k : Nat} {l : List (Nat × α)} {n : Nat} {x : α} (w : WfA k l) (h : n < k) : WfA k (ptA l n x) := by
  refine ⟨?_, fun p hp => ?_⟩
  · rcases ptA_keys l n x with e | ⟨c, e⟩
    · rw [e]
      exact w.1
    · rw [e, List.map_append, List.nodup_append]
      exact ⟨w.1, by simp, fun a ha b hb z => c (by
        have : b = n := List.mem_singleton.mp hb
        rw [← this, ← z]
        exact ha)⟩
  · rcases mem_ptA hp with h2 | rfl
    · exact w.2 p h2
    · exact h
theorem WfA.len {k : Nat} {l : List (Nat × α)} (w : WfA k l) : l.length ≤ k := by
  have := pigeon k (l.map (·.1)) w.1 fun x hx => by
    obtain ⟨p, hp, rfl⟩ := List.mem_map.mp hx
    exact w.2 p hp
  rw [List.length_map] at this
  exact this
theorem ptA_comm {l : List (Nat × α)} {n m : Nat} {x y : α} (h : n ≠ m) (hn : (lkA l n).isSome) (hm : (lkA l m).isSome) : ptA (ptA l n x) m y = ptA (ptA l m y) n x := by
  have a1 : (l.any fun p => decide (p.1 = n)) = true := by rw [lkA_any]; exact hn
  have a2 : (l.any fun p => decide (p.1 = m)) = true := by rw [lkA_any]; exact hm
  have b1 : ((ptA l n x).any fun p => decide (p.1 = m)) = true := by rw [lkA_any, lkA_pt, if_neg h.symm]; exact hm
  have b2 : ((ptA l m y).any fun p => decide (p.1 = n)) = true := by rw [lkA_any, lkA_pt, if_neg h]; exact hn
  rw [ptA, if_pos b1, ptA, if_pos a1, ptA, if_pos b2, ptA, if_pos a2, List.map_map, List.map_map]
  refine List.map_congr_left fun p _ => ?_
  show (if (if p.1 = n then (p.1, x) else p).1 = m then ((if p.1 = n then (p.1, x) else p).1, y) else (if p.1 = n then (p.1, x) else p)) = if (if p.1 = m then (p.1, y) else p).1 = n then ((if p.1 = m then (p.1, y) else p).1, x) else (if p.1 = m then (p.1, y) else p)
  by_cases c1 : p.1 = n
  · have c2 : ¬ p.1 = m := fun z => h (c1.symm.trans z)
    simp only [if_pos c1, if_neg c2]
  · by_cases c2 : p.1 = m
    · simp only [if_neg c1, if_pos c2]
    · simp only [if_neg c1, if_neg c2]
theorem ptA_pt {l : List (Nat × α)} {n : Nat} {x y : α} : ptA (ptA l n x) n y = ptA l n y := by
  have b1 : ((ptA l n x).any fun p => decide (p.1 = n)) = true := by rw [lkA_any, lkA_pt, if_pos rfl]; rfl
  rw [ptA, if_pos b1]
  by_cases a1 : (l.any fun p => decide (p.1 = n)) = true
  · rw [ptA, if_pos a1, ptA, if_pos a1, List.map_map]
    refine List.map_congr_left fun p _ => ?_
    show (if (if p.1 = n then (p.1, x) else p).1 = n then ((if p.1 = n then (p.1, x) else p).1, y) else (if p.1 = n then (p.1, x) else p)) = _
    by_cases c1 : p.1 = n
    · simp only [if_pos c1]
    · simp only [if_neg c1]
  · rw [ptA, if_neg a1, ptA, if_neg a1, List.map_append]
    rw [List.map_congr_left (g := id) fun q hq => ?_, List.map_id]
    · show l ++ [if n = n then (n, y) else (n, x)] = _
      rw [if_pos rfl]
    · by_cases f : q.1 = n
      · exact absurd (List.any_eq_true.mpr ⟨q, hq, decide_eq_true f⟩) a1
      · rw [if_neg f]
        rfl
/-- as a dict -/
def kvA (f : α → V) (l : List (Nat × α)) : List (Key × V) := l.map fun p => ((.inl (p.1 : Int) : Key), f p.2)
theorem kvA_len {f : α → V} {l : List (Nat × α)} : (kvA f l).length = l.length := List.length_map ..
theorem inl_nat {a b : Nat} : ((.inl (a : Int) : Key) = .inl (b : Int)) ↔ a = b := ⟨fun h => by have := Sum.inl.inj h; omega, fun h => by rw [h]⟩
theorem kvA_lk {f : α → V} {n : Nat} : ∀ {l : List (Nat × α)}, valV (kvA f l) (.inl (n : Int)) = (lkA l n).map f
  | [] => rfl
  | p :: l => by
    rw [lkA_cons]
    by_cases c : p.1 = n
    · rw [if_pos c]
      exact valV_pos (inl_nat.mpr c)
    · rw [if_neg c]
      show valV (((.inl (p.1 : Int) : Key), f p.2) :: kvA f l) _ = _
      rw [valV_neg (fun z => c (inl_nat.mp z))]
      exact kvA_lk
theorem kvA_pt {f : α → V} {n : Nat} {x : α} {l : List (Nat × α)} : kvA f (ptA l n x) = putK (kvA f l) (.inl (n : Int)) (f x) := by
  have e : ((kvA f l).any fun kv => decide (kv.1 = (.inl (n : Int) : Key))) = l.any fun p => decide (p.1 = n) := by
    unfold kvA
    rw [List.any_map]
    congr 1
    funext p
    exact decide_eq_decide.mpr inl_nat
  unfold putK
  rw [e]
  unfold ptA
  split
  · unfold kvA
    rw [List.map_map, List.map_map]
    refine List.map_congr_left fun p _ => ?_
    show ((.inl (((if p.1 = n then (p.1, x) else p).1 : Nat) : Int) : Key), f (if p.1 = n then (p.1, x) else p).2) = if (.inl (p.1 : Int) : Key) = .inl (n : Int) then ((.inl (p.1 : Int) : Key), f x) else ((.inl (p.1 : Int) : Key), f p.2)
    by_cases c : p.1 = n
    · rw [if_pos c, if_pos (inl_nat.mpr c)]
    · rw [if_neg c, if_neg fun z => c (inl_nat.mp z)]
  · unfold kvA
    rw [List.map_append]
    rfl
end

/-! the machine, plain -/
structure JB where
  p : LP
  at_ : Nat
  sh : List (Nat × Int)
  tr : List (Nat × List Int)
  ans : Option NP
structure MC where
  bx : List (Nat × Int)
  js : List JB
  told : List Int
def MC.has (c : MC) : NP → Option Int
  | .b n => lkA c.bx n
  | .s n => match c.js with
    | j :: _ => lkA j.sh n
    | [] => none
def MC.gets (c : MC) (x : Int) : NP → MC
  | .b n => ⟨ptA c.bx n x, c.js, c.told⟩
  | .s n => match c.js with
    | j :: r => ⟨c.bx, ⟨j.p, j.at_, ptA j.sh n x, j.tr, j.ans⟩ :: r, c.told⟩
    | [] => c
def MC.tray (c : MC) (t : Nat) : Option (List Int) := match c.js with
  | j :: _ => lkA j.tr t
  | [] => none
def MC.setT (c : MC) (t : Nat) (l : List Int) : MC := match c.js with
  | j :: r => ⟨c.bx, ⟨j.p, j.at_, j.sh, ptA j.tr t l, j.ans⟩ :: r, c.told⟩
  | [] => c
def MC.goto (c : MC) (k : Nat) : MC := match c.js with
  | j :: r => ⟨c.bx, ⟨j.p, k, j.sh, j.tr, j.ans⟩ :: r, c.told⟩
  | [] => c
def MC.next (c : MC) : MC := match c.js with
  | j :: _ => c.goto (j.at_ + 1)
  | [] => c
def MC.tell (c : MC) (x : Int) : MC := ⟨c.bx, c.js, c.told ++ [x]⟩
def putIns (c : MC) : List (Option NP) → List Int → MC
  | some p :: r, x :: xs => putIns (c.gets x p) r xs
  | none :: r, _ :: xs => putIns c r xs
  | _, _ => c
def MC.enter (c : MC) (p : LP) (ans : Option NP) (vs : List Int) : MC := putIns ⟨c.bx, ⟨p, 0, [], [], ans⟩ :: c.js, c.told⟩ p.ins vs
/-- several places at once -/
inductive HasL (c : MC) : List NP → List Int → Prop where
  | nil : HasL c [] []
  | cons {p : NP} {x : Int} {ps : List NP} {xs : List Int} : c.has p = some x → HasL c ps xs → HasL c (p :: ps) (x :: xs)
inductive LE where
  | gave (n : Int)
  | place
  | div
  | fail (n : Nat)
  | on
/-- a row done -/
inductive Stp (L : List LP) (c : MC) : LR → MC → Option LE → Prop where
  | num {b : Nat} {n : Int} : Stp L c (.num b n) (c.gets n (.b b)) none
  | no {b a : Nat} {x : Int} : c.has (.b a) = some x → Stp L c (.no b a) (c.gets (b2n (decide (x = 0))) (.b b)) none
  | op {w : Str} {b a d : Nat} {x y v : Int} : c.has (.b a) = some x → c.has (.b d) = some y → rck w x y = some v → Stp L c (.op w b a d) (c.gets v (.b b)) none
  | op0 {w : Str} {b a d : Nat} {x y : Int} : c.has (.b a) = some x → c.has (.b d) = some y → rck w x y = none → Stp L c (.op w b a d) c (some .div)
  | tell {b : Nat} {x : Int} : c.has (.b b) = some x → Stp L c (.tell b) (c.tell x) none
  | mv {p q : NP} {x : Int} : c.has q = some x → Stp L c (.mv p q) (c.gets x p) none
  | sw {p q : NP} {x y : Int} : c.has p = some x → c.has q = some y → Stp L c (.sw p q) ((c.gets y p).gets x q) none
  | tmv {a b : Nat} {l : List Int} : c.tray b = some l → Stp L c (.tmv a b) (c.setT a l) none
  | tsw {a b : Nat} {l m : List Int} : c.tray a = some l → c.tray b = some m → Stp L c (.tsw a b) ((c.setT a m).setT b l) none
  | fresh {t s : Nat} : Stp L c (.fresh t s) (c.setT t (List.replicate s 0)) none
  | get {b t a : Nat} {l : List Int} {x : Int} : c.tray t = some l → c.has (.b a) = some x → 0 ≤ x → x < l.length → Stp L c (.get b t a) (c.gets (l.getD x.toNat 0) (.b b)) none
  | get0 {b t a : Nat} {l : List Int} {x : Int} : c.tray t = some l → c.has (.b a) = some x → ¬ (0 ≤ x ∧ x < l.length) → Stp L c (.get b t a) c (some .place)
  | put {t a b : Nat} {l : List Int} {x y : Int} : c.tray t = some l → c.has (.b a) = some x → c.has (.b b) = some y → 0 ≤ x → x < l.length → Stp L c (.put t a b) (c.setT t (l.set x.toNat y)) none
  | put0 {t a b : Nat} {l : List Int} {x y : Int} : c.tray t = some l → c.has (.b a) = some x → c.has (.b b) = some y → ¬ (0 ≤ x ∧ x < l.length) → Stp L c (.put t a b) c (some .place)
  | jump {r : Nat} : Stp L c (.jump r) (c.goto r) none
  | cho {b r1 r2 : Nat} {x : Int} : c.has (.b b) = some x → Stp L c (.cho b r1 r2) (c.goto (if x = 0 then r2 else r1)) none
  | call {n : Nat} {ps : List NP} {ans : NP} {q : LP} {vs : List Int} : L[n]? = some q → HasL c ps vs → q.ins.length = ps.length → Stp L c (.call n ps ans) (c.enter q (some ans) vs) none
  | give0 {b : Nat} {x : Int} {j : JB} : c.has (.b b) = some x → c.js = [j] → Stp L c (.give b) ⟨c.bx, [], c.told⟩ (some (.gave x))
  | give {b : Nat} {x : Int} {j i : JB} {r : List JB} {p : NP} : c.has (.b b) = some x → c.js = j :: i :: r → j.ans = some p → Stp L c (.give b) ((⟨c.bx, i :: r, c.told⟩ : MC).gets x p) none
  | fail {n : Nat} : Stp L c (.fail n) c (some (.fail n))
def MC.row (c : MC) : Option LR := match c.js with
  | j :: _ => j.p.rows[j.at_]?
  | [] => none
/-- gone on with, at most so many rows: what was told, how it ended, how many rows -/
inductive Rn (L : List LP) : Nat → MC → List Int → LE → Nat → Prop where
  | zero {c : MC} : Rn L 0 c c.told .on 0
  | stop {n : Nat} {c c' : MC} {r : LR} {e : LE} : c.row = some r → Stp L c.next r c' (some e) → Rn L (n + 1) c c'.told e 1
  | go {n : Nat} {c c' : MC} {r : LR} {t : List Int} {e : LE} {k : Nat} : c.row = some r → Stp L c.next r c' none → Rn L n c' t e k → Rn L (n + 1) c t e (k + 1)
/-! what may be in it -/
structure JB.Ok (L : List LP) (nb : Nat) (j : JB) : Prop where
  p : j.p ∈ L
  sw : WfA 3 j.sh
  sv : ∀ x ∈ j.sh, In32 x.2
  tw : WfA 3 j.tr
  tv : ∀ x ∈ j.tr, x.2.length ≤ 8 ∧ ∀ y ∈ x.2, In32 y
  ans : ∀ p, j.ans = some p → p.lt nb
structure MC.Ok (L : List LP) (nb : Nat) (c : MC) : Prop where
  bw : WfA nb c.bx
  bv : ∀ x ∈ c.bx, In32 x.2
  js : ∀ j ∈ c.js, j.Ok L nb
/-- a row that may stand there -/
def RowOk (nb : Nat) (r : LR) : Prop := (∀ p ∈ r.gv, p.lt nb) ∧ r.fine
/-- last rows that may be done -/
structure LsOk (nb : Nat) (L : List LP) : Prop where
  r : ∀ q ∈ L, ∀ r ∈ q.rows, RowOk nb r
  i : ∀ q ∈ L, ∀ o ∈ q.ins, ∀ p, o = some p → p.lt nb
  l : ∀ q ∈ L, q.ins.length ≤ 3
theorem MC.Ok.has {L : List LP} {nb : Nat} {c : MC} (h : c.Ok L nb) {p : NP} {x : Int} (e : c.has p = some x) : In32 x ∧ p.lt nb := by
  cases p with
  | b n => exact ⟨h.bv _ (lkA_mem e), h.bw.2 _ (lkA_mem e)⟩
  | s n =>
    unfold MC.has at e
    dsimp only at e
    cases ej : c.js with
    | nil => rw [ej] at e; cases e
    | cons j r =>
      rw [ej] at e
      have hj := h.js j (by rw [ej]; exact List.mem_cons_self ..)
      exact ⟨hj.sv _ (lkA_mem e), hj.sw.2 _ (lkA_mem e)⟩
theorem MC.Ok.gets {L : List LP} {nb : Nat} {c : MC} (h : c.Ok L nb) {p : NP} {x : Int} (l : p.lt nb) (i : In32 x) : (c.gets x p).Ok L nb := by
  cases p with
  | b n => exact ⟨h.bw.pt l, fun y hy => (mem_ptA hy).elim (h.bv y) fun e => by rw [e]; exact i, h.js⟩
  | s n =>
    obtain ⟨bx, js, told⟩ := c
    cases js with
    | nil => exact h
    | cons j r =>
      have hj := h.js j (List.mem_cons_self ..)
      refine ⟨h.bw, h.bv, fun k hk => ?_⟩
      rcases List.mem_cons.mp hk with rfl | hk
      · exact ⟨hj.p, hj.sw.pt l, fun y hy => (mem_ptA hy).elim (hj.sv y) fun e => by rw [e]; exact i, hj.tw, hj.tv, hj.ans⟩
      · exact h.js k (List.mem_cons_of_mem _ hk)
theorem MC.Ok.tray {L : List LP} {nb : Nat} {c : MC} (h : c.Ok L nb) {t : Nat} {l : List Int} (e : c.tray t = some l) : l.length ≤ 8 ∧ (∀ y ∈ l, In32 y) ∧ t < 3 := by
  obtain ⟨bx, js, told⟩ := c
  cases js with
  | nil => cases e
  | cons j r =>
    have hj := h.js j (List.mem_cons_self ..)
    have m := lkA_mem e
    exact ⟨(hj.tv _ m).1, (hj.tv _ m).2, hj.tw.2 _ m⟩
theorem MC.Ok.setT {L : List LP} {nb : Nat} {c : MC} (h : c.Ok L nb) {t : Nat} {l : List Int} (ht : t < 3) (l8 : l.length ≤ 8) (i : ∀ y ∈ l, In32 y) : (c.setT t l).Ok L nb := by
  obtain ⟨bx, js, told⟩ := c
  cases js with
  | nil => exact h
  | cons j r =>
    have hj := h.js j (List.mem_cons_self ..)
    refine ⟨h.bw, h.bv, fun k hk => ?_⟩
    rcases List.mem_cons.mp hk with rfl | hk
    · exact ⟨hj.p, hj.sw, hj.sv, hj.tw.pt ht, fun y hy => (mem_ptA hy).elim (hj.tv y) fun e => by rw [e]; exact ⟨l8, i⟩, hj.ans⟩
    · exact h.js k (List.mem_cons_of_mem _ hk)
theorem MC.Ok.goto {L : List LP} {nb : Nat} {c : MC} (h : c.Ok L nb) {k : Nat} : (c.goto k).Ok L nb := by
  obtain ⟨bx, js, told⟩ := c
  cases js with
  | nil => exact h
  | cons j r =>
    have hj := h.js j (List.mem_cons_self ..)
    refine ⟨h.bw, h.bv, fun i hi => ?_⟩
    rcases List.mem_cons.mp hi with rfl | hi
    · exact ⟨hj.p, hj.sw, hj.sv, hj.tw, hj.tv, hj.ans⟩
    · exact h.js i (List.mem_cons_of_mem _ hi)
theorem MC.Ok.next {L : List LP} {nb : Nat} {c : MC} (h : c.Ok L nb) : c.next.Ok L nb := by
  unfold MC.next
  split
  · exact h.goto
  · exact h
theorem MC.Ok.puts {L : List LP} {nb : Nat} : ∀ {ins : List (Option NP)} {vs : List Int} {c : MC}, c.Ok L nb → (∀ o ∈ ins, ∀ p, o = some p → p.lt nb) → (∀ x ∈ vs, In32 x) → (putIns c ins vs).Ok L nb
  | [], _, _, h, _, _ => by unfold putIns; exact h
  | some p :: r, [], _, h, _, _ => by unfold putIns; exact h
  | none :: r, [], _, h, _, _ => by unfold putIns; exact h
  | some p :: r, x :: xs, c, h, a, b => by
    unfold putIns
    exact (h.gets (a _ (List.mem_cons_self ..) p rfl) (b x (List.mem_cons_self ..))).puts (fun o ho => a o (List.mem_cons_of_mem _ ho)) fun y hy => b y (List.mem_cons_of_mem _ hy)
  | none :: r, x :: xs, c, h, a, b => by
    unfold putIns
    exact h.puts (fun o ho => a o (List.mem_cons_of_mem _ ho)) fun y hy => b y (List.mem_cons_of_mem _ hy)
theorem MC.Ok.enter {L : List LP} {nb : Nat} (lo : LsOk nb L) {c : MC} (h : c.Ok L nb) {q : LP} (hq : q ∈ L) {ans : Option NP} (ha : ∀ p, ans = some p → p.lt nb) {vs : List Int} (hv : ∀ x ∈ vs, In32 x) : (c.enter q ans vs).Ok L nb := by
  refine MC.Ok.puts ⟨h.bw, h.bv, fun j hj => ?_⟩ (lo.i q hq) hv
  rcases List.mem_cons.mp hj with rfl | hj
  · exact ⟨hq, .nil, (fun x hx => nomatch hx), .nil, (fun x hx => nomatch hx), ha⟩
  · exact h.js j hj
theorem HasL.in {L : List LP} {nb : Nat} {c : MC} (h : c.Ok L nb) : ∀ {ps : List NP} {vs : List Int}, HasL c ps vs → (∀ x ∈ vs, In32 x) ∧ vs.length = ps.length
  | _, _, .nil => ⟨(fun x hx => nomatch hx), rfl⟩
  | _, _, .cons a t => by
    obtain ⟨i, l⟩ := HasL.in h t
    refine ⟨fun x hx => ?_, by rw [List.length_cons, List.length_cons, l]⟩
    rcases List.mem_cons.mp hx with rfl | hx
    · exact (h.has a).1
    · exact i x hx
theorem Stp.ok {L : List LP} {nb : Nat} (lo : LsOk nb L) {c c' : MC} {r : LR} {e : Option LE} (h : c.Ok L nb) (ro : RowOk nb r) (s : Stp L c r c' e) : c'.Ok L nb := by
  obtain ⟨g, fi⟩ := ro
  cases s with
  | num => exact h.gets (g _ (List.mem_cons_self ..)) fi
  | no a => exact h.gets (g _ (List.mem_cons_self ..)) (b2n_32 _)
  | op a b v => exact h.gets (g _ (List.mem_cons_self ..)) (rck_32 v)
  | op0 => exact h
  | tell a => exact ⟨h.bw, h.bv, h.js⟩
  | mv a => exact h.gets (g _ (List.mem_cons_self ..)) (h.has a).1
  | sw a b => exact (h.gets (h.has a).2 (h.has b).1).gets (h.has b).2 (h.has a).1
  | tmv a =>
    obtain ⟨a1, a2, a3⟩ := h.tray a
    exact h.setT fi.1 a1 a2
  | tsw a b =>
    obtain ⟨a1, a2, a3⟩ := h.tray a
    obtain ⟨b1, b2, b3⟩ := h.tray b
    exact (h.setT a3 b1 b2).setT b3 a1 a2
  | fresh =>
    refine h.setT fi.1 (by rw [List.length_replicate]; exact fi.2) fun y hy => ?_
    rw [List.eq_of_mem_replicate hy]
    exact ⟨by decide, by decide⟩
  | get a b c1 c2 => exact h.gets (g _ (List.mem_cons_self ..)) (getD_all (h.tray a).2.1 c1 c2)
  | get0 => exact h
  | put a b c1 d1 d2 =>
    obtain ⟨a1, a2, a3⟩ := h.tray a
    exact h.setT a3 (by rw [List.length_set]; exact a1) fun y hy => (List.mem_or_eq_of_mem_set hy).elim (a2 y) fun e => e ▸ (h.has c1).1
  | put0 => exact h
  | jump => exact h.goto
  | cho => exact h.goto
  | call a b c1 => exact h.enter lo (List.mem_of_getElem? a) (fun p hp => by cases hp; exact g _ (List.mem_cons_self ..)) (b.in h).1
  | give0 => exact ⟨h.bw, h.bv, fun j hj => nomatch hj⟩
  | @give b x j i r p a b d =>
    have h2 : MC.Ok L nb ⟨c.bx, i :: r, c.told⟩ := ⟨h.bw, h.bv, fun k hk => h.js k (by rw [b]; exact List.mem_cons_of_mem _ hk)⟩
    exact h2.gets ((h.js _ (by rw [b]; exact List.mem_cons_self ..)).ans _ d) (h.has a).1
  | fail => exact h
theorem MC.Ok.row {L : List LP} {nb : Nat} (lo : LsOk nb L) {c : MC} (h : c.Ok L nb) {r : LR} (e : c.row = some r) : RowOk nb r := by
  obtain ⟨bx, js, told⟩ := c
  cases js with
  | nil => cases e
  | cons j js => exact lo.r _ (h.js j (List.mem_cons_self ..)).p _ (List.mem_of_getElem? e)

/-! drawn last rows come to an end -/
/-- so many rows done -/
inductive Go (L : List LP) : Nat → MC → MC → Prop where
  | refl {c : MC} : Go L 0 c c
  | step {k : Nat} {c c1 c2 : MC} {r : LR} : c.row = some r → Stp L c.next r c1 none → Go L k c1 c2 → Go L (k + 1) c c2
def Fin1 (L : List LP) (c : MC) (t : List Int) (e : LE) : Prop := ∃ r c', c.row = some r ∧ Stp L c.next r c' (some e) ∧ c'.told = t
def EndsIn (L : List LP) (k : Nat) (c : MC) (t : List Int) (e : LE) : Prop := ∃ m c1, k = m + 1 ∧ Go L m c c1 ∧ Fin1 L c1 t e
def Out (L : List LP) (N : Nat) (c : MC) (Pc : MC → Prop) : Prop := ∃ k, k ≤ N ∧ ((∃ t e, e ≠ .on ∧ EndsIn L k c t e) ∨ ∃ c', Go L k c c' ∧ Pc c')
theorem Go.trans {L : List LP} : ∀ {k m : Nat} {c c1 c2 : MC}, Go L k c c1 → Go L m c1 c2 → Go L (k + m) c c2
  | _, m, _, _, _, .refl, b => by rw [Nat.zero_add]; exact b
  | _, m, _, _, _, .step (k := k) h s a, b => by
    rw [Nat.add_right_comm]
    exact .step h s (a.trans b)
theorem Out.bind {L : List LP} {N M : Nat} {c : MC} {Pc Qc : MC → Prop} (h : Out L N c Pc) (f : ∀ c', Pc c' → Out L M c' Qc) : Out L (N + M) c Qc := by
  obtain ⟨k, hk, h⟩ := h
  rcases h with ⟨t, e, he, x⟩ | ⟨c', g, p⟩
  · exact ⟨k, by omega, .inl ⟨t, e, he, x⟩⟩
  · obtain ⟨m, hm, h⟩ := f c' p
    rcases h with ⟨t, e, he, n, c1, rfl, g2, x⟩ | ⟨c2, g2, p2⟩
    · exact ⟨k + (n + 1), by omega, .inl ⟨t, e, he, k + n, c1, by omega, g.trans g2, x⟩⟩
    · exact ⟨k + m, by omega, .inr ⟨c2, g.trans g2, p2⟩⟩
theorem Out.mono {L : List LP} {N M : Nat} {c : MC} {Pc Qc : MC → Prop} (h : Out L N c Pc) (l : N ≤ M) (f : ∀ c', Pc c' → Qc c') : Out L M c Qc := by
  obtain ⟨k, hk, h⟩ := h
  exact ⟨k, by omega, h.imp id fun ⟨c', g, p⟩ => ⟨c', g, f c' p⟩⟩
theorem Out.here {L : List LP} {c : MC} {Pc : MC → Prop} (h : Pc c) : Out L 0 c Pc := ⟨0, Nat.le_refl _, .inr ⟨c, .refl, h⟩⟩
theorem Out.one {L : List LP} {c c1 : MC} {r : LR} {Pc : MC → Prop} {N : Nat} (h : c.row = some r) (s : Stp L c.next r c1 none) (o : Out L N c1 Pc) : Out L (N + 1) c Pc := by
  obtain ⟨k, hk, x⟩ := o
  rcases x with ⟨t, e, he, m, c2, rfl, g, f⟩ | ⟨c2, g, p⟩
  · exact ⟨m + 1 + 1, by omega, .inl ⟨t, e, he, m + 1, c2, rfl, .step h s g, f⟩⟩
  · exact ⟨k + 1, by omega, .inr ⟨c2, .step h s g, p⟩⟩
theorem Out.stop {L : List LP} {c c1 : MC} {r : LR} {Pc : MC → Prop} {e : LE} (h : c.row = some r) (s : Stp L c.next r c1 (some e)) (he : e ≠ .on) : Out L 1 c Pc :=
  ⟨1, Nat.le_refl _, .inl ⟨_, e, he, 0, c, rfl, .refl, r, c1, h, s, rfl⟩⟩
/-- what has something -/
def KnN (c : MC) (kn : List NP) : Prop := ∀ p ∈ kn, (c.has p).isSome = true
def KnT (c : MC) (tr : List Nat) : Prop := ∀ t ∈ tr, (c.tray t).isSome = true
def MoB (c c' : MC) : Prop := ∀ n, (lkA c.bx n).isSome = true → (lkA c'.bx n).isSome = true
theorem MoB.refl {c : MC} : MoB c c := fun _ h => h
theorem MoB.trans {a b c : MC} (h : MoB a b) (k : MoB b c) : MoB a c := fun n e => k n (h n e)
/-- at a row of a part, jobs behind it -/
structure AtR (c : MC) (q : LP) (k : Nat) (ans : Option NP) (rest : List JB) : Prop where
  j : ∃ sh tr, c.js = ⟨q, k, sh, tr, ans⟩ :: rest
theorem AtR.row {c : MC} {q : LP} {k : Nat} {ans : Option NP} {rest : List JB} (h : AtR c q k ans rest) : c.row = q.rows[k]? := by
  obtain ⟨sh, tr, e⟩ := h.j
  unfold MC.row
  rw [e]
theorem AtR.next {c : MC} {q : LP} {k : Nat} {ans : Option NP} {rest : List JB} (h : AtR c q k ans rest) : AtR c.next q (k + 1) ans rest := by
  obtain ⟨sh, tr, e⟩ := h.j
  obtain ⟨bx, js, told⟩ := c
  dsimp only at e
  subst e
  exact ⟨sh, tr, rfl⟩
theorem next_has {c : MC} (p : NP) : c.next.has p = c.has p := by
  obtain ⟨bx, js, told⟩ := c
  cases js <;> cases p <;> rfl
theorem next_tray {c : MC} (t : Nat) : c.next.tray t = c.tray t := by
  obtain ⟨bx, js, told⟩ := c
  cases js <;> rfl
theorem next_bx {c : MC} : c.next.bx = c.bx := by
  obtain ⟨bx, js, told⟩ := c
  cases js <;> rfl
theorem goto_has {c : MC} (k : Nat) (p : NP) : (c.goto k).has p = c.has p := by
  obtain ⟨bx, js, told⟩ := c
  cases js <;> cases p <;> rfl
theorem goto_tray {c : MC} (k t : Nat) : (c.goto k).tray t = c.tray t := by
  obtain ⟨bx, js, told⟩ := c
  cases js <;> rfl
theorem goto_bx {c : MC} (k : Nat) : (c.goto k).bx = c.bx := by
  obtain ⟨bx, js, told⟩ := c
  cases js <;> rfl
theorem AtR.goto {c : MC} {q : LP} {k : Nat} {ans : Option NP} {rest : List JB} (h : AtR c q k ans rest) (m : Nat) : AtR (c.goto m) q m ans rest := by
  obtain ⟨sh, tr, e⟩ := h.j
  obtain ⟨bx, js, told⟩ := c
  dsimp only at e
  subst e
  exact ⟨sh, tr, rfl⟩
theorem AtR.gets {c : MC} {q : LP} {k : Nat} {ans : Option NP} {rest : List JB} (h : AtR c q k ans rest) (x : Int) (p : NP) : AtR (c.gets x p) q k ans rest := by
  obtain ⟨sh, tr, e⟩ := h.j
  obtain ⟨bx, js, told⟩ := c
  dsimp only at e
  subst e
  cases p with
  | b n => exact ⟨sh, tr, rfl⟩
  | s n => exact ⟨_, tr, rfl⟩
theorem AtR.setT {c : MC} {q : LP} {k : Nat} {ans : Option NP} {rest : List JB} (h : AtR c q k ans rest) (t : Nat) (l : List Int) : AtR (c.setT t l) q k ans rest := by
  obtain ⟨sh, tr, e⟩ := h.j
  obtain ⟨bx, js, told⟩ := c
  dsimp only at e
  subst e
  exact ⟨sh, _, rfl⟩
theorem AtR.tell {c : MC} {q : LP} {k : Nat} {ans : Option NP} {rest : List JB} (h : AtR c q k ans rest) (x : Int) : AtR (c.tell x) q k ans rest := ⟨h.j⟩
theorem gets_has {c : MC} {q : LP} {k : Nat} {ans : Option NP} {rest : List JB} (h : AtR c q k ans rest) {x : Int} {p r : NP} : (c.gets x p).has r = if r = p then some x else c.has r := by
  obtain ⟨sh, tr, e⟩ := h.j
  obtain ⟨bx, js, told⟩ := c
  dsimp only at e
  subst e
  cases p with
  | b n =>
    cases r with
    | b m =>
      show lkA (ptA bx n x) m = if NP.b m = NP.b n then some x else lkA bx m
      rw [lkA_pt]
      by_cases d : m = n
      · rw [if_pos d, if_pos (by rw [d])]
      · rw [if_neg d, if_neg fun z => d (NP.b.inj z)]
    | s m => rw [if_neg fun z => nomatch z]; rfl
  | s n =>
    cases r with
    | b m => rw [if_neg fun z => nomatch z]; rfl
    | s m =>
      show lkA (ptA sh n x) m = if NP.s m = NP.s n then some x else lkA sh m
      rw [lkA_pt]
      by_cases d : m = n
      · rw [if_pos d, if_pos (by rw [d])]
      · rw [if_neg d, if_neg fun z => d (NP.s.inj z)]
theorem gets_tray {c : MC} (x : Int) (p : NP) (t : Nat) : (c.gets x p).tray t = c.tray t := by
  obtain ⟨bx, js, told⟩ := c
  cases p <;> cases js <;> rfl
theorem setT_has {c : MC} (t : Nat) (l : List Int) (p : NP) : (c.setT t l).has p = c.has p := by
  obtain ⟨bx, js, told⟩ := c
  cases p <;> cases js <;> rfl
theorem setT_tray {c : MC} {q : LP} {k : Nat} {ans : Option NP} {rest : List JB} (h : AtR c q k ans rest) {t u : Nat} {l : List Int} : (c.setT t l).tray u = if u = t then some l else c.tray u := by
  obtain ⟨sh, tr, e⟩ := h.j
  obtain ⟨bx, js, told⟩ := c
  dsimp only at e
  subst e
  exact lkA_pt
theorem setT_bx {c : MC} (t : Nat) (l : List Int) : (c.setT t l).bx = c.bx := by
  obtain ⟨bx, js, told⟩ := c
  cases js <;> rfl
theorem gets_mob {c : MC} (x : Int) (p : NP) : MoB c (c.gets x p) := by
  obtain ⟨bx, js, told⟩ := c
  intro n e
  cases p with
  | b m =>
    show (lkA (ptA bx m x) n).isSome = true
    rw [lkA_pt]
    split
    · rfl
    · exact e
  | s m => cases js <;> exact e
theorem KnN.gets {c : MC} {q : LP} {k : Nat} {ans : Option NP} {rest : List JB} (h : AtR c q k ans rest) {x : Int} {p : NP} {kn kn' : List NP} (a : KnN c kn) (b : ∀ r ∈ kn', r ∈ kn ∨ r = p) : KnN (c.gets x p) kn' := fun r hr => by
  rw [gets_has h]
  by_cases z : r = p
  · rw [if_pos z]
    rfl
  · rw [if_neg z]
    exact a r ((b r hr).resolve_right z)
theorem KnT.set {c : MC} {q : LP} {k : Nat} {ans : Option NP} {rest : List JB} (h : AtR c q k ans rest) {t : Nat} {l : List Int} {tr tr' : List Nat} (a : KnT c tr) (b : ∀ u ∈ tr', u ∈ tr ∨ u = t) : KnT (c.setT t l) tr' := fun u hu => by
  rw [setT_tray h]
  by_cases z : u = t
  · rw [if_pos z]
    rfl
  · rw [if_neg z]
    exact a u ((b u hu).resolve_right z)
theorem KnN.of {c : MC} {kn : List NP} (h : KnN c kn) {p : NP} (m : p ∈ kn) : ∃ x, c.has p = some x := Option.isSome_iff_exists.mp (h p m)
theorem KnT.of {c : MC} {tr : List Nat} (h : KnT c tr) {t : Nat} (m : t ∈ tr) : ∃ l, c.tray t = some l := Option.isSome_iff_exists.mp (h t m)
/-- behind a row -/
structure Bhd (c c' : MC) (q : LP) (k : Nat) (ans : Option NP) (rest : List JB) (kn : List NP) (tr : List Nat) : Prop where
  a : AtR c' q k ans rest
  n : KnN c' kn
  t : KnT c' tr
  m : MoB c c'
/-- a row that goes on, done -/
theorem row_go {L : List LP} {nb : Nat} {kn kn' : List NP} {tr tr' : List Nat} {r : LR} (rs : RowS nb kn tr r kn' tr') (fl : r.flat) {c : MC} {q : LP} {k : Nat} {ans : Option NP} {rest : List JB} (h : AtR c q k ans rest) (n : KnN c kn) (t : KnT c tr) :
    (∃ c', Stp L c r c' none ∧ Bhd c c' q k ans rest kn' tr') ∨ ∃ c' e, e ≠ .on ∧ Stp L c r c' (some e) := by
  have box : ∀ {b : Nat} {v : Int}, r.gv = [.b b] → r.gt = [] → Stp L c r (c.gets v (.b b)) none → ∃ c', Stp L c r c' none ∧ Bhd c c' q k ans rest kn' tr' := fun {b v} g1 g2 s =>
    ⟨_, s, h.gets _ _, n.gets h fun p hp => (rs.kn p hp).imp id fun z => by rw [g1] at z; exact List.mem_singleton.mp z, fun u hu => by
      rw [gets_tray]
      exact t u ((rs.tr u hu).resolve_right fun z => by rw [g2] at z; exact nomatch z), gets_mob _ _⟩
  have non : ∀ {c' : MC}, r.gv = [] → r.gt = [] → Stp L c r c' none → AtR c' q k ans rest → (∀ p, c'.has p = c.has p) → (∀ u, (c'.tray u).isSome = true ∨ c'.tray u = c.tray u) → c'.bx = c.bx → ∃ c', Stp L c r c' none ∧ Bhd c c' q k ans rest kn' tr' := fun {c'} g1 g2 s a e1 e2 e3 =>
    ⟨c', s, a, fun p hp => by rw [e1]; exact n p ((rs.kn p hp).resolve_right fun z => by rw [g1] at z; exact nomatch z), fun u hu => by
      rcases e2 u with z | z
      · exact z
      · rw [z]
        exact t u ((rs.tr u hu).resolve_right fun z => by rw [g2] at z; exact nomatch z), fun m e => by rw [e3]; exact e⟩
  have lk := rs.lk
  have lt := rs.lt
  cases r with
  | num b z => exact .inl (box rfl rfl .num)
  | no b a =>
    obtain ⟨x, hx⟩ := n.of (lk _ (List.mem_cons_self ..))
    exact .inl (box rfl rfl (.no hx))
  | op w b a d =>
    obtain ⟨x, hx⟩ := n.of (lk _ (List.mem_cons_self ..))
    obtain ⟨y, hy⟩ := n.of (lk _ (List.mem_cons_of_mem _ (List.mem_cons_self ..)))
    cases e : rck w x y with
    | none => exact .inr ⟨c, .div, (fun z => nomatch z), .op0 hx hy e⟩
    | some v => exact .inl (box rfl rfl (.op hx hy e))
  | tell b =>
    obtain ⟨x, hx⟩ := n.of (lk _ (List.mem_cons_self ..))
    exact .inl (non rfl rfl (.tell hx) (h.tell x) (fun p => by cases p <;> rfl) (fun u => .inr rfl) rfl)
  | mv p p2 =>
    obtain ⟨x, hx⟩ := n.of (lk _ (List.mem_cons_self ..))
    exact .inl ⟨_, .mv hx, h.gets _ _, n.gets h fun s hs => (rs.kn s hs).imp id List.mem_singleton.mp, fun u hu => by
      rw [gets_tray]
      exact t u ((rs.tr u hu).resolve_right fun z => nomatch z), gets_mob _ _⟩
  | sw p p2 =>
    obtain ⟨x, hx⟩ := n.of (lk _ (List.mem_cons_self ..))
    obtain ⟨y, hy⟩ := n.of (lk _ (List.mem_cons_of_mem _ (List.mem_cons_self ..)))
    have n1 : KnN (c.gets y p) kn := n.gets h fun s hs => .inl hs
    exact .inl ⟨_, .sw hx hy, (h.gets _ _).gets _ _, n1.gets (h.gets _ _) fun s hs => .inl ((rs.kn s hs).resolve_right fun z => nomatch z), fun u hu => by
      rw [gets_tray, gets_tray]
      exact t u ((rs.tr u hu).resolve_right fun z => nomatch z), (gets_mob _ _).trans (gets_mob _ _)⟩
  | tmv a b =>
    obtain ⟨l, hl⟩ := t.of (lt _ (List.mem_cons_self ..))
    exact .inl ⟨_, .tmv hl, h.setT _ _, fun p hp => by rw [setT_has]; exact n p ((rs.kn p hp).resolve_right fun z => nomatch z), t.set h fun u hu => (rs.tr u hu).imp id List.mem_singleton.mp, fun m e => by rw [setT_bx]; exact e⟩
  | tsw a b =>
    obtain ⟨l, hl⟩ := t.of (lt _ (List.mem_cons_self ..))
    obtain ⟨m, hm⟩ := t.of (lt _ (List.mem_cons_of_mem _ (List.mem_cons_self ..)))
    have t1 : KnT (c.setT a m) tr := t.set h fun u hu => .inl hu
    exact .inl ⟨_, .tsw hl hm, (h.setT _ _).setT _ _, fun p hp => by rw [setT_has, setT_has]; exact n p ((rs.kn p hp).resolve_right fun z => nomatch z), t1.set (h.setT _ _) fun u hu => .inl ((rs.tr u hu).resolve_right fun z => nomatch z), fun m e => by rw [setT_bx, setT_bx]; exact e⟩
  | fresh a s => exact .inl ⟨_, .fresh, h.setT _ _, fun p hp => by rw [setT_has]; exact n p ((rs.kn p hp).resolve_right fun z => nomatch z), t.set h fun u hu => (rs.tr u hu).imp id List.mem_singleton.mp, fun m e => by rw [setT_bx]; exact e⟩
  | get b u a =>
    obtain ⟨l, hl⟩ := t.of (lt _ (List.mem_cons_self ..))
    obtain ⟨x, hx⟩ := n.of (lk _ (List.mem_cons_self ..))
    by_cases d : 0 ≤ x ∧ x < l.length
    · exact .inl (box rfl rfl (.get hl hx d.1 d.2))
    · exact .inr ⟨c, .place, (fun z => nomatch z), .get0 hl hx d⟩
  | put u a b =>
    obtain ⟨l, hl⟩ := t.of (lt _ (List.mem_cons_self ..))
    obtain ⟨x, hx⟩ := n.of (lk _ (List.mem_cons_self ..))
    obtain ⟨y, hy⟩ := n.of (lk _ (List.mem_cons_of_mem _ (List.mem_cons_self ..)))
    by_cases d : 0 ≤ x ∧ x < l.length
    · exact .inl ⟨_, .put hl hx hy d.1 d.2, h.setT _ _, fun p hp => by rw [setT_has]; exact n p ((rs.kn p hp).resolve_right fun z => nomatch z), t.set h fun u hu => .inl ((rs.tr u hu).resolve_right fun z => nomatch z), fun m e => by rw [setT_bx]; exact e⟩
    · exact .inr ⟨c, .place, (fun z => nomatch z), .put0 hl hx hy d⟩
  | jump r => exact fl.elim
  | cho b r1 r2 => exact fl.elim
  | call c ps ans => exact fl.elim
  | give b => exact fl.elim
  | fail n => exact fl.elim
theorem KnN.next {c : MC} {kn : List NP} (h : KnN c kn) : KnN c.next kn := fun p hp => by rw [next_has]; exact h p hp
theorem KnT.next {c : MC} {tr : List Nat} (h : KnT c tr) : KnT c.next tr := fun p hp => by rw [next_tray]; exact h p hp
theorem next_mob {c : MC} : MoB c c.next := fun n e => by rw [next_bx]; exact e

/-! parts come to an end -/
theorem puts_at {q : LP} {ans : Option NP} {rest : List JB} : ∀ {ins : List (Option NP)} {vs : List Int} {c : MC} {kn : List NP}, AtR c q 0 ans rest → KnN c kn → ins.length = vs.length →
    AtR (putIns c ins vs) q 0 ans rest ∧ KnN (putIns c ins vs) (kn ++ ins.filterMap id) ∧ MoB c (putIns c ins vs)
  | [], [], c, kn, h, n, _ => by unfold putIns; exact ⟨h, by rw [List.filterMap_nil, List.append_nil]; exact n, .refl⟩
  | some p :: r, x :: xs, c, kn, h, n, l => by
    unfold putIns
    obtain ⟨a, b, d⟩ := puts_at (ins := r) (vs := xs) (h.gets x p) (kn := kn ++ [p]) (n.gets h fun y hy => (List.mem_append.mp hy).imp id List.mem_singleton.mp) (by simpa using l)
    refine ⟨a, ?_, (gets_mob _ _).trans d⟩
    rw [List.append_assoc] at b
    exact b
  | none :: r, x :: xs, c, kn, h, n, l => by
    unfold putIns
    exact puts_at h n (by simpa using l)
  | [], _ :: _, _, _, _, _, l => by simp at l
  | some _ :: _, [], _, _, _, _, l => by simp at l
  | none :: _, [], _, _, _, _, l => by simp at l
theorem enter_at {c : MC} {q : LP} {ans : Option NP} {vs : List Int} (l : q.ins.length = vs.length) : AtR (c.enter q ans vs) q 0 ans c.js ∧ KnN (c.enter q ans vs) (q.ins.filterMap id) ∧ MoB c (c.enter q ans vs) := by
  have h : AtR ⟨c.bx, ⟨q, 0, [], [], ans⟩ :: c.js, c.told⟩ q 0 ans c.js := ⟨[], [], rfl⟩
  obtain ⟨a, b, d⟩ := puts_at (ins := q.ins) (vs := vs) h (kn := []) (fun p hp => nomatch hp) l
  exact ⟨a, by rw [List.nil_append] at b; exact b, fun n e => d n e⟩
theorem hasL_of {c : MC} {kn : List NP} (n : KnN c kn) : ∀ {ps : List NP}, (∀ x ∈ ps, x ∈ kn) → ∃ vs, HasL c ps vs
  | [], _ => ⟨[], .nil⟩
  | p :: r, h => by
    obtain ⟨x, hx⟩ := n.of (h p (List.mem_cons_self ..))
    obtain ⟨vs, hv⟩ := hasL_of n fun y hy => h y (List.mem_cons_of_mem _ hy)
    exact ⟨_, .cons hx hv⟩
theorem HasL.len {c : MC} : ∀ {ps : List NP} {vs : List Int}, HasL c ps vs → vs.length = ps.length
  | _, _, .nil => rfl
  | _, _, .cons _ t => by rw [List.length_cons, List.length_cons, t.len]
/-- a part, begun, comes to its end: it all ends, or what it gives is had -/
def PartOk (L : List LP) (q : LP) (N : Nat) : Prop := ∀ c ans rest, AtR c q 0 ans rest → KnN c (q.ins.filterMap id) → (rest = [] ∨ ∃ p, ans = some p) →
  Out L N c fun c' => ∃ i r p x bx told, rest = i :: r ∧ ans = some p ∧ c' = (⟨bx, i :: r, told⟩ : MC).gets x p ∧ ∀ n, (lkA c.bx n).isSome = true → (lkA bx n).isSome = true
def Callee (L : List LP) (hd : List Nat) (M : Nat) : Prop := ∀ (c k : Nat), hd[c]? = some k → ∃ q : LP, L[c]? = some q ∧ q.ins.length = k ∧ PartOk L q M
theorem seg {L : List LP} {nb M : Nat} {hd : List Nat} {kn0 kn : List NP} {tr : List Nat} {pre : List LR} {n : Nat} (cal : Callee L hd M) (s : SLc nb hd kn0 [] pre n kn tr) :
    ∀ (q : LP) (post : List LR), q.rows = pre ++ post → ∀ c ans rest, AtR c q 0 ans rest → KnN c kn0 → Out L (pre.length + n * M) c fun c' => Bhd c c' q pre.length ans rest kn tr := by
  induction s with
  | nil h1 h2 => exact fun q post _ c ans rest a n => (Out.here ⟨a, (fun p hp => n p (h1 p hp)), (fun t ht => nomatch h2 t ht), MoB.refl⟩).mono (Nat.zero_le _) fun _ h => h
  | @snoc rows n kn1 kn2 tr1 tr2 r s rs fl ih =>
    intro q post e c ans rest a k
    rw [List.append_assoc] at e
    refine (Out.bind (M := 1) (ih q ([r] ++ post) e c ans rest a k) fun c1 b => ?_).mono (by rw [List.length_append, List.length_singleton]; omega) fun _ h => h
    have hr : c1.row = some r := by
      rw [b.a.row, e, List.getElem?_append_right (Nat.le_refl _), Nat.sub_self]
      rfl
    rw [List.length_append, List.length_singleton]
    rcases row_go (L := L) rs fl b.a.next b.n.next b.t.next with ⟨c2, s2, b2⟩ | ⟨c2, e2, n2, s2⟩
    · exact .one hr s2 (.here ⟨b2.a, b2.n, b2.t, (b.m.trans next_mob).trans b2.m⟩)
    · exact .stop hr s2 n2
  | @call rows n cn kn1 kn2 tr1 ps an s h1 h2 h3 h4 ih =>
    intro q post e c ans rest a k
    rw [List.append_assoc] at e
    refine (Out.bind (M := M + 1) (ih q ([.call cn ps an] ++ post) e c ans rest a k) fun c1 b => ?_).mono (by rw [List.length_append, List.length_singleton, Nat.add_mul]; omega) fun _ h => h
    have hr : c1.row = some (.call cn ps an) := by
      rw [b.a.row, e, List.getElem?_append_right (Nat.le_refl _), Nat.sub_self]
      rfl
    obtain ⟨q2, e1, e2, po⟩ := cal _ _ h1
    obtain ⟨vs, hv⟩ := hasL_of b.n.next h2
    obtain ⟨a2, k2, m2⟩ := enter_at (c := c1.next) (q := q2) (ans := some an) (vs := vs) (by rw [e2, hv.len])
    refine .one hr (.call e1 hv e2) ((po _ _ _ a2 k2 (.inr ⟨_, rfl⟩)).mono (Nat.le_refl _) fun c' h => ?_)
    obtain ⟨i, r, p, x, bx, told, f1, f2, rfl, f3⟩ := h
    cases f2
    have at1 := b.a.next
    have at2 : AtR ⟨bx, i :: r, told⟩ q (rows.length + 1) ans rest := by
      obtain ⟨sh, tr, z⟩ := at1.j
      exact ⟨sh, tr, by rw [← f1, z]⟩
    have k3 : KnN ⟨bx, i :: r, told⟩ kn1 := fun p hp => by
      have := b.n.next p hp
      cases p with
      | b m => exact f3 m (m2 m this)
      | s m =>
        unfold MC.has at this ⊢
        dsimp only at this ⊢
        rw [f1] at this
        exact this
    have t3 : KnT ⟨bx, i :: r, told⟩ tr1 := fun t ht => by
      have := b.t.next t ht
      unfold MC.tray at this ⊢
      dsimp only at this ⊢
      rw [f1] at this
      exact this
    rw [List.length_append, List.length_singleton]
    refine ⟨at2.gets _ _, k3.gets at2 h4, fun t ht => by rw [gets_tray]; exact t3 t ht, fun m e => ?_⟩
    exact gets_mob (c := ⟨bx, i :: r, told⟩) _ _ m (f3 m (m2 m (next_mob m (b.m m e))))
/-- the loop's state -/
structure LS (c0 : MC) (q : LP) (ans : Option NP) (rest : List JB) (t : Int) (b : Nat) (k : Nat) (z : Int) (c : MC) : Prop where
  a : AtR c q k ans rest
  b0 : lkA c.bx 0 = some z
  b1 : lkA c.bx 1 = some t
  bb : (lkA c.bx b).isSome = true
  m : MoB c0 c
section
variable {c0 c : MC} {q : LP} {ans : Option NP} {rest : List JB} {t z : Int} {b k : Nat}
theorem LS.goto (h : LS c0 q ans rest t b k z c) (m : Nat) : LS c0 q ans rest t b m z (c.next.goto m) :=
  ⟨h.a.next.goto m, by rw [goto_bx, next_bx]; exact h.b0, by rw [goto_bx, next_bx]; exact h.b1, by rw [goto_bx, next_bx]; exact h.bb, fun n e => by rw [goto_bx, next_bx]; exact h.m n e⟩
theorem LS.tell (h : LS c0 q ans rest t b k z c) (x : Int) : LS c0 q ans rest t b (k + 1) z (c.next.tell x) :=
  ⟨h.a.next.tell x, by show lkA c.next.bx 0 = _; rw [next_bx]; exact h.b0, by show lkA c.next.bx 1 = _; rw [next_bx]; exact h.b1, by show (lkA c.next.bx b).isSome = _; rw [next_bx]; exact h.bb, fun n e => by show (lkA c.next.bx n).isSome = _; rw [next_bx]; exact h.m n e⟩
theorem gets_s_bx {c : MC} {x : Int} {n : Nat} : (c.gets x (.s n)).bx = c.bx := by
  obtain ⟨bx, js, told⟩ := c
  cases js <;> rfl
theorem LS.mv (h : LS c0 q ans rest t b k z c) (x : Int) (n : Nat) : LS c0 q ans rest t b (k + 1) z (c.next.gets x (.s n)) :=
  ⟨h.a.next.gets _ _, by rw [gets_s_bx, next_bx]; exact h.b0, by rw [gets_s_bx, next_bx]; exact h.b1, by rw [gets_s_bx, next_bx]; exact h.bb, fun n e => by rw [gets_s_bx, next_bx]; exact h.m n e⟩
theorem LS.sub (h : LS c0 q ans rest t b k z c) (v : Int) : LS c0 q ans rest t b (k + 1) v (c.next.gets v (.b 0)) :=
  ⟨h.a.next.gets _ _, by show lkA (ptA c.next.bx 0 v) 0 = _; rw [lkA_pt, if_pos rfl], by show lkA (ptA c.next.bx 0 v) 1 = _; rw [lkA_pt, if_neg (by decide), next_bx]; exact h.b1, by
    show (lkA (ptA c.next.bx 0 v) b).isSome = _
    rw [lkA_pt]
    split
    · rfl
    · rw [next_bx]; exact h.bb, h.m.trans (next_mob.trans (gets_mob _ _))⟩
theorem LS.has0 (h : LS c0 q ans rest t b k z c) : c.next.has (.b 0) = some z := by rw [next_has]; exact h.b0
theorem LS.has1 (h : LS c0 q ans rest t b k z c) : c.next.has (.b 1) = some t := by rw [next_has]; exact h.b1
theorem LS.hasb (h : LS c0 q ans rest t b k z c) : ∃ x, c.next.has (.b b) = some x := by rw [next_has]; exact Option.isSome_iff_exists.mp h.bb
theorem rck_sub {t : Int} {m : Nat} (ht : t = 1 ∨ t = -1) (hm : m ≤ 4) : rck "sub" (t * ((m + 1 : Nat) : Int)) t = some (t * (m : Nat)) := by
  have h1 : ¬ ("sub" : Str) = "add" := by decide +kernel
  unfold rck
  rw [if_neg h1, if_pos rfl]
  congr 1
  unfold wr
  rcases ht with rfl | rfl <;> omega
/-- counted down -/
theorem loop_ok {L : List LP} {a : Nat} {bd : List LR} (ht : t = 1 ∨ t = -1) (hbd : bd = bodyA a ∨ bd = bodyB a b) (hrow : ∀ i, i < bd.length → q.rows[a + 1 + i]? = bd[i]?) (hcho : q.rows[a]? = some (.cho 0 (a + 1) (a + 1 + bd.length))) :
    ∀ (m : Nat), m ≤ 4 → ∀ c, LS c0 q ans rest t b a (t * (m : Nat)) c → Out L (7 * m + 1) c fun c' => ∃ z, LS c0 q ans rest t b (a + 1 + bd.length) z c'
  | 0, _, c, h => by
    have hr : c.row = some (.cho 0 (a + 1) (a + 1 + bd.length)) := by rw [h.a.row]; exact hcho
    have e0 : t * ((0 : Nat) : Int) = 0 := by simp
    refine .one hr (.cho h.has0) (.here ?_)
    rw [if_pos e0]
    exact ⟨_, h.goto _⟩
  | m + 1, hm, c, h => by
    have hr : c.row = some (.cho 0 (a + 1) (a + 1 + bd.length)) := by rw [h.a.row]; exact hcho
    have e0 : ¬ t * ((m + 1 : Nat) : Int) = 0 := by rcases ht with rfl | rfl <;> omega
    have h1 := h.goto (a + 1)
    have tail : ∀ {k : Nat} {c : MC}, LS c0 q ans rest t b k (t * ((m + 1 : Nat) : Int)) c → q.rows[k]? = some (.mv (.s 0) (.b 0)) → q.rows[k + 1]? = some (.op "sub" 0 0 1) → q.rows[k + 2]? = some (.jump a) → Out L (3 + (7 * m + 1)) c fun c' => ∃ z, LS c0 q ans rest t b (a + 1 + bd.length) z c' := fun {k c} h r1 r2 r3 => by
      have h2 := h.mv (t * ((m + 1 : Nat) : Int)) 0
      have h3 := h2.sub (t * (m : Nat))
      have h4 := h3.goto a
      exact (Out.one (by rw [h.a.row]; exact r1) (.mv h.has0) (.one (by rw [h2.a.row]; exact r2) (.op h2.has0 h2.has1 (rck_sub ht (by omega))) (.one (by rw [h3.a.row]; exact r3) .jump (loop_ok ht hbd hrow hcho m (by omega) _ h4)))).mono (by omega) fun _ h => h
    have s1 : Stp L c.next (.cho 0 (a + 1) (a + 1 + bd.length)) (c.next.goto (a + 1)) none := by
      have := Stp.cho (L := L) (r1 := a + 1) (r2 := a + 1 + bd.length) h.has0
      rw [if_neg e0] at this
      exact this
    have h2 := h1.tell (t * ((m + 1 : Nat) : Int))
    rcases hbd with rfl | rfl
    · have r0 := hrow 0 (by show 0 < 4; decide)
      have r1 := hrow 1 (by show 1 < 4; decide)
      have r2 := hrow 2 (by show 2 < 4; decide)
      have r3 := hrow 3 (by show 3 < 4; decide)
      exact (Out.one hr s1 (.one (by rw [h1.a.row]; exact r0) (.tell h1.has0) (tail h2 r1 r2 r3))).mono (by omega) fun _ h => h
    · have r0 := hrow 0 (by show 0 < 6; decide)
      have r1 := hrow 1 (by show 1 < 6; decide)
      have r2 := hrow 2 (by show 2 < 6; decide)
      have r3 := hrow 3 (by show 3 < 6; decide)
      have r4 := hrow 4 (by show 4 < 6; decide)
      have r5 := hrow 5 (by show 5 < 6; decide)
      obtain ⟨x, hx⟩ := h2.hasb
      have s2 := Stp.cho (L := L) (r1 := a + 3) (r2 := a + 4) hx
      by_cases cx : x = 0
      · rw [if_pos cx] at s2
        have h3 := h2.goto (a + 4)
        exact (Out.one hr s1 (.one (by rw [h1.a.row]; exact r0) (.tell h1.has0) (.one (by rw [h2.a.row]; exact r1) s2 (tail h3 r3 r4 r5)))).mono (by omega) fun _ h => h
      · rw [if_neg cx] at s2
        have h3 := h2.goto (a + 3)
        have h4 := h3.tell t
        exact (Out.one hr s1 (.one (by rw [h1.a.row]; exact r0) (.tell h1.has0) (.one (by rw [h2.a.row]; exact r1) s2 (.one (by rw [h3.a.row]; exact r2) (.tell h3.has1) (tail h4 r3 r4 r5))))).mono (by omega) fun _ h => h
end
theorem get_app {α : Type} {l m : List α} (i : Nat) : (l ++ m)[l.length + i]? = m[i]? := by
  rw [List.getElem?_append_right (by omega)]
  congr 1
  omega
theorem part_ok {L : List LP} {nb M : Nat} {hd : List Nat} {q : LP} (cal : Callee L hd M) (pd : PDr nb hd q.ins q.rows) : PartOk L q (M + 65) := by
  obtain ⟨pre, bd, n, kn, tr, t, cn, en, er, sl, n1, lp, ht, lc, hbd, hen⟩ := pd.e
  intro c ans rest a k hrest
  have er2 : q.rows = pre ++ ([.num 0 (t * (cn : Nat)), .num 1 t, .cho 0 (pre.length + 3) (pre.length + 3 + bd.length)] ++ (bd ++ [en])) := by rw [er]; simp
  have hg : ∀ i, q.rows[pre.length + i]? = ([.num 0 (t * (cn : Nat)), .num 1 t, .cho 0 (pre.length + 3) (pre.length + 3 + bd.length)] ++ (bd ++ [en]))[i]? := fun i => by rw [er2]; exact get_app i
  have l1 : n * M ≤ M := by
    have : n = 0 ∨ n = 1 := by omega
    rcases this with rfl | rfl <;> omega
  refine (Out.bind (M := 34) (seg cal sl q _ er2 c ans rest a k) fun c1 b => ?_).mono (by omega) fun _ h => h
  have g0 : c1.row = some (.num 0 (t * (cn : Nat))) := by rw [b.a.row]; exact hg 0
  have a2 : AtR (c1.next.gets (t * (cn : Nat)) (.b 0)) q (pre.length + 1) ans rest := b.a.next.gets _ _
  have g1 : (c1.next.gets (t * (cn : Nat)) (.b 0)).row = some (.num 1 t) := by rw [a2.row]; exact hg 1
  have a3 : AtR ((c1.next.gets (t * (cn : Nat)) (.b 0)).next.gets t (.b 1)) q (pre.length + 2) ans rest := a2.next.gets _ _
  have m3 : MoB c ((c1.next.gets (t * (cn : Nat)) (.b 0)).next.gets t (.b 1)) := ((b.m.trans next_mob).trans (gets_mob _ _)).trans (next_mob.trans (gets_mob _ _))
  have x0 : lkA ((c1.next.gets (t * (cn : Nat)) (.b 0)).next.gets t (.b 1)).bx 0 = some (t * (cn : Nat)) := by
    show lkA (ptA (c1.next.gets (t * (cn : Nat)) (.b 0)).next.bx 1 t) 0 = _
    rw [lkA_pt, if_neg (by decide), next_bx]
    show lkA (ptA c1.next.bx 0 _) 0 = _
    rw [lkA_pt, if_pos rfl]
  have x1 : lkA ((c1.next.gets (t * (cn : Nat)) (.b 0)).next.gets t (.b 1)).bx 1 = some t := by
    show lkA (ptA (c1.next.gets (t * (cn : Nat)) (.b 0)).next.bx 1 t) 1 = _
    rw [lkA_pt, if_pos rfl]
  have hb : ∃ bb, (lkA ((c1.next.gets (t * (cn : Nat)) (.b 0)).next.gets t (.b 1)).bx bb).isSome = true ∧ (bd = bodyA (pre.length + 2) ∨ bd = bodyB (pre.length + 2) bb) := by
    rcases hbd with e | ⟨bb, e1, e⟩
    · exact ⟨0, by rw [x0]; rfl, .inl e⟩
    · refine ⟨bb, ?_, .inr e⟩
      rcases e1 with e1 | rfl
      · exact (next_mob.trans (gets_mob _ _)) bb ((next_mob.trans (gets_mob _ _)) bb (b.n _ e1))
      · rw [x0]; rfl
  obtain ⟨bb, hbb, hbd2⟩ := hb
  have ls : LS c q ans rest t bb (pre.length + 2) (t * (cn : Nat)) ((c1.next.gets (t * (cn : Nat)) (.b 0)).next.gets t (.b 1)) := ⟨a3, x0, x1, hbb, m3⟩
  refine (Out.one g0 .num (.one g1 .num (N := 32) ?_))
  have hl := loop_ok (L := L) (c0 := c) (a := pre.length + 2) ht hbd2 (fun i hi => by
    have := hg (3 + i)
    rw [show pre.length + 2 + 1 + i = pre.length + (3 + i) by omega, this, show 3 + i = ([.num 0 (t * (cn : Nat)), .num 1 t, .cho 0 (pre.length + 3) (pre.length + 3 + bd.length)] : List LR).length + i from rfl, get_app, List.getElem?_append_left hi]) (by
    have := hg 2
    rw [show pre.length + 2 + 1 = pre.length + 3 by omega]
    exact this) cn lc _ ls
  refine (Out.bind (M := 1) hl fun c4 h4 => ?_).mono (by omega) fun _ h => h
  obtain ⟨z, h4⟩ := h4
  have g4 : c4.row = some en := by
    rw [h4.a.row, show pre.length + 2 + 1 + bd.length = pre.length + (3 + bd.length) by omega, hg, show 3 + bd.length = ([.num 0 (t * (cn : Nat)), .num 1 t, .cho 0 (pre.length + 3) (pre.length + 3 + bd.length)] : List LR).length + bd.length from rfl, get_app, List.getElem?_append_right (Nat.le_refl _), Nat.sub_self]
    rfl
  have giv : ∀ {b : Nat} {x : Int}, c4.row = some (.give b) → c4.next.has (.b b) = some x → Out L 1 c4 fun c' => ∃ i r p x bx told, rest = i :: r ∧ ans = some p ∧ c' = (⟨bx, i :: r, told⟩ : MC).gets x p ∧ ∀ n, (lkA c.bx n).isSome = true → (lkA bx n).isSome = true := fun {b x} gr hx => by
    obtain ⟨sh, tr, ej⟩ := h4.a.next.j
    cases rest with
    | nil => exact .stop gr (.give0 hx ej) fun z => nomatch z
    | cons i r =>
      obtain ⟨p, rfl⟩ := hrest.resolve_left fun z => nomatch z
      refine .one gr (.give hx ej rfl) (.here ⟨i, r, p, x, _, _, rfl, rfl, rfl, fun n e => ?_⟩)
      rw [next_bx]
      exact h4.m n e
  rcases hen with rfl | rfl | ⟨k, hk, rfl⟩
  · exact giv g4 h4.has0
  · exact giv g4 h4.has1
  · exact .stop g4 .fail fun z => nomatch z

/-! drawn last rows: all of them -/
theorem PartOk.mono {L : List LP} {q : LP} {N M : Nat} (h : PartOk L q N) (l : N ≤ M) : PartOk L q M := fun c ans rest a k r => (h c ans rest a k r).mono l fun _ x => x
theorem parts_ok {nb : Nat} {L : List LP} (h : LDr nb L) : ∀ (n i : Nat), i < n → ∀ q, L[i]? = some q → PartOk L q (65 * (i + 1))
  | 0, i, l, _, _ => absurd l (Nat.not_lt_zero _)
  | n + 1, i, l, q, e => by
    obtain ⟨pd, _⟩ := h.p i q e
    refine (part_ok (M := 65 * i) (fun c k hc => ?_) pd).mono (by omega)
    rw [List.getElem?_map, List.getElem?_take] at hc
    split at hc
    · rename_i ci
      obtain ⟨q2, e2, e3⟩ := Option.map_eq_some_iff.mp hc
      exact ⟨q2, e2, e3, (parts_ok h n c (by omega) q2 e2).mono (by omega)⟩
    · cases hc
theorem slc_ok {nb : Nat} {hd : List Nat} {kn kn0 : List NP} {tr tr0 : List Nat} {rows : List LR} {n : Nat} (s : SLc nb hd kn0 tr0 rows n kn tr) : ∀ r ∈ rows, RowOk nb r := by
  induction s with
  | nil => exact fun r h => nomatch h
  | snoc s rs fl ih =>
    intro x hx
    rcases List.mem_append.mp hx with hx | hx
    · exact ih x hx
    · rw [List.mem_singleton.mp hx]
      exact ⟨rs.gv, rs.fine⟩
  | call s h1 h2 h3 h4 ih =>
    intro x hx
    rcases List.mem_append.mp hx with hx | hx
    · exact ih x hx
    · rw [List.mem_singleton.mp hx]
      exact ⟨fun p hp => List.mem_singleton.mp hp ▸ h3, trivial⟩
theorem pdr_ok {nb : Nat} {hd : List Nat} {ins : List (Option NP)} {rows : List LR} (nb2 : 2 ≤ nb) (pd : PDr nb hd ins rows) : ∀ r ∈ rows, RowOk nb r := by
  obtain ⟨pre, bd, n, kn, tr, t, cn, en, er, sl, n1, lp, ht, lc, hbd, hen⟩ := pd.e
  have t32 : ∀ m : Nat, m ≤ 4 → In32 (t * (m : Nat)) := fun m hm => by
    unfold In32
    rcases ht with rfl | rfl <;> omega
  have b0 : RowOk nb (.num 0 (t * (cn : Nat))) := ⟨fun p hp => List.mem_singleton.mp hp ▸ (show 0 < nb by omega), t32 cn lc⟩
  have b1 : RowOk nb (.num 1 t) := ⟨fun p hp => List.mem_singleton.mp hp ▸ (show 1 < nb by omega), by
    rcases ht with rfl | rfl <;> exact ⟨by decide, by decide⟩⟩
  have non : ∀ {r : LR}, r.gv = [] → r.fine → RowOk nb r := fun g f => ⟨(fun p hp => by rw [g] at hp; exact absurd hp List.not_mem_nil), f⟩
  have s0 : RowOk nb (.mv (.s 0) (.b 0)) := ⟨fun p hp => List.mem_singleton.mp hp ▸ (show 0 < 3 by decide), trivial⟩
  have o0 : RowOk nb (.op "sub" 0 0 1) := ⟨fun p hp => List.mem_singleton.mp hp ▸ (show 0 < nb by omega), by show ("sub" : Str) ∈ wds; decide +kernel⟩
  have hb : ∀ r ∈ bd, RowOk nb r := by
    rcases hbd with rfl | ⟨b, _, rfl⟩
    · intro r hr
      simp only [bodyA, List.mem_cons, List.not_mem_nil, or_false] at hr
      rcases hr with rfl | rfl | rfl | rfl
      · exact non rfl trivial
      · exact s0
      · exact o0
      · exact non rfl trivial
    · intro r hr
      simp only [bodyB, List.mem_cons, List.not_mem_nil, or_false] at hr
      rcases hr with rfl | rfl | rfl | rfl | rfl | rfl
      · exact non rfl trivial
      · exact non rfl trivial
      · exact non rfl trivial
      · exact s0
      · exact o0
      · exact non rfl trivial
  intro r hr
  rw [er] at hr
  rcases List.mem_append.mp hr with hr | hr
  · rcases List.mem_append.mp hr with hr | hr
    · rcases List.mem_append.mp hr with hr | hr
      · exact slc_ok sl r hr
      · simp only [List.mem_cons, List.not_mem_nil, or_false] at hr
        rcases hr with rfl | rfl
        · exact b0
        · exact b1
    · rcases List.mem_cons.mp hr with rfl | hr
      · exact non rfl trivial
      · exact hb r hr
  · rw [List.mem_singleton.mp hr]
    rcases hen with rfl | rfl | ⟨k, hk, rfl⟩
    · exact non rfl trivial
    · exact non rfl trivial
    · exact non rfl hk
theorem LDr.ok {nb : Nat} {L : List LP} (h : LDr nb L) (nb2 : 2 ≤ nb) : LsOk nb L := by
  refine ⟨fun q hq => ?_, fun q hq => ?_, fun q hq => ?_⟩
  · obtain ⟨i, hi, e⟩ := List.mem_iff_getElem.mp hq
    exact pdr_ok nb2 (h.p i q (by rw [List.getElem?_eq_getElem hi, e])).1
  · obtain ⟨i, hi, e⟩ := List.mem_iff_getElem.mp hq
    exact (h.p i q (by rw [List.getElem?_eq_getElem hi, e])).2.2.1
  · obtain ⟨i, hi, e⟩ := List.mem_iff_getElem.mp hq
    exact (h.p i q (by rw [List.getElem?_eq_getElem hi, e])).2.1
def MC.zero : MC := ⟨[], [], []⟩
theorem drawn_end {nb : Nat} {L : List LP} {q : LP} (h : LDr nb (L ++ [q])) {vs : List Int} (l : vs.length = q.ins.length) : ∃ k t e, k ≤ 2000 ∧ e ≠ .on ∧ EndsIn (L ++ [q]) k (MC.zero.enter q none vs) t e := by
  have e1 : (L ++ [q])[L.length]? = some q := by rw [List.getElem?_append_right (Nat.le_refl _), Nat.sub_self]; rfl
  have l3 := h.l
  rw [List.length_append, List.length_singleton] at l3
  obtain ⟨a, k, _⟩ := enter_at (c := MC.zero) (q := q) (ans := none) (vs := vs) l.symm
  obtain ⟨k, hk, o⟩ := parts_ok h (L.length + 1) L.length (Nat.lt_succ_self _) q e1 _ _ _ a k (.inl rfl)
  rcases o with ⟨t, e, he, x⟩ | ⟨c', g, i, r, p, x, bx, told, f, _⟩
  · exact ⟨k, t, e, by omega, he, x⟩
  · cases f
theorem rn_go {L : List LP} : ∀ {m : Nat} {c c1 : MC} {t : List Int} {e : LE}, Go L m c c1 → Fin1 L c1 t e → ∀ n, (m + 1 ≤ n → Rn L n c t e (m + 1)) ∧ (n ≤ m → ∃ t', Rn L n c t' .on n)
  | _, _, _, t, e, .refl, ⟨r, c', h1, h2, h3⟩, n => by
    refine ⟨fun l => ?_, fun l => ?_⟩
    · obtain ⟨n, rfl⟩ : ∃ j, n = j + 1 := ⟨n - 1, by omega⟩
      rw [← h3]
      exact .stop h1 h2
    · have : n = 0 := by omega
      subst this
      exact ⟨_, .zero⟩
  | _, _, _, t, e, .step h1 s g, f, n => by
    cases n with
    | zero => exact ⟨fun l => by omega, fun _ => ⟨_, .zero⟩⟩
    | succ n =>
      obtain ⟨a, b⟩ := rn_go g f n
      refine ⟨fun l => .go h1 s (a (by omega)), fun l => ?_⟩
      obtain ⟨t', x⟩ := b (by omega)
      exact ⟨t', .go h1 s x⟩
theorem rn_ends {L : List LP} {k : Nat} {c : MC} {t : List Int} {e : LE} (h : EndsIn L k c t e) (n : Nat) : 0 < k ∧ (k ≤ n → Rn L n c t e k) ∧ (n < k → ∃ t', Rn L n c t' .on n) := by
  obtain ⟨m, c1, rfl, g, f⟩ := h
  obtain ⟨a, b⟩ := rn_go g f n
  exact ⟨Nat.succ_pos _, a, fun l => b (by omega)⟩

/-! the machine's cells -/
theorem Ow.perm {H0 H : Hp} {M M' : List (Addr × HO)} (w : Ow H0 H M) (p : M.Perm M') : Ow H0 H M' := ⟨w.s, (p.map _).nodup_iff.mp w.n, fun x hx => w.h x (p.mem_iff.mpr hx)⟩
structure GJ where
  o : Addr
  dx : Addr
  sl : Addr
  hl : Addr
  pv : V
  av : V
  p : LP
  at_ : Nat
  sh : List (Nat × Int)
  ts : List (Nat × (Addr × List Int))
  ans : Option NP
def GJ.jb (g : GJ) : JB := ⟨g.p, g.at_, g.sh, g.ts.map fun x => (x.1, x.2.2), g.ans⟩
def trM (ts : List (Nat × (Addr × List Int))) : List (Addr × HO) := ts.map fun x => (x.2.1, .lst (x.2.2.map V.int))
def kvT (ts : List (Nat × (Addr × List Int))) : List (Key × V) := kvA (fun x => V.ref x.1) ts
def mJ (F : GJ → HO) (g : GJ) : List (Addr × HO) := (g.o, F g) :: (g.sl, .dK (kvA V.int g.sh)) :: (g.hl, .dK (kvT g.ts)) :: trM g.ts
structure GM where
  o : Addr
  dx : Addr
  bl : Addr
  jl : Addr
  tl : Addr
  bx : List (Nat × Int)
  js : List GJ
  told : List Int
def GM.mc (G : GM) : MC := ⟨G.bx, G.js.map GJ.jb, G.told⟩
def jrefs (js : List GJ) : List V := (js.map fun g => V.ref g.o).reverse
theorem jrefs_cons {g : GJ} {r : List GJ} : jrefs (g :: r) = jrefs r ++ [.ref g.o] := by simp [jrefs]
theorem jrefs_len {js : List GJ} : (jrefs js).length = js.length := by simp [jrefs]
def mG (R B : HO) (F : GJ → HO) (G : GM) : List (Addr × HO) := (G.o, R) :: (G.bl, B) :: (G.jl, .lst (jrefs G.js)) :: (G.tl, .lst (G.told.map V.int)) :: G.js.flatMap (mJ F)
section
variable {H0 H : Hp} {R B : HO} {F : GJ → HO} {G : GM}
theorem mG_o : (G.o, R) ∈ mG R B F G := List.mem_cons_self ..
theorem mG_b : (G.bl, B) ∈ mG R B F G := List.mem_cons_of_mem _ (List.mem_cons_self ..)
theorem mG_j : (G.jl, HO.lst (jrefs G.js)) ∈ mG R B F G := List.mem_cons_of_mem _ (List.mem_cons_of_mem _ (List.mem_cons_self ..))
theorem mG_t : (G.tl, HO.lst (G.told.map V.int)) ∈ mG R B F G := List.mem_cons_of_mem _ (List.mem_cons_of_mem _ (List.mem_cons_of_mem _ (List.mem_cons_self ..)))
theorem mG_g {g : GJ} {x : Addr × HO} (hg : g ∈ G.js) (hx : x ∈ mJ F g) : x ∈ mG R B F G := List.mem_cons_of_mem _ (List.mem_cons_of_mem _ (List.mem_cons_of_mem _ (List.mem_cons_of_mem _ (List.mem_flatMap.mpr ⟨g, hg, hx⟩))))
theorem mJ_o {g : GJ} : (g.o, F g) ∈ mJ F g := List.mem_cons_self ..
theorem mJ_s {g : GJ} : (g.sl, HO.dK (kvA V.int g.sh)) ∈ mJ F g := List.mem_cons_of_mem _ (List.mem_cons_self ..)
theorem mJ_h {g : GJ} : (g.hl, HO.dK (kvT g.ts)) ∈ mJ F g := List.mem_cons_of_mem _ (List.mem_cons_of_mem _ (List.mem_cons_self ..))
theorem mJ_t {g : GJ} {t : Nat} {a : Addr} {l : List Int} (h : lkA g.ts t = some (a, l)) : (a, HO.lst (l.map V.int)) ∈ mJ F g := List.mem_cons_of_mem _ (List.mem_cons_of_mem _ (List.mem_cons_of_mem _ (List.mem_map.mpr ⟨_, lkA_mem h, rfl⟩)))
theorem one_nd {x : Addr × HO} : (([x] : List (Addr × HO)).map (·.1)).Nodup := by simp
/-- the boxes written -/
theorem Ow.box {B' : HO} (w : Ow H0 H (mG R B F G)) {bx : List (Nat × Int)} : Ow H0 (L2.upd H G.bl B') (mG R B' F { G with bx := bx }) :=
  Ow.upd (X := [(G.o, R)]) (T := [(G.bl, B)]) (T' := [(G.bl, B')]) (Y := (G.jl, .lst (jrefs G.js)) :: (G.tl, .lst (G.told.map V.int)) :: G.js.flatMap (mJ F)) w (.inr (List.mem_cons_self ..)) one_nd (fun x hx => .inr (List.mem_singleton.mp hx)) (List.mem_cons_self ..)
/-- the machine's own cell written -/
theorem Ow.self {R' : HO} (w : Ow H0 H (mG R B F G)) : Ow H0 (L2.upd H G.o R') (mG R' B F G) :=
  Ow.upd (X := []) (T := [(G.o, R)]) (T' := [(G.o, R')]) (Y := (G.bl, B) :: (G.jl, .lst (jrefs G.js)) :: (G.tl, .lst (G.told.map V.int)) :: G.js.flatMap (mJ F)) w (.inr (List.mem_cons_self ..)) one_nd (fun x hx => .inr (List.mem_singleton.mp hx)) (List.mem_cons_self ..)
/-- what was told, written -/
theorem Ow.told {told : List Int} (w : Ow H0 H (mG R B F G)) : Ow H0 (L2.upd H G.tl (.lst (told.map V.int))) (mG R B F { G with told := told }) :=
  Ow.upd (X := [(G.o, R), (G.bl, B), (G.jl, .lst (jrefs G.js))]) (T := [(G.tl, .lst (G.told.map V.int))]) (T' := [(G.tl, .lst (told.map V.int))]) (Y := G.js.flatMap (mJ F)) w (.inr (List.mem_cons_self ..)) one_nd (fun x hx => .inr (List.mem_singleton.mp hx)) (List.mem_cons_self ..)
/-- a job begun -/
theorem Ow.begin (w : Ow H0 H (mG R B F G)) {g : GJ} (hg : Ow H0 H (mJ F g ++ mG R B F G)) : Ow H0 (L2.upd H G.jl (.lst (jrefs (g :: G.js)))) (mG R B F { G with js := g :: G.js }) := by
  have w2 : Ow H0 H ([(G.o, R), (G.bl, B)] ++ [(G.jl, .lst (jrefs G.js))] ++ ((G.tl, .lst (G.told.map V.int)) :: (mJ F g ++ G.js.flatMap (mJ F)))) := hg.perm (by
    show (mJ F g ++ ([(G.o, R), (G.bl, B), (G.jl, .lst (jrefs G.js)), (G.tl, .lst (G.told.map V.int))] ++ G.js.flatMap (mJ F))).Perm ([(G.o, R), (G.bl, B), (G.jl, .lst (jrefs G.js)), (G.tl, .lst (G.told.map V.int))] ++ (mJ F g ++ G.js.flatMap (mJ F)))
    rw [← List.append_assoc, ← List.append_assoc]
    exact List.perm_append_comm.append_right _)
  exact Ow.upd (T' := [(G.jl, .lst (jrefs (g :: G.js)))]) w2 (.inr (List.mem_cons_self ..)) one_nd (fun x hx => .inr (List.mem_singleton.mp hx)) (List.mem_cons_self ..)
/-- a job ended -/
theorem Ow.end_ {g : GJ} {r : List GJ} (w : Ow H0 H (mG R B F G)) (e : G.js = g :: r) : Ow H0 (L2.upd H G.jl (.lst (jrefs r))) (mG R B F { G with js := r }) := by
  have w2 : Ow H0 H ([(G.o, R), (G.bl, B)] ++ [(G.jl, .lst (jrefs G.js))] ++ ((G.tl, .lst (G.told.map V.int)) :: r.flatMap (mJ F))) := w.sub (by
    unfold mG
    rw [e, List.flatMap_cons]
    exact .cons₂ _ (.cons₂ _ (.cons₂ _ (.cons₂ _ (List.sublist_append_right ..)))))
  exact Ow.upd (T' := [(G.jl, .lst (jrefs r))]) w2 (.inr (List.mem_cons_self ..)) one_nd (fun x hx => .inr (List.mem_singleton.mp hx)) (List.mem_cons_self ..)
theorem mG_top {g : GJ} {r : List GJ} (e : G.js = g :: r) : mG R B F G = [(G.o, R), (G.bl, B), (G.jl, .lst (jrefs G.js)), (G.tl, .lst (G.told.map V.int))] ++ mJ F g ++ r.flatMap (mJ F) := by
  unfold mG
  rw [e]
  simp
theorem Ow.mid {X T Y : List (Addr × HO)} (w : Ow H0 H (X ++ T ++ Y)) : (T.map (·.1)).Nodup := by
  have := w.n
  rw [List.map_append, List.map_append, List.nodup_append, List.nodup_append] at this
  exact this.1.2.1
/-- the last job's cell or shelf written -/
theorem Ow.top {g g' : GJ} {r : List GJ} {a : Addr} {o : HO} (w : Ow H0 H (mG R B F G)) (e : G.js = g :: r) (hk : (mJ F g').map (·.1) = (mJ F g).map (·.1)) (ha : a ∈ (mJ F g).map (·.1)) (m : ∀ x ∈ mJ F g', x ∈ mJ F g ∨ x = (a, o)) (i : (a, o) ∈ mJ F g') (ho : g'.o = g.o) : Ow H0 (L2.upd H a o) (mG R B F { G with js := g' :: r }) := by
  rw [mG_top e] at w
  have ej : jrefs (g' :: r) = jrefs G.js := by rw [e, jrefs_cons, jrefs_cons, ho]
  rw [mG_top (G := { G with js := g' :: r }) rfl]
  dsimp only
  rw [ej]
  exact w.upd (.inr ha) (by rw [hk]; exact w.mid) m i
theorem Ow.shelf {g : GJ} {r : List GJ} {sh : List (Nat × Int)} (w : Ow H0 H (mG R B F G)) (e : G.js = g :: r) (hF : F { g with sh := sh } = F g) : Ow H0 (L2.upd H g.sl (.dK (kvA V.int sh))) (mG R B F { G with js := { g with sh := sh } :: r }) :=
  w.top e rfl (List.mem_cons_of_mem _ (List.mem_cons_self ..)) (fun x hx => by
    rcases List.mem_cons.mp hx with rfl | hx
    · exact .inl (by rw [hF]; exact mJ_o)
    rcases List.mem_cons.mp hx with rfl | hx
    · exact .inr rfl
    · exact .inl (List.mem_cons_of_mem _ (List.mem_cons_of_mem _ hx))) mJ_s rfl
theorem Ow.job {g : GJ} {r : List GJ} {k : Nat} (w : Ow H0 H (mG R B F G)) (e : G.js = g :: r) : Ow H0 (L2.upd H g.o (F { g with at_ := k })) (mG R B F { G with js := { g with at_ := k } :: r }) :=
  w.top e rfl (List.mem_cons_self ..) (fun x hx => by
    rcases List.mem_cons.mp hx with rfl | hx
    · exact .inr rfl
    · exact .inl (List.mem_cons_of_mem _ hx)) mJ_o rfl
/-- trays have cells each of their own -/
theorem adr_lk {α : Type} : ∀ {ts : List (Nat × (Addr × α))}, (ts.map (·.1)).Nodup → (∀ n m x y, lkA ts n = some x → lkA ts m = some y → n ≠ m → x.1 ≠ y.1) → (ts.map fun x => x.2.1).Nodup
  | [], _, _ => List.nodup_nil
  | p :: r, k, h => by
    rw [List.map_cons, List.nodup_cons] at k
    rw [List.map_cons, List.nodup_cons]
    have up : ∀ {n x}, lkA r n = some x → n ≠ p.1 := fun hx z => k.1 (by
      rw [← z]
      exact List.mem_map.mpr ⟨_, lkA_mem hx, rfl⟩)
    refine ⟨fun z => ?_, adr_lk k.2 fun n m x y hx hy => h n m x y (by rw [lkA_cons, if_neg fun z => up hx z.symm]; exact hx) (by rw [lkA_cons, if_neg fun z => up hy z.symm]; exact hy)⟩
    obtain ⟨q, hq, e⟩ := List.mem_map.mp z
    have nq : q.1 ≠ p.1 := fun y => k.1 (by rw [← y]; exact List.mem_map.mpr ⟨q, hq, rfl⟩)
    have lq : lkA r q.1 = some q.2 := lkA_of k.2 hq
    exact h q.1 p.1 q.2 p.2 (by rw [lkA_cons, if_neg nq.symm]; exact lq) (by rw [lkA_cons, if_pos rfl]) nq e
where lkA_of {β : Type} : ∀ {l : List (Nat × β)} {q : Nat × β}, (l.map (·.1)).Nodup → q ∈ l → lkA l q.1 = some q.2
  | [], _, _, h => nomatch h
  | p :: r, q, k, h => by
    rw [List.map_cons, List.nodup_cons] at k
    rw [lkA_cons]
    rcases List.mem_cons.mp h with rfl | h
    · rw [if_pos rfl]
    · rw [if_neg fun z => k.1 (by rw [z]; exact List.mem_map.mpr ⟨q, h, rfl⟩)]
      exact lkA_of k.2 h
theorem lk_adr {α : Type} : ∀ {ts : List (Nat × (Addr × α))}, (ts.map fun x => x.2.1).Nodup → ∀ n m x y, lkA ts n = some x → lkA ts m = some y → n ≠ m → x.1 ≠ y.1 := fun {ts} h n m x y hx hy nm e => by
  have mx := lkA_mem hx
  have my := lkA_mem hy
  have key : ∀ {l : List (Nat × (Addr × α))}, (l.map fun x => x.2.1).Nodup → ∀ {p q : Nat × (Addr × α)}, p ∈ l → q ∈ l → p.2.1 = q.2.1 → p = q := fun {l} => by
    induction l with
    | nil => exact fun _ _ _ h => nomatch h
    | cons z r ih =>
      intro n p q hp hq e
      rw [List.map_cons, List.nodup_cons] at n
      rcases List.mem_cons.mp hp with ep | hp2
      · rcases List.mem_cons.mp hq with eq | hq2
        · rw [ep, eq]
        · exact absurd (List.mem_map.mpr ⟨q, hq2, by rw [← e, ep]⟩) n.1
      · rcases List.mem_cons.mp hq with eq | hq2
        · exact absurd (List.mem_map.mpr ⟨p, hp2, by rw [e, eq]⟩) n.1
        · exact ih n.2 hp2 hq2 e
  exact nm (congrArg Prod.fst (key h mx my e))
theorem trM_keys {ts : List (Nat × (Addr × List Int))} : (trM ts).map (·.1) = ts.map fun x => x.2.1 := by
  unfold trM
  rw [List.map_map]
  rfl
/-- the last job's dict of trays written; E: lists new to it -/
theorem Ow.trays {g : GJ} {r : List GJ} {E : List (Addr × HO)} {ts : List (Nat × (Addr × List Int))} (w : Ow H0 H (E ++ mG R B F G)) (e : G.js = g :: r) (hF : F { g with ts := ts } = F g) (nd : (ts.map fun x => x.2.1).Nodup) (m : ∀ x ∈ trM ts, x ∈ trM g.ts ∨ x ∈ E) : Ow H0 (L2.upd H g.hl (.dK (kvT ts))) (mG R B F { G with js := { g with ts := ts } :: r }) := by
  rw [mG_top e] at w
  have ej : jrefs ({ g with ts := ts } :: r) = jrefs G.js := by rw [e, jrefs_cons, jrefs_cons]
  rw [mG_top (G := { G with js := { g with ts := ts } :: r }) rfl]
  dsimp only
  rw [ej]
  have w2 : Ow H0 H ([(G.o, R), (G.bl, B), (G.jl, .lst (jrefs G.js)), (G.tl, .lst (G.told.map V.int))] ++ (E ++ mJ F g) ++ r.flatMap (mJ F)) := w.perm (by
    rw [← List.append_assoc, ← List.append_assoc, ← List.append_assoc]
    exact (List.perm_append_comm.append_right _).append_right _)
  refine w2.upd (.inr ?_) ?_ ?_ mJ_h
  · rw [List.map_append]
    exact List.mem_append_right _ (List.mem_cons_of_mem _ (List.mem_cons_of_mem _ (List.mem_cons_self ..)))
  · have n := w2.mid
    rw [List.map_append, List.nodup_append] at n
    obtain ⟨n1, n2, n3⟩ := n
    have n4 : ([g.o, g.sl, g.hl] ++ (trM g.ts).map (·.1)).Nodup := n2
    rw [List.nodup_append] at n4
    obtain ⟨m1, m2, m3⟩ := n4
    show ([g.o, g.sl, g.hl] ++ (trM ts).map (·.1)).Nodup
    rw [List.nodup_append]
    refine ⟨m1, by rw [trM_keys]; exact nd, fun a ha b hb z => ?_⟩
    obtain ⟨x, hx, rfl⟩ := List.mem_map.mp hb
    rcases m x hx with h | h
    · exact m3 a ha _ (List.mem_map.mpr ⟨x, h, rfl⟩) z
    · exact n3 _ (List.mem_map.mpr ⟨x, h, rfl⟩) _ (show a ∈ [g.o, g.sl, g.hl] ++ (trM g.ts).map (·.1) from List.mem_append_left _ ha) z.symm
  · intro x hx
    rcases List.mem_cons.mp hx with rfl | hx
    · exact .inl (List.mem_append_right _ (by rw [hF]; exact mJ_o))
    rcases List.mem_cons.mp hx with rfl | hx
    · exact .inl (List.mem_append_right _ mJ_s)
    rcases List.mem_cons.mp hx with rfl | hx
    · exact .inr rfl
    · rcases m x hx with h | h
      · exact .inl (List.mem_append_right _ (List.mem_cons_of_mem _ (List.mem_cons_of_mem _ (List.mem_cons_of_mem _ h))))
      · exact .inl (List.mem_append_left _ h)
theorem Ow.adr {g : GJ} {r : List GJ} (w : Ow H0 H (mG R B F G)) (e : G.js = g :: r) : (g.ts.map fun x => x.2.1).Nodup := by
  rw [mG_top e] at w
  have n := w.mid
  have n4 : ([g.o, g.sl, g.hl] ++ (trM g.ts).map (·.1)).Nodup := n
  rw [List.nodup_append, trM_keys] at n4
  exact n4.2.1
theorem pt_same {ts : List (Nat × (Addr × List Int))} {t : Nat} {a : Addr} {l l' : List Int} (h : (ts.map (·.1)).Nodup) (e : lkA ts t = some (a, l)) : kvT (ptA ts t (a, l')) = kvT ts ∧ (ptA ts t (a, l')).map (fun x => x.2.1) = ts.map fun x => x.2.1 := by
  have hany : (ts.any fun p => decide (p.1 = t)) = true := by rw [lkA_any, e]; rfl
  unfold ptA
  rw [if_pos hany]
  have key : ∀ p ∈ ts, p.1 = t → p.2.1 = a := fun p hp z => by
    have := adr_lk.lkA_of h hp
    rw [z, e] at this
    have h2 := (Option.some.inj this)
    rw [← h2]
  refine ⟨?_, ?_⟩
  · unfold kvT kvA
    rw [List.map_map]
    refine List.map_congr_left fun p hp => ?_
    show ((.inl (((if p.1 = t then (p.1, (a, l')) else p).1 : Nat) : Int) : Key), V.ref (if p.1 = t then (p.1, (a, l')) else p).2.1) = _
    by_cases c : p.1 = t
    · rw [if_pos c]
      show ((.inl (p.1 : Int) : Key), V.ref a) = _
      rw [← key p hp c]
    · rw [if_neg c]
  · rw [List.map_map]
    refine List.map_congr_left fun p hp => ?_
    show (if p.1 = t then (p.1, (a, l')) else p).2.1 = _
    by_cases c : p.1 = t
    · rw [if_pos c]
      exact (key p hp c).symm
    · rw [if_neg c]
/-- a tray's list written -/
theorem Ow.tray {g : GJ} {r : List GJ} {t : Nat} {a : Addr} {l l' : List Int} (w : Ow H0 H (mG R B F G)) (e : G.js = g :: r) (k : (g.ts.map (·.1)).Nodup) (hl : lkA g.ts t = some (a, l)) (hF : F { g with ts := ptA g.ts t (a, l') } = F g) : Ow H0 (L2.upd H a (.lst (l'.map V.int))) (mG R B F { G with js := { g with ts := ptA g.ts t (a, l') } :: r }) := by
  obtain ⟨e1, e2⟩ := pt_same (l' := l') k hl
  refine w.top e ?_ (List.mem_map.mpr ⟨_, mJ_t hl, rfl⟩) (fun x hx => ?_) (mJ_t (t := t) (by rw [lkA_pt, if_pos rfl])) rfl
  · show g.o :: g.sl :: g.hl :: (trM (ptA g.ts t (a, l'))).map (·.1) = g.o :: g.sl :: g.hl :: (trM g.ts).map (·.1)
    rw [trM_keys, trM_keys, e2]
  · rcases List.mem_cons.mp hx with rfl | hx
    · exact .inl (by rw [hF]; exact mJ_o)
    rcases List.mem_cons.mp hx with rfl | hx
    · exact .inl mJ_s
    rcases List.mem_cons.mp hx with rfl | hx
    · refine .inl ?_
      show (g.hl, HO.dK (kvT (ptA g.ts t (a, l')))) ∈ mJ F g
      rw [e1]
      exact mJ_h
    · obtain ⟨p, hp, rfl⟩ := List.mem_map.mp hx
      rcases mem_ptA hp with h | rfl
      · exact .inl (List.mem_cons_of_mem _ (List.mem_cons_of_mem _ (List.mem_cons_of_mem _ (List.mem_map.mpr ⟨p, h, rfl⟩))))
      · exact .inr rfl
end

/-! the law's machine -/
def rdk (G : GM) : List (Key × V) := [(.inr "boxes", .ref G.bl), (.inr "jobs", .ref G.jl), (.inr "told", .ref G.tl)]
def jdk (g : GJ) : List (Key × V) := [(.inr "part", g.pv), (.inr "at", .int (g.at_ : Nat)), (.inr "shelf", .ref g.sl), (.inr "tray", .ref g.hl), (.inr "answer", g.av)]
def lF (g : GJ) : HO := .dK (jdk g)
def mL (G : GM) : List (Addr × HO) := mG (.dK (rdk G)) (.dK (kvA V.int G.bx)) lF G
def GD (K : PySem.W.Frag) (HD : Hp) (g : GJ) : Prop := Dp K HD g.pv g.p.d ∧ ∀ p, g.ans = some p → Dp K HD g.av p.d
structure LrAt (K : PySem.W.Frag) (L : List LP) (nb : Nat) (HD H0 H : Hp) (G : GM) (m : Nat) : Prop where
  ow : Ow H0 H (mL G)
  s : Same HD H0
  d : ∀ g ∈ G.js, GD K HD g
  ok : G.mc.Ok L nb
  tb : G.told.length ≤ m
  jb : G.js.length ≤ m + 1
  mb : m ≤ 100000
  n5 : nb ≤ 5
section
variable {P : Program} {w : World} {K : PySem.W.Frag} {mg : Str → Option Value} {base : Heap}
variable {L : List LP} {nb : Nat} {HD H0 H : Hp} {G : GM} {m : Nat}
theorem rdk_b (G : GM) : valV (rdk G) (.inr "boxes") = some (.ref G.bl) := valV_pos rfl
theorem rdk_j (G : GM) : valV (rdk G) (.inr "jobs") = some (.ref G.jl) := (valV_neg (nk (by decide +kernel))).trans (valV_pos rfl)
theorem rdk_t (G : GM) : valV (rdk G) (.inr "told") = some (.ref G.tl) := (valV_neg (nk (by decide +kernel))).trans ((valV_neg (nk (by decide +kernel))).trans (valV_pos rfl))
theorem jdk_p (g : GJ) : valV (jdk g) (.inr "part") = some g.pv := valV_pos rfl
theorem jdk_a (g : GJ) : valV (jdk g) (.inr "at") = some (.int (g.at_ : Nat)) := (valV_neg (nk (by decide +kernel))).trans (valV_pos rfl)
theorem jdk_s (g : GJ) : valV (jdk g) (.inr "shelf") = some (.ref g.sl) := (valV_neg (nk (by decide +kernel))).trans ((valV_neg (nk (by decide +kernel))).trans (valV_pos rfl))
theorem jdk_t (g : GJ) : valV (jdk g) (.inr "tray") = some (.ref g.hl) := (valV_neg (nk (by decide +kernel))).trans ((valV_neg (nk (by decide +kernel))).trans ((valV_neg (nk (by decide +kernel))).trans (valV_pos rfl)))
theorem jdk_w (g : GJ) : valV (jdk g) (.inr "answer") = some g.av := (valV_neg (nk (by decide +kernel))).trans ((valV_neg (nk (by decide +kernel))).trans ((valV_neg (nk (by decide +kernel))).trans ((valV_neg (nk (by decide +kernel))).trans (valV_pos rfl))))
theorem jdk_at (g : GJ) (k : Nat) : putK (jdk g) (.inr "at") (.int (k : Nat)) = jdk { g with at_ := k } := by
  unfold putK
  rw [valV_any, jdk_a, if_pos (show (some _).isSome = true from rfl)]
  unfold jdk
  simp only [List.map_cons, List.map_nil]
  rw [if_neg (nk (by decide +kernel)), if_pos trivial, if_neg (nk (by decide +kernel)), if_neg (nk (by decide +kernel)), if_neg (nk (by decide +kernel))]
theorem LrAt.gb (h : LrAt K L nb HD H0 H G m) : DGet H G.o (.str "boxes") (some (.ref G.bl)) := dget_k (h.ow.get mG_o) (rdk_b G)
theorem LrAt.gj (h : LrAt K L nb HD H0 H G m) : DGet H G.o (.str "jobs") (some (.ref G.jl)) := dget_k (h.ow.get mG_o) (rdk_j G)
theorem LrAt.gt (h : LrAt K L nb HD H0 H G m) : DGet H G.o (.str "told") (some (.ref G.tl)) := dget_k (h.ow.get mG_o) (rdk_t G)
theorem LrAt.sm {H' : Hp} (h : LrAt K L nb HD H0 H G m) (s : Same H H') : LrAt K L nb HD H0 H' G m := ⟨h.ow.sm s, h.s, h.d, h.ok, h.tb, h.jb, h.mb, h.n5⟩
theorem LrAt.wide (h : LrAt K L nb HD H0 H G m) : LrAt K L nb HD (Hp.less H (mL G)) H G m := ⟨h.ow.wide.1, h.s.trans h.ow.wide.2, h.d, h.ok, h.tb, h.jb, h.mb, h.n5⟩
theorem LrAt.narrow {H1 : Hp} (h : LrAt K L nb HD H1 H G m) (s : Same H0 H1) (s0 : Same HD H0) : LrAt K L nb HD H0 H G m := ⟨h.ow.narrow s, s0, h.d, h.ok, h.tb, h.jb, h.mb, h.n5⟩
theorem LrAt.hd (h : LrAt K L nb HD H0 H G m) : Same HD H := h.s.trans h.ow.s
theorem LrAt.last {g : GJ} {r : List GJ} (h : LrAt K L nb HD H0 H G m) (e : G.js = g :: r) : H G.jl = some (.lst (jrefs r ++ [.ref g.o])) := by
  have := h.ow.get mG_j
  rw [e, jrefs_cons] at this
  exact this
theorem LrAt.job {g : GJ} {r : List GJ} (h : LrAt K L nb HD H0 H G m) (e : G.js = g :: r) : H g.o = some (.dK (jdk g)) := h.ow.get (mG_g (by rw [e]; exact List.mem_cons_self ..) mJ_o)
theorem LrAt.shl {g : GJ} {r : List GJ} (h : LrAt K L nb HD H0 H G m) (e : G.js = g :: r) : H g.sl = some (.dK (kvA V.int g.sh)) := h.ow.get (mG_g (by rw [e]; exact List.mem_cons_self ..) mJ_s)
theorem LrAt.trs {g : GJ} {r : List GJ} (h : LrAt K L nb HD H0 H G m) (e : G.js = g :: r) : H g.hl = some (.dK (kvT g.ts)) := h.ow.get (mG_g (by rw [e]; exact List.mem_cons_self ..) mJ_h)
theorem LrAt.tr {g : GJ} {r : List GJ} {t : Nat} {a : Addr} {l : List Int} (h : LrAt K L nb HD H0 H G m) (e : G.js = g :: r) (z : lkA g.ts t = some (a, l)) : H a = some (.lst (l.map V.int)) := h.ow.get (mG_g (by rw [e]; exact List.mem_cons_self ..) (mJ_t z))
theorem LrAt.box (h : LrAt K L nb HD H0 H G m) : H G.bl = some (.dK (kvA V.int G.bx)) := h.ow.get mG_b
theorem LrAt.tld (h : LrAt K L nb HD H0 H G m) : H G.tl = some (.lst (G.told.map V.int)) := h.ow.get mG_t
theorem dget_i {H : Hp} {d : Addr} {α : Type} {f : α → V} {l : List (Nat × α)} {n : Nat} (e : H d = some (.dK (kvA f l))) : DGet H d (.int (n : Nat)) ((lkA l n).map f) := by
  have := DGet.k (k := .inl (n : Int)) e
  rw [kvA_lk] at this
  exact this
theorem dget_i1 {H : Hp} {d : Addr} {α : Type} {f : α → V} {l : List (Nat × α)} {n : Nat} {x : α} (e : H d = some (.dK (kvA f l))) (h : lkA l n = some x) : DGet H d (.int (n : Nat)) (some (f x)) := by
  have := dget_i (n := n) e
  rw [h] at this
  exact this
theorem dput_i {H : Hp} {d : Addr} {α : Type} {f : α → V} {l : List (Nat × α)} {n : Nat} {x : α} (e : H d = some (.dK (kvA f l))) (h : l.length ≤ 100) : DPut H d (.int (n : Nat)) (f x) (upd H d (.dK (kvA f (ptA l n x)))) := by
  rw [kvA_pt]
  exact DPut.k (k := .inl (n : Int)) e (by rw [kvA_len, sizeLine_eq]; omega)
theorem np_parts {H : Hp} {v : V} {p : NP} (h : Dp K H v p.d) : ∃ a, v = .ref a ∧ SqT K H a [.str p.k, .int (p.i : Nat)] := by
  obtain ⟨a, xs, rfl, hp, dq⟩ := dp_tup h
  obtain ⟨z0, w0, rfl, g0, u0⟩ := dpAll_cons dq
  obtain ⟨z1, w1, rfl, g1, u1⟩ := dpAll_cons u0
  cases u1
  cases dp_str g0
  cases dp_int g1
  exact ⟨a, rfl, hp⟩
theorem tr_parts {H : Hp} {v : V} {t : Nat} (h : Dp K H v (trD t)) : ∃ a, v = .ref a ∧ SqT K H a [.str "tray", .int (t : Nat)] := by
  obtain ⟨a, xs, rfl, hp, dq⟩ := dp_tup h
  obtain ⟨z0, w0, rfl, g0, u0⟩ := dpAll_cons dq
  obtain ⟨z1, w1, rfl, g1, u1⟩ := dpAll_cons u0
  cases u1
  cases dp_str g0
  cases dp_int g1
  exact ⟨a, rfl, hp⟩
theorem js_of {n : Nat} {x : Int} (h : G.mc.has (.s n) = some x) : ∃ g r, G.js = g :: r ∧ lkA g.sh n = some x := by
  unfold MC.has GM.mc at h
  dsimp only at h
  cases e : G.js with
  | nil => rw [e] at h; cases h
  | cons g r => rw [e] at h; exact ⟨g, r, rfl, h⟩
def optV (o : Option Int) : V := (o.map V.int).getD .non
def optT (o : Option (Addr × List Int)) : V := (o.map fun x => V.ref x.1).getD .non
def sp_has (K : PySem.W.Frag) (L : List LP) (nb : Nat) : Sp := fun vs H Q _ => ∃ (HD H0 : Hp) (G : GM) (m : Nat) (pl : V), vs = [.ref G.o, pl] ∧ LrAt K L nb HD H0 H G m ∧
  ((∃ p o, Dp K H pl p.d ∧ G.js ≠ [] ∧ G.mc.has p = o ∧ Q (optV o) H) ∨ ∃ t o g r, Dp K H pl (trD t) ∧ G.js = g :: r ∧ lkA g.ts t = o ∧ Q (optT o) H)
theorem ok__law_has (T : Top K mg) : FnOk P w K mg base CX0 1 (He.ga K "_law_has") T.fd__law_has ["_law_run", "_law_place"] (sp_has K L nb) := by
  refine T.F__law_has.ok sc__law_has (fun vs H Q E h => ?_) (fun cdv A0 outer s0 H vs Q E hr h => ?_)
  · obtain ⟨HD, H0, G, m, pl, rfl, _⟩ := h
    rfl
  · obtain ⟨HD, H0, G, m, pl, rfl, lr, h⟩ := h
    refine ⟨_, PSs.nox (pss_cons (ps_if (pt_cmpR op_eq (pe_ix ix_tup (pv 1) pe_int (fun _ _ => rfl)) pe_str (nomark _)) (pss_one (ps_ret (pe_dget1 (hu_of hr) (pe_dget (hu_of hr) (pv 0) pe_str (fun _ _ => rfl)) (pe_ix ix_tup (pv 1) pe_int (fun _ _ => rfl)) ⟨rfl, rfl, rfl, rfl⟩))) pss_nil)
        (pss_one (ps_ret (pe_dget1 (hu_of hr) (pe_dget (hu_of hr) (pe_ix ix_list (pe_dget (hu_of hr) (pv 0) pe_str (fun _ _ => rfl)) (pe_un un_neg pe_int) (fun _ _ => rfl)) (pe_ix ix_tup (pv 1) pe_int (fun _ _ => rfl)) (fun _ _ => rfl)) (pe_ix ix_tup (pv 1) pe_int (fun _ _ => rfl)) ⟨rfl, rfl, rfl, rfl⟩)))), ?_⟩
    rcases h with ⟨p, o, dv, ne, hx, q⟩ | ⟨t, o, g, r, dv, e, hl, q⟩
    · obtain ⟨pa, rfl, hp⟩ := np_parts dv
      cases p with
      | b n =>
        refine ⟨_, rfl, pa, _, 0, _, rfl, rfl, hp, atI_nat (j := 0) rfl, rfl, _, rfl, ifD rfl ?_⟩
        have hb : lkA G.bx n = o := hx
        subst hb
        exact ⟨_, rfl, _, _, rfl, lr.gb, G.bl, rfl, .inl ⟨_, .inl lr.box⟩, _, rfl, pa, _, 1, _, rfl, rfl, hp, atI_nat (j := 1) rfl, _, dget_i lr.box, q⟩
      | s n =>
        obtain ⟨g, r, e⟩ := List.exists_cons_of_ne_nil ne
        have hs : lkA g.sh n = o := by
          unfold MC.has GM.mc at hx
          dsimp only at hx
          rw [e] at hx
          exact hx
        subst hs
        refine ⟨_, rfl, pa, _, 0, _, rfl, rfl, hp, atI_nat (j := 0) rfl, rfl, _, rfl, ifN (by show ¬ V.str "shelf" = V.str "box"; intro z; exact absurd (V.str.inj z) (by decide +kernel)) ?_⟩
        exact ⟨_, rfl, _, _, rfl, lr.gj, 1, rfl, G.jl, _, -1, _, rfl, rfl, .of (lr.last e), atI_lst, _, rfl, pa, _, 0, _, rfl, rfl, hp, atI_nat (j := 0) rfl, _, _, rfl, dget_k (lr.job e) (jdk_s g), g.sl, rfl, .inl ⟨_, .inl (lr.shl e)⟩, _, rfl, pa, _, 1, _, rfl, rfl, hp, atI_nat (j := 1) rfl, _, dget_i (lr.shl e), q⟩
    · subst hl
      obtain ⟨pa, rfl, hp⟩ := tr_parts dv
      refine ⟨_, rfl, pa, _, 0, _, rfl, rfl, hp, atI_nat (j := 0) rfl, rfl, _, rfl, ifN (by intro z; exact absurd (V.str.inj z) (by decide +kernel)) ?_⟩
      exact ⟨_, rfl, _, _, rfl, lr.gj, 1, rfl, G.jl, _, -1, _, rfl, rfl, .of (lr.last e), atI_lst, _, rfl, pa, _, 0, _, rfl, rfl, hp, atI_nat (j := 0) rfl, _, _, rfl, dget_k (lr.job e) (jdk_t g), g.hl, rfl, .inl ⟨_, .inl (lr.trs e)⟩, _, rfl, pa, _, 1, _, rfl, rfl, hp, atI_nat (j := 1) rfl, _, dget_i (lr.trs e), q⟩
end

section
variable {P : Program} {w : World} {K : PySem.W.Frag} {mg : Str → Option Value} {base : Heap}
variable {L : List LP} {nb : Nat} {HD H0 H : Hp} {G : GM} {m : Nat}
theorem LrAt.bx5 (h : LrAt K L nb HD H0 H G m) : G.bx.length ≤ 100 := by
  have := h.ok.bw.len
  have n5 := h.n5
  show G.mc.bx.length ≤ 100
  omega
theorem LrAt.jok {g : GJ} {r : List GJ} (h : LrAt K L nb HD H0 H G m) (e : G.js = g :: r) : g.jb.Ok L nb := h.ok.js _ (by unfold GM.mc; rw [e]; exact List.mem_cons_self ..)
theorem ts_keys {g : GJ} : g.jb.tr.map (·.1) = g.ts.map (·.1) := by
  unfold GJ.jb
  rw [List.map_map]
  rfl
theorem LrAt.ts3 {g : GJ} {r : List GJ} (h : LrAt K L nb HD H0 H G m) (e : G.js = g :: r) : (g.ts.map (·.1)).Nodup ∧ g.ts.length ≤ 100 := by
  have j := h.jok e
  refine ⟨by rw [← ts_keys]; exact j.tw.1, ?_⟩
  have := j.tw.len
  have e2 : g.jb.tr.length = g.ts.length := List.length_map ..
  omega
/-- a number had: the cells behind it -/
theorem LrAt.gets_b (h : LrAt K L nb HD H0 H G m) {n : Nat} {x : Int} (l : n < nb) (i : In32 x) : LrAt K L nb HD H0 (upd H G.bl (.dK (kvA V.int (ptA G.bx n x)))) { G with bx := ptA G.bx n x } m :=
  ⟨h.ow.box, h.s, h.d, h.ok.gets (p := .b n) l i, h.tb, h.jb, h.mb, h.n5⟩
theorem LrAt.gets_s {g : GJ} {r : List GJ} (h : LrAt K L nb HD H0 H G m) (e : G.js = g :: r) {n : Nat} {x : Int} (l : n < 3) (i : In32 x) : LrAt K L nb HD H0 (upd H g.sl (.dK (kvA V.int (ptA g.sh n x)))) { G with js := { g with sh := ptA g.sh n x } :: r } m := by
  refine ⟨h.ow.shelf e rfl, h.s, fun k hk => ?_, ?_, h.tb, by have := h.jb; rw [e] at this; exact this, h.mb, h.n5⟩
  · rcases List.mem_cons.mp hk with rfl | hk
    · exact h.d g (by rw [e]; exact List.mem_cons_self ..)
    · exact h.d k (by rw [e]; exact List.mem_cons_of_mem _ hk)
  · have := h.ok.gets (p := .s n) (nb := nb) l i
    unfold MC.gets GM.mc at this
    dsimp only at this
    rw [e] at this
    exact this
theorem mc_gets_s {g : GJ} {r : List GJ} (e : G.js = g :: r) {n : Nat} {x : Int} : G.mc.gets x (.s n) = ({ G with js := { g with sh := ptA g.sh n x } :: r } : GM).mc := by
  unfold MC.gets GM.mc
  dsimp only
  rw [e]
  rfl
def sp_gets (K : PySem.W.Frag) (L : List LP) (nb : Nat) : Sp := fun vs H Q _ => ∃ (o : Addr) (pl v : V), vs = [.ref o, pl, v] ∧
  ((∃ (HD H0 : Hp) (G : GM) (m : Nat) (p : NP) (x : Int), o = G.o ∧ LrAt K L nb HD H0 H G m ∧ Dp K H pl p.d ∧ v = .int x ∧ p.lt nb ∧ In32 x ∧ G.js ≠ [] ∧ ∀ H' G', LrAt K L nb HD H0 H' G' m → G'.o = G.o → G'.mc = G.mc.gets x p → Q .non H') ∨
   ∃ (t : Nat) (a : Addr) (l : List Int) (ts : List (Nat × (Addr × List Int))) (jl jo hl : Addr) (xs : List V), Dp K H pl (trD t) ∧ v = .ref a ∧ DGet H o (.str "jobs") (some (.ref jl)) ∧ H jl = some (.lst (xs ++ [.ref jo])) ∧ DGet H jo (.str "tray") (some (.ref hl)) ∧ H hl = some (.dK (kvT ts)) ∧ ts.length ≤ 100 ∧ Q .non (upd H hl (.dK (kvT (ptA ts t (a, l))))))
theorem ok__law_gets (T : Top K mg) : FnOk P w K mg base CX0 1 (He.ga K "_law_gets") T.fd__law_gets ["_law_run", "_law_place", "_law_thing"] (sp_gets K L nb) := by
  refine T.F__law_gets.ok sc__law_gets (fun vs H Q E h => ?_) (fun cdv A0 outer s0 H vs Q E hr h => ?_)
  · obtain ⟨o, pl, v, rfl, _⟩ := h
    rfl
  · obtain ⟨o, pl, v, rfl, h⟩ := h
    refine ⟨_, PSs.nox (pss_one (ps_if (pt_cmpR op_eq (pe_ix ix_tup (pv 1) pe_int (fun _ _ => rfl)) pe_str (nomark _)) (pss_one (ps_dput (hu_of hr) (pe_dget (hu_of hr) (pv 0) pe_str (fun _ _ => rfl)) (pe_ix ix_tup (pv 1) pe_int (fun _ _ => rfl)) (pv 2) (by rfl))) (pss_one (ps_dput (hu_of hr) (pe_dget (hu_of hr) (pe_ix ix_list (pe_dget (hu_of hr) (pv 0) pe_str (fun _ _ => rfl)) (pe_un un_neg pe_int) (fun _ _ => rfl)) (pe_ix ix_tup (pv 1) pe_int (fun _ _ => rfl)) (fun _ _ => rfl)) (pe_ix ix_tup (pv 1) pe_int (fun _ _ => rfl)) (pv 2) (by rfl))))), ?_⟩
    rcases h with ⟨HD, H0, G, m, p, x, rfl, lr, dv, rfl, lt, i, ne, q⟩ | ⟨t, a, l, ts, jl, jo, hl, xs, dv, rfl, gj, ej, gt, eh, l3, q⟩
    · obtain ⟨pa, rfl, hp⟩ := np_parts dv
      cases p with
      | b n =>
        refine ⟨_, rfl, pa, _, 0, _, rfl, rfl, hp, atI_nat (j := 0) rfl, rfl, _, rfl, ifD rfl ?_⟩
        exact ⟨_, rfl, _, rfl, _, _, rfl, lr.gb, _, rfl, pa, _, 1, _, rfl, rfl, hp, atI_nat (j := 1) rfl, _, _, rfl, dput_i lr.box lr.bx5, q _ _ (lr.gets_b lt i) rfl rfl⟩
      | s n =>
        obtain ⟨g, r, e⟩ := List.exists_cons_of_ne_nil ne
        have s3 : g.sh.length ≤ 100 := by
          have : g.sh.length ≤ 3 := (lr.jok e).sw.len
          omega
        refine ⟨_, rfl, pa, _, 0, _, rfl, rfl, hp, atI_nat (j := 0) rfl, rfl, _, rfl, ifN (by show ¬ V.str "shelf" = V.str "box"; intro z; exact absurd (V.str.inj z) (by decide +kernel)) ?_⟩
        exact ⟨_, rfl, _, rfl, _, _, rfl, lr.gj, 1, rfl, G.jl, _, -1, _, rfl, rfl, .of (lr.last e), atI_lst, _, rfl, pa, _, 0, _, rfl, rfl, hp, atI_nat (j := 0) rfl, _, _, rfl, dget_k (lr.job e) (jdk_s g), _, rfl, pa, _, 1, _, rfl, rfl, hp, atI_nat (j := 1) rfl, _, _, rfl, dput_i (lr.shl e) s3, q _ _ (lr.gets_s e lt i) rfl (mc_gets_s e).symm⟩
    · obtain ⟨pa, rfl, hp⟩ := tr_parts dv
      refine ⟨_, rfl, pa, _, 0, _, rfl, rfl, hp, atI_nat (j := 0) rfl, rfl, _, rfl, ifN (by intro z; exact absurd (V.str.inj z) (by decide +kernel)) ?_⟩
      exact ⟨_, rfl, _, rfl, _, _, rfl, gj, 1, rfl, jl, _, -1, _, rfl, rfl, .of ej, atI_lst, _, rfl, pa, _, 0, _, rfl, rfl, hp, atI_nat (j := 0) rfl, _, _, rfl, gt, _, rfl, pa, _, 1, _, rfl, rfl, hp, atI_nat (j := 1) rfl, _, _, rfl, dput_i (f := fun x : Addr × List Int => V.ref x.1) (x := (a, l)) eh l3, q⟩
end

section
variable {P : Program} {w : World} {K : PySem.W.Frag} {mg : Str → Option Value} {base : Heap}
variable {L : List LP} {nb : Nat} {HD H0 H : Hp} {G : GM} {m : Nat}
theorem putIns_snoc : ∀ {ins : List (Option NP)} {xs : List Int} {c : MC} {o : Option NP} {x : Int}, ins.length = xs.length → putIns c (ins ++ [o]) (xs ++ [x]) = match o with
    | some p => (putIns c ins xs).gets x p
    | none => putIns c ins xs
  | [], [], c, none, x, _ => by simp [putIns]
  | [], [], c, some p, x, _ => by simp [putIns]
  | none :: r, y :: ys, c, o, x, h => by
    rw [List.cons_append, List.cons_append, putIns, putIns_snoc (by simpa using h)]
    cases o <;> rfl
  | some q :: r, y :: ys, c, o, x, h => by
    rw [List.cons_append, List.cons_append, putIns, putIns_snoc (by simpa using h)]
    cases o <;> rfl
  | [], _ :: _, _, _, _, h => by simp at h
  | _ :: _, [], _, _, _, h => by simp at h
theorem gets_ne {c : MC} {x : Int} {p : NP} (h : c.js ≠ []) : (c.gets x p).js ≠ [] := by
  obtain ⟨bx, js, told⟩ := c
  cases p with
  | b n => exact h
  | s n =>
    cases js with
    | nil => exact absurd rfl h
    | cons j r => exact fun z => nomatch z
theorem mc_nil {G : GM} (h : G.js = []) : G.mc.js = [] := by
  unfold GM.mc
  rw [h]
  rfl
theorem mc_ne {G : GM} : G.mc.js ≠ [] ↔ G.js ≠ [] := ⟨fun h z => h (mc_nil z), fun h z => h (List.map_eq_nil_iff.mp z)⟩
def insL (L : List LP) : PyData := .tuple (L.map LP.d)
theorem lp_parts {H : Hp} {v : V} {p : LP} (h : Dp K H v p.d) : ∃ a ia ra iv rv, v = .ref a ∧ SqT K H a [.ref ia, .int (p.many : Nat), .int (p.many : Nat), .ref ra] ∧ SqT K H ia iv ∧ DpAll K H iv (p.ins.map insD) ∧ SqT K H ra rv ∧ DpAll K H rv (p.rows.map LR.d) := by
  obtain ⟨a, xs, rfl, hp, dq⟩ := dp_tup h
  obtain ⟨z0, w0, rfl, g0, u0⟩ := dpAll_cons dq
  obtain ⟨z1, w1, rfl, g1, u1⟩ := dpAll_cons u0
  obtain ⟨z2, w2, rfl, g2, u2⟩ := dpAll_cons u1
  obtain ⟨z3, w3, rfl, g3, u3⟩ := dpAll_cons u2
  cases u3
  obtain ⟨ia, iv, rfl, hi, di⟩ := dp_tup g0
  cases dp_int g1
  cases dp_int g2
  obtain ⟨ra, rv, rfl, hr, dr⟩ := dp_tup g3
  exact ⟨a, ia, ra, iv, rv, rfl, hp, hi, di, hr, dr⟩
theorem ls_at {H : Hp} {lvs : List V} {c : Nat} {q : LP} (h : DpAll K H lvs (L.map LP.d)) (e : L[c]? = some q) : ∃ v, lvs[c]? = some v ∧ Dp K H v q.d := by
  have l := dpAll_len h
  rw [List.length_map] at l
  have hc : c < lvs.length := by have := (List.getElem?_eq_some_iff.mp e).1; omega
  have e1 := List.getElem?_eq_getElem hc
  obtain ⟨dx, hdx, dvx⟩ := dpAll_getV h e1
  rw [List.getElem?_map, e] at hdx
  cases hdx
  exact ⟨_, e1, dvx⟩
theorem ins_at {H : Hp} {iv : List V} {i : Nat} {ins : List (Option NP)} {o : Option NP} (h : DpAll K H iv (ins.map insD)) (e : ins[i]? = some o) : ∃ v, iv[i]? = some v ∧ Dp K H v (insD o) := by
  have l := dpAll_len h
  rw [List.length_map] at l
  have hc : i < iv.length := by have := (List.getElem?_eq_some_iff.mp e).1; omega
  have e1 := List.getElem?_eq_getElem hc
  obtain ⟨dx, hdx, dvx⟩ := dpAll_getV h e1
  rw [List.getElem?_map, e] at hdx
  cases hdx
  exact ⟨_, e1, dvx⟩
theorem mL_cons {g : GJ} {a : Addr} (h : a ∈ (mL { G with js := g :: G.js }).map (·.1)) : a ∈ (mJ lF g).map (·.1) ∨ a ∈ (mL G).map (·.1) := by
  have e : mL { G with js := g :: G.js } = [(G.o, HO.dK (rdk G)), (G.bl, .dK (kvA V.int G.bx)), (G.jl, .lst (jrefs (g :: G.js))), (G.tl, .lst (G.told.map V.int))] ++ (mJ lF g ++ G.js.flatMap (mJ lF)) := rfl
  have e2 : mL G = [(G.o, HO.dK (rdk G)), (G.bl, .dK (kvA V.int G.bx)), (G.jl, .lst (jrefs G.js)), (G.tl, .lst (G.told.map V.int))] ++ G.js.flatMap (mJ lF) := rfl
  rw [e, List.map_append, List.map_append] at h
  rw [e2, List.map_append]
  rcases List.mem_append.mp h with h | h
  · exact .inr (List.mem_append_left _ h)
  · exact (List.mem_append.mp h).imp id fun h => List.mem_append_right _ h
def sp_job (K : PySem.W.Frag) (L : List LP) (nb : Nat) : Sp := fun vs H Q _ => ∃ (HD H0 : Hp) (G : GM) (m : Nat) (lv av : V) (c : Nat) (N : Addr) (q : LP) (xs : List Int) (ans : Option NP), vs = [.ref G.o, lv, .int (c : Nat), .ref N, av] ∧ LrAt K L nb HD H0 H G m ∧ G.js.length ≤ m ∧ LsOk nb L ∧ Dp K HD lv (insL L) ∧ L[c]? = some q ∧ H N = some (.lst (xs.map V.int)) ∧ N ∉ (mL G).map (·.1) ∧ q.ins.length = xs.length ∧ xs.length ≤ 3 ∧ (∀ x ∈ xs, In32 x) ∧ (∀ p, ans = some p → Dp K HD av p.d ∧ p.lt nb) ∧
  ∀ H' G', LrAt K L nb HD H0 H' G' m → G'.o = G.o → G'.mc = G.mc.enter q ans xs → Q .non H'
theorem ok__law_job (T : Top K mg) : FnOk P w K mg base CX0 2 (He.ga K "_law_job") T.fd__law_job ["_law_run", "_law_last", "_law_count", "_law_numbers_here", "_law_answer"] (sp_job K L nb) := by
  have G__law_gets := ok__law_gets (P := P) (w := w) (base := base) (L := L) (nb := nb) T
  refine T.F__law_job.ok sc__law_job (fun vs H Q E h => ?_) (fun cdv A0 outer s0 H vs Q E hr h => ?_)
  · obtain ⟨HD, H0, G, m, lv, av, c, N, q, xs, ans, rfl, _⟩ := h
    rfl
  · obtain ⟨HD, H0, G, m, lv, av, c, N, qp, xs, ans, rfl, lr, jm, lo, dl, eq, eN, nN, lq, l3, x32, ha, q⟩ := h
    refine ⟨_, PSs.nox (pss_cons (ps_expr (pe_bm PySem.F.plainAttrs_list PySem.F.slot_list_append PySem.F.type_list_append mt_append (pe_dget (hu_of hr) (pv 0) pe_str (fun _ _ => rfl)) (pa_cons (pe_disp (pps_cons pe_str (pe_ix ix_tup (pv 1) (pv 2) (fun _ _ => rfl)) (pps_cons pe_str pe_int (pps_cons pe_str pe_dnewK (pps_cons pe_str pe_dnewK (pps_cons pe_str (pv 4) pps_nil))))) (by rfl) (by rfl) (fun z => by cases z) (by decide)) pa_nil)))
        (pss_one (ps_for PassesOwn.never (by rfl) (pi_range1 (by rfl) T.m_range (pa_cons (pe_callB call_len_seq (by rfl) T.m_len (by decide +kernel) (pa_cons (pv 3) pa_nil)) pa_nil)) (pg_name (i := 5) sc__law_job.nd rfl (Or.inl rfl)) (pss_one (ps_if (pt_cmpR op_notN (pe_ix ix_seq (pe_ix ix_seq (pe_ix ix_tup (pv 1) (pv 2) (fun _ _ => rfl)) pe_int (fun _ _ => rfl)) (pv 5) (fun _ _ => rfl)) pe_non (nomark _)) (pss_one (ps_expr (pe_call G__law_gets (hr.mono (by omega)) (by rfl) T.g__law_gets T.F__law_gets.kp T.b__law_gets .nil pass0 (pa_cons (pv 0) (pa_cons (pe_ix ix_seq (pe_ix ix_seq (pe_ix ix_tup (pv 1) (pv 2) (fun _ _ => rfl)) pe_int (fun _ _ => rfl)) (pv 5) (fun _ _ => rfl)) (pa_cons (pe_ix ix_list (pv 3) (pv 5) (fun _ _ => rfl)) pa_nil)))))) pss_nil))))), ?_⟩
    have sD := lr.hd
    obtain ⟨la, lvs, rfl, hla, dls⟩ := dp_tup dl
    obtain ⟨qv, hqv, dqv⟩ := ls_at dls eq
    obtain ⟨pa, ia, ra, iv, rv, rfl, hpa, hia, div, _, _⟩ := lp_parts dqv
    obtain ⟨av', rfl⟩ : ∃ z, av = z := ⟨_, rfl⟩
    refine ⟨_, rfl, _, _, rfl, lr.gj, .inl ⟨rfl, _, .of (lr.ow.get mG_j)⟩, fun D nD => ?_⟩
    have s1 := same_new (o := .dK []) nD
    refine ⟨_, rfl, _, rfl, la, _, _, _, rfl, rfl, sqT_sm (sD.trans s1) hla, atI_nat hqv, ?_⟩
    refine fun sl nsl hl nhl => ?_
    have s2 := same_new (o := .dK []) nsl
    have s3 := same_new (o := .dK []) nhl
    have s13 := (s1.trans s2).trans s3
    have eD3 : upd (upd (upd H D (.dK [])) sl (.dK [])) hl (.dK []) D = some (.dK []) := (s2.trans s3) _ _ upd_same
    have eS3 : upd (upd (upd H D (.dK [])) sl (.dK [])) hl (.dK []) sl = some (.dK []) := s3 _ _ upd_same
    have eH3 : upd (upd (upd H D (.dK [])) sl (.dK [])) hl (.dK []) hl = some (.dK []) := upd_same
    have nsD : D ≠ sl := ne_of_none (show upd H D (.dK []) D = some (.dK []) from upd_same) nsl
    have nhD : D ≠ hl := ne_of_none (s2 _ _ (show upd H D (.dK []) D = some (.dK []) from upd_same)) nhl
    have nhs : sl ≠ hl := ne_of_none (show upd (upd H D (.dK [])) sl (.dK []) sl = some (.dK []) from upd_same) nhl
    have fsl : H sl = none := s1.free nsl
    have fhl : H hl = none := (s1.trans s2).free nhl
    generalize upd (upd (upd H D (.dK [])) sl (.dK [])) hl (.dK []) = H3 at s13 eD3 eS3 eH3 ⊢
    obtain ⟨g, hg⟩ : ∃ g : GJ, g = ⟨D, 0, sl, hl, .ref pa, av, qp, 0, [], [], ans⟩ := ⟨_, rfl⟩
    refine ⟨_, rfl, eD3, jdk g, by rw [hg]; rfl, (by show 5 ≤ 15; decide), ?_⟩
    rw [show mergeK [] (jdk g) = jdk g from merge_nd _ [] (by show (([Sum.inr "part", .inr "at", .inr "shelf", .inr "tray", .inr "answer"] : List Key)).Nodup; decide +kernel)]
    have s4 : Same H (upd H3 D (.dK (jdk g))) := same_upd s13 nD
    have eD4 : upd H3 D (.dK (jdk g)) D = some (.dK (jdk g)) := upd_same
    have eS4 : upd H3 D (.dK (jdk g)) sl = some (.dK []) := (upd_ne nsD.symm).trans eS3
    have eH4 : upd H3 D (.dK (jdk g)) hl = some (.dK []) := (upd_ne nhD.symm).trans eH3
    generalize upd H3 D (.dK (jdk g)) = H4 at s4 eD4 eS4 eH4 ⊢
    have lr4 := lr.sm s4
    have own : Ow H0 H4 (mJ lF g ++ mL G) := by
      have w1 := lr4.ow.add eH4 (lr.ow.s.free fhl) (lr.ow.off fhl)
      have w2 := w1.add eS4 (lr.ow.s.free fsl) (by
        rw [List.map_cons, List.mem_cons]
        exact fun z => z.elim nhs (lr.ow.off fsl))
      have w3 := w2.add eD4 (lr.ow.s.free nD) (by
        rw [List.map_cons, List.map_cons, List.mem_cons, List.mem_cons]
        exact fun z => z.elim nsD fun z => z.elim nhD (lr.ow.off nD))
      rw [hg]
      rw [hg] at w3
      exact w3
    have lr5 : LrAt K L nb HD H0 (upd H4 G.jl (.lst (jrefs (g :: G.js)))) { G with js := g :: G.js } m := by
      refine ⟨lr4.ow.begin own, lr.s, fun k hk => ?_, ⟨lr.ok.bw, lr.ok.bv, fun j hj => ?_⟩, lr.tb, (by show G.js.length + 1 ≤ m + 1; omega), lr.mb, lr.n5⟩
      · rcases List.mem_cons.mp hk with rfl | hk
        · rw [hg]
          exact ⟨dqv, fun p hp => (ha p hp).1⟩
        · exact lr.d k hk
      · rcases List.mem_cons.mp (show j ∈ g.jb :: G.mc.js from hj) with rfl | hj
        · rw [hg]
          exact ⟨List.mem_of_getElem? eq, .nil, (fun x hx => nomatch hx), .nil, (fun x hx => nomatch hx), fun p hp => (ha p hp).2⟩
        · exact lr.ok.js j hj
    refine ⟨G.jl, _, _, rfl, rfl, lr4.ow.get mG_j, (by rw [jrefs_len, sizeLine_eq]; have := lr.mb; omega), ?_⟩
    rw [show jrefs G.js ++ [V.ref D] = jrefs (g :: G.js) by rw [jrefs_cons, hg]]
    have eN5 : upd H4 G.jl (.lst (jrefs (g :: G.js))) N = some (.lst (xs.map V.int)) := by
      rw [upd_ne fun z => nN (by rw [z]; exact List.mem_map.mpr ⟨_, mG_j, rfl⟩)]
      exact s4 _ _ eN
    have emc : ({ G with js := g :: G.js } : GM).mc = ⟨G.bx, ⟨qp, 0, [], [], ans⟩ :: G.js.map GJ.jb, G.told⟩ := by
      rw [hg]
      rfl
    have nN5 : N ∉ (mL { G with js := g :: G.js }).map (·.1) := fun z => by
      rcases mL_cons z with z | z
      · rw [hg] at z
        simp only [mJ, trM, List.map_cons, List.map_nil, List.mem_cons, List.not_mem_nil, or_false] at z
        rcases z with z | z | z
        · rw [z, nD] at eN; cases eN
        · rw [z, fsl] at eN; cases eN
        · rw [z, fhl] at eN; cases eN
      · exact nN z
    generalize upd H4 G.jl (.lst (jrefs (g :: G.js))) = H5 at lr5 eN5 ⊢
    generalize hG5 : ({ G with js := g :: G.js } : GM) = G5 at lr5 emc nN5
    have o5 : G5.o = G.o := by rw [← hG5]
    have ne5 : G5.js ≠ [] := by rw [← hG5]; exact fun z => nomatch z
    have lw := lr5.wide
    have sw := lr5.ow.wide.2
    have eNw : Hp.less H5 (mL G5) N = some (.lst (xs.map V.int)) := Hp.less_of eN5 nN5
    have hq : ∀ H' G', LrAt K L nb HD (Hp.less H5 (mL G5)) H' G' m → G'.o = G.o → G'.mc = putIns G5.mc qp.ins xs → Q .non H' := fun H' G' a b c => q H' G' (a.narrow sw lr.s) b (by rw [c, emc]; rfl)
    dsimp only
    refine ⟨_, rfl, N, _, rfl, .inl (.of eN5), _, rfl, by rw [List.length_map]; omega, by rw [List.length_map]; omega, ?_⟩
    rw [List.length_map]
    refine for_range (lo := 0) (n := xs.length) (fun i σ' H' => ∃ G' x5, LrAt K L nb HD (Hp.less H5 (mL G5)) H' G' m ∧ G'.o = G.o ∧ G'.mc = putIns G5.mc (qp.ins.take i) (xs.take i) ∧ G'.js ≠ [] ∧ σ' = [some (.ref G.o), some (.ref la), some (.int (c : Nat)), some (.ref N), some av, x5]) ?_ ?_ ?_
    · exact ⟨G5, _, lw, o5, by simp [putIns], ne5, rfl⟩
    · rintro i σ' H' hi ⟨G', x5, l', o', c', ne', rfl⟩
      dsimp only [gName, List.set]
      rw [Int.zero_add]
      have hiq : i < qp.ins.length := by omega
      have hix : qp.ins[i]? = some qp.ins[i] := List.getElem?_eq_getElem hiq
      obtain ⟨iv0, hiv0, dv0⟩ := ins_at div hix
      have sD' : Same HD H' := l'.hd
      have eN' : H' N = some (.lst (xs.map V.int)) := l'.ow.s _ _ eNw
      have hxi : xs[i]? = some xs[i] := List.getElem?_eq_getElem hi
      have tq : qp.ins.take (i + 1) = qp.ins.take i ++ [qp.ins[i]] := (List.take_append_getElem hiq).symm
      have tx : xs.take (i + 1) = xs.take i ++ [xs[i]] := (List.take_append_getElem hi).symm
      have ll : (qp.ins.take i).length = (xs.take i).length := by rw [List.length_take, List.length_take]; omega
      have xi := x32 _ (List.getElem_mem hi)
      have li : ∀ p, qp.ins[i] = some p → p.lt nb := fun p hp => lo.i qp (List.mem_of_getElem? eq) qp.ins[i] (List.getElem_mem hiq) p hp
      generalize qp.ins[i] = oi at hix dv0 tq li
      generalize xs[i] = x at hxi tx xi
      refine ⟨_, rfl, _, rfl, la, _, _, _, rfl, rfl, sqT_sm sD' hla, atI_nat hqv, .inr (.inl ⟨pa, _, 0, _, rfl, rfl, sqT_sm sD' hpa, atI_nat (j := 0) rfl, _, rfl, .inr (.inl ⟨ia, _, _, _, rfl, rfl, sqT_sm sD' hia, atI_nat hiv0, rfl, _, rfl, ?_⟩)⟩)⟩
      cases oi with
      | none =>
        have ev : iv0 = .non := by
          cases dv0
          rfl
        subst ev
        refine ifF (by rw [decide_eq_true rfl]; rfl) ⟨G', _, l', o', ?_, ne', rfl⟩
        rw [tq, tx, putIns_snoc ll]
        exact c'
      | some p =>
        have dv1 : Dp K H' iv0 p.d := dp_sm sD' dv0
        obtain ⟨pa2, rfl, _⟩ := np_parts dv1
        refine ifT (by rw [decide_eq_false (fun z => nomatch z)]; rfl) ?_
        refine ⟨_, rfl, _, rfl, _, rfl, la, _, _, _, rfl, rfl, sqT_sm sD' hla, atI_nat hqv, .inr (.inl ⟨pa, _, 0, _, rfl, rfl, sqT_sm sD' hpa, atI_nat (j := 0) rfl, _, rfl, .inr (.inl ⟨ia, _, _, _, rfl, rfl, sqT_sm sD' hia, atI_nat hiv0, _, rfl, _, rfl, N, _, _, _, rfl, rfl, .of eN', atI_nat (v := V.int x) (by rw [List.getElem?_map, hxi]; rfl), ?_⟩)⟩)⟩
        refine ⟨G.o, _, _, rfl, .inl ⟨HD, _, G', m, p, x, o'.symm, l', dv1, rfl, li p rfl, xi, ne', fun H2 G2 l2 o2 c2 => ⟨G2, _, l2, o2.trans o', ?_, fun z => ?_, rfl⟩⟩⟩
        · rw [tq, tx, putIns_snoc ll, c2, c']
        · refine gets_ne (c := G'.mc) (x := x) (p := p) (mc_ne.mpr ne') ?_
          rw [← c2]
          exact mc_nil z
    · rintro σ' H' ⟨G', x5, l', o', c', ne', rfl⟩
      refine hq _ _ l' o' ?_
      rw [c', List.take_length, ← lq, List.take_length]
end

section
variable {P : Program} {w : World} {K : PySem.W.Frag} {mg : Str → Option Value} {base : Heap}
variable {L : List LP} {nb : Nat} {HD H0 H : Hp} {G : GM} {m : Nat}
theorem row3 {H : Hp} {v : V} {z : Str} {a b : Nat} (h : Dp K H v (.tuple [.str z, nD a, nD b])) : ∃ p, v = .ref p ∧ SqT K H p [.str z, .int (a : Nat), .int (b : Nat)] := by
  obtain ⟨p, xs, rfl, hp, dq⟩ := dp_tup h
  obtain ⟨z0, w0, rfl, g0, u0⟩ := dpAll_cons dq
  obtain ⟨z1, w1, rfl, g1, u1⟩ := dpAll_cons u0
  obtain ⟨z2, w2, rfl, g2, u2⟩ := dpAll_cons u1
  cases u2
  cases dp_str g0
  cases dp_int g1
  cases dp_int g2
  exact ⟨p, rfl, hp⟩
theorem row4 {H : Hp} {v : V} {z : Str} {a b c : Nat} (h : Dp K H v (.tuple [.str z, nD a, nD b, nD c])) : ∃ p, v = .ref p ∧ SqT K H p [.str z, .int (a : Nat), .int (b : Nat), .int (c : Nat)] := by
  obtain ⟨p, xs, rfl, hp, dq⟩ := dp_tup h
  obtain ⟨z0, w0, rfl, g0, u0⟩ := dpAll_cons dq
  obtain ⟨z1, w1, rfl, g1, u1⟩ := dpAll_cons u0
  obtain ⟨z2, w2, rfl, g2, u2⟩ := dpAll_cons u1
  obtain ⟨z3, w3, rfl, g3, u3⟩ := dpAll_cons u2
  cases u3
  cases dp_str g0
  cases dp_int g1
  cases dp_int g2
  cases dp_int g3
  exact ⟨p, rfl, hp⟩
theorem row2 {H : Hp} {v : V} {z : Str} {a : Nat} (h : Dp K H v (.tuple [.str z, nD a])) : ∃ p, v = .ref p ∧ SqT K H p [.str z, .int (a : Nat)] := by
  obtain ⟨p, xs, rfl, hp, dq⟩ := dp_tup h
  obtain ⟨z0, w0, rfl, g0, u0⟩ := dpAll_cons dq
  obtain ⟨z1, w1, rfl, g1, u1⟩ := dpAll_cons u0
  cases u1
  cases dp_str g0
  cases dp_int g1
  exact ⟨p, rfl, hp⟩
theorem tr_of {t : Nat} {l : List Int} (h : G.mc.tray t = some l) : ∃ g r a, G.js = g :: r ∧ lkA g.ts t = some (a, l) := by
  unfold MC.tray GM.mc at h
  dsimp only at h
  cases e : G.js with
  | nil => rw [e] at h; cases h
  | cons g r =>
    rw [e] at h
    have h2 : lkA (g.ts.map fun x => (x.1, x.2.2)) t = some l := h
    rw [lkA_map (f := fun x : Addr × List Int => x.2)] at h2
    obtain ⟨x, hx, e2⟩ := Option.map_eq_some_iff.mp h2
    exact ⟨g, r, x.1, rfl, by rw [hx, ← e2]⟩
theorem mc_setT {g : GJ} {r : List GJ} (e : G.js = g :: r) {t : Nat} {a : Addr} {l : List Int} : ({ G with js := { g with ts := ptA g.ts t (a, l) } :: r } : GM).mc = G.mc.setT t l := by
  unfold MC.setT GM.mc
  dsimp only
  rw [e]
  show (⟨G.bx, GJ.jb { g with ts := ptA g.ts t (a, l) } :: r.map GJ.jb, G.told⟩ : MC) = ⟨G.bx, ⟨g.p, g.at_, g.sh, ptA g.jb.tr t l, g.ans⟩ :: r.map GJ.jb, G.told⟩
  unfold GJ.jb
  dsimp only
  rw [ptA_map (f := fun x : Addr × List Int => x.2)]
theorem LrAt.d_ts {g : GJ} {r : List GJ} {ts : List (Nat × (Addr × List Int))} (h : LrAt K L nb HD H0 H G m) (e : G.js = g :: r) : ∀ k ∈ ({ g with ts := ts } :: r : List GJ), GD K HD k := fun k hk => by
  rcases List.mem_cons.mp hk with rfl | hk
  · exact h.d g (by rw [e]; exact List.mem_cons_self ..)
  · exact h.d k (by rw [e]; exact List.mem_cons_of_mem _ hk)
/-- a new list had by a tray -/
theorem LrAt.newT {g : GJ} {r : List GJ} (h : LrAt K L nb HD H0 H G m) (e : G.js = g :: r) {a : Addr} {t : Nat} {l : List Int} (ea : H a = some (.lst (l.map V.int))) (a0 : H0 a = none) (na : a ∉ (mL G).map (·.1)) (ht : t < 3) (l8 : l.length ≤ 8) (i : ∀ y ∈ l, In32 y) :
    LrAt K L nb HD H0 (upd H g.hl (.dK (kvT (ptA g.ts t (a, l))))) { G with js := { g with ts := ptA g.ts t (a, l) } :: r } m := by
  obtain ⟨k3, _⟩ := h.ts3 e
  have inj := lk_adr (h.ow.adr e)
  have nn : ∀ {n x}, lkA g.ts n = some x → x.1 ≠ a := fun {n x} hx z => na (by
    rw [← z]
    exact List.mem_map.mpr ⟨_, mG_g (by rw [e]; exact List.mem_cons_self ..) (mJ_t (a := x.1) (l := x.2) hx), rfl⟩)
  refine ⟨Ow.trays (E := [(a, .lst (l.map V.int))]) (h.ow.add ea a0 na) e rfl ?_ ?_, h.s, h.d_ts e, ?_, h.tb, by have := h.jb; rw [e] at this; exact this, h.mb, h.n5⟩
  · refine adr_lk ?_ fun n1 n2 x y hx hy ne z => ?_
    · rcases ptA_keys g.ts t (a, l) with e1 | ⟨c, e1⟩
      · rw [e1]; exact k3
      · rw [e1, List.map_append, List.nodup_append]
        exact ⟨k3, by simp, fun x hx y hy z => c (by
          have : y = t := List.mem_singleton.mp hy
          rw [← this, ← z]
          exact hx)⟩
    · rw [lkA_pt] at hx hy
      by_cases c1 : n1 = t
      · rw [if_pos c1] at hx
        rw [if_neg fun z => ne (c1.trans z.symm)] at hy
        cases hx
        exact nn hy z.symm
      · rw [if_neg c1] at hx
        by_cases c2 : n2 = t
        · rw [if_pos c2] at hy
          cases hy
          exact nn hx z
        · rw [if_neg c2] at hy
          exact inj _ _ _ _ hx hy ne z
  · intro x hx
    obtain ⟨p, hp, rfl⟩ := List.mem_map.mp hx
    rcases mem_ptA hp with c | rfl
    · exact .inl (List.mem_map.mpr ⟨p, c, rfl⟩)
    · exact .inr (List.mem_cons_self ..)
  · rw [mc_setT e]
    exact h.ok.setT ht l8 i
/-- a tray's list written -/
theorem LrAt.putT {g : GJ} {r : List GJ} (h : LrAt K L nb HD H0 H G m) (e : G.js = g :: r) {a : Addr} {t : Nat} {l l' : List Int} (hl : lkA g.ts t = some (a, l)) (ht : t < 3) (l8 : l'.length ≤ 8) (i : ∀ y ∈ l', In32 y) :
    LrAt K L nb HD H0 (upd H a (.lst (l'.map V.int))) { G with js := { g with ts := ptA g.ts t (a, l') } :: r } m := by
  obtain ⟨k3, _⟩ := h.ts3 e
  refine ⟨h.ow.tray e k3 hl rfl, h.s, h.d_ts e, ?_, h.tb, by have := h.jb; rw [e] at this; exact this, h.mb, h.n5⟩
  rw [mc_setT e]
  exact h.ok.setT ht l8 i
theorem LrAt.off {a : Addr} (h : LrAt K L nb HD H0 H G m) (n : H a = none) : a ∉ (mL G).map (·.1) := h.ow.off n
def failT (n : Int) : Str := "fail " ++ Str.ofString (toString n)
def LE.d : LE → PyData
  | .gave n => .tuple [.str "gave", .int n]
  | .place => .tuple [.str "fault", .str "place"]
  | .div => .tuple [.str "fault", .str "division"]
  | .fail n => .tuple [.str "fault", .str (failT (n : Nat))]
  | .on => .tuple [.str "on"]
def EvL (K : PySem.W.Frag) (H : Hp) (v : V) : Option LE → Prop
  | none => v = .non
  | some e => Dp K H v e.d
theorem ixN_in {n : Nat} {x : Int} (x0 : 0 ≤ x) (x1 : x < n) : ixN n x = some x.toNat := by
  unfold ixN
  rw [if_pos x0, if_pos (by omega)]
theorem repz : ∀ s : Nat, (List.replicate s [V.int 0]).flatten = (List.replicate s (0 : Int)).map V.int
  | 0 => rfl
  | s + 1 => by
    rw [List.replicate_succ, List.replicate_succ, List.flatten_cons, repz s]
    rfl
def LR.isT : LR → Prop
  | .fresh _ _ => True
  | .get _ _ _ => True
  | .put _ _ _ => True
  | _ => False
def sp_lrow (K : PySem.W.Frag) (L : List LP) (nb : Nat) (sel : LR → Prop) : Sp := fun vs H Q _ => ∃ (HD H0 : Hp) (G : GM) (m : Nat) (rv : V) (r : LR) (c' : MC) (e : Option LE), vs = [.ref G.o, rv] ∧ LrAt K L nb HD H0 H G m ∧ G.js ≠ [] ∧ Dp K H rv r.d ∧ sel r ∧ RowOk nb r ∧ Stp L G.mc r c' e ∧
  ∀ H' G' v, LrAt K L nb HD H0 H' G' m → G'.o = G.o → G'.mc = c' → EvL K H' v e → Q v H'
theorem ok__law_tray_row (T : Top K mg) : FnOk P w K mg base CX0 1 (He.ga K "_law_tray_row") T.fd__law_tray_row ["_law_run", "_law_row"] (sp_lrow K L nb LR.isT) := by
  refine T.F__law_tray_row.ok sc__law_tray_row (fun vs H Q E h => ?_) (fun cdv A0 outer s0 H vs Q E hr h => ?_)
  · obtain ⟨HD, H0, G, m, rv, r, c', e, rfl, _⟩ := h
    rfl
  · obtain ⟨HD, H0, G, m, rv, r, c', e, rfl, lr, ne, dv, sel, ro, st, q⟩ := h
    refine ⟨_, PSs.nox (pss_cons (ps_set (i := 2) sc__law_tray_row.nd rfl (Or.inl rfl) (pe_ix ix_list (pe_dget (hu_of hr) (pv 0) pe_str (fun _ _ => rfl)) (pe_un un_neg pe_int) (fun _ _ => rfl)))
        (pss_cons (ps_if (pt_cmpR op_eq (pe_ix ix_tup (pv 1) pe_int (fun _ _ => rfl)) pe_str (nomark _)) (pss_cons (ps_dput (hu_of hr) (pe_dget (hu_of hr) (pv 2) pe_str (fun _ _ => rfl)) (pe_ix ix_tup (pv 1) pe_int (fun _ _ => rfl)) (pe_op op_rep (pe_lst (pa_cons pe_int pa_nil)) (pe_ix ix_tup (pv 1) pe_int (fun _ _ => rfl))) (by rfl))
        (pss_one (ps_ret pe_non))) pss_nil)
        (pss_cons (ps_set (i := 3) sc__law_tray_row.nd rfl (Or.inl rfl) (pe_dget (hu_of hr) (pe_dget (hu_of hr) (pv 2) pe_str (fun _ _ => rfl)) (pe_ix ix_tup (pv 1) (pe_ix ix_list (pe_lst (pa_cons pe_int (pa_cons pe_int pa_nil))) (pe_callTy call_int1 (by rfl) T.m_int (by decide +kernel) (pa_cons (pe_cmpR op_eq (pe_ix ix_tup (pv 1) pe_int (fun _ _ => rfl)) pe_str (nomark _)) pa_nil)) (fun _ _ => rfl)) (fun _ _ => rfl)) (fun _ _ => rfl)))
        (pss_cons (ps_set (i := 4) sc__law_tray_row.nd rfl (Or.inl rfl) (pe_dget (hu_of hr) (pe_dget (hu_of hr) (pv 0) pe_str (fun _ _ => rfl)) (pe_ix ix_tup (pv 1) (pe_ix ix_list (pe_lst (pa_cons pe_int (pa_cons pe_int pa_nil))) (pe_callTy call_int1 (by rfl) T.m_int (by decide +kernel) (pa_cons (pe_cmpR op_eq (pe_ix ix_tup (pv 1) pe_int (fun _ _ => rfl)) pe_str (nomark _)) pa_nil)) (fun _ _ => rfl)) (fun _ _ => rfl)) (fun _ _ => rfl)))
        (pss_cons (ps_if (PW.pt (pw_or (pt_cmpR op_lt (pv 4) pe_int (nomark _)) (pw_or1 (pt_cmpR op_ge (pv 4) (pe_callB call_len_seq (by rfl) T.m_len (by decide +kernel) (pa_cons (pv 3) pa_nil)) (nomark _))))) (pss_one (ps_ret (pe_tup (pa_cons pe_str (pa_cons pe_str pa_nil))))) pss_nil)
        (pss_cons (ps_if (pt_cmpR op_eq (pe_ix ix_tup (pv 1) pe_int (fun _ _ => rfl)) pe_str (nomark _)) (pss_one (ps_dput (hu_of hr) (pe_dget (hu_of hr) (pv 0) pe_str (fun _ _ => rfl)) (pe_ix ix_tup (pv 1) pe_int (fun _ _ => rfl)) (pe_ix ix_list (pv 3) (pv 4) (fun _ _ => rfl)) (by rfl))) (pss_one (ps_asg (pe_dget (hu_of hr) (pe_dget (hu_of hr) (pv 0) pe_str (fun _ _ => rfl)) (pe_ix ix_tup (pv 1) pe_int (fun _ _ => rfl)) (fun _ _ => rfl)) (pg_sub (pv 3) (pv 4) set_list))))
        (pss_one (ps_ret pe_non)))))))), ?_⟩
    obtain ⟨g, js, ej⟩ := List.exists_cons_of_ne_nil ne
    have one : ∀ n : Nat, n ≤ 10000 → n ≤ sizeLine := fun n h => by rw [sizeLine_eq]; omega
    refine ⟨_, rfl, _, _, rfl, lr.gj, 1, rfl, G.jl, _, -1, _, rfl, rfl, .of (lr.last ej), atI_lst, ?_⟩
    dsimp only [gName, List.set]
    have nf : ∀ {z : Str}, z ≠ "fresh" → ¬ V.str z = V.str "fresh" := fun h z => h (V.str.inj z)
    cases st with
    | @fresh t s =>
      obtain ⟨p, rfl, hp⟩ := row3 dv
      refine ⟨_, rfl, p, _, 0, _, rfl, rfl, hp, atI_nat (j := 0) rfl, rfl, _, rfl, ifD rfl ?_⟩
      refine ⟨one 1 (by decide), fun z nz => ⟨_, rfl, p, _, 2, _, rfl, rfl, sqT_sm (same_new nz) hp, atI_nat (j := 2) rfl, z, _, _, rfl, rfl, upd_same, ?_⟩⟩
      have s8 : s ≤ 8 := ro.2.2
      refine ⟨by omega, by omega, by rw [sizeLine_eq]; simp; omega, fun p2 np2 => ?_⟩
      rw [show (List.replicate ((s : Int)).toNat [V.int 0]).flatten = (List.replicate s 0).map V.int from repz s]
      have s1 := same_new (o := .lst [V.int 0]) nz
      have s2 := same_new (o := .lst ((List.replicate s 0).map V.int)) np2
      have s12 := s1.trans s2
      have lr2 := lr.sm s12
      have fp2 : H p2 = none := s1.free np2
      have ep2 : upd (upd H z (.lst [V.int 0])) p2 (.lst ((List.replicate s 0).map V.int)) p2 = some (.lst ((List.replicate s 0).map V.int)) := upd_same
      generalize upd (upd H z (.lst [V.int 0])) p2 (.lst ((List.replicate s 0).map V.int)) = H2 at s12 lr2 ep2 ⊢
      obtain ⟨k3, l3⟩ := lr.ts3 ej
      refine ⟨_, rfl, _, _, rfl, dget_k (lr2.job ej) (jdk_t g), _, rfl, p, _, 1, _, rfl, rfl, sqT_sm s12 hp, atI_nat (j := 1) rfl, _, _, rfl, dput_i (f := fun x : Addr × List Int => V.ref x.1) (x := (p2, List.replicate s 0)) (lr2.trs ej) l3, ?_⟩
      refine q _ _ _ (lr2.newT ej ep2 (lr.ow.s.free fp2) (lr.off fp2) ro.2.1 (by rw [List.length_replicate]; exact s8) fun y hy => ?_) rfl (mc_setT ej) rfl
      rw [List.eq_of_mem_replicate hy]
      exact ⟨by decide, by decide⟩
    | @get b t a0 l x hl hx x0 x1 =>
      obtain ⟨p, rfl, hp⟩ := row4 dv
      refine ⟨_, rfl, p, _, 0, _, rfl, rfl, hp, atI_nat (j := 0) rfl, rfl, _, rfl, ifN (nf (by decide +kernel)) ?_⟩
      refine ⟨_, rfl, _, _, rfl, dget_k (lr.job ej) (jdk_t g), _, rfl, one 2 (by decide), fun z nz => ⟨_, rfl, p, _, 0, _, rfl, rfl, sqT_sm (same_new nz) hp, atI_nat (j := 0) rfl, rfl, .inr ⟨_, rfl, ?_⟩⟩⟩
      rw [decide_eq_true (show V.str "get" = V.str "get" from rfl)]
      refine ⟨z, _, 1, _, rfl, rfl, .of upd_same, rfl, p, _, 2, _, rfl, rfl, sqT_sm (same_new nz) hp, atI_nat (j := 2) rfl, ?_⟩
      obtain ⟨g2, r2, a, e2, hla⟩ := tr_of hl
      rw [ej] at e2
      cases e2
      have s1 := same_new (o := .lst [V.int 1, .int 2]) nz
      have lr1 := lr.sm s1
      refine ⟨_, _, rfl, dget_i1 (lr1.trs ej) hla, ?_⟩
      dsimp only [gName]
      generalize upd H z (.lst [V.int 1, .int 2]) = H1 at s1 lr1 ⊢
      refine ⟨_, rfl, _, _, rfl, lr1.gb, _, rfl, one 2 (by decide), fun z2 nz2 => ⟨_, rfl, p, _, 0, _, rfl, rfl, sqT_sm (s1.trans (same_new nz2)) hp, atI_nat (j := 0) rfl, rfl, .inr ⟨_, rfl, ?_⟩⟩⟩
      rw [decide_eq_true (show V.str "get" = V.str "get" from rfl)]
      refine ⟨z2, _, 1, _, rfl, rfl, .of upd_same, rfl, p, _, 3, _, rfl, rfl, sqT_sm (s1.trans (same_new nz2)) hp, atI_nat (j := 3) rfl, ?_⟩
      have s2 := s1.trans (same_new (o := .lst [V.int 2, .int 3]) nz2)
      have lr2 := lr.sm s2
      generalize upd H1 z2 (.lst [V.int 2, .int 3]) = H2 at s2 lr2 ⊢
      refine ⟨_, _, rfl, dget_i1 lr2.box hx, ?_⟩
      dsimp only [gName]
      refine ⟨_, rfl, _, _, rfl, rfl, _, rfl, ifN (by omega) ?_⟩
      refine ⟨_, rfl, _, rfl, a, _, rfl, .inl (.of (lr2.tr ej hla)), _, _, rfl, rfl, _, rfl, ifN (by rw [List.length_map]; omega) ?_⟩
      have hp2 := sqT_sm s2 hp
      exact ⟨_, rfl, p, _, 0, _, rfl, rfl, hp2, atI_nat (j := 0) rfl, rfl, _, rfl, ifD rfl ⟨_, rfl, _, rfl, a, _, _, _, rfl, rfl, .of (lr2.tr ej hla), at_ints x0 x1, _, rfl, _, _, rfl, lr2.gb, _, rfl, p, _, 1, _, rfl, rfl, hp2, atI_nat (j := 1) rfl, _, _, rfl, dput_i lr2.box lr2.bx5, q _ _ _ (lr2.gets_b (ro.1 _ (List.mem_cons_self ..)) (getD_all (lr.ok.tray hl).2.1 x0 x1)) rfl rfl rfl⟩⟩
    | @get0 b t a0 l x hl hx xx =>
      obtain ⟨p, rfl, hp⟩ := row4 dv
      refine ⟨_, rfl, p, _, 0, _, rfl, rfl, hp, atI_nat (j := 0) rfl, rfl, _, rfl, ifN (nf (by decide +kernel)) ?_⟩
      refine ⟨_, rfl, _, _, rfl, dget_k (lr.job ej) (jdk_t g), _, rfl, one 2 (by decide), fun z nz => ⟨_, rfl, p, _, 0, _, rfl, rfl, sqT_sm (same_new nz) hp, atI_nat (j := 0) rfl, rfl, .inr ⟨_, rfl, ?_⟩⟩⟩
      rw [decide_eq_true (show V.str "get" = V.str "get" from rfl)]
      refine ⟨z, _, 1, _, rfl, rfl, .of upd_same, rfl, p, _, 2, _, rfl, rfl, sqT_sm (same_new nz) hp, atI_nat (j := 2) rfl, ?_⟩
      obtain ⟨g2, r2, a, e2, hla⟩ := tr_of hl
      rw [ej] at e2
      cases e2
      have s1 := same_new (o := .lst [V.int 1, .int 2]) nz
      have lr1 := lr.sm s1
      refine ⟨_, _, rfl, dget_i1 (lr1.trs ej) hla, ?_⟩
      dsimp only [gName]
      generalize upd H z (.lst [V.int 1, .int 2]) = H1 at s1 lr1 ⊢
      refine ⟨_, rfl, _, _, rfl, lr1.gb, _, rfl, one 2 (by decide), fun z2 nz2 => ⟨_, rfl, p, _, 0, _, rfl, rfl, sqT_sm (s1.trans (same_new nz2)) hp, atI_nat (j := 0) rfl, rfl, .inr ⟨_, rfl, ?_⟩⟩⟩
      rw [decide_eq_true (show V.str "get" = V.str "get" from rfl)]
      refine ⟨z2, _, 1, _, rfl, rfl, .of upd_same, rfl, p, _, 3, _, rfl, rfl, sqT_sm (s1.trans (same_new nz2)) hp, atI_nat (j := 3) rfl, ?_⟩
      have s2 := s1.trans (same_new (o := .lst [V.int 2, .int 3]) nz2)
      have lr2 := lr.sm s2
      generalize upd H1 z2 (.lst [V.int 2, .int 3]) = H2 at s2 lr2 ⊢
      refine ⟨_, _, rfl, dget_i1 lr2.box hx, ?_⟩
      dsimp only [gName]
      have bad : ∀ (Hx : Hp) , LrAt K L nb HD H0 Hx G m → ∀ t, Hx t = none → Q (.ref t) (upd Hx t (.tup [V.str "fault", .str "place"])) := fun Hx lx t nt => q _ _ _ (lx.sm (same_new nt)) rfl rfl (.tup (.of upd_same) (.cons (.str _) (.cons (.str _) .nil)))
      by_cases cx : x < 0
      · exact ⟨_, rfl, _, _, rfl, rfl, _, rfl, ifD cx ⟨one 2 (by decide), bad _ lr2⟩⟩
      · exact ⟨_, rfl, _, _, rfl, rfl, _, rfl, ifN cx ⟨_, rfl, _, rfl, a, _, rfl, .inl (.of (lr2.tr ej hla)), _, _, rfl, rfl, _, rfl, ifD (by rw [List.length_map]; omega) ⟨one 2 (by decide), bad _ lr2⟩⟩⟩
    | @put t a0 b l x y hl hx hy x0 x1 =>
      obtain ⟨p, rfl, hp⟩ := row4 dv
      refine ⟨_, rfl, p, _, 0, _, rfl, rfl, hp, atI_nat (j := 0) rfl, rfl, _, rfl, ifN (nf (by decide +kernel)) ?_⟩
      refine ⟨_, rfl, _, _, rfl, dget_k (lr.job ej) (jdk_t g), _, rfl, one 2 (by decide), fun z nz => ⟨_, rfl, p, _, 0, _, rfl, rfl, sqT_sm (same_new nz) hp, atI_nat (j := 0) rfl, rfl, .inr ⟨_, rfl, ?_⟩⟩⟩
      rw [decide_eq_false (show ¬ V.str "put" = V.str "get" from fun z => absurd (V.str.inj z) (by decide +kernel))]
      refine ⟨z, _, 0, _, rfl, rfl, .of upd_same, rfl, p, _, 1, _, rfl, rfl, sqT_sm (same_new nz) hp, atI_nat (j := 1) rfl, ?_⟩
      obtain ⟨g2, r2, a, e2, hla⟩ := tr_of hl
      rw [ej] at e2
      cases e2
      have s1 := same_new (o := .lst [V.int 1, .int 2]) nz
      have lr1 := lr.sm s1
      refine ⟨_, _, rfl, dget_i1 (lr1.trs ej) hla, ?_⟩
      dsimp only [gName]
      generalize upd H z (.lst [V.int 1, .int 2]) = H1 at s1 lr1 ⊢
      refine ⟨_, rfl, _, _, rfl, lr1.gb, _, rfl, one 2 (by decide), fun z2 nz2 => ⟨_, rfl, p, _, 0, _, rfl, rfl, sqT_sm (s1.trans (same_new nz2)) hp, atI_nat (j := 0) rfl, rfl, .inr ⟨_, rfl, ?_⟩⟩⟩
      rw [decide_eq_false (show ¬ V.str "put" = V.str "get" from fun z => absurd (V.str.inj z) (by decide +kernel))]
      refine ⟨z2, _, 0, _, rfl, rfl, .of upd_same, rfl, p, _, 2, _, rfl, rfl, sqT_sm (s1.trans (same_new nz2)) hp, atI_nat (j := 2) rfl, ?_⟩
      have s2 := s1.trans (same_new (o := .lst [V.int 2, .int 3]) nz2)
      have lr2 := lr.sm s2
      generalize upd H1 z2 (.lst [V.int 2, .int 3]) = H2 at s2 lr2 ⊢
      refine ⟨_, _, rfl, dget_i1 lr2.box hx, ?_⟩
      dsimp only [gName]
      refine ⟨_, rfl, _, _, rfl, rfl, _, rfl, ifN (by omega) ?_⟩
      refine ⟨_, rfl, _, rfl, a, _, rfl, .inl (.of (lr2.tr ej hla)), _, _, rfl, rfl, _, rfl, ifN (by rw [List.length_map]; omega) ?_⟩
      have hp2 := sqT_sm s2 hp
      obtain ⟨k8, v8, t3⟩ := lr.ok.tray hl
      refine ⟨_, rfl, p, _, 0, _, rfl, rfl, hp2, atI_nat (j := 0) rfl, rfl, _, rfl, ifN (fun z => absurd (V.str.inj z) (by decide +kernel)) ⟨_, rfl, _, _, rfl, lr2.gb, _, rfl, p, _, 3, _, rfl, rfl, hp2, atI_nat (j := 3) rfl, _, _, rfl, dget_i1 lr2.box hy, _, rfl, _, rfl, a, _, _, x.toNat, rfl, rfl, lr2.tr ej hla, ?_, ?_⟩⟩
      · rw [List.length_map]
        exact ixN_in x0 x1
      · have l3 := lr2.putT (l' := l.set x.toNat y) ej hla t3 (by rw [List.length_set]; exact k8) fun u hu => (List.mem_or_eq_of_mem_set hu).elim (v8 u) fun e => e ▸ (lr.ok.has hy).1
        rw [List.map_set] at l3
        exact q _ _ _ l3 rfl (mc_setT ej) rfl
    | @put0 t a0 b l x y hl hx hy xx =>
      obtain ⟨p, rfl, hp⟩ := row4 dv
      refine ⟨_, rfl, p, _, 0, _, rfl, rfl, hp, atI_nat (j := 0) rfl, rfl, _, rfl, ifN (nf (by decide +kernel)) ?_⟩
      refine ⟨_, rfl, _, _, rfl, dget_k (lr.job ej) (jdk_t g), _, rfl, one 2 (by decide), fun z nz => ⟨_, rfl, p, _, 0, _, rfl, rfl, sqT_sm (same_new nz) hp, atI_nat (j := 0) rfl, rfl, .inr ⟨_, rfl, ?_⟩⟩⟩
      rw [decide_eq_false (show ¬ V.str "put" = V.str "get" from fun z => absurd (V.str.inj z) (by decide +kernel))]
      refine ⟨z, _, 0, _, rfl, rfl, .of upd_same, rfl, p, _, 1, _, rfl, rfl, sqT_sm (same_new nz) hp, atI_nat (j := 1) rfl, ?_⟩
      obtain ⟨g2, r2, a, e2, hla⟩ := tr_of hl
      rw [ej] at e2
      cases e2
      have s1 := same_new (o := .lst [V.int 1, .int 2]) nz
      have lr1 := lr.sm s1
      refine ⟨_, _, rfl, dget_i1 (lr1.trs ej) hla, ?_⟩
      dsimp only [gName]
      generalize upd H z (.lst [V.int 1, .int 2]) = H1 at s1 lr1 ⊢
      refine ⟨_, rfl, _, _, rfl, lr1.gb, _, rfl, one 2 (by decide), fun z2 nz2 => ⟨_, rfl, p, _, 0, _, rfl, rfl, sqT_sm (s1.trans (same_new nz2)) hp, atI_nat (j := 0) rfl, rfl, .inr ⟨_, rfl, ?_⟩⟩⟩
      rw [decide_eq_false (show ¬ V.str "put" = V.str "get" from fun z => absurd (V.str.inj z) (by decide +kernel))]
      refine ⟨z2, _, 0, _, rfl, rfl, .of upd_same, rfl, p, _, 2, _, rfl, rfl, sqT_sm (s1.trans (same_new nz2)) hp, atI_nat (j := 2) rfl, ?_⟩
      have s2 := s1.trans (same_new (o := .lst [V.int 2, .int 3]) nz2)
      have lr2 := lr.sm s2
      generalize upd H1 z2 (.lst [V.int 2, .int 3]) = H2 at s2 lr2 ⊢
      refine ⟨_, _, rfl, dget_i1 lr2.box hx, ?_⟩
      dsimp only [gName]
      have bad : ∀ (Hx : Hp) , LrAt K L nb HD H0 Hx G m → ∀ t, Hx t = none → Q (.ref t) (upd Hx t (.tup [V.str "fault", .str "place"])) := fun Hx lx t nt => q _ _ _ (lx.sm (same_new nt)) rfl rfl (.tup (.of upd_same) (.cons (.str _) (.cons (.str _) .nil)))
      by_cases cx : x < 0
      · exact ⟨_, rfl, _, _, rfl, rfl, _, rfl, ifD cx ⟨one 2 (by decide), bad _ lr2⟩⟩
      · exact ⟨_, rfl, _, _, rfl, rfl, _, rfl, ifN cx ⟨_, rfl, _, rfl, a, _, rfl, .inl (.of (lr2.tr ej hla)), _, _, rfl, rfl, _, rfl, ifD (by rw [List.length_map]; omega) ⟨one 2 (by decide), bad _ lr2⟩⟩⟩
    | _ => exact sel.elim
end

section
variable {P : Program} {w : World} {K : PySem.W.Frag} {mg : Str → Option Value} {base : Heap}
variable {L : List LP} {nb : Nat} {HD H0 H : Hp} {G : GM} {m : Nat}
def LR.isS : LR → Prop
  | .no _ _ => True
  | .op _ _ _ _ => True
  | _ => False
theorem in_dr (z : Str) : inV (.str z) [.str "div", .str "rem"] = decide (z = "div" ∨ z = "rem") := by
  unfold inV
  rw [List.any_cons, List.any_cons, List.any_nil, Bool.or_false]
  show ((("div" : Str) == z) || (("rem" : Str) == z)) = _
  by_cases h1 : ("div" : Str) = z
  · rw [beq_iff_eq.mpr h1, Bool.true_or, decide_eq_true (.inl h1.symm)]
  · rw [beq_eq_false_iff_ne.mpr h1, Bool.false_or]
    by_cases h2 : ("rem" : Str) = z
    · rw [beq_iff_eq.mpr h2, decide_eq_true (.inr h2.symm)]
    · rw [beq_eq_false_iff_ne.mpr h2, decide_eq_false]
      exact fun q => q.elim (fun k => h1 k.symm) fun k => h2 k.symm
def f1 (z : Str) (x y : Int) : Int := if z = "add" then x + y else if z = "sub" then x - y else if z = "mul" then x * y else if z = "less" then b2n (decide (x < y)) else 0
theorem f1_val (z : Str) (x y : Int) : (valV ([(.inr "add", .int (x + y)), (.inr "sub", .int (x - y)), (.inr "mul", .int (x * y)), (.inr "less", .int (b2n (decide (x < y))))] : List (Key × V)) (.inr z)).getD (.int 0) = .int (f1 z x y) := by
  have e : ∀ {a b : Str}, ((Sum.inr a : Key) = .inr b) ↔ b = a := ⟨fun h => (Sum.inr.inj h).symm, fun h => by rw [h]⟩
  unfold f1
  by_cases h1 : z = "add"
  · rw [valV_pos (e.mpr h1), if_pos h1]; rfl
  rw [valV_neg fun q => h1 (e.mp q), if_neg h1]
  by_cases h2 : z = "sub"
  · rw [valV_pos (e.mpr h2), if_pos h2]; rfl
  rw [valV_neg fun q => h2 (e.mp q), if_neg h2]
  by_cases h3 : z = "mul"
  · rw [valV_pos (e.mpr h3), if_pos h3]; rfl
  rw [valV_neg fun q => h3 (e.mp q), if_neg h3]
  by_cases h4 : z = "less"
  · rw [valV_pos (e.mpr h4), if_pos h4]; rfl
  rw [valV_neg fun q => h4 (e.mp q), if_neg h4]
  rfl
def f2 (z : Str) (x y : Int) : Int := if z = "same" then b2n (decide (x = y)) else f1 z x y
def f3 (z : Str) (x y : Int) : Int := if z = "div" ∨ z = "rem" then (if z = "rem" then x - x.fdiv y * y else x.fdiv y) else f2 z x y
theorem dec_v {x y : Int} : decide (V.int x = V.int y) = decide (x = y) := decide_eq_decide.mpr ⟨V.int.inj, fun h => by rw [h]⟩
theorem wr_b2n (b : Bool) : wr (b2n b) = b2n b := by cases b <;> decide
theorem f3_rck {z : Str} {x y : Int} (hz : z ∈ wds) (hy : ¬ ((z = "div" ∨ z = "rem") ∧ y = 0)) : rck z x y = some (wr (f3 z x y)) := by
  have n1 : ("add" : Str) ≠ "sub" ∧ ("add" : Str) ≠ "mul" ∧ ("add" : Str) ≠ "less" ∧ ("add" : Str) ≠ "same" ∧ ("add" : Str) ≠ "div" ∧ ("add" : Str) ≠ "rem" := by decide +kernel
  have n2 : ("sub" : Str) ≠ "mul" ∧ ("sub" : Str) ≠ "less" ∧ ("sub" : Str) ≠ "same" ∧ ("sub" : Str) ≠ "div" ∧ ("sub" : Str) ≠ "rem" ∧ ("sub" : Str) ≠ "add" := by decide +kernel
  have n3 : ("mul" : Str) ≠ "less" ∧ ("mul" : Str) ≠ "same" ∧ ("mul" : Str) ≠ "div" ∧ ("mul" : Str) ≠ "rem" ∧ ("mul" : Str) ≠ "add" ∧ ("mul" : Str) ≠ "sub" := by decide +kernel
  have n4 : ("less" : Str) ≠ "same" ∧ ("less" : Str) ≠ "div" ∧ ("less" : Str) ≠ "rem" ∧ ("less" : Str) ≠ "add" ∧ ("less" : Str) ≠ "sub" ∧ ("less" : Str) ≠ "mul" := by decide +kernel
  have n5 : ("same" : Str) ≠ "div" ∧ ("same" : Str) ≠ "rem" ∧ ("same" : Str) ≠ "add" ∧ ("same" : Str) ≠ "sub" ∧ ("same" : Str) ≠ "mul" ∧ ("same" : Str) ≠ "less" := by decide +kernel
  have n6 : ("div" : Str) ≠ "rem" ∧ ("div" : Str) ≠ "add" ∧ ("div" : Str) ≠ "sub" ∧ ("div" : Str) ≠ "mul" ∧ ("div" : Str) ≠ "less" ∧ ("div" : Str) ≠ "same" := by decide +kernel
  have n7 : ("rem" : Str) ≠ "div" ∧ ("rem" : Str) ≠ "add" ∧ ("rem" : Str) ≠ "sub" ∧ ("rem" : Str) ≠ "mul" ∧ ("rem" : Str) ≠ "less" ∧ ("rem" : Str) ≠ "same" := by decide +kernel
  unfold wds at hz
  simp only [List.mem_cons, List.not_mem_nil, or_false] at hz
  rcases hz with rfl | rfl | rfl | rfl | rfl | rfl | rfl
  · simp [rck, f3, f2, f1, n1]
  · simp [rck, f3, f2, f1, n2]
  · simp [rck, f3, f2, f1, n3]
  · have y0 : ¬ y = 0 := fun h => hy ⟨.inl rfl, h⟩
    simp [rck, f3, f2, f1, n6, y0]
  · have y0 : ¬ y = 0 := fun h => hy ⟨.inr rfl, h⟩
    simp [rck, f3, f2, f1, n7, y0]
    rw [Int.fmod_def, Int.mul_comm]
  · simp [rck, f3, f2, f1, n4, wr_b2n]
  · simp [rck, f3, f2, f1, n5, wr_b2n]
theorem rck_no {z : Str} {x y : Int} (hz : z ∈ wds) : rck z x y = none ↔ ((z = "div" ∨ z = "rem") ∧ y = 0) := by
  refine ⟨fun h => ?_, fun h => ?_⟩
  · by_cases c : (z = "div" ∨ z = "rem") ∧ y = 0
    · exact c
    · rw [f3_rck hz c] at h
      cases h
  · have n6 : ("div" : Str) ≠ "rem" ∧ ("div" : Str) ≠ "add" ∧ ("div" : Str) ≠ "sub" ∧ ("div" : Str) ≠ "mul" ∧ ("div" : Str) ≠ "less" ∧ ("div" : Str) ≠ "same" := by decide +kernel
    have n7 : ("rem" : Str) ≠ "div" ∧ ("rem" : Str) ≠ "add" ∧ ("rem" : Str) ≠ "sub" ∧ ("rem" : Str) ≠ "mul" ∧ ("rem" : Str) ≠ "less" ∧ ("rem" : Str) ≠ "same" := by decide +kernel
    obtain ⟨rfl | rfl, rfl⟩ := h
    · simp [rck, n6]
    · simp [rck, n7]
theorem stp_op {c c' : MC} {z : Str} {b a d : Nat} {e : Option LE} (h : Stp L c (.op z b a d) c' e) : ∃ x y, c.has (.b a) = some x ∧ c.has (.b d) = some y ∧ ((∃ v, rck z x y = some v ∧ c' = c.gets v (.b b) ∧ e = none) ∨ (rck z x y = none ∧ c' = c ∧ e = some .div)) := by
  cases h with
  | op hx hy hv => exact ⟨_, _, hx, hy, .inl ⟨_, hv, rfl, rfl⟩⟩
  | op0 hx hy hv => exact ⟨_, _, hx, hy, .inr ⟨hv, rfl, rfl⟩⟩
theorem ok__law_sum_row (T : Top K mg) : FnOk P w K mg base CX0 1 (He.ga K "_law_sum_row") T.fd__law_sum_row ["_law_run", "_law_row"] (sp_lrow K L nb LR.isS) := by
  refine T.F__law_sum_row.ok sc__law_sum_row (fun vs H Q E h => ?_) (fun cdv A0 outer s0 H vs Q E hr h => ?_)
  · obtain ⟨HD, H0, G, m, rv, r, c', e, rfl, _⟩ := h
    rfl
  · obtain ⟨HD, H0, G, m, rv, r, c', e, rfl, lr, ne, dv, sel, ro, st, q⟩ := h
    refine ⟨_, PSs.nox (pss_cons (ps_set (i := 2) sc__law_sum_row.nd rfl (Or.inl rfl) (pe_dget (hu_of hr) (pe_dget (hu_of hr) (pv 0) pe_str (fun _ _ => rfl)) (pe_ix ix_tup (pv 1) pe_int (fun _ _ => rfl)) (fun _ _ => rfl)))
        (pss_cons (ps_if (pt_cmpR op_eq (pe_ix ix_tup (pv 1) pe_int (fun _ _ => rfl)) pe_str (nomark _)) (pss_cons (ps_dput (hu_of hr) (pe_dget (hu_of hr) (pv 0) pe_str (fun _ _ => rfl)) (pe_ix ix_tup (pv 1) pe_int (fun _ _ => rfl)) (pe_callTy call_int1 (by rfl) T.m_int (by decide +kernel) (pa_cons (pe_cmpR op_eq (pv 2) pe_int (nomark _)) pa_nil)) (by rfl))
        (pss_one (ps_ret pe_non))) pss_nil)
        (pss_cons (ps_set (i := 3) sc__law_sum_row.nd rfl (Or.inl rfl) (pe_dget (hu_of hr) (pe_dget (hu_of hr) (pv 0) pe_str (fun _ _ => rfl)) (pe_ix ix_tup (pv 1) pe_int (fun _ _ => rfl)) (fun _ _ => rfl)))
        (pss_cons (ps_if (PW.pt (pw_and (pt_cmpR op_in_seq (pe_ix ix_tup (pv 1) pe_int (fun _ _ => rfl)) (pe_lst (pa_cons pe_str (pa_cons pe_str pa_nil))) (by rfl)) (pw_and1 (pt_cmpR op_eq (pv 3) pe_int (nomark _))))) (pss_one (ps_ret (pe_tup (pa_cons pe_str (pa_cons pe_str pa_nil))))) pss_nil)
        (pss_cons (ps_set (i := 4) sc__law_sum_row.nd rfl (Or.inl rfl) (pe_dget2 (hu_of hr) (pe_disp (pps_cons pe_str (pe_op op_add (pv 2) (pv 3)) (pps_cons pe_str (pe_op op_sub (pv 2) (pv 3)) (pps_cons pe_str (pe_op op_mul (pv 2) (pv 3)) (pps_cons pe_str (pe_callTy call_int1 (by rfl) T.m_int (by decide +kernel) (pa_cons (pe_cmpR op_lt (pv 2) (pv 3) (nomark _)) pa_nil)) pps_nil)))) (by rfl) (by rfl) (fun z => by cases z) (by decide)) (pe_ix ix_tup (pv 1) pe_int (fun _ _ => rfl)) pe_int ⟨rfl, rfl, rfl, rfl⟩))
        (pss_cons (ps_if (pt_cmpR op_eq (pe_ix ix_tup (pv 1) pe_int (fun _ _ => rfl)) pe_str (nomark _)) (pss_one (ps_set (i := 4) sc__law_sum_row.nd rfl (Or.inl rfl) (pe_callTy call_int1 (by rfl) T.m_int (by decide +kernel) (pa_cons (pe_cmpR op_eq (pv 2) (pv 3) (nomark _)) pa_nil)))) pss_nil)
        (pss_cons (ps_if (pt_cmpR op_in_seq (pe_ix ix_tup (pv 1) pe_int (fun _ _ => rfl)) (pe_lst (pa_cons pe_str (pa_cons pe_str pa_nil))) (by rfl)) (pss_one (ps_set (i := 4) sc__law_sum_row.nd rfl (Or.inl rfl) (pe_ix ix_list (pe_lst (pa_cons (pe_op op_fdivG (pv 2) (pv 3)) (pa_cons (pe_op op_sub (pv 2) (pe_op op_mul (pe_op op_fdivG (pv 2) (pv 3)) (pv 3))) pa_nil))) (pe_callTy call_int1 (by rfl) T.m_int (by decide +kernel) (pa_cons (pe_cmpR op_eq (pe_ix ix_tup (pv 1) pe_int (fun _ _ => rfl)) pe_str (nomark _)) pa_nil)) (fun _ _ => rfl)))) pss_nil)
        (pss_cons (ps_dput (hu_of hr) (pe_dget (hu_of hr) (pv 0) pe_str (fun _ _ => rfl)) (pe_ix ix_tup (pv 1) pe_int (fun _ _ => rfl)) (pe_op op_sub (pe_op op_mod (pe_op op_add (pv 4) pe_int) pe_int) pe_int) (by rfl))
        (pss_one (ps_ret pe_non)))))))))), ?_⟩
    have one : ∀ n : Nat, n ≤ 10000 → n ≤ sizeLine := fun n h => by rw [sizeLine_eq]; omega
    cases r with
    | no b a =>
      cases st with
      | @no _ _ x hx =>
      obtain ⟨p, rfl, hp⟩ := row3 dv
      refine ⟨_, rfl, _, _, rfl, lr.gb, _, rfl, p, _, 2, _, rfl, rfl, hp, atI_nat (j := 2) rfl, _, _, rfl, dget_i1 lr.box hx, ?_⟩
      dsimp only [gName, List.set]
      refine ⟨_, rfl, p, _, 0, _, rfl, rfl, hp, atI_nat (j := 0) rfl, rfl, _, rfl, ifD rfl ?_⟩
      refine ⟨_, rfl, rfl, .inr ⟨_, rfl, _, rfl, _, _, rfl, lr.gb, _, rfl, p, _, 1, _, rfl, rfl, hp, atI_nat (j := 1) rfl, ?_⟩⟩
      rw [show (if decide (V.int x = V.int 0) = true then (1 : Int) else 0) = b2n (decide (x = 0)) by rw [dec_v]; rfl]
      exact ⟨_, _, rfl, dput_i lr.box lr.bx5, q _ _ _ (lr.gets_b (ro.1 _ (List.mem_cons_self ..)) (b2n_32 _)) rfl rfl rfl⟩
    | op z b a d =>
      obtain ⟨x, y, hx, hy, hst⟩ := stp_op st
      obtain ⟨p, rfl, hp⟩ := row4 dv
      have hz : z ∈ wds := ro.2
      have ix := (lr.ok.has hx).1
      have iy := (lr.ok.has hy).1
      refine ⟨_, rfl, _, _, rfl, lr.gb, _, rfl, p, _, 2, _, rfl, rfl, hp, atI_nat (j := 2) rfl, _, _, rfl, dget_i1 lr.box hx, ?_⟩
      dsimp only [gName, List.set]
      refine ⟨_, rfl, p, _, 0, _, rfl, rfl, hp, atI_nat (j := 0) rfl, rfl, _, rfl, ifN ?_ ?_⟩
      · intro q0
        have := V.str.inj q0
        subst this
        exact absurd hz (by decide +kernel)
      refine ⟨_, rfl, _, _, rfl, lr.gb, _, rfl, p, _, 3, _, rfl, rfl, hp, atI_nat (j := 3) rfl, _, _, rfl, dget_i1 lr.box hy, ?_⟩
      dsimp only [gName, List.set]
      refine ifs_by (fun σ' H' => Same H H' ∧ ¬ ((z = "div" ∨ z = "rem") ∧ y = 0) ∧ σ' = [some (.ref G.o), some (.ref p), some (.int x), some (.int y), none]) ?_ ?_
      · rintro σ' H1 ⟨s1, ndr, rfl⟩
        refine fun D nD => ?_
        refine ⟨_, rfl, _, rfl, _, _, rfl, rfl, _, rfl, _, rfl, _, _, rfl, rfl, _, rfl, _, rfl, _, _, rfl, rfl, .inl ⟨by unfold In32 at ix; omega, by unfold In32 at ix; omega⟩, _, rfl, _, rfl, _, _, rfl, rfl, .inr ⟨_, rfl, ?_⟩⟩
        have lr1 := lr.sm s1
        have s2 := s1.trans (same_new (o := .dK []) nD)
        obtain ⟨kv, hkv⟩ : ∃ kv : List (Key × V), kv = [(.inr "add", .int (x + y)), (.inr "sub", .int (x - y)), (.inr "mul", .int (x * y)), (.inr "less", .int (b2n (decide (x < y))))] := ⟨_, rfl⟩
        have f1v := f1_val z x y
        rw [← hkv] at f1v
        refine ⟨upd_same, kv, by rw [hkv]; rfl, by rw [hkv]; show 4 ≤ 15; decide, ?_⟩
        have hm : mergeK [] kv = kv := by
          rw [hkv]
          exact merge_nd _ [] (by show (([Sum.inr "add", .inr "sub", .inr "mul", .inr "less"] : List Key)).Nodup; decide +kernel)
        rw [hm, upd_upd]
        have s3 : Same H (upd H1 D (.dK kv)) := s1.trans (same_new nD)
        have eD : upd H1 D (.dK kv) D = some (.dK kv) := upd_same
        clear s2 hkv hm
        generalize upd H1 D (.dK kv) = H2 at s3 eD ⊢
        refine ⟨D, rfl, .inl ⟨_, .inl eD⟩, _, rfl, p, _, 0, _, rfl, rfl, sqT_sm s3 hp, atI_nat (j := 0) rfl, _, DGet.k (k := .inr z) eD, ?_⟩
        rw [f1v]
        dsimp only [gName, List.set]
        have hp2 := sqT_sm s3 hp
        refine ifs_by (fun σ' H' => H' = H2 ∧ σ' = [some (.ref G.o), some (.ref p), some (.int x), some (.int y), some (.int (f2 z x y))]) ?_ ?_
        · rintro σ' H' ⟨rfl, rfl⟩
          refine ifs_by (fun σ' H3 => Same H H3 ∧ σ' = [some (.ref G.o), some (.ref p), some (.int x), some (.int y), some (.int (f3 z x y))]) ?_ ?_
          · rintro σ' H3 ⟨s4, rfl⟩
            have lr3 := lr.sm s4
            have hp3 := sqT_sm s4 hp
            have hv := f3_rck (x := x) hz ndr
            obtain ⟨rfl, rfl⟩ : c' = G.mc.gets (wr (f3 z x y)) (.b b) ∧ e = none := by
              rcases hst with ⟨v, h0, h1, h2⟩ | ⟨h0, _⟩
              · rw [hv] at h0
                cases h0
                exact ⟨h1, h2⟩
              · rw [hv] at h0
                cases h0
            exact ⟨_, rfl, _, _, rfl, rfl, _, _, rfl, rfl, (by show (0 : Int) < 4294967296; decide), _, _, rfl, rfl, _, rfl, _, _, rfl, lr3.gb, _, rfl, p, _, 1, _, rfl, rfl, hp3, atI_nat (j := 1) rfl, _, _, rfl, dput_i lr3.box lr3.bx5 (x := wr (f3 z x y)), q _ _ _ (lr3.gets_b (ro.1 _ (List.mem_cons_self ..)) (wr_32 _)) rfl rfl rfl⟩
          · intro N hN
            refine ⟨_, rfl, p, _, 0, _, rfl, rfl, hp2, atI_nat (j := 0) rfl, one 2 (by decide), fun n1 hn1 => ⟨n1, _, rfl, .inl (.of upd_same), rfl, rfl, _, rfl, ite2 (fun c => ?_) (fun c => ?_)⟩⟩
            · have c1 : inV (.str z) [.str "div", .str "rem"] = true := c
              rw [in_dr, decide_eq_true_eq] at c1
              have y0 : y ≠ 0 := fun h => ndr ⟨c1, h⟩
              have lg : y.natAbs.log2 < 9000 := log_small ⟨iy.1, by have := iy.2; omega⟩
              refine ⟨_, rfl, _, rfl, _, _, rfl, rfl, ⟨y0, lg⟩, _, rfl, _, rfl, _, rfl, _, _, rfl, rfl, ⟨y0, lg⟩, _, rfl, _, _, rfl, rfl, .inr ⟨by unfold In32 at iy; omega, by unfold In32 at iy; omega⟩, _, _, rfl, rfl, one 2 (by decide), fun n2 hn2 => ?_⟩
              have s5 := (s3.trans (same_new (o := .lst [V.str "div", .str "rem"]) hn1)).trans (same_new (o := .lst [V.int (x.fdiv y), .int (x - x.fdiv y * y)]) hn2)
              refine ⟨_, rfl, p, _, 0, _, rfl, rfl, sqT_sm s5 hp, atI_nat (j := 0) rfl, rfl, .inr ⟨_, rfl, ?_⟩⟩
              by_cases c2 : z = "rem"
              · rw [decide_eq_true (congrArg V.str c2)]
                refine ⟨n2, _, 1, _, rfl, rfl, .of upd_same, rfl, hN _ _ ⟨s5, ?_⟩⟩
                rw [f3, if_pos c1, if_pos c2]
                rfl
              · rw [decide_eq_false fun q0 => c2 (V.str.inj q0)]
                refine ⟨n2, _, 0, _, rfl, rfl, .of upd_same, rfl, hN _ _ ⟨s5, ?_⟩⟩
                rw [f3, if_pos c1, if_neg c2]
                rfl
            · have c1 : ¬ (inV (.str z) [.str "div", .str "rem"] = true) := c
              rw [in_dr, decide_eq_true_eq] at c1
              refine hN _ _ ⟨s3.trans (same_new hn1), ?_⟩
              unfold f3
              rw [if_neg c1]
        · intro N hN
          refine ⟨_, rfl, p, _, 0, _, rfl, rfl, hp2, atI_nat (j := 0) rfl, rfl, _, rfl, ite2 (fun c => ?_) (fun c => ?_)⟩
          · have c1 : z = "same" := V.str.inj (of_decide_eq_true c)
            refine ⟨_, rfl, _, rfl, rfl, .inr ⟨_, rfl, ?_⟩⟩
            rw [show (if decide (V.int x = V.int y) = true then (1 : Int) else 0) = f2 z x y by rw [dec_v, f2, if_pos c1]; rfl]
            exact hN _ _ ⟨rfl, rfl⟩
          · have c1 : ¬ z = "same" := fun q0 => c (decide_eq_true (congrArg V.str q0))
            refine hN _ _ ⟨rfl, ?_⟩
            rw [f2, if_neg c1]
      · intro N hN
        refine ⟨_, rfl, p, _, 0, _, rfl, rfl, hp, atI_nat (j := 0) rfl, one 2 (by decide), fun n1 hn1 => ⟨n1, _, rfl, .inl (.of upd_same), rfl, rfl, _, rfl, ite2 (fun c => ?_) (fun c => ?_)⟩⟩
        · have c1 : inV (.str z) [.str "div", .str "rem"] = true := c
          rw [in_dr, decide_eq_true_eq] at c1
          refine ⟨_, rfl, rfl, _, rfl, ite2 (fun c2 => ?_) (fun c2 => ?_)⟩
          · have y0 : y = 0 := V.int.inj (of_decide_eq_true c2)
            obtain ⟨rfl, rfl⟩ : c' = G.mc ∧ e = some .div := by
              rcases hst with ⟨v, hv, _⟩ | ⟨_, h1, h2⟩
              · rw [(rck_no hz).mpr ⟨c1, y0⟩] at hv
                cases hv
              · exact ⟨h1, h2⟩
            exact ⟨one 2 (by decide), fun t nt => q _ _ _ (lr.sm ((same_new hn1).trans (same_new nt))) rfl rfl (.tup (.of upd_same) (.cons (.str _) (.cons (.str _) .nil)))⟩
          · have y0 : ¬ y = 0 := fun q0 => c2 (decide_eq_true (congrArg V.int q0))
            exact hN _ _ ⟨same_new hn1, fun q0 => y0 q0.2, rfl⟩
        · have c1 : ¬ (inV (.str z) [.str "div", .str "rem"] = true) := c
          rw [in_dr, decide_eq_true_eq] at c1
          exact hN _ _ ⟨same_new hn1, fun q0 => c1 q0.1, rfl⟩
    | _ => exact sel.elim
end

section
variable {P : Program} {w : World} {K : PySem.W.Frag} {mg : Str → Option Value} {base : Heap}
variable {L : List LP} {nb : Nat} {HD H0 H : Hp} {G : GM} {m : Nat}
def LR.isW : LR → Prop
  | .jump _ => True
  | .cho _ _ _ => True
  | .call _ _ _ => True
  | .give _ => True
  | .fail _ => True
  | _ => False
theorem LrAt.goto {g : GJ} {r : List GJ} (h : LrAt K L nb HD H0 H G m) (e : G.js = g :: r) (k : Nat) : LrAt K L nb HD H0 (upd H g.o (.dK (jdk { g with at_ := k }))) { G with js := { g with at_ := k } :: r } m := by
  refine ⟨Ow.job (F := lF) h.ow e, h.s, fun x hx => ?_, ?_, h.tb, by have := h.jb; rw [e] at this; exact this, h.mb, h.n5⟩
  · rcases List.mem_cons.mp hx with rfl | hx
    · exact h.d g (by rw [e]; exact List.mem_cons_self ..)
    · exact h.d x (by rw [e]; exact List.mem_cons_of_mem _ hx)
  · have := h.ok.goto (k := k)
    unfold MC.goto GM.mc at this
    dsimp only at this
    rw [e] at this
    exact this
theorem mc_goto {g : GJ} {r : List GJ} (e : G.js = g :: r) {k : Nat} : ({ G with js := { g with at_ := k } :: r } : GM).mc = G.mc.goto k := by
  unfold MC.goto GM.mc
  dsimp only
  rw [e]
  rfl
theorem LrAt.pop {g : GJ} {r : List GJ} (h : LrAt K L nb HD H0 H G m) (e : G.js = g :: r) : LrAt K L nb HD H0 (upd H G.jl (.lst (jrefs r))) { G with js := r } m := by
  refine ⟨h.ow.end_ e, h.s, fun x hx => h.d x (by rw [e]; exact List.mem_cons_of_mem _ hx), ⟨h.ok.bw, h.ok.bv, fun j hj => h.ok.js j ?_⟩, h.tb, by have := h.jb; rw [e, List.length_cons] at this; show r.length ≤ m + 1; omega, h.mb, h.n5⟩
  show j ∈ G.js.map GJ.jb
  rw [e]
  exact List.mem_cons_of_mem _ hj
theorem at_put {g : GJ} {k : Nat} (h : H g.o = some (.dK (jdk g))) : DPut H g.o (.str "at") (.int (k : Nat)) (upd H g.o (.dK (jdk { g with at_ := k }))) := by
  rw [← jdk_at]
  exact dput_k h (by show 5 ≤ 100; decide)
theorem call_parts {H : Hp} {v : V} {c : Nat} {ps : List NP} {ans : NP} (h : Dp K H v (LR.call c ps ans).d) : ∃ p pp pv av, v = .ref p ∧ SqT K H p [.str "call", .int (c : Nat), .ref pp, av] ∧ SqT K H pp pv ∧ DpAll K H pv (ps.map NP.d) ∧ Dp K H av ans.d := by
  obtain ⟨p, xs, rfl, hp, dq⟩ := dp_tup h
  obtain ⟨z0, w0, rfl, g0, u0⟩ := dpAll_cons dq
  obtain ⟨z1, w1, rfl, g1, u1⟩ := dpAll_cons u0
  obtain ⟨z2, w2, rfl, g2, u2⟩ := dpAll_cons u1
  obtain ⟨z3, w3, rfl, g3, u3⟩ := dpAll_cons u2
  cases u3
  cases dp_str g0
  cases dp_int g1
  obtain ⟨pp, pv, rfl, h2, d2⟩ := dp_tup g2
  exact ⟨p, pp, pv, z3, rfl, hp, h2, d2, g3⟩
theorem ten_len : ∀ n : Int, 0 ≤ n → n < 100 → (Str.ofString (toString n)).length ≤ 2 ∧ n.natAbs.log2 < 1920 := by
  intro n h0 h1
  obtain ⟨k, rfl⟩ := Int.eq_ofNat_of_zero_le h0
  have h : ∀ k : Nat, k < 100 → (Str.ofString (toString (k : Int))).length ≤ 2 ∧ (k : Int).natAbs.log2 < 1920 := by decide +kernel
  exact h k (by omega)
theorem hasL_at {c : MC} : ∀ {ps : List NP} {vs : List Int}, HasL c ps vs → ∀ {i : Nat} {p : NP}, ps[i]? = some p → ∃ x, vs[i]? = some x ∧ c.has p = some x
  | _, _, .nil, i, p, e => by simp at e
  | _, _, .cons h t, 0, p, e => by cases e; exact ⟨_, rfl, h⟩
  | _, _, .cons h t, i + 1, p, e => hasL_at t (i := i) e
def sp_lway (K : PySem.W.Frag) (L : List LP) (nb : Nat) : Sp := fun vs H Q _ => ∃ (HD H0 : Hp) (G : GM) (m : Nat) (lv rv : V) (r : LR) (c' : MC) (e : Option LE), vs = [.ref G.o, lv, rv] ∧ LrAt K L nb HD H0 H G m ∧ G.js ≠ [] ∧ G.js.length ≤ m ∧ LsOk nb L ∧ Dp K HD lv (insL L) ∧ Dp K HD rv r.d ∧ LR.isW r ∧ RowOk nb r ∧ Stp L G.mc r c' e ∧
  ∀ H' G' v, LrAt K L nb HD H0 H' G' m → G'.o = G.o → G'.mc = c' → EvL K H' v e → Q v H'
theorem ok__law_way_row (T : Top K mg) : FnOk P w K mg base CX0 3 (He.ga K "_law_way_row") T.fd__law_way_row ["_law_run", "_law_last", "_law_row"] (sp_lway K L nb) := by
  have G__law_gets := ok__law_gets (P := P) (w := w) (base := base) (L := L) (nb := nb) T
  have G__law_has := ok__law_has (P := P) (w := w) (base := base) (L := L) (nb := nb) T
  have G__law_job := ok__law_job (P := P) (w := w) (base := base) (L := L) (nb := nb) T
  refine T.F__law_way_row.ok sc__law_way_row (fun vs H Q E h => ?_) (fun cdv A0 outer s0 H vs Q E hr h => ?_)
  · obtain ⟨HD, H0, G, m, lv, rv, r, c', e, rfl, _⟩ := h
    rfl
  · obtain ⟨HD, H0, G, m, lv, rv, r, c', e, rfl, lr, ne, jm, lo, dl, dv0, sel, ro, st, q⟩ := h
    refine ⟨_, PSs.nox (pss_cons (ps_set (i := 3) sc__law_way_row.nd rfl (Or.inl rfl) (pe_ix ix_list (pe_dget (hu_of hr) (pv 0) pe_str (fun _ _ => rfl)) (pe_un un_neg pe_int) (fun _ _ => rfl)))
        (pss_cons (ps_if (pt_cmpR op_eq (pe_ix ix_tup (pv 2) pe_int (fun _ _ => rfl)) pe_str (nomark _)) (pss_one (ps_dput (hu_of hr) (pv 3) pe_str (pe_ix ix_tup (pv 2) pe_int (fun _ _ => rfl)) (by rfl))) (pss_one (ps_if (pt_cmpR op_eq (pe_ix ix_tup (pv 2) pe_int (fun _ _ => rfl)) pe_str (nomark _)) (pss_one (ps_dput (hu_of hr) (pv 3) pe_str (pe_ix ix_list (pe_lst (pa_cons (pe_ix ix_tup (pv 2) pe_int (fun _ _ => rfl)) (pa_cons (pe_ix ix_tup (pv 2) pe_int (fun _ _ => rfl)) pa_nil))) (pe_callTy call_int1 (by rfl) T.m_int (by decide +kernel) (pa_cons (pe_cmpR op_eq (pe_dget (hu_of hr) (pe_dget (hu_of hr) (pv 0) pe_str (fun _ _ => rfl)) (pe_ix ix_tup (pv 2) pe_int (fun _ _ => rfl)) (fun _ _ => rfl)) pe_int (nomark _)) pa_nil)) (fun _ _ => rfl)) (by rfl))) (pss_one (ps_if (pt_cmpR op_eq (pe_ix ix_tup (pv 2) pe_int (fun _ _ => rfl)) pe_str (nomark _)) (pss_one (ps_expr (pe_call G__law_job (hr.mono (by omega)) (by rfl) T.g__law_job T.F__law_job.kp T.b__law_job .nil pass0 (pa_cons (pv 0) (pa_cons (pv 1) (pa_cons (pe_ix ix_tup (pv 2) pe_int (fun _ _ => rfl)) (pa_cons (pe_lc (own := [("_law_place", 4)]) (by rfl) sc__law_way_row.nd (pi_tup (pe_ix ix_tup (pv 2) pe_int (fun _ _ => rfl))) (blkOk_by (own := [("_law_place", 4)]) (N := N__law_way_row) (sc := defScope s__law_way_row) (by decide +kernel)) (fun _ _ _ _ _ => (pg_name (i := 4) sc__law_way_row.nd rfl (Or.inl rfl))) (fun _ _ _ _ _ => pts_nil) (fun _ _ _ _ _ => (pe_call G__law_has (hr.mono (by omega)) (by rfl) T.g__law_has T.F__law_has.kp T.b__law_has .nil pass0 (pa_cons (pv 0) (pa_cons (pv 4) pa_nil))))) (pa_cons (pe_ix ix_tup (pv 2) pe_int (fun _ _ => rfl)) pa_nil)))))))) (pss_one (ps_if (pt_cmpR op_eq (pe_ix ix_tup (pv 2) pe_int (fun _ _ => rfl)) pe_str (nomark _)) (pss_one (ps_ret (pe_tup (pa_cons pe_str (pa_cons (pe_op op_add_str pe_str (pe_callTy call_str_int (by rfl) T.m_str (by decide +kernel) (pa_cons (pe_ix ix_tup (pv 2) pe_int (fun _ _ => rfl)) pa_nil))) pa_nil))))) (pss_cons (ps_expr (pe_bm0 PySem.F.plainAttrs_list PySem.F.slot_list_pop PySem.F.type_list_pop mt_pop (pe_dget (hu_of hr) (pv 0) pe_str (fun _ _ => rfl))))
        (pss_cons (ps_if (pt_cmpR (LEq.op_eqNil hr.units) (pe_dget (hu_of hr) (pv 0) pe_str (fun _ _ => rfl)) (pe_lst pa_nil) (nomark _)) (pss_one (ps_ret (pe_tup (pa_cons pe_str (pa_cons (pe_dget (hu_of hr) (pe_dget (hu_of hr) (pv 0) pe_str (fun _ _ => rfl)) (pe_ix ix_tup (pv 2) pe_int (fun _ _ => rfl)) (fun _ _ => rfl)) pa_nil))))) pss_nil)
        (pss_one (ps_expr (pe_call G__law_gets (hr.mono (by omega)) (by rfl) T.g__law_gets T.F__law_gets.kp T.b__law_gets .nil pass0 (pa_cons (pv 0) (pa_cons (pe_dget (hu_of hr) (pv 3) pe_str (fun _ _ => rfl)) (pa_cons (pe_dget (hu_of hr) (pe_dget (hu_of hr) (pv 0) pe_str (fun _ _ => rfl)) (pe_ix ix_tup (pv 2) pe_int (fun _ _ => rfl)) (fun _ _ => rfl)) pa_nil)))))))))))))))
        (pss_one (ps_ret pe_non)))), ?_⟩
    obtain ⟨g, js, ej⟩ := List.exists_cons_of_ne_nil ne
    have one : ∀ n : Nat, n ≤ 10000 → n ≤ sizeLine := fun n h => by rw [sizeLine_eq]; omega
    have dv := dp_sm lr.hd dv0
    have no : ∀ {y z : Str}, decide (y = z) = false → ¬ V.str y = V.str z := fun h q => of_decide_eq_false h (V.str.inj q)
    refine ⟨_, rfl, _, _, rfl, lr.gj, 1, rfl, G.jl, _, -1, _, rfl, rfl, .of (lr.last ej), atI_lst, ?_⟩
    dsimp only [gName, List.set]
    have sq1 : ∀ {js : List GJ} (p : Addr) {xs : List V}, SqT K H p xs → SqT K (upd H G.jl (.lst (jrefs js))) p xs := fun {js} p {xs} hp => sqT_kp (Kp.upd (S := fun b => b = G.jl) (lr.last ej) trivial rfl) hp
    cases st with
    | @jump k =>
      obtain ⟨p, rfl, hp⟩ := row2 dv
      refine ⟨_, rfl, p, _, 0, _, rfl, rfl, hp, atI_nat (j := 0) rfl, rfl, _, rfl, ifD rfl ?_⟩
      exact ⟨_, rfl, p, _, 1, _, rfl, rfl, hp, atI_nat (j := 1) rfl, _, rfl, _, _, rfl, at_put (lr.job ej), q _ _ _ (lr.goto ej k) rfl (mc_goto ej) rfl⟩
    | @cho b r1 r2 x hx =>
      obtain ⟨p, rfl, hp⟩ := row4 dv
      refine ⟨_, rfl, p, _, 0, _, rfl, rfl, hp, atI_nat (j := 0) rfl, rfl, _, rfl, ifN (no (by decide +kernel)) ?_⟩
      refine ⟨_, rfl, p, _, 0, _, rfl, rfl, hp, atI_nat (j := 0) rfl, rfl, _, rfl, ifD rfl ?_⟩
      refine ⟨_, rfl, p, _, 2, _, rfl, rfl, hp, atI_nat (j := 2) rfl, _, rfl, p, _, 3, _, rfl, rfl, hp, atI_nat (j := 3) rfl, one 2 (by decide), fun n hn => ?_⟩
      have s1 := same_new (o := .lst [V.int (r1 : Nat), .int (r2 : Nat)]) hn
      have lr1 := lr.sm s1
      have e1 : upd H n (.lst [V.int (r1 : Nat), .int (r2 : Nat)]) n = some (.lst [V.int (r1 : Nat), .int (r2 : Nat)]) := upd_same
      generalize upd H n (.lst [V.int (r1 : Nat), .int (r2 : Nat)]) = H1 at s1 lr1 e1 ⊢
      refine ⟨_, rfl, _, _, rfl, lr1.gb, _, rfl, p, _, 1, _, rfl, rfl, sqT_sm s1 hp, atI_nat (j := 1) rfl, _, _, rfl, dget_i1 lr1.box hx, rfl, .inr ⟨_, rfl, ?_⟩⟩
      rw [dec_v]
      by_cases c : x = 0
      · rw [decide_eq_true c]
        exact ⟨n, _, 1, _, rfl, rfl, .of e1, rfl, _, rfl, _, _, rfl, at_put (lr1.job ej), q _ _ _ (lr1.goto ej r2) rfl ((mc_goto ej).trans (by rw [if_pos c])) rfl⟩
      · rw [decide_eq_false c]
        exact ⟨n, _, 0, _, rfl, rfl, .of e1, rfl, _, rfl, _, _, rfl, at_put (lr1.job ej), q _ _ _ (lr1.goto ej r1) rfl ((mc_goto ej).trans (by rw [if_neg c])) rfl⟩
    | @call n ps ans qp vs hq hv hl =>
      obtain ⟨p, pp, pw, av, rfl, hp0, hpp0, dps, dav⟩ := call_parts dv0
      have hp := sqT_sm lr.hd hp0
      have hpp := sqT_sm lr.hd hpp0
      refine ⟨_, rfl, p, _, 0, _, rfl, rfl, hp, atI_nat (j := 0) rfl, rfl, _, rfl, ifN (no (by decide +kernel)) ?_⟩
      refine ⟨_, rfl, p, _, 0, _, rfl, rfl, hp, atI_nat (j := 0) rfl, rfl, _, rfl, ifN (no (by decide +kernel)) ?_⟩
      refine ⟨_, rfl, p, _, 0, _, rfl, rfl, hp, atI_nat (j := 0) rfl, rfl, _, rfl, ifD rfl ?_⟩
      refine ⟨_, rfl, _, rfl, _, rfl, p, _, 1, _, rfl, rfl, hp, atI_nat (j := 1) rfl, _, rfl, p, _, 2, _, rfl, rfl, hp, atI_nat (j := 2) rfl, ?_⟩
      have lps := dpAll_len dps
      rw [List.length_map] at lps
      have lvs := (hv.in lr.ok).2
      have l3 : vs.length ≤ 3 := by have := lo.l qp (List.mem_of_getElem? hq); omega
      refine ⟨pp, rfl, ⟨_, hpp⟩, fun D nD => ?_⟩
      refine lc_tup (K := K) (a := pp) (xs := pw) (fun i H' => Same H H' ∧ H' D = some (.lst ((vs.take i).map V.int))) ?_ ?_ ?_ ?_
      · exact ⟨same_new nD, upd_same⟩
      · rintro i H' _ ⟨s', _⟩
        exact sqT_sm s' hpp
      · rintro i y H' hy ⟨s', eD⟩
        have hi := (List.getElem?_eq_some_iff.mp hy).1
        have hik : i < ps.length := by omega
        obtain ⟨dx, hdx, dvx⟩ := dpAll_getV dps hy
        rw [List.getElem?_map, List.getElem?_eq_getElem hik] at hdx
        cases hdx
        obtain ⟨x, hx, hpx⟩ := hasL_at hv (List.getElem?_eq_getElem hik)
        have hiv : i < vs.length := by omega
        have tk : vs.take (i + 1) = vs.take i ++ [x] := by
          rw [← List.take_append_getElem hiv]
          rw [List.getElem?_eq_getElem hiv] at hx
          rw [Option.some.inj hx]
        dsimp only [gName]
        dsimp only [tYes]
        rw [if_pos rfl]
        refine ⟨rfl, _, rfl, _, rfl, HD, _, G, m, y, rfl, lr.sm s', .inl ⟨_, some x, dp_sm (lr.hd.trans s') dvx, ne, hpx, _, eD, by rw [List.length_map, List.length_take, sizeLine_eq]; omega, same_upd s' nD, ?_⟩⟩
        rw [upd_same, tk, List.map_append]
        rfl
      · rintro H1 ⟨s1, eD⟩
        rw [lps, ← lvs, List.take_length] at eD
        have i32 := (hv.in lr.ok).1
        refine ⟨_, rfl, p, _, 3, _, rfl, rfl, sqT_sm s1 hp, atI_nat (j := 3) rfl, ?_⟩
        have hq2 := List.mem_of_getElem? hq
        exact ⟨HD, H0, G, m, lv, av, n, D, qp, vs, some ans, rfl, lr.sm s1, jm, lo, dl, hq, eD, lr.ow.off nD, by omega, by have := lo.l qp hq2; omega, i32, fun p hp => by cases hp; exact ⟨dav, ro.1 _ (List.mem_cons_self ..)⟩, fun H' G' l' o' c3 => q H' G' _ l' o' c3 rfl⟩
    | @give0 b x j hx hj =>
      obtain ⟨p, rfl, hp⟩ := row2 dv
      refine ⟨_, rfl, p, _, 0, _, rfl, rfl, hp, atI_nat (j := 0) rfl, rfl, _, rfl, ifN (no (by decide +kernel)) ?_⟩
      refine ⟨_, rfl, p, _, 0, _, rfl, rfl, hp, atI_nat (j := 0) rfl, rfl, _, rfl, ifN (no (by decide +kernel)) ?_⟩
      refine ⟨_, rfl, p, _, 0, _, rfl, rfl, hp, atI_nat (j := 0) rfl, rfl, _, rfl, ifN (no (by decide +kernel)) ?_⟩
      refine ⟨_, rfl, p, _, 0, _, rfl, rfl, hp, atI_nat (j := 0) rfl, rfl, _, rfl, ifN (no (by decide +kernel)) ?_⟩
      have ejs : js = [] := by
        have : G.mc.js = [j] := hj
        unfold GM.mc at this
        dsimp only at this
        rw [ej] at this
        have h2 := (List.cons.inj this).2
        exact List.map_eq_nil_iff.mp h2
      subst ejs
      have lr1 := lr.pop ej
      have ll := lr.last ej
      refine ⟨_, rfl, _, _, rfl, lr.gj, .inl ⟨rfl, _, .of ll⟩, G.jl, _, _, rfl, rfl, ll, rfl, ?_⟩
      rw [show (jrefs ([] : List GJ) ++ [V.ref g.o]).dropLast = jrefs [] from rfl]
      have hp1 := sq1 (js := []) p hp
      generalize upd H G.jl (.lst (jrefs [])) = H1 at lr1 hp1 ⊢
      dsimp only
      refine ⟨_, rfl, _, _, rfl, lr1.gj, Nat.zero_le _, fun z nz => ⟨G.jl, z, [], rfl, rfl, .of (same_new nz _ _ (lr1.ow.get mG_j)), .of upd_same, _, rfl, ifD rfl ?_⟩⟩
      have lr2 := lr1.sm (same_new (o := .lst []) nz)
      refine ⟨_, rfl, _, _, rfl, lr2.gb, _, rfl, p, _, 1, _, rfl, rfl, sqT_sm (same_new nz) hp1, atI_nat (j := 1) rfl, _, _, rfl, dget_i1 lr2.box hx, one 2 (by decide), fun t nt => q _ _ _ (lr2.sm (same_new nt)) rfl rfl (.tup (.of upd_same) (.cons (.str _) (.cons (.int _) .nil)))⟩
    | @give b x j i r pa hx hj ha =>
      obtain ⟨p, rfl, hp⟩ := row2 dv
      refine ⟨_, rfl, p, _, 0, _, rfl, rfl, hp, atI_nat (j := 0) rfl, rfl, _, rfl, ifN (no (by decide +kernel)) ?_⟩
      refine ⟨_, rfl, p, _, 0, _, rfl, rfl, hp, atI_nat (j := 0) rfl, rfl, _, rfl, ifN (no (by decide +kernel)) ?_⟩
      refine ⟨_, rfl, p, _, 0, _, rfl, rfl, hp, atI_nat (j := 0) rfl, rfl, _, rfl, ifN (no (by decide +kernel)) ?_⟩
      refine ⟨_, rfl, p, _, 0, _, rfl, rfl, hp, atI_nat (j := 0) rfl, rfl, _, rfl, ifN (no (by decide +kernel)) ?_⟩
      have hj2 : g.jb :: js.map GJ.jb = j :: i :: r := by
        have : G.mc.js = j :: i :: r := hj
        unfold GM.mc at this
        dsimp only at this
        rw [ej] at this
        exact this
      obtain ⟨ej1, ej2⟩ := List.cons.inj hj2
      have njs : js ≠ [] := fun z => by rw [z] at ej2; cases ej2
      have hans : g.ans = some pa := by rw [← ej1] at ha; exact ha
      have lr1 := lr.pop ej
      have ll := lr.last ej
      refine ⟨_, rfl, _, _, rfl, lr.gj, .inl ⟨rfl, _, .of ll⟩, G.jl, _, _, rfl, rfl, ll, (by rw [List.length_append, List.length_singleton, Nat.add_sub_cancel, List.getElem?_append_right (Nat.le_refl _), Nat.sub_self]; rfl), ?_⟩
      rw [List.dropLast_concat]
      have eg : upd H G.jl (.lst (jrefs js)) g.o = some (.dK (jdk g)) := (upd_ne fun z => by
        have := lr.job ej
        rw [z, ll] at this
        cases this).trans (lr.job ej)
      have hp1 := sq1 (js := js) p hp
      generalize upd H G.jl (.lst (jrefs js)) = H1 at lr1 eg hp1 ⊢
      dsimp only
      refine ⟨_, rfl, _, _, rfl, lr1.gj, Nat.zero_le _, fun z nz => ⟨G.jl, z, _, rfl, rfl, .of (same_new nz _ _ (lr1.ow.get mG_j)), .of upd_same, _, rfl, ifN (by rw [jrefs_len]; exact fun h => njs (List.eq_nil_of_length_eq_zero h)) ?_⟩⟩
      have s2 := same_new (o := .lst []) nz
      have lr2 := lr1.sm s2
      refine ⟨_, rfl, _, rfl, _, _, rfl, dget_k (s2 _ _ eg) (jdk_w g), _, rfl, _, _, rfl, lr2.gb, _, rfl, p, _, 1, _, rfl, rfl, sqT_sm s2 hp1, atI_nat (j := 1) rfl, _, _, rfl, dget_i1 lr2.box hx, ?_⟩
      have dg := lr.d g (by rw [ej]; exact List.mem_cons_self ..)
      refine ⟨G.o, _, _, rfl, .inl ⟨HD, _, { G with js := js }, m, pa, x, rfl, lr2, dp_sm lr2.hd (dg.2 pa hans), rfl, (lr.jok ej).ans pa hans, (lr.ok.has hx).1, njs, fun H' G' l' o' c3 => q H' G' _ l' o' ?_ rfl⟩⟩
      rw [c3]
      unfold GM.mc
      dsimp only
      rw [ej2]
    | @fail n =>
      obtain ⟨p, rfl, hp⟩ := row2 dv
      refine ⟨_, rfl, p, _, 0, _, rfl, rfl, hp, atI_nat (j := 0) rfl, rfl, _, rfl, ifN (no (by decide +kernel)) ?_⟩
      refine ⟨_, rfl, p, _, 0, _, rfl, rfl, hp, atI_nat (j := 0) rfl, rfl, _, rfl, ifN (no (by decide +kernel)) ?_⟩
      refine ⟨_, rfl, p, _, 0, _, rfl, rfl, hp, atI_nat (j := 0) rfl, rfl, _, rfl, ifN (no (by decide +kernel)) ?_⟩
      refine ⟨_, rfl, p, _, 0, _, rfl, rfl, hp, atI_nat (j := 0) rfl, rfl, _, rfl, ifD rfl ?_⟩
      refine ⟨_, rfl, p, _, 1, _, rfl, rfl, hp, atI_nat (j := 1) rfl, _, rfl, ?_⟩
      obtain ⟨t1, t2⟩ := ten_len (n : Nat) (by omega) (by have : n < 100 := ro.2; omega)
      refine ⟨t2, _, _, rfl, rfl, ?_, one 2 (by decide), fun t nt => q _ _ _ (lr.sm (same_new nt)) rfl rfl (.tup (.of upd_same) (.cons (.str _) (.cons (.str _) .nil)))⟩
      rw [sizeLine_eq]
      have : (("fail " : Str)).length = 5 := by decide +kernel
      omega
    | _ => exact sel.elim
end

section
variable {P : Program} {w : World} {K : PySem.W.Frag} {mg : Str → Option Value} {base : Heap}
variable {L : List LP} {nb : Nat} {HD H0 H : Hp} {G : GM} {m : Nat}
theorem LrAt.up (h : LrAt K L nb HD H0 H G m) (l : m + 1 ≤ 100000) : LrAt K L nb HD H0 H G (m + 1) := ⟨h.ow, h.s, h.d, h.ok, Nat.le_succ_of_le h.tb, Nat.le_succ_of_le h.jb, l, h.n5⟩
theorem LrAt.tell (h : LrAt K L nb HD H0 H G m) (l : G.told.length < m) (x : Int) : LrAt K L nb HD H0 (upd H G.tl (.lst ((G.told ++ [x]).map V.int))) { G with told := G.told ++ [x] } m :=
  ⟨h.ow.told, h.s, h.d, ⟨h.ok.bw, h.ok.bv, h.ok.js⟩, by show (G.told ++ [x]).length ≤ m; rw [List.length_append, List.length_singleton]; omega, h.jb, h.mb, h.n5⟩
/-- two trays exchanged -/
theorem LrAt.swapT {g : GJ} {r : List GJ} (h : LrAt K L nb HD H0 H G m) (e : G.js = g :: r) {t u : Nat} {a b : Addr} {l k : List Int} (ht : lkA g.ts t = some (a, l)) (hu : lkA g.ts u = some (b, k)) :
    LrAt K L nb HD H0 (upd H g.hl (.dK (kvT (ptA (ptA g.ts t (b, k)) u (a, l))))) { G with js := { g with ts := ptA (ptA g.ts t (b, k)) u (a, l) } :: r } m ∧ ({ G with js := { g with ts := ptA (ptA g.ts t (b, k)) u (a, l) } :: r } : GM).mc = (G.mc.setT t k).setT u l := by
  obtain ⟨k3, _⟩ := h.ts3 e
  have inj := lk_adr (h.ow.adr e)
  have kd : ∀ {ts : List (Nat × (Addr × List Int))} {n : Nat} {x : Addr × List Int}, (ts.map (·.1)).Nodup → ((ptA ts n x).map (·.1)).Nodup := fun {ts n x} hk => by
    rcases ptA_keys ts n x with e1 | ⟨c, e1⟩
    · rw [e1]; exact hk
    · rw [e1, List.map_append, List.nodup_append]
      exact ⟨hk, by simp, fun x hx y hy z => c (by
        have : y = n := List.mem_singleton.mp hy
        rw [← this, ← z]
        exact hx)⟩
  have ej : ({ G with js := { g with ts := ptA (ptA g.ts t (b, k)) u (a, l) } :: r } : GM).mc = (G.mc.setT t k).setT u l := by
    have e1 := mc_setT (G := G) e (t := t) (a := b) (l := k)
    have e2 := mc_setT (G := { G with js := { g with ts := ptA g.ts t (b, k) } :: r }) rfl (t := u) (a := a) (l := l)
    rw [← e1, ← e2]
  have lt : t < 3 := (h.jok e).tw.2 _ (show (t, l) ∈ g.jb.tr from List.mem_map.mpr ⟨_, lkA_mem ht, rfl⟩)
  have lu : u < 3 := (h.jok e).tw.2 _ (show (u, k) ∈ g.jb.tr from List.mem_map.mpr ⟨_, lkA_mem hu, rfl⟩)
  have vt := (h.jok e).tv _ (show (t, l) ∈ g.jb.tr from List.mem_map.mpr ⟨_, lkA_mem ht, rfl⟩)
  have vu := (h.jok e).tv _ (show (u, k) ∈ g.jb.tr from List.mem_map.mpr ⟨_, lkA_mem hu, rfl⟩)
  refine ⟨⟨Ow.trays (E := []) h.ow e rfl (adr_lk (kd (kd k3)) fun n1 n2 x y hx hy ne z => ?_) fun x hx => .inl ?_, h.s, h.d_ts e, ?_, h.tb, by have := h.jb; rw [e] at this; exact this, h.mb, h.n5⟩, ej⟩
  · rw [lkA_pt, lkA_pt] at hx hy
    by_cases c1 : n1 = u
    · rw [if_pos c1] at hx
      cases hx
      rw [if_neg fun z => ne (c1.trans z.symm)] at hy
      by_cases c2 : n2 = t
      · rw [if_pos c2] at hy
        cases hy
        refine inj t u _ _ ht hu (fun q => ?_) z
        exact ne (c1.trans (q.symm.trans c2.symm))
      · rw [if_neg c2] at hy
        exact inj t n2 _ _ ht hy (fun q => c2 q.symm) z
    · rw [if_neg c1] at hx
      by_cases c2 : n2 = u
      · rw [if_pos c2] at hy
        cases hy
        by_cases c3 : n1 = t
        · rw [if_pos c3] at hx
          cases hx
          refine inj u t _ _ hu ht (fun q => ?_) z
          exact c1 (c3.trans q.symm)
        · rw [if_neg c3] at hx
          exact inj n1 t _ _ hx ht c3 z
      · rw [if_neg c2] at hy
        by_cases c3 : n1 = t
        · rw [if_pos c3] at hx
          cases hx
          rw [if_neg fun q => ne (c3.trans q.symm)] at hy
          exact inj u n2 _ _ hu hy (fun q => c2 q.symm) z
        · rw [if_neg c3] at hx
          by_cases c4 : n2 = t
          · rw [if_pos c4] at hy
            cases hy
            exact inj n1 u _ _ hx hu c1 z
          · rw [if_neg c4] at hy
            exact inj n1 n2 _ _ hx hy ne z
  · obtain ⟨p, hp, rfl⟩ := List.mem_map.mp hx
    rcases mem_ptA hp with hp | rfl
    · rcases mem_ptA hp with hp | rfl
      · exact List.mem_map.mpr ⟨p, hp, rfl⟩
      · exact List.mem_map.mpr ⟨_, lkA_mem hu, rfl⟩
    · exact List.mem_map.mpr ⟨_, lkA_mem ht, rfl⟩
  · rw [ej]
    exact (h.ok.setT lt vu.1 vu.2).setT lu vt.1 vt.2
theorem LrAt.hne {g : GJ} {r : List GJ} (h : LrAt K L nb HD H0 H G m) (e : G.js = g :: r) : G.o ≠ g.hl ∧ G.jl ≠ g.hl ∧ g.o ≠ g.hl := by
  have n := h.ow.n
  unfold mL at n
  rw [mG_top e] at n
  have s : ([G.o, G.jl, g.o, g.hl] : List Addr).Sublist (([(G.o, HO.dK (rdk G)), (G.bl, .dK (kvA V.int G.bx)), (G.jl, .lst (jrefs G.js)), (G.tl, .lst (G.told.map V.int))] ++ mJ lF g ++ r.flatMap (mJ lF)).map (·.1)) :=
    .cons₂ _ (.cons _ (.cons₂ _ (.cons _ (.cons₂ _ (.cons _ (.cons₂ _ (List.nil_sublist _)))))))
  have n2 := s.nodup n
  simp only [List.nodup_cons, List.mem_cons, List.not_mem_nil, or_false, not_or] at n2
  exact ⟨n2.1.2.2, n2.2.1.2, n2.2.2.1⟩
theorem pair_parts {H : Hp} {v : V} {z : Str} {a b : PyData} (h : Dp K H v (.tuple [.str z, a, b])) : ∃ p x y, v = .ref p ∧ SqT K H p [.str z, x, y] ∧ Dp K H x a ∧ Dp K H y b := by
  obtain ⟨p, xs, rfl, hp, dq⟩ := dp_tup h
  obtain ⟨z0, w0, rfl, g0, u0⟩ := dpAll_cons dq
  obtain ⟨z1, w1, rfl, g1, u1⟩ := dpAll_cons u0
  obtain ⟨z2, w2, rfl, g2, u2⟩ := dpAll_cons u1
  cases u2
  cases dp_str g0
  exact ⟨p, z1, z2, rfl, hp, g1, g2⟩
def sp_ldone (K : PySem.W.Frag) (L : List LP) (nb : Nat) : Sp := fun vs H Q _ => ∃ (HD H0 : Hp) (G : GM) (m : Nat) (lv rv : V) (r : LR) (c' : MC) (e : Option LE), vs = [.ref G.o, lv, rv] ∧ LrAt K L nb HD H0 H G m ∧ G.js ≠ [] ∧ m + 1 ≤ 100000 ∧ LsOk nb L ∧ Dp K HD lv (insL L) ∧ Dp K HD rv r.d ∧ RowOk nb r ∧ Stp L G.mc r c' e ∧
  ∀ H' G' v, LrAt K L nb HD H0 H' G' (m + 1) → G'.o = G.o → G'.mc = c' → EvL K H' v e → Q v H'
end

section
variable {P : Program} {w : World} {K : PySem.W.Frag} {mg : Str → Option Value} {base : Heap}
variable {L : List LP} {nb : Nat} {HD H0 H : Hp} {G : GM} {m : Nat}
theorem wd_not {z : Str} (h : z ∈ wds) : inV (.str z) [V.str "fresh", .str "get", .str "put"] = false ∧ inV (.str z) [V.str "jump", .str "choose", .str "call", .str "give", .str "fail"] = false ∧ inV (.str z) [V.str "move", .str "swap"] = false ∧ z ≠ "number" ∧ z ≠ "tell" := by
  unfold wds at h
  simp only [List.mem_cons, List.not_mem_nil, or_false] at h
  rcases h with rfl | rfl | rfl | rfl | rfl | rfl | rfl <;> decide +kernel
theorem ok__law_row_done (T : Top K mg) : FnOk P w K mg base CX0 4 (He.ga K "_law_row_done") T.fd__law_row_done ["_law_run", "_law_last", "_law_row"] (sp_ldone K L nb) := by
  have G__law_gets := ok__law_gets (P := P) (w := w) (base := base) (L := L) (nb := nb) T
  have G__law_has := ok__law_has (P := P) (w := w) (base := base) (L := L) (nb := nb) T
  have G__law_tray_row := ok__law_tray_row (P := P) (w := w) (base := base) (L := L) (nb := nb) T
  have G__law_sum_row := ok__law_sum_row (P := P) (w := w) (base := base) (L := L) (nb := nb) T
  have G__law_way_row := ok__law_way_row (P := P) (w := w) (base := base) (L := L) (nb := nb) T
  refine T.F__law_row_done.ok sc__law_row_done (fun vs H Q E h => ?_) (fun cdv A0 outer s0 H vs Q E hr h => ?_)
  · obtain ⟨HD, H0, G, m, lv, rv, r, c', e, rfl, _⟩ := h
    rfl
  · obtain ⟨HD, H0, G, m, lv, rv, r, c', e, rfl, lr0, ne, m1, lo, dl, dv0, ro, st, q⟩ := h
    refine ⟨_, PSs.nox (pss_cons (ps_if (pt_cmpR op_in_seq (pe_ix ix_tup (pv 2) pe_int (fun _ _ => rfl)) (pe_lst (pa_cons pe_str (pa_cons pe_str (pa_cons pe_str pa_nil)))) (by rfl)) (pss_one (ps_ret (pe_call G__law_tray_row (hr.mono (by omega)) (by rfl) T.g__law_tray_row T.F__law_tray_row.kp T.b__law_tray_row .nil pass0 (pa_cons (pv 0) (pa_cons (pv 2) pa_nil))))) pss_nil)
        (pss_cons (ps_if (pt_cmpR op_in_seq (pe_ix ix_tup (pv 2) pe_int (fun _ _ => rfl)) (pe_lst (pa_cons pe_str (pa_cons pe_str (pa_cons pe_str (pa_cons pe_str (pa_cons pe_str pa_nil)))))) (by rfl)) (pss_one (ps_ret (pe_call G__law_way_row (hr.mono (by omega)) (by rfl) T.g__law_way_row T.F__law_way_row.kp T.b__law_way_row .nil pass0 (pa_cons (pv 0) (pa_cons (pv 1) (pa_cons (pv 2) pa_nil)))))) pss_nil)
        (pss_cons (ps_if (pt_cmpR op_eq (pe_ix ix_tup (pv 2) pe_int (fun _ _ => rfl)) pe_str (nomark _)) (pss_one (ps_dput (hu_of hr) (pe_dget (hu_of hr) (pv 0) pe_str (fun _ _ => rfl)) (pe_ix ix_tup (pv 2) pe_int (fun _ _ => rfl)) (pe_ix ix_tup (pv 2) pe_int (fun _ _ => rfl)) (by rfl))) (pss_one (ps_if (pt_cmpR op_eq (pe_ix ix_tup (pv 2) pe_int (fun _ _ => rfl)) pe_str (nomark _)) (pss_one (ps_expr (pe_bm PySem.F.plainAttrs_list PySem.F.slot_list_append PySem.F.type_list_append mt_append (pe_dget (hu_of hr) (pv 0) pe_str (fun _ _ => rfl)) (pa_cons (pe_dget (hu_of hr) (pe_dget (hu_of hr) (pv 0) pe_str (fun _ _ => rfl)) (pe_ix ix_tup (pv 2) pe_int (fun _ _ => rfl)) (fun _ _ => rfl)) pa_nil)))) (pss_one (ps_if (pt_cmpR op_in_seq (pe_ix ix_tup (pv 2) pe_int (fun _ _ => rfl)) (pe_lst (pa_cons pe_str (pa_cons pe_str pa_nil))) (by rfl)) (pss_cons (ps_set (i := 3) sc__law_row_done.nd rfl (Or.inl rfl) (pe_call G__law_has (hr.mono (by omega)) (by rfl) T.g__law_has T.F__law_has.kp T.b__law_has .nil pass0 (pa_cons (pv 0) (pa_cons (pe_ix ix_tup (pv 2) pe_int (fun _ _ => rfl)) pa_nil))))
        (pss_cons (ps_set (i := 4) sc__law_row_done.nd rfl (Or.inl rfl) (pe_call G__law_has (hr.mono (by omega)) (by rfl) T.g__law_has T.F__law_has.kp T.b__law_has .nil pass0 (pa_cons (pv 0) (pa_cons (pe_ix ix_tup (pv 2) pe_int (fun _ _ => rfl)) pa_nil))))
        (pss_cons (ps_if (PW.pt (pw_and (pt_cmpR op_eq (pe_ix ix_tup (pv 2) pe_int (fun _ _ => rfl)) pe_str (nomark _)) (pw_and1 (pt_cmpR op_eq (pe_ix ix_tup (pe_ix ix_tup (pv 2) pe_int (fun _ _ => rfl)) pe_int (fun _ _ => rfl)) pe_str (nomark _))))) (pss_one (ps_set (i := 4) sc__law_row_done.nd rfl (Or.inl rfl) (pe_callTy call_list_of (by rfl) T.m_list (by decide +kernel) (pa_cons (pv 4) pa_nil)))) pss_nil)
        (pss_cons (ps_expr (pe_call G__law_gets (hr.mono (by omega)) (by rfl) T.g__law_gets T.F__law_gets.kp T.b__law_gets .nil pass0 (pa_cons (pv 0) (pa_cons (pe_ix ix_tup (pv 2) pe_int (fun _ _ => rfl)) (pa_cons (pv 4) pa_nil)))))
        (pss_one (ps_if (pt_cmpR op_eq (pe_ix ix_tup (pv 2) pe_int (fun _ _ => rfl)) pe_str (nomark _)) (pss_one (ps_expr (pe_call G__law_gets (hr.mono (by omega)) (by rfl) T.g__law_gets T.F__law_gets.kp T.b__law_gets .nil pass0 (pa_cons (pv 0) (pa_cons (pe_ix ix_tup (pv 2) pe_int (fun _ _ => rfl)) (pa_cons (pv 3) pa_nil)))))) pss_nil)))))) (pss_one (ps_ret (pe_call G__law_sum_row (hr.mono (by omega)) (by rfl) T.g__law_sum_row T.F__law_sum_row.kp T.b__law_sum_row .nil pass0 (pa_cons (pv 0) (pa_cons (pv 2) pa_nil))))))))))
        (pss_one (ps_ret pe_non))))), ?_⟩
    obtain ⟨g, js, ej⟩ := List.exists_cons_of_ne_nil ne
    have one : ∀ n : Nat, n ≤ 10000 → n ≤ sizeLine := fun n h => by rw [sizeLine_eq]; omega
    have lr := lr0.up m1
    have jm : G.js.length ≤ m + 1 := lr0.jb
    have tm : G.told.length < m + 1 := Nat.lt_succ_of_le lr0.tb
    have dv := dp_sm lr.hd dv0
    have no : ∀ {y z : Str}, decide (y = z) = false → ¬ V.str y = V.str z := fun h q => of_decide_eq_false h (V.str.inj q)
    cases r with
    | fresh t s =>
      have dvr := dv
      obtain ⟨p, rfl, hp⟩ := row3 dv
      refine ⟨_, rfl, p, _, 0, _, rfl, rfl, sqT_sm (Same.refl _) hp, atI_nat (j := 0) rfl, one 3 (by decide), fun n1 hn1 => ⟨n1, _, rfl, .inl (.of upd_same), rfl, rfl, _, rfl, ifT (by decide +kernel) ?_⟩⟩
      have s1 := (Same.refl H).trans (same_new (o := .lst [V.str "fresh", .str "get", .str "put"]) hn1)
      generalize upd H n1 (.lst [V.str "fresh", .str "get", .str "put"]) = H1 at s1 ⊢
      exact ⟨_, rfl, _, rfl, HD, H0, G, m + 1, _, _, c', e, rfl, lr.sm s1, ne, dp_sm s1 dvr, trivial, ro, st, q⟩
    | get b t a =>
      have dvr := dv
      obtain ⟨p, rfl, hp⟩ := row4 dv
      refine ⟨_, rfl, p, _, 0, _, rfl, rfl, sqT_sm (Same.refl _) hp, atI_nat (j := 0) rfl, one 3 (by decide), fun n1 hn1 => ⟨n1, _, rfl, .inl (.of upd_same), rfl, rfl, _, rfl, ifT (by decide +kernel) ?_⟩⟩
      have s1 := (Same.refl H).trans (same_new (o := .lst [V.str "fresh", .str "get", .str "put"]) hn1)
      generalize upd H n1 (.lst [V.str "fresh", .str "get", .str "put"]) = H1 at s1 ⊢
      exact ⟨_, rfl, _, rfl, HD, H0, G, m + 1, _, _, c', e, rfl, lr.sm s1, ne, dp_sm s1 dvr, trivial, ro, st, q⟩
    | put t a b =>
      have dvr := dv
      obtain ⟨p, rfl, hp⟩ := row4 dv
      refine ⟨_, rfl, p, _, 0, _, rfl, rfl, sqT_sm (Same.refl _) hp, atI_nat (j := 0) rfl, one 3 (by decide), fun n1 hn1 => ⟨n1, _, rfl, .inl (.of upd_same), rfl, rfl, _, rfl, ifT (by decide +kernel) ?_⟩⟩
      have s1 := (Same.refl H).trans (same_new (o := .lst [V.str "fresh", .str "get", .str "put"]) hn1)
      generalize upd H n1 (.lst [V.str "fresh", .str "get", .str "put"]) = H1 at s1 ⊢
      exact ⟨_, rfl, _, rfl, HD, H0, G, m + 1, _, _, c', e, rfl, lr.sm s1, ne, dp_sm s1 dvr, trivial, ro, st, q⟩
    | jump k =>
      obtain ⟨p, rfl, hp⟩ := row2 dv
      refine ⟨_, rfl, p, _, 0, _, rfl, rfl, sqT_sm (Same.refl _) hp, atI_nat (j := 0) rfl, one 3 (by decide), fun n1 hn1 => ⟨n1, _, rfl, .inl (.of upd_same), rfl, rfl, _, rfl, ifF (by decide +kernel) ?_⟩⟩
      have s1 := (Same.refl H).trans (same_new (o := .lst [V.str "fresh", .str "get", .str "put"]) hn1)
      generalize upd H n1 (.lst [V.str "fresh", .str "get", .str "put"]) = H1 at s1 ⊢
      refine ⟨_, rfl, p, _, 0, _, rfl, rfl, sqT_sm (s1) hp, atI_nat (j := 0) rfl, one 5 (by decide), fun n2 hn2 => ⟨n2, _, rfl, .inl (.of upd_same), rfl, rfl, _, rfl, ifT (by decide +kernel) ?_⟩⟩
      have s2 := (s1).trans (same_new (o := .lst [V.str "jump", .str "choose", .str "call", .str "give", .str "fail"]) hn2)
      generalize upd H1 n2 (.lst [V.str "jump", .str "choose", .str "call", .str "give", .str "fail"]) = H2 at s2 ⊢
      exact ⟨_, rfl, _, rfl, _, rfl, HD, H0, G, m + 1, _, _, _, c', e, rfl, lr.sm s2, ne, jm, lo, dl, dv0, trivial, ro, st, q⟩
    | cho b r1 r2 =>
      obtain ⟨p, rfl, hp⟩ := row4 dv
      refine ⟨_, rfl, p, _, 0, _, rfl, rfl, sqT_sm (Same.refl _) hp, atI_nat (j := 0) rfl, one 3 (by decide), fun n1 hn1 => ⟨n1, _, rfl, .inl (.of upd_same), rfl, rfl, _, rfl, ifF (by decide +kernel) ?_⟩⟩
      have s1 := (Same.refl H).trans (same_new (o := .lst [V.str "fresh", .str "get", .str "put"]) hn1)
      generalize upd H n1 (.lst [V.str "fresh", .str "get", .str "put"]) = H1 at s1 ⊢
      refine ⟨_, rfl, p, _, 0, _, rfl, rfl, sqT_sm (s1) hp, atI_nat (j := 0) rfl, one 5 (by decide), fun n2 hn2 => ⟨n2, _, rfl, .inl (.of upd_same), rfl, rfl, _, rfl, ifT (by decide +kernel) ?_⟩⟩
      have s2 := (s1).trans (same_new (o := .lst [V.str "jump", .str "choose", .str "call", .str "give", .str "fail"]) hn2)
      generalize upd H1 n2 (.lst [V.str "jump", .str "choose", .str "call", .str "give", .str "fail"]) = H2 at s2 ⊢
      exact ⟨_, rfl, _, rfl, _, rfl, HD, H0, G, m + 1, _, _, _, c', e, rfl, lr.sm s2, ne, jm, lo, dl, dv0, trivial, ro, st, q⟩
    | give b =>
      obtain ⟨p, rfl, hp⟩ := row2 dv
      refine ⟨_, rfl, p, _, 0, _, rfl, rfl, sqT_sm (Same.refl _) hp, atI_nat (j := 0) rfl, one 3 (by decide), fun n1 hn1 => ⟨n1, _, rfl, .inl (.of upd_same), rfl, rfl, _, rfl, ifF (by decide +kernel) ?_⟩⟩
      have s1 := (Same.refl H).trans (same_new (o := .lst [V.str "fresh", .str "get", .str "put"]) hn1)
      generalize upd H n1 (.lst [V.str "fresh", .str "get", .str "put"]) = H1 at s1 ⊢
      refine ⟨_, rfl, p, _, 0, _, rfl, rfl, sqT_sm (s1) hp, atI_nat (j := 0) rfl, one 5 (by decide), fun n2 hn2 => ⟨n2, _, rfl, .inl (.of upd_same), rfl, rfl, _, rfl, ifT (by decide +kernel) ?_⟩⟩
      have s2 := (s1).trans (same_new (o := .lst [V.str "jump", .str "choose", .str "call", .str "give", .str "fail"]) hn2)
      generalize upd H1 n2 (.lst [V.str "jump", .str "choose", .str "call", .str "give", .str "fail"]) = H2 at s2 ⊢
      exact ⟨_, rfl, _, rfl, _, rfl, HD, H0, G, m + 1, _, _, _, c', e, rfl, lr.sm s2, ne, jm, lo, dl, dv0, trivial, ro, st, q⟩
    | fail n =>
      obtain ⟨p, rfl, hp⟩ := row2 dv
      refine ⟨_, rfl, p, _, 0, _, rfl, rfl, sqT_sm (Same.refl _) hp, atI_nat (j := 0) rfl, one 3 (by decide), fun n1 hn1 => ⟨n1, _, rfl, .inl (.of upd_same), rfl, rfl, _, rfl, ifF (by decide +kernel) ?_⟩⟩
      have s1 := (Same.refl H).trans (same_new (o := .lst [V.str "fresh", .str "get", .str "put"]) hn1)
      generalize upd H n1 (.lst [V.str "fresh", .str "get", .str "put"]) = H1 at s1 ⊢
      refine ⟨_, rfl, p, _, 0, _, rfl, rfl, sqT_sm (s1) hp, atI_nat (j := 0) rfl, one 5 (by decide), fun n2 hn2 => ⟨n2, _, rfl, .inl (.of upd_same), rfl, rfl, _, rfl, ifT (by decide +kernel) ?_⟩⟩
      have s2 := (s1).trans (same_new (o := .lst [V.str "jump", .str "choose", .str "call", .str "give", .str "fail"]) hn2)
      generalize upd H1 n2 (.lst [V.str "jump", .str "choose", .str "call", .str "give", .str "fail"]) = H2 at s2 ⊢
      exact ⟨_, rfl, _, rfl, _, rfl, HD, H0, G, m + 1, _, _, _, c', e, rfl, lr.sm s2, ne, jm, lo, dl, dv0, trivial, ro, st, q⟩
    | call n ps ans =>
      obtain ⟨p, pp, pw, av, rfl, hp, hpp, dps, dav⟩ := call_parts dv
      refine ⟨_, rfl, p, _, 0, _, rfl, rfl, sqT_sm (Same.refl _) hp, atI_nat (j := 0) rfl, one 3 (by decide), fun n1 hn1 => ⟨n1, _, rfl, .inl (.of upd_same), rfl, rfl, _, rfl, ifF (by decide +kernel) ?_⟩⟩
      have s1 := (Same.refl H).trans (same_new (o := .lst [V.str "fresh", .str "get", .str "put"]) hn1)
      generalize upd H n1 (.lst [V.str "fresh", .str "get", .str "put"]) = H1 at s1 ⊢
      refine ⟨_, rfl, p, _, 0, _, rfl, rfl, sqT_sm (s1) hp, atI_nat (j := 0) rfl, one 5 (by decide), fun n2 hn2 => ⟨n2, _, rfl, .inl (.of upd_same), rfl, rfl, _, rfl, ifT (by decide +kernel) ?_⟩⟩
      have s2 := (s1).trans (same_new (o := .lst [V.str "jump", .str "choose", .str "call", .str "give", .str "fail"]) hn2)
      generalize upd H1 n2 (.lst [V.str "jump", .str "choose", .str "call", .str "give", .str "fail"]) = H2 at s2 ⊢
      exact ⟨_, rfl, _, rfl, _, rfl, HD, H0, G, m + 1, _, _, _, c', e, rfl, lr.sm s2, ne, jm, lo, dl, dv0, trivial, ro, st, q⟩
    | num b n =>
      cases st
      obtain ⟨p, x1, x2, rfl, hp, d1, d2⟩ := pair_parts dv
      cases dp_int d1
      cases dp_int d2
      refine ⟨_, rfl, p, _, 0, _, rfl, rfl, sqT_sm (Same.refl _) hp, atI_nat (j := 0) rfl, one 3 (by decide), fun n1 hn1 => ⟨n1, _, rfl, .inl (.of upd_same), rfl, rfl, _, rfl, ifF (by decide +kernel) ?_⟩⟩
      have s1 := (Same.refl H).trans (same_new (o := .lst [V.str "fresh", .str "get", .str "put"]) hn1)
      generalize upd H n1 (.lst [V.str "fresh", .str "get", .str "put"]) = H1 at s1 ⊢
      refine ⟨_, rfl, p, _, 0, _, rfl, rfl, sqT_sm (s1) hp, atI_nat (j := 0) rfl, one 5 (by decide), fun n2 hn2 => ⟨n2, _, rfl, .inl (.of upd_same), rfl, rfl, _, rfl, ifF (by decide +kernel) ?_⟩⟩
      have s2 := (s1).trans (same_new (o := .lst [V.str "jump", .str "choose", .str "call", .str "give", .str "fail"]) hn2)
      generalize upd H1 n2 (.lst [V.str "jump", .str "choose", .str "call", .str "give", .str "fail"]) = H2 at s2 ⊢
      refine ⟨_, rfl, p, _, 0, _, rfl, rfl, sqT_sm (s2) hp, atI_nat (j := 0) rfl, rfl, _, rfl, ifD rfl ?_⟩
      have lr2 := lr.sm s2
      have hp2 := sqT_sm s2 hp
      exact ⟨_, rfl, p, _, 2, _, rfl, rfl, hp2, atI_nat (j := 2) rfl, _, rfl, _, _, rfl, lr2.gb, _, rfl, p, _, 1, _, rfl, rfl, hp2, atI_nat (j := 1) rfl, _, _, rfl, dput_i lr2.box lr2.bx5, q _ _ _ (lr2.gets_b (ro.1 _ (List.mem_cons_self ..)) ro.2) rfl rfl rfl⟩
    | tell b =>
      cases st with
      | @tell _ x hx =>
      obtain ⟨p, rfl, hp⟩ := row2 dv
      refine ⟨_, rfl, p, _, 0, _, rfl, rfl, sqT_sm (Same.refl _) hp, atI_nat (j := 0) rfl, one 3 (by decide), fun n1 hn1 => ⟨n1, _, rfl, .inl (.of upd_same), rfl, rfl, _, rfl, ifF (by decide +kernel) ?_⟩⟩
      have s1 := (Same.refl H).trans (same_new (o := .lst [V.str "fresh", .str "get", .str "put"]) hn1)
      generalize upd H n1 (.lst [V.str "fresh", .str "get", .str "put"]) = H1 at s1 ⊢
      refine ⟨_, rfl, p, _, 0, _, rfl, rfl, sqT_sm (s1) hp, atI_nat (j := 0) rfl, one 5 (by decide), fun n2 hn2 => ⟨n2, _, rfl, .inl (.of upd_same), rfl, rfl, _, rfl, ifF (by decide +kernel) ?_⟩⟩
      have s2 := (s1).trans (same_new (o := .lst [V.str "jump", .str "choose", .str "call", .str "give", .str "fail"]) hn2)
      generalize upd H1 n2 (.lst [V.str "jump", .str "choose", .str "call", .str "give", .str "fail"]) = H2 at s2 ⊢
      refine ⟨_, rfl, p, _, 0, _, rfl, rfl, sqT_sm (s2) hp, atI_nat (j := 0) rfl, rfl, _, rfl, ifN (no (by decide +kernel)) ?_⟩
      refine ⟨_, rfl, p, _, 0, _, rfl, rfl, sqT_sm (s2) hp, atI_nat (j := 0) rfl, rfl, _, rfl, ifD rfl ?_⟩
      have lr2 := lr.sm s2
      have hp2 := sqT_sm s2 hp
      refine ⟨_, rfl, _, _, rfl, lr2.gt, .inl ⟨rfl, _, .of lr2.tld⟩, _, rfl, _, _, rfl, lr2.gb, _, rfl, p, _, 1, _, rfl, rfl, hp2, atI_nat (j := 1) rfl, _, _, rfl, dget_i1 lr2.box hx, G.tl, _, _, rfl, rfl, lr2.tld, by rw [List.length_map, sizeLine_eq]; omega, ?_⟩
      have l3 := lr2.tell tm x
      rw [List.map_append] at l3
      exact q _ _ _ l3 rfl rfl rfl
    | no b a =>
      have dvr := dv
      obtain ⟨p, rfl, hp⟩ := row3 dv
      refine ⟨_, rfl, p, _, 0, _, rfl, rfl, sqT_sm (Same.refl _) hp, atI_nat (j := 0) rfl, one 3 (by decide), fun n1 hn1 => ⟨n1, _, rfl, .inl (.of upd_same), rfl, rfl, _, rfl, ifF (by decide +kernel) ?_⟩⟩
      have s1 := (Same.refl H).trans (same_new (o := .lst [V.str "fresh", .str "get", .str "put"]) hn1)
      generalize upd H n1 (.lst [V.str "fresh", .str "get", .str "put"]) = H1 at s1 ⊢
      refine ⟨_, rfl, p, _, 0, _, rfl, rfl, sqT_sm (s1) hp, atI_nat (j := 0) rfl, one 5 (by decide), fun n2 hn2 => ⟨n2, _, rfl, .inl (.of upd_same), rfl, rfl, _, rfl, ifF (by decide +kernel) ?_⟩⟩
      have s2 := (s1).trans (same_new (o := .lst [V.str "jump", .str "choose", .str "call", .str "give", .str "fail"]) hn2)
      generalize upd H1 n2 (.lst [V.str "jump", .str "choose", .str "call", .str "give", .str "fail"]) = H2 at s2 ⊢
      refine ⟨_, rfl, p, _, 0, _, rfl, rfl, sqT_sm (s2) hp, atI_nat (j := 0) rfl, rfl, _, rfl, ifN (no (by decide +kernel)) ?_⟩
      refine ⟨_, rfl, p, _, 0, _, rfl, rfl, sqT_sm (s2) hp, atI_nat (j := 0) rfl, rfl, _, rfl, ifN (no (by decide +kernel)) ?_⟩
      refine ⟨_, rfl, p, _, 0, _, rfl, rfl, sqT_sm (s2) hp, atI_nat (j := 0) rfl, one 2 (by decide), fun n3 hn3 => ⟨n3, _, rfl, .inl (.of upd_same), rfl, rfl, _, rfl, ifF (by decide +kernel) ?_⟩⟩
      have s3 := (s2).trans (same_new (o := .lst [V.str "move", .str "swap"]) hn3)
      generalize upd H2 n3 (.lst [V.str "move", .str "swap"]) = H3 at s3 ⊢
      exact ⟨_, rfl, _, rfl, HD, H0, G, m + 1, _, _, c', e, rfl, lr.sm s3, ne, dp_sm s3 dvr, trivial, ro, st, q⟩
    | op z b a d =>
      have dvr := dv
      obtain ⟨p, rfl, hp⟩ := row4 dv
      obtain ⟨w1, w2, w3, w4, w5⟩ := wd_not (show z ∈ wds from ro.2)
      refine ⟨_, rfl, p, _, 0, _, rfl, rfl, sqT_sm (Same.refl _) hp, atI_nat (j := 0) rfl, one 3 (by decide), fun n1 hn1 => ⟨n1, _, rfl, .inl (.of upd_same), rfl, rfl, _, rfl, ifF w1 ?_⟩⟩
      have s1 := (Same.refl H).trans (same_new (o := .lst [V.str "fresh", .str "get", .str "put"]) hn1)
      generalize upd H n1 (.lst [V.str "fresh", .str "get", .str "put"]) = H1 at s1 ⊢
      refine ⟨_, rfl, p, _, 0, _, rfl, rfl, sqT_sm (s1) hp, atI_nat (j := 0) rfl, one 5 (by decide), fun n2 hn2 => ⟨n2, _, rfl, .inl (.of upd_same), rfl, rfl, _, rfl, ifF w2 ?_⟩⟩
      have s2 := (s1).trans (same_new (o := .lst [V.str "jump", .str "choose", .str "call", .str "give", .str "fail"]) hn2)
      generalize upd H1 n2 (.lst [V.str "jump", .str "choose", .str "call", .str "give", .str "fail"]) = H2 at s2 ⊢
      refine ⟨_, rfl, p, _, 0, _, rfl, rfl, sqT_sm (s2) hp, atI_nat (j := 0) rfl, rfl, _, rfl, ifN (fun h => w4 (V.str.inj h)) ?_⟩
      refine ⟨_, rfl, p, _, 0, _, rfl, rfl, sqT_sm (s2) hp, atI_nat (j := 0) rfl, rfl, _, rfl, ifN (fun h => w5 (V.str.inj h)) ?_⟩
      refine ⟨_, rfl, p, _, 0, _, rfl, rfl, sqT_sm (s2) hp, atI_nat (j := 0) rfl, one 2 (by decide), fun n3 hn3 => ⟨n3, _, rfl, .inl (.of upd_same), rfl, rfl, _, rfl, ifF w3 ?_⟩⟩
      have s3 := (s2).trans (same_new (o := .lst [V.str "move", .str "swap"]) hn3)
      generalize upd H2 n3 (.lst [V.str "move", .str "swap"]) = H3 at s3 ⊢
      exact ⟨_, rfl, _, rfl, HD, H0, G, m + 1, _, _, c', e, rfl, lr.sm s3, ne, dp_sm s3 dvr, trivial, ro, st, q⟩
    | mv p1 p2 =>
      cases st with
      | @mv _ _ x hx =>
      obtain ⟨p, x1, x2, rfl, hp0, d1, d2⟩ := pair_parts dv0
      have hp := sqT_sm lr.hd hp0
      refine ⟨_, rfl, p, _, 0, _, rfl, rfl, sqT_sm (Same.refl _) hp, atI_nat (j := 0) rfl, one 3 (by decide), fun n1 hn1 => ⟨n1, _, rfl, .inl (.of upd_same), rfl, rfl, _, rfl, ifF (by decide +kernel) ?_⟩⟩
      have s1 := (Same.refl H).trans (same_new (o := .lst [V.str "fresh", .str "get", .str "put"]) hn1)
      generalize upd H n1 (.lst [V.str "fresh", .str "get", .str "put"]) = H1 at s1 ⊢
      refine ⟨_, rfl, p, _, 0, _, rfl, rfl, sqT_sm (s1) hp, atI_nat (j := 0) rfl, one 5 (by decide), fun n2 hn2 => ⟨n2, _, rfl, .inl (.of upd_same), rfl, rfl, _, rfl, ifF (by decide +kernel) ?_⟩⟩
      have s2 := (s1).trans (same_new (o := .lst [V.str "jump", .str "choose", .str "call", .str "give", .str "fail"]) hn2)
      generalize upd H1 n2 (.lst [V.str "jump", .str "choose", .str "call", .str "give", .str "fail"]) = H2 at s2 ⊢
      refine ⟨_, rfl, p, _, 0, _, rfl, rfl, sqT_sm (s2) hp, atI_nat (j := 0) rfl, rfl, _, rfl, ifN (no (by decide +kernel)) ?_⟩
      refine ⟨_, rfl, p, _, 0, _, rfl, rfl, sqT_sm (s2) hp, atI_nat (j := 0) rfl, rfl, _, rfl, ifN (no (by decide +kernel)) ?_⟩
      refine ⟨_, rfl, p, _, 0, _, rfl, rfl, sqT_sm (s2) hp, atI_nat (j := 0) rfl, one 2 (by decide), fun n3 hn3 => ⟨n3, _, rfl, .inl (.of upd_same), rfl, rfl, _, rfl, ifT (by decide +kernel) ?_⟩⟩
      have s3 := (s2).trans (same_new (o := .lst [V.str "move", .str "swap"]) hn3)
      generalize upd H2 n3 (.lst [V.str "move", .str "swap"]) = H3 at s3 ⊢
      have lr3 := lr.sm s3
      have hp3 := sqT_sm s3 hp
      
      refine ⟨_, rfl, _, rfl, p, _, 1, _, rfl, rfl, hp3, atI_nat (j := 1) rfl, HD, H0, G, m + 1, x1, rfl, lr3, .inl ⟨p1, _, dp_sm lr3.hd d1, ne, rfl, ?_⟩⟩
      dsimp only [gName, List.set]
      refine ⟨_, rfl, _, rfl, p, _, 2, _, rfl, rfl, hp3, atI_nat (j := 2) rfl, HD, H0, G, m + 1, x2, rfl, lr3, .inl ⟨p2, _, dp_sm lr3.hd d2, ne, hx, ?_⟩⟩
      dsimp only [gName, List.set]
      
      obtain ⟨a1, rfl, ha1⟩ := np_parts d1
      have nt : ¬ V.str p1.k = V.str "tray" := by
        cases p1 with
        | b n => exact no (y := "box") (z := "tray") (by decide +kernel)
        | s n => exact no (y := "shelf") (z := "tray") (by decide +kernel)
      refine ⟨_, rfl, p, _, 0, _, rfl, rfl, hp3, atI_nat (j := 0) rfl, rfl, _, rfl, ifD rfl ⟨_, rfl, p, _, 1, _, rfl, rfl, hp3, atI_nat (j := 1) rfl, a1, _, 0, _, rfl, rfl, sqT_sm lr3.hd ha1, atI_nat (j := 0) rfl, rfl, _, rfl, ifN nt ?_⟩⟩
      refine ⟨_, rfl, _, rfl, p, _, 1, _, rfl, rfl, hp3, atI_nat (j := 1) rfl, _, rfl, G.o, _, _, rfl, .inl ⟨HD, H0, G, m + 1, p1, x, rfl, lr3, dp_sm lr3.hd d1, rfl, ro.1 _ (List.mem_cons_self ..), (lr.ok.has hx).1, ne, fun H' G' l' o' c3 => ?_⟩⟩
      exact ⟨_, rfl, p, _, 0, _, rfl, rfl, sqT_sm l'.hd hp0, atI_nat (j := 0) rfl, rfl, _, rfl, ifN (no (by decide +kernel)) (q H' G' _ l' o' c3 rfl)⟩
    | sw p1 p2 =>
      cases st with
      | @sw _ _ x y hx hy =>
      obtain ⟨p, x1, x2, rfl, hp0, d1, d2⟩ := pair_parts dv0
      have hp := sqT_sm lr.hd hp0
      refine ⟨_, rfl, p, _, 0, _, rfl, rfl, sqT_sm (Same.refl _) hp, atI_nat (j := 0) rfl, one 3 (by decide), fun n1 hn1 => ⟨n1, _, rfl, .inl (.of upd_same), rfl, rfl, _, rfl, ifF (by decide +kernel) ?_⟩⟩
      have s1 := (Same.refl H).trans (same_new (o := .lst [V.str "fresh", .str "get", .str "put"]) hn1)
      generalize upd H n1 (.lst [V.str "fresh", .str "get", .str "put"]) = H1 at s1 ⊢
      refine ⟨_, rfl, p, _, 0, _, rfl, rfl, sqT_sm (s1) hp, atI_nat (j := 0) rfl, one 5 (by decide), fun n2 hn2 => ⟨n2, _, rfl, .inl (.of upd_same), rfl, rfl, _, rfl, ifF (by decide +kernel) ?_⟩⟩
      have s2 := (s1).trans (same_new (o := .lst [V.str "jump", .str "choose", .str "call", .str "give", .str "fail"]) hn2)
      generalize upd H1 n2 (.lst [V.str "jump", .str "choose", .str "call", .str "give", .str "fail"]) = H2 at s2 ⊢
      refine ⟨_, rfl, p, _, 0, _, rfl, rfl, sqT_sm (s2) hp, atI_nat (j := 0) rfl, rfl, _, rfl, ifN (no (by decide +kernel)) ?_⟩
      refine ⟨_, rfl, p, _, 0, _, rfl, rfl, sqT_sm (s2) hp, atI_nat (j := 0) rfl, rfl, _, rfl, ifN (no (by decide +kernel)) ?_⟩
      refine ⟨_, rfl, p, _, 0, _, rfl, rfl, sqT_sm (s2) hp, atI_nat (j := 0) rfl, one 2 (by decide), fun n3 hn3 => ⟨n3, _, rfl, .inl (.of upd_same), rfl, rfl, _, rfl, ifT (by decide +kernel) ?_⟩⟩
      have s3 := (s2).trans (same_new (o := .lst [V.str "move", .str "swap"]) hn3)
      generalize upd H2 n3 (.lst [V.str "move", .str "swap"]) = H3 at s3 ⊢
      have lr3 := lr.sm s3
      have hp3 := sqT_sm s3 hp
      
      refine ⟨_, rfl, _, rfl, p, _, 1, _, rfl, rfl, hp3, atI_nat (j := 1) rfl, HD, H0, G, m + 1, x1, rfl, lr3, .inl ⟨p1, _, dp_sm lr3.hd d1, ne, hx, ?_⟩⟩
      dsimp only [gName, List.set]
      refine ⟨_, rfl, _, rfl, p, _, 2, _, rfl, rfl, hp3, atI_nat (j := 2) rfl, HD, H0, G, m + 1, x2, rfl, lr3, .inl ⟨p2, _, dp_sm lr3.hd d2, ne, hy, ?_⟩⟩
      dsimp only [gName, List.set]
      
      refine ⟨_, rfl, p, _, 0, _, rfl, rfl, hp3, atI_nat (j := 0) rfl, rfl, _, rfl, ifN (no (by decide +kernel)) (ifF rfl ?_)⟩
      refine ⟨_, rfl, _, rfl, p, _, 1, _, rfl, rfl, hp3, atI_nat (j := 1) rfl, _, rfl, G.o, _, _, rfl, .inl ⟨HD, H0, G, m + 1, p1, y, rfl, lr3, dp_sm lr3.hd d1, rfl, (lr.ok.has hx).2, (lr.ok.has hy).1, ne, fun H' G' l' o' c3 => ?_⟩⟩
      refine ⟨_, rfl, p, _, 0, _, rfl, rfl, sqT_sm l'.hd hp0, atI_nat (j := 0) rfl, rfl, _, rfl, ifD rfl ?_⟩
      have ne' : G'.js ≠ [] := fun z => gets_ne (c := G.mc) (x := y) (p := p1) (mc_ne.mpr ne) (by rw [← c3]; exact mc_nil z)
      refine ⟨_, rfl, _, rfl, p, _, 2, _, rfl, rfl, sqT_sm l'.hd hp0, atI_nat (j := 2) rfl, _, rfl, G.o, _, _, rfl, .inl ⟨HD, H0, G', m + 1, p2, x, o'.symm, l', dp_sm l'.hd d2, rfl, (lr.ok.has hy).2, (lr.ok.has hx).1, ne', fun H2 G2 l2 o2 c4 => ?_⟩⟩
      exact q H2 G2 _ l2 (o2.trans o') (by rw [c4, c3]) rfl
    | tmv a b =>
      cases st with
      | @tmv _ _ l hl =>
      obtain ⟨p, x1, x2, rfl, hp0, d1, d2⟩ := pair_parts dv0
      have hp := sqT_sm lr.hd hp0
      refine ⟨_, rfl, p, _, 0, _, rfl, rfl, sqT_sm (Same.refl _) hp, atI_nat (j := 0) rfl, one 3 (by decide), fun n1 hn1 => ⟨n1, _, rfl, .inl (.of upd_same), rfl, rfl, _, rfl, ifF (by decide +kernel) ?_⟩⟩
      have s1 := (Same.refl H).trans (same_new (o := .lst [V.str "fresh", .str "get", .str "put"]) hn1)
      generalize upd H n1 (.lst [V.str "fresh", .str "get", .str "put"]) = H1 at s1 ⊢
      refine ⟨_, rfl, p, _, 0, _, rfl, rfl, sqT_sm (s1) hp, atI_nat (j := 0) rfl, one 5 (by decide), fun n2 hn2 => ⟨n2, _, rfl, .inl (.of upd_same), rfl, rfl, _, rfl, ifF (by decide +kernel) ?_⟩⟩
      have s2 := (s1).trans (same_new (o := .lst [V.str "jump", .str "choose", .str "call", .str "give", .str "fail"]) hn2)
      generalize upd H1 n2 (.lst [V.str "jump", .str "choose", .str "call", .str "give", .str "fail"]) = H2 at s2 ⊢
      refine ⟨_, rfl, p, _, 0, _, rfl, rfl, sqT_sm (s2) hp, atI_nat (j := 0) rfl, rfl, _, rfl, ifN (no (by decide +kernel)) ?_⟩
      refine ⟨_, rfl, p, _, 0, _, rfl, rfl, sqT_sm (s2) hp, atI_nat (j := 0) rfl, rfl, _, rfl, ifN (no (by decide +kernel)) ?_⟩
      refine ⟨_, rfl, p, _, 0, _, rfl, rfl, sqT_sm (s2) hp, atI_nat (j := 0) rfl, one 2 (by decide), fun n3 hn3 => ⟨n3, _, rfl, .inl (.of upd_same), rfl, rfl, _, rfl, ifT (by decide +kernel) ?_⟩⟩
      have s3 := (s2).trans (same_new (o := .lst [V.str "move", .str "swap"]) hn3)
      generalize upd H2 n3 (.lst [V.str "move", .str "swap"]) = H3 at s3 ⊢
      have lr3 := lr.sm s3
      have hp3 := sqT_sm s3 hp
      
      obtain ⟨g2, r2, a2, e2, hla⟩ := tr_of hl
      rw [ej] at e2
      cases e2
      
      refine ⟨_, rfl, _, rfl, p, _, 1, _, rfl, rfl, hp3, atI_nat (j := 1) rfl, HD, H0, G, m + 1, x1, rfl, lr3, .inr ⟨a, _, g, js, dp_sm lr3.hd d1, ej, rfl, ?_⟩⟩
      dsimp only [gName, List.set]
      refine ⟨_, rfl, _, rfl, p, _, 2, _, rfl, rfl, hp3, atI_nat (j := 2) rfl, HD, H0, G, m + 1, x2, rfl, lr3, .inr ⟨b, _, g, js, dp_sm lr3.hd d2, ej, hla, ?_⟩⟩
      dsimp only [gName, List.set]
      
      obtain ⟨a1, rfl, ha1⟩ := tr_parts d1
      
      refine ⟨_, rfl, p, _, 0, _, rfl, rfl, hp3, atI_nat (j := 0) rfl, rfl, _, rfl, ifD rfl ⟨_, rfl, p, _, 1, _, rfl, rfl, hp3, atI_nat (j := 1) rfl, a1, _, 0, _, rfl, rfl, sqT_sm lr3.hd ha1, atI_nat (j := 0) rfl, rfl, _, rfl, ifD rfl ?_⟩⟩
      refine ⟨_, rfl, a2, _, rfl, .inl (.of (lr3.tr ej hla)), fun n4 hn4 => ?_⟩
      have s4 := same_new (o := .lst (l.map V.int)) hn4
      have lr4 := lr3.sm s4
      have e4 : upd H3 n4 (.lst (l.map V.int)) n4 = some (.lst (l.map V.int)) := upd_same
      generalize upd H3 n4 (.lst (l.map V.int)) = H4 at s4 lr4 e4 ⊢
      dsimp only [gName, List.set]
      obtain ⟨k3, l3⟩ := lr.ts3 ej
      have hp4 := sqT_sm s4 hp3
      obtain ⟨v8, v9, v3⟩ := lr.ok.tray hl
      refine ⟨_, rfl, _, rfl, p, _, 1, _, rfl, rfl, hp4, atI_nat (j := 1) rfl, _, rfl, G.o, _, _, rfl, .inr ⟨a, n4, l, g.ts, G.jl, g.o, g.hl, jrefs js, dp_sm lr4.hd d1, rfl, lr4.gj, lr4.last ej, dget_k (lr4.job ej) (jdk_t g), lr4.trs ej, l3, ?_⟩⟩
      have l5 := lr4.newT ej e4 (lr3.ow.s.free hn4) (lr3.off hn4) ro.2.1 v8 v9
      exact ⟨_, rfl, p, _, 0, _, rfl, rfl, sqT_sm l5.hd hp0, atI_nat (j := 0) rfl, rfl, _, rfl, ifN (no (by decide +kernel)) (q _ _ _ l5 rfl (mc_setT ej) rfl)⟩
    | tsw a b =>
      cases st with
      | @tsw _ _ l k hl hk =>
      obtain ⟨p, x1, x2, rfl, hp0, d1, d2⟩ := pair_parts dv0
      have hp := sqT_sm lr.hd hp0
      refine ⟨_, rfl, p, _, 0, _, rfl, rfl, sqT_sm (Same.refl _) hp, atI_nat (j := 0) rfl, one 3 (by decide), fun n1 hn1 => ⟨n1, _, rfl, .inl (.of upd_same), rfl, rfl, _, rfl, ifF (by decide +kernel) ?_⟩⟩
      have s1 := (Same.refl H).trans (same_new (o := .lst [V.str "fresh", .str "get", .str "put"]) hn1)
      generalize upd H n1 (.lst [V.str "fresh", .str "get", .str "put"]) = H1 at s1 ⊢
      refine ⟨_, rfl, p, _, 0, _, rfl, rfl, sqT_sm (s1) hp, atI_nat (j := 0) rfl, one 5 (by decide), fun n2 hn2 => ⟨n2, _, rfl, .inl (.of upd_same), rfl, rfl, _, rfl, ifF (by decide +kernel) ?_⟩⟩
      have s2 := (s1).trans (same_new (o := .lst [V.str "jump", .str "choose", .str "call", .str "give", .str "fail"]) hn2)
      generalize upd H1 n2 (.lst [V.str "jump", .str "choose", .str "call", .str "give", .str "fail"]) = H2 at s2 ⊢
      refine ⟨_, rfl, p, _, 0, _, rfl, rfl, sqT_sm (s2) hp, atI_nat (j := 0) rfl, rfl, _, rfl, ifN (no (by decide +kernel)) ?_⟩
      refine ⟨_, rfl, p, _, 0, _, rfl, rfl, sqT_sm (s2) hp, atI_nat (j := 0) rfl, rfl, _, rfl, ifN (no (by decide +kernel)) ?_⟩
      refine ⟨_, rfl, p, _, 0, _, rfl, rfl, sqT_sm (s2) hp, atI_nat (j := 0) rfl, one 2 (by decide), fun n3 hn3 => ⟨n3, _, rfl, .inl (.of upd_same), rfl, rfl, _, rfl, ifT (by decide +kernel) ?_⟩⟩
      have s3 := (s2).trans (same_new (o := .lst [V.str "move", .str "swap"]) hn3)
      generalize upd H2 n3 (.lst [V.str "move", .str "swap"]) = H3 at s3 ⊢
      have lr3 := lr.sm s3
      have hp3 := sqT_sm s3 hp
      
      obtain ⟨g2, r2, a2, e2, hla⟩ := tr_of hl
      rw [ej] at e2
      cases e2
      obtain ⟨g2, r2, b2, e2, hlb⟩ := tr_of hk
      rw [ej] at e2
      cases e2
      
      refine ⟨_, rfl, _, rfl, p, _, 1, _, rfl, rfl, hp3, atI_nat (j := 1) rfl, HD, H0, G, m + 1, x1, rfl, lr3, .inr ⟨a, _, g, js, dp_sm lr3.hd d1, ej, hla, ?_⟩⟩
      dsimp only [gName, List.set]
      refine ⟨_, rfl, _, rfl, p, _, 2, _, rfl, rfl, hp3, atI_nat (j := 2) rfl, HD, H0, G, m + 1, x2, rfl, lr3, .inr ⟨b, _, g, js, dp_sm lr3.hd d2, ej, hlb, ?_⟩⟩
      dsimp only [gName, List.set]
      
      obtain ⟨a1, rfl, ha1⟩ := tr_parts d1
      
      obtain ⟨k3, l3⟩ := lr.ts3 ej
      obtain ⟨h1, h2, h3⟩ := lr.hne ej
      refine ⟨_, rfl, p, _, 0, _, rfl, rfl, hp3, atI_nat (j := 0) rfl, rfl, _, rfl, ifN (no (by decide +kernel)) (ifF rfl ?_)⟩
      refine ⟨_, rfl, _, rfl, p, _, 1, _, rfl, rfl, hp3, atI_nat (j := 1) rfl, _, rfl, G.o, _, _, rfl, .inr ⟨a, b2, k, g.ts, G.jl, g.o, g.hl, jrefs js, dp_sm lr3.hd d1, rfl, lr3.gj, lr3.last ej, dget_k (lr3.job ej) (jdk_t g), lr3.trs ej, l3, ?_⟩⟩
      obtain ⟨lf, lc⟩ := lr3.swapT ej hla hlb
      have kp : Kp (fun b => b = g.hl) H3 (upd H3 g.hl (.dK (kvT (ptA g.ts a (b2, k))))) := Kp.upd (lr3.trs ej) trivial rfl
      have eH : upd H3 g.hl (.dK (kvT (ptA g.ts a (b2, k)))) g.hl = some (.dK (kvT (ptA g.ts a (b2, k)))) := upd_same
      have e1 : upd H3 g.hl (.dK (kvT (ptA g.ts a (b2, k)))) G.o = some (.dK (rdk G)) := (upd_ne h1).trans (lr3.ow.get mG_o)
      have e2 : upd H3 g.hl (.dK (kvT (ptA g.ts a (b2, k)))) G.jl = some (.lst (jrefs js ++ [.ref g.o])) := (upd_ne h2).trans (lr3.last ej)
      have e3 : upd H3 g.hl (.dK (kvT (ptA g.ts a (b2, k)))) g.o = some (.dK (jdk g)) := (upd_ne h3).trans (lr3.job ej)
      have hp4 := sqT_kp kp hp3
      have d24 := dp_kp kp _ _ (by simp [trD, nLd, nLs]) (dp_sm lr3.hd d2)
      have uu : ∀ o, upd (upd H3 g.hl (.dK (kvT (ptA g.ts a (b2, k))))) g.hl o = upd H3 g.hl o := fun o => upd_upd
      generalize upd H3 g.hl (.dK (kvT (ptA g.ts a (b2, k)))) = H4 at eH e1 e2 e3 hp4 d24 uu ⊢
      have l4 : (ptA g.ts a (b2, k)).length ≤ 100 := by
        rcases ptA_keys g.ts a (b2, k) with z | ⟨c, z⟩
        · have := congrArg List.length z
          rw [List.length_map, List.length_map] at this
          omega
        · exact absurd (List.mem_map.mpr ⟨_, lkA_mem hla, rfl⟩) c
      refine ⟨_, rfl, p, _, 0, _, rfl, rfl, hp4, atI_nat (j := 0) rfl, rfl, _, rfl, ifD rfl ?_⟩
      refine ⟨_, rfl, _, rfl, p, _, 2, _, rfl, rfl, hp4, atI_nat (j := 2) rfl, _, rfl, G.o, _, _, rfl, .inr ⟨b, a2, l, ptA g.ts a (b2, k), G.jl, g.o, g.hl, jrefs js, d24, rfl, dget_k e1 (rdk_j G), e2, dget_k e3 (jdk_t g), eH, l4, ?_⟩⟩
      rw [uu]
      exact q _ _ _ lf rfl lc rfl
end

section
variable {P : Program} {w : World} {K : PySem.W.Frag} {mg : Str → Option Value} {base : Heap}
def endD (t : List Int) (e : LE) (k : Nat) : PyData := .tuple [.tuple (t.map PyData.int), e.d, .int (k : Nat)]
theorem ints_dp {H : Hp} : ∀ {l : List Int}, DpAll K H (l.map V.int) (l.map PyData.int)
  | [] => .nil
  | x :: r => .cons (.int x) ints_dp
theorem rows_at {H : Hp} {rv : List V} {i : Nat} {rows : List LR} {r : LR} (h : DpAll K H rv (rows.map LR.d)) (e : rows[i]? = some r) : ∃ v, rv[i]? = some v ∧ Dp K H v r.d := by
  have l := dpAll_len h
  rw [List.length_map] at l
  have hc : i < rv.length := by have := (List.getElem?_eq_some_iff.mp e).1; omega
  have e1 := List.getElem?_eq_getElem hc
  obtain ⟨dx, hdx, dvx⟩ := dpAll_getV h e1
  rw [List.getElem?_map, e] at hdx
  cases hdx
  exact ⟨_, e1, dvx⟩
theorem row_of {G : GM} {r : LR} (h : G.mc.row = some r) : ∃ g js, G.js = g :: js ∧ g.p.rows[g.at_]? = some r := by
  unfold MC.row GM.mc at h
  dsimp only at h
  cases e : G.js with
  | nil => rw [e] at h; cases h
  | cons g js => rw [e] at h; exact ⟨g, js, rfl, h⟩
theorem mc_next {G : GM} {g : GJ} {js : List GJ} (e : G.js = g :: js) : ({ G with js := { g with at_ := g.at_ + 1 } :: js } : GM).mc = G.mc.next := by
  rw [mc_goto e]
  unfold MC.next GM.mc
  dsimp only
  rw [e]
  rfl
theorem rn_inv {L : List LP} {n : Nat} {c : MC} {t : List Int} {e : LE} {k : Nat} (h : Rn L (n + 1) c t e k) : ∃ r c' oe, c.row = some r ∧ Stp L c.next r c' oe ∧ ((oe = some e ∧ t = c'.told ∧ k = 1) ∨ (oe = none ∧ ∃ k', k = k' + 1 ∧ Rn L n c' t e k')) := by
  cases h with
  | stop h1 h2 => exact ⟨_, _, _, h1, h2, .inl ⟨rfl, rfl, rfl⟩⟩
  | go h1 h2 h3 => exact ⟨_, _, _, h1, h2, .inr ⟨rfl, _, rfl, h3⟩⟩
def sp_lplayed (K : PySem.W.Frag) : Sp := fun vs H Q _ => ∃ (lv bv : V) (I : Addr) (L : List LP) (nb most : Nat) (q : LP) (xs : List Int) (t : List Int) (e : LE) (k : Nat), vs = [lv, bv, .ref I, .int (most : Nat)] ∧ Dp K H lv (insL (L ++ [q])) ∧ H I = some (.lst (xs.map V.int)) ∧ q.ins.length = xs.length ∧ (∀ x ∈ xs, In32 x) ∧ LsOk nb (L ++ [q]) ∧ (L ++ [q]).length ≤ 1000 ∧ nb ≤ 5 ∧ most ≤ 20000 ∧ Rn (L ++ [q]) most (MC.zero.enter q none xs) t e k ∧
  ∀ H' v, Same H H' → Dp K H' v (endD t e k) → Q v H'
theorem ok__law_last_played (T : Top K mg) : FnOk P w K mg base CX0 5 (He.ga K "_law_last_played") T.fd__law_last_played ["_law_last", "_law_boxes", "_law_inputs", "_law_most"] (sp_lplayed K) := by
  refine T.F__law_last_played.ok sc__law_last_played (fun vs H Q E h => ?_) (fun cdv A0 outer s0 H vs Q E hr h => ?_)
  · obtain ⟨lv, bv, I, L, nb, most, q, xs, t, e, k, rfl, _⟩ := h
    rfl
  · obtain ⟨lv, bv, I, L, nb, most, qp, xs, t, e, k, rfl, dl, eI, lq, x32, lo, lL, n5, m2, rn, q⟩ := h
    have G__law_job := ok__law_job (P := P) (w := w) (base := base) (L := L ++ [qp]) (nb := nb) T
    have G__law_row_done := ok__law_row_done (P := P) (w := w) (base := base) (L := L ++ [qp]) (nb := nb) T
    refine ⟨_, PSs.nox (pss_cons (ps_set (i := 4) sc__law_last_played.nd rfl (Or.inl rfl) (pe_disp (pps_cons pe_str pe_dnewK (pps_cons pe_str (pe_lst pa_nil) (pps_cons pe_str (pe_lst pa_nil) pps_nil))) (by rfl) (by rfl) (fun z => by cases z) (by decide)))
        (pss_cons (ps_expr (pe_call G__law_job (hr.mono (by omega)) (by rfl) T.g__law_job T.F__law_job.kp T.b__law_job .nil pass0 (pa_cons (pv 4) (pa_cons (pv 0) (pa_cons (pe_op op_sub (pe_callB call_len_seq (by rfl) T.m_len (by decide +kernel) (pa_cons (pv 0) pa_nil)) pe_int) (pa_cons (pe_callTy call_list_of (by rfl) T.m_list (by decide +kernel) (pa_cons (pv 2) pa_nil)) (pa_cons pe_non pa_nil)))))))
        (pss_cons (ps_for PassesOwn.never (by rfl) (pi_range1 (by rfl) T.m_range (pa_cons (pv 3) pa_nil)) (pg_name (i := 5) sc__law_last_played.nd rfl (Or.inl rfl)) (pss_cons (ps_set (i := 6) sc__law_last_played.nd rfl (Or.inl rfl) (pe_ix ix_list (pe_dget (hu_of hr) (pv 4) pe_str (fun _ _ => rfl)) (pe_un un_neg pe_int) (fun _ _ => rfl)))
        (pss_cons (ps_dput (hu_of hr) (pv 6) pe_str (pe_op op_add (pe_dget (hu_of hr) (pv 6) pe_str (fun _ _ => rfl)) pe_int) (by rfl))
        (pss_cons (ps_set (i := 7) sc__law_last_played.nd rfl (Or.inl rfl) (pe_call G__law_row_done (hr.mono (by omega)) (by rfl) T.g__law_row_done T.F__law_row_done.kp T.b__law_row_done .nil pass0 (pa_cons (pv 4) (pa_cons (pv 0) (pa_cons (pe_ix ix_tup (pe_ix ix_tup (pe_dget (hu_of hr) (pv 6) pe_str (fun _ _ => rfl)) pe_int (fun _ _ => rfl)) (pe_op op_sub (pe_dget (hu_of hr) (pv 6) pe_str (fun _ _ => rfl)) pe_int) (fun _ _ => rfl)) pa_nil)))))
        (pss_one (ps_if (pt_cmpR op_notN (pv 7) pe_non (nomark _)) (pss_one (ps_ret (pe_tup (pa_cons (pe_callTy call_tuple_of (by rfl) T.m_tuple (by decide +kernel) (pa_cons (pe_dget (hu_of hr) (pv 4) pe_str (fun _ _ => rfl)) pa_nil)) (pa_cons (pv 7) (pa_cons (pe_op op_add (pv 5) pe_int) pa_nil)))))) pss_nil))))))
        (pss_one (ps_ret (pe_tup (pa_cons (pe_callTy call_tuple_of (by rfl) T.m_tuple (by decide +kernel) (pa_cons (pe_dget (hu_of hr) (pv 4) pe_str (fun _ _ => rfl)) pa_nil)) (pa_cons (pe_tup (pa_cons pe_str pa_nil)) (pa_cons (pv 3) pa_nil))))))))), ?_⟩
    have one : ∀ n : Nat, n ≤ 10000 → n ≤ sizeLine := fun n h => by rw [sizeLine_eq]; omega
    refine fun D nD => ?_
    refine fun bl nbl => ⟨Nat.zero_le _, fun jl njl => ⟨Nat.zero_le _, fun tl ntl => ?_⟩⟩
    have s1 := same_new (o := .dK []) nD
    have s2 := same_new (o := .dK []) nbl
    have s3 := same_new (o := .lst []) njl
    have s4 := same_new (o := .lst []) ntl
    have s14 := ((s1.trans s2).trans s3).trans s4
    have f2 : H bl = none := s1.free nbl
    have f3 : H jl = none := (s1.trans s2).free njl
    have f4 : H tl = none := ((s1.trans s2).trans s3).free ntl
    have x1 : upd H D (.dK []) D = some (.dK []) := upd_same
    have x2 : upd (upd H D (.dK [])) bl (.dK []) bl = some (.dK []) := upd_same
    have x3 : upd (upd (upd H D (.dK [])) bl (.dK [])) jl (.lst []) jl = some (.lst []) := upd_same
    have d12 : D ≠ bl := ne_of_none x1 nbl
    have d13 : D ≠ jl := ne_of_none (s2 _ _ x1) njl
    have d14 : D ≠ tl := ne_of_none (s3 _ _ (s2 _ _ x1)) ntl
    have d23 : bl ≠ jl := ne_of_none x2 njl
    have d24 : bl ≠ tl := ne_of_none (s3 _ _ x2) ntl
    have d34 : jl ≠ tl := ne_of_none x3 ntl
    have y1 := s4 _ _ (s3 _ _ (s2 _ _ x1))
    have y2 := s4 _ _ (s3 _ _ x2)
    have y3 := s4 _ _ x3
    have y4 : upd (upd (upd (upd H D (.dK [])) bl (.dK [])) jl (.lst [])) tl (.lst []) tl = some (.lst []) := upd_same
    generalize upd (upd (upd (upd H D (.dK [])) bl (.dK [])) jl (.lst [])) tl (.lst []) = H4 at s14 y1 y2 y3 y4 ⊢
    obtain ⟨G, hG⟩ : ∃ G : GM, G = ⟨D, 0, bl, jl, tl, [], [], []⟩ := ⟨_, rfl⟩
    refine ⟨y1, rdk G, by rw [hG]; rfl, (by show 3 ≤ 15; decide), ?_⟩
    rw [show mergeK [] (rdk G) = rdk G from merge_nd _ [] (by show (([Sum.inr "boxes", .inr "jobs", .inr "told"] : List Key)).Nodup; decide +kernel)]
    have s5 : Same H (upd H4 D (.dK (rdk G))) := same_upd s14 nD
    have z1 : upd H4 D (.dK (rdk G)) D = some (.dK (rdk G)) := upd_same
    have z2 : upd H4 D (.dK (rdk G)) bl = some (.dK []) := (upd_ne d12.symm).trans y2
    have z3 : upd H4 D (.dK (rdk G)) jl = some (.lst []) := (upd_ne d13.symm).trans y3
    have z4 : upd H4 D (.dK (rdk G)) tl = some (.lst []) := (upd_ne d14.symm).trans y4
    generalize upd H4 D (.dK (rdk G)) = H5 at s5 z1 z2 z3 z4 ⊢
    have ow : Ow H H5 (mL G) := by
      have w0 : Ow H H5 [] := ⟨s5, List.nodup_nil, fun x hx => nomatch hx⟩
      have w1 := w0.add z4 f4 (fun h => nomatch h)
      have w2 := w1.add z3 f3 (by simp [d34])
      have w3 := w2.add z2 f2 (by simp [d23, d24])
      have w4 := w3.add z1 nD (by simp [d12, d13, d14])
      rw [hG]
      rw [hG] at w4
      exact w4
    have lr : LrAt K (L ++ [qp]) nb H H H5 G 0 := by
      refine ⟨ow, Same.refl _, ?_, ?_, ?_, ?_, by decide, n5⟩
      · rw [hG]; exact fun g hg => nomatch hg
      · rw [hG]; exact ⟨.nil, (fun x hx => nomatch hx), fun j hj => nomatch hj⟩
      · rw [hG]; exact Nat.le_refl _
      · rw [hG]; exact Nat.zero_le _
    have oG : G.o = D := by rw [hG]
    have js0 : G.js = [] := by rw [hG]
    have mc0 : G.mc = MC.zero := by rw [hG]; rfl
    rw [← oG]
    clear hG z1 z2 z3 z4 y1 y2 y3 y4 d12 d13 d14 d23 d24 d34 x1 x2 x3 s14 s1 s2 s3 s4 nbl njl ntl
    dsimp only [gName, List.set]
    obtain ⟨la, lvs, rfl, hla, dls⟩ := dp_tup dl
    have llv := dpAll_len dls
    rw [List.length_map, List.length_append, List.length_singleton] at llv
    refine ⟨_, rfl, _, rfl, _, rfl, la, _, rfl, .inr (sqT_sm s5 hla), _, _, rfl, rfl, _, rfl, I, _, rfl, .inl (.of (s5 _ _ eI)), fun N nN => ?_⟩
    have s6 := same_new (o := .lst (xs.map V.int)) nN
    have lr6 := lr.sm s6
    have e1 : (L ++ [qp])[L.length]? = some qp := by rw [List.getElem?_append_right (Nat.le_refl _), Nat.sub_self]; rfl
    have el : ((lvs.length : Nat) : Int) - 1 = ((L.length : Nat) : Int) := by rw [llv]; omega
    refine ⟨H, H, G, 0, _, _, L.length, N, qp, xs, none, (by rw [← el]; rfl), lr6, by rw [js0]; exact Nat.le_refl _, lo, dl, e1, upd_same, lr.off nN, lq, ?_, x32, (fun p hp => nomatch hp), fun H7 G7 l7 o7 c7 => ?_⟩
    · rw [← lq]
      exact lo.l qp (List.mem_append_right _ (List.mem_singleton.mpr rfl))
    rw [mc0] at c7
    dsimp only
    refine ⟨_, rfl, _, rfl, by omega, by omega, ?_⟩
    refine for_range (lo := 0) (n := most) (fun i σ' H' => ∃ G' kk y5 y6 y7, LrAt K (L ++ [qp]) nb H H H' G' i ∧ G'.o = G.o ∧ Rn (L ++ [qp]) (most - i) G'.mc t e kk ∧ k = i + kk ∧ σ' = [some (.ref la), some bv, some (.ref I), some (.int (most : Nat)), some (.ref G.o), y5, y6, y7]) ?_ ?_ ?_
    · exact ⟨G7, k, _, _, _, l7, o7, by rw [Nat.sub_zero, c7]; exact rn, (Nat.zero_add _).symm, rfl⟩
    · rintro i σ' H' hi ⟨G', kk, y5, y6, y7, lr', o', rn', ek, rfl⟩
      dsimp only [gName, List.set]
      obtain ⟨n, hn⟩ : ∃ n, most - i = n + 1 := ⟨most - i - 1, by omega⟩
      rw [hn] at rn'
      obtain ⟨r, c', oe, hr, st, fin⟩ := rn_inv rn'
      obtain ⟨g, js, ej, hrow⟩ := row_of hr
      have ro := lr'.ok.row lo hr
      rw [← o']
      obtain ⟨dp, _⟩ := lr'.d g (by rw [ej]; exact List.mem_cons_self ..)
      obtain ⟨pa, ia, ra, iv, rv, epv, hpa, _, _, hra, drv⟩ := lp_parts dp
      obtain ⟨v, hv, dv⟩ := rows_at drv hrow
      refine ⟨_, rfl, _, _, rfl, lr'.gj, 1, rfl, G'.jl, _, -1, _, rfl, rfl, .of (lr'.last ej), atI_lst, ?_⟩
      dsimp only [gName, List.set]
      refine ⟨_, rfl, _, _, rfl, dget_k (lr'.job ej) (jdk_a g), _, _, rfl, rfl, _, rfl, _, _, rfl, at_put (k := g.at_ + 1) (lr'.job ej), ?_⟩
      have l2 := lr'.goto ej (g.at_ + 1)
      have e2 := l2.job rfl
      have hmc := mc_next ej
      generalize upd H' g.o (.dK (jdk { g with at_ := g.at_ + 1 })) = H2 at l2 e2 ⊢
      rw [← hmc] at st
      refine ⟨_, rfl, _, rfl, _, rfl, _, _, rfl, dget_k e2 ((jdk_p _).trans (congrArg some epv)), pa, _, 3, _, rfl, rfl, sqT_sm l2.hd hpa, atI_nat (j := 3) rfl, _, rfl, _, _, rfl, dget_k e2 (jdk_a _), _, _, rfl, rfl, ra, _, _, _, rfl, rfl, sqT_sm l2.hd hra, (by rw [show (((g.at_ + 1 : Nat)) : Int) - 1 = ((g.at_ : Nat) : Int) by omega]; exact atI_nat hv), ?_⟩
      refine ⟨H, H, { G' with js := { g with at_ := g.at_ + 1 } :: js }, i, _, _, r, c', oe, rfl, l2, (fun h => nomatch h), by omega, lo, dl, dv, ro, st, fun H3 G3 v3 l3 o3 c3 ev => ?_⟩
      dsimp only [gName, List.set]
      rcases fin with ⟨rfl, et, rfl⟩ | ⟨rfl, k', rfl, rn2⟩
      · have ev2 : Dp K H3 v3 e.d := ev
        obtain ⟨av3, rfl⟩ : ∃ a, v3 = .ref a := by
          cases e <;> (obtain ⟨a, _, rfl, _⟩ := dp_tup ev2; exact ⟨a, rfl⟩)
        refine ⟨_, rfl, rfl, _, rfl, ifT (by rw [decide_eq_false (fun z => nomatch z)]; rfl) ?_⟩
        have gt3 := l3.gt
        rw [o3] at gt3
        refine ⟨_, rfl, _, _, rfl, gt3, G3.tl, _, rfl, .inl ⟨.of l3.tld, fun t1 nt1 => ⟨_, rfl, _, rfl, _, _, rfl, rfl, one 3 (by decide), fun t2 nt2 => ?_⟩⟩⟩
        have a1 := same_new (o := .tup (G3.told.map V.int)) nt1
        have a2 := same_new (o := .tup [.ref t1, .ref av3, .int (0 + ((i : Nat) : Int) + 1)]) nt2
        have et2 : G3.told = t := by rw [et, ← c3]; rfl
        rw [et2] at a1 a2 ⊢
        refine q _ _ ((l3.ow.s.trans a1).trans a2) (.tup (.of upd_same) (.cons (.tup (.of (a2 _ _ upd_same)) ints_dp) (.cons (dp_sm (a1.trans a2) ev2) (.cons ?_ .nil))))
        rw [ek]
        exact dpIE (by omega)
      · have ev2 : v3 = .non := ev
        subst ev2
        refine ⟨_, rfl, rfl, _, rfl, ifF (by rw [decide_eq_true rfl]; rfl) ?_⟩
        refine ⟨G3, k', _, _, _, l3, o3, ?_, by omega, rfl⟩
        rw [c3, show most - (i + 1) = n by omega]
        exact rn2
    · rintro σ' H' ⟨G', kk, y5, y6, y7, lr', o', rn', ek, rfl⟩
      dsimp only
      rw [Nat.sub_self] at rn'
      cases rn'
      rw [← o']
      refine ⟨_, rfl, _, _, rfl, lr'.gt, G'.tl, _, rfl, .inl ⟨.of lr'.tld, fun t1 nt1 => ⟨one 1 (by decide), fun t2 nt2 => ⟨_, rfl, one 3 (by decide), fun t3 nt3 => ?_⟩⟩⟩⟩
      have a1 := same_new (o := .tup (G'.mc.told.map V.int)) nt1
      have a2 := same_new (o := .tup [V.str "on"]) nt2
      have a3 := same_new (o := .tup [.ref t1, .ref t2, .int (most : Nat)]) nt3
      refine q _ _ (((lr'.ow.s.trans a1).trans a2).trans a3) (.tup (.of upd_same) (.cons (.tup (.of (a3 _ _ (a2 _ _ upd_same))) ints_dp) (.cons (.tup (.of (a3 _ _ upd_same)) (.cons (.str _) .nil)) (.cons ?_ .nil))))
      rw [ek, Nat.add_zero]
      exact .int _
end

theorem putF_ne {x y : Str} {v u : V} {fs : List (Str × V)} (h : y ≠ x) : putF x v ((y, u) :: fs) = (y, u) :: putF x v fs := by
  show (if y = x then _ else _) = _
  rw [if_neg h]
theorem putF_hit (x : Str) (v u : V) (fs : List (Str × V)) : putF x v ((x, u) :: fs) = (x, v) :: fs := by
  show (if x = x then _ else _) = _
  rw [if_pos rfl]

def mhF (lv : V) (bl : Addr) (mo : Int) (tl : Addr) (jl : Addr) (ev : V) : List (Str × V) := [("last", lv), ("boxes", .ref bl), ("left", .int mo), ("told", .ref tl), ("jobs", .ref jl), ("finish", ev)]
theorem mhF_last (lv : V) (bl : Addr) (mo : Int) (tl : Addr) (jl : Addr) (ev : V) : (mhF lv bl mo tl jl ev).lookup ("last" : Str) = some (lv) := by
  unfold mhF
  rw [List.lookup_cons, show (("last" : Str) == "last") = true by decide +kernel]
theorem mhF_boxes (lv : V) (bl : Addr) (mo : Int) (tl : Addr) (jl : Addr) (ev : V) : (mhF lv bl mo tl jl ev).lookup ("boxes" : Str) = some (.ref bl) := by
  unfold mhF
  rw [List.lookup_cons, show (("boxes" : Str) == "last") = false by decide +kernel, List.lookup_cons, show (("boxes" : Str) == "boxes") = true by decide +kernel]
theorem mhF_left (lv : V) (bl : Addr) (mo : Int) (tl : Addr) (jl : Addr) (ev : V) : (mhF lv bl mo tl jl ev).lookup ("left" : Str) = some (.int mo) := by
  unfold mhF
  rw [List.lookup_cons, show (("left" : Str) == "last") = false by decide +kernel, List.lookup_cons, show (("left" : Str) == "boxes") = false by decide +kernel, List.lookup_cons, show (("left" : Str) == "left") = true by decide +kernel]
theorem mhF_told (lv : V) (bl : Addr) (mo : Int) (tl : Addr) (jl : Addr) (ev : V) : (mhF lv bl mo tl jl ev).lookup ("told" : Str) = some (.ref tl) := by
  unfold mhF
  rw [List.lookup_cons, show (("told" : Str) == "last") = false by decide +kernel, List.lookup_cons, show (("told" : Str) == "boxes") = false by decide +kernel, List.lookup_cons, show (("told" : Str) == "left") = false by decide +kernel, List.lookup_cons, show (("told" : Str) == "told") = true by decide +kernel]
theorem mhF_jobs (lv : V) (bl : Addr) (mo : Int) (tl : Addr) (jl : Addr) (ev : V) : (mhF lv bl mo tl jl ev).lookup ("jobs" : Str) = some (.ref jl) := by
  unfold mhF
  rw [List.lookup_cons, show (("jobs" : Str) == "last") = false by decide +kernel, List.lookup_cons, show (("jobs" : Str) == "boxes") = false by decide +kernel, List.lookup_cons, show (("jobs" : Str) == "left") = false by decide +kernel, List.lookup_cons, show (("jobs" : Str) == "told") = false by decide +kernel, List.lookup_cons, show (("jobs" : Str) == "jobs") = true by decide +kernel]
theorem mhF_finish (lv : V) (bl : Addr) (mo : Int) (tl : Addr) (jl : Addr) (ev : V) : (mhF lv bl mo tl jl ev).lookup ("finish" : Str) = some (ev) := by
  unfold mhF
  rw [List.lookup_cons, show (("finish" : Str) == "last") = false by decide +kernel, List.lookup_cons, show (("finish" : Str) == "boxes") = false by decide +kernel, List.lookup_cons, show (("finish" : Str) == "left") = false by decide +kernel, List.lookup_cons, show (("finish" : Str) == "told") = false by decide +kernel, List.lookup_cons, show (("finish" : Str) == "jobs") = false by decide +kernel, List.lookup_cons, show (("finish" : Str) == "finish") = true by decide +kernel]
theorem mhF_no {lv : V} {bl : Addr} {mo : Int} {tl : Addr} {jl : Addr} {ev : V} {m : Str} (h0 : (m == ("last" : Str)) = false) (h1 : (m == ("boxes" : Str)) = false) (h2 : (m == ("left" : Str)) = false) (h3 : (m == ("told" : Str)) = false) (h4 : (m == ("jobs" : Str)) = false) (h5 : (m == ("finish" : Str)) = false) : (mhF lv bl mo tl jl ev).lookup m = none := by
  unfold mhF
  rw [List.lookup_cons, h0, List.lookup_cons, h1, List.lookup_cons, h2, List.lookup_cons, h3, List.lookup_cons, h4, List.lookup_cons, h5]
  rfl
theorem mhF_put_last (lv : V) (bl : Addr) (mo : Int) (tl : Addr) (jl : Addr) (ev : V) (z' : V) : putF ("last" : Str) (z') (mhF lv bl mo tl jl ev) = mhF z' bl mo tl jl ev := by
  unfold mhF
  rw [putF_hit]
theorem mhF_put_boxes (lv : V) (bl : Addr) (mo : Int) (tl : Addr) (jl : Addr) (ev : V) (z' : Addr) : putF ("boxes" : Str) (.ref z') (mhF lv bl mo tl jl ev) = mhF lv z' mo tl jl ev := by
  unfold mhF
  rw [putF_ne (x := ("boxes" : Str)) (y := ("last" : Str)) (by decide +kernel), putF_hit]
theorem mhF_put_left (lv : V) (bl : Addr) (mo : Int) (tl : Addr) (jl : Addr) (ev : V) (z' : Int) : putF ("left" : Str) (.int z') (mhF lv bl mo tl jl ev) = mhF lv bl z' tl jl ev := by
  unfold mhF
  rw [putF_ne (x := ("left" : Str)) (y := ("last" : Str)) (by decide +kernel), putF_ne (x := ("left" : Str)) (y := ("boxes" : Str)) (by decide +kernel), putF_hit]
theorem mhF_put_told (lv : V) (bl : Addr) (mo : Int) (tl : Addr) (jl : Addr) (ev : V) (z' : Addr) : putF ("told" : Str) (.ref z') (mhF lv bl mo tl jl ev) = mhF lv bl mo z' jl ev := by
  unfold mhF
  rw [putF_ne (x := ("told" : Str)) (y := ("last" : Str)) (by decide +kernel), putF_ne (x := ("told" : Str)) (y := ("boxes" : Str)) (by decide +kernel), putF_ne (x := ("told" : Str)) (y := ("left" : Str)) (by decide +kernel), putF_hit]
theorem mhF_put_jobs (lv : V) (bl : Addr) (mo : Int) (tl : Addr) (jl : Addr) (ev : V) (z' : Addr) : putF ("jobs" : Str) (.ref z') (mhF lv bl mo tl jl ev) = mhF lv bl mo tl z' ev := by
  unfold mhF
  rw [putF_ne (x := ("jobs" : Str)) (y := ("last" : Str)) (by decide +kernel), putF_ne (x := ("jobs" : Str)) (y := ("boxes" : Str)) (by decide +kernel), putF_ne (x := ("jobs" : Str)) (y := ("left" : Str)) (by decide +kernel), putF_ne (x := ("jobs" : Str)) (y := ("told" : Str)) (by decide +kernel), putF_hit]
theorem mhF_put_finish (lv : V) (bl : Addr) (mo : Int) (tl : Addr) (jl : Addr) (ev : V) (z' : V) : putF ("finish" : Str) (z') (mhF lv bl mo tl jl ev) = mhF lv bl mo tl jl z' := by
  unfold mhF
  rw [putF_ne (x := ("finish" : Str)) (y := ("last" : Str)) (by decide +kernel), putF_ne (x := ("finish" : Str)) (y := ("boxes" : Str)) (by decide +kernel), putF_ne (x := ("finish" : Str)) (y := ("left" : Str)) (by decide +kernel), putF_ne (x := ("finish" : Str)) (y := ("told" : Str)) (by decide +kernel), putF_ne (x := ("finish" : Str)) (y := ("jobs" : Str)) (by decide +kernel), putF_hit]
def jbF (pv0 : V) (at0 : Int) (sl : Addr) (hl : Addr) (av : V) : List (Str × V) := [("told_part", pv0), ("row_at", .int at0), ("places", .ref sl), ("held", .ref hl), ("answer", av)]
theorem jbF_told_part (pv0 : V) (at0 : Int) (sl : Addr) (hl : Addr) (av : V) : (jbF pv0 at0 sl hl av).lookup ("told_part" : Str) = some (pv0) := by
  unfold jbF
  rw [List.lookup_cons, show (("told_part" : Str) == "told_part") = true by decide +kernel]
theorem jbF_row_at (pv0 : V) (at0 : Int) (sl : Addr) (hl : Addr) (av : V) : (jbF pv0 at0 sl hl av).lookup ("row_at" : Str) = some (.int at0) := by
  unfold jbF
  rw [List.lookup_cons, show (("row_at" : Str) == "told_part") = false by decide +kernel, List.lookup_cons, show (("row_at" : Str) == "row_at") = true by decide +kernel]
theorem jbF_places (pv0 : V) (at0 : Int) (sl : Addr) (hl : Addr) (av : V) : (jbF pv0 at0 sl hl av).lookup ("places" : Str) = some (.ref sl) := by
  unfold jbF
  rw [List.lookup_cons, show (("places" : Str) == "told_part") = false by decide +kernel, List.lookup_cons, show (("places" : Str) == "row_at") = false by decide +kernel, List.lookup_cons, show (("places" : Str) == "places") = true by decide +kernel]
theorem jbF_held (pv0 : V) (at0 : Int) (sl : Addr) (hl : Addr) (av : V) : (jbF pv0 at0 sl hl av).lookup ("held" : Str) = some (.ref hl) := by
  unfold jbF
  rw [List.lookup_cons, show (("held" : Str) == "told_part") = false by decide +kernel, List.lookup_cons, show (("held" : Str) == "row_at") = false by decide +kernel, List.lookup_cons, show (("held" : Str) == "places") = false by decide +kernel, List.lookup_cons, show (("held" : Str) == "held") = true by decide +kernel]
theorem jbF_answer (pv0 : V) (at0 : Int) (sl : Addr) (hl : Addr) (av : V) : (jbF pv0 at0 sl hl av).lookup ("answer" : Str) = some (av) := by
  unfold jbF
  rw [List.lookup_cons, show (("answer" : Str) == "told_part") = false by decide +kernel, List.lookup_cons, show (("answer" : Str) == "row_at") = false by decide +kernel, List.lookup_cons, show (("answer" : Str) == "places") = false by decide +kernel, List.lookup_cons, show (("answer" : Str) == "held") = false by decide +kernel, List.lookup_cons, show (("answer" : Str) == "answer") = true by decide +kernel]
theorem jbF_no {pv0 : V} {at0 : Int} {sl : Addr} {hl : Addr} {av : V} {m : Str} (h0 : (m == ("told_part" : Str)) = false) (h1 : (m == ("row_at" : Str)) = false) (h2 : (m == ("places" : Str)) = false) (h3 : (m == ("held" : Str)) = false) (h4 : (m == ("answer" : Str)) = false) : (jbF pv0 at0 sl hl av).lookup m = none := by
  unfold jbF
  rw [List.lookup_cons, h0, List.lookup_cons, h1, List.lookup_cons, h2, List.lookup_cons, h3, List.lookup_cons, h4]
  rfl
theorem jbF_put_told_part (pv0 : V) (at0 : Int) (sl : Addr) (hl : Addr) (av : V) (z' : V) : putF ("told_part" : Str) (z') (jbF pv0 at0 sl hl av) = jbF z' at0 sl hl av := by
  unfold jbF
  rw [putF_hit]
theorem jbF_put_row_at (pv0 : V) (at0 : Int) (sl : Addr) (hl : Addr) (av : V) (z' : Int) : putF ("row_at" : Str) (.int z') (jbF pv0 at0 sl hl av) = jbF pv0 z' sl hl av := by
  unfold jbF
  rw [putF_ne (x := ("row_at" : Str)) (y := ("told_part" : Str)) (by decide +kernel), putF_hit]
theorem jbF_put_places (pv0 : V) (at0 : Int) (sl : Addr) (hl : Addr) (av : V) (z' : Addr) : putF ("places" : Str) (.ref z') (jbF pv0 at0 sl hl av) = jbF pv0 at0 z' hl av := by
  unfold jbF
  rw [putF_ne (x := ("places" : Str)) (y := ("told_part" : Str)) (by decide +kernel), putF_ne (x := ("places" : Str)) (y := ("row_at" : Str)) (by decide +kernel), putF_hit]
theorem jbF_put_held (pv0 : V) (at0 : Int) (sl : Addr) (hl : Addr) (av : V) (z' : Addr) : putF ("held" : Str) (.ref z') (jbF pv0 at0 sl hl av) = jbF pv0 at0 sl z' av := by
  unfold jbF
  rw [putF_ne (x := ("held" : Str)) (y := ("told_part" : Str)) (by decide +kernel), putF_ne (x := ("held" : Str)) (y := ("row_at" : Str)) (by decide +kernel), putF_ne (x := ("held" : Str)) (y := ("places" : Str)) (by decide +kernel), putF_hit]
theorem jbF_put_answer (pv0 : V) (at0 : Int) (sl : Addr) (hl : Addr) (av : V) (z' : V) : putF ("answer" : Str) (z') (jbF pv0 at0 sl hl av) = jbF pv0 at0 sl hl z' := by
  unfold jbF
  rw [putF_ne (x := ("answer" : Str)) (y := ("told_part" : Str)) (by decide +kernel), putF_ne (x := ("answer" : Str)) (y := ("row_at" : Str)) (by decide +kernel), putF_ne (x := ("answer" : Str)) (y := ("places" : Str)) (by decide +kernel), putF_ne (x := ("answer" : Str)) (y := ("held" : Str)) (by decide +kernel), putF_hit]

/-! the program's machine -/
def bxl (nb : Nat) (bx : List (Nat × Int)) : List V := (List.range nb).map fun i => V.int ((lkA bx i).getD 0)
theorem bxl_len {nb : Nat} {bx : List (Nat × Int)} : (bxl nb bx).length = nb := by simp [bxl]
theorem bxl_at {nb n : Nat} {bx : List (Nat × Int)} (h : n < nb) : (bxl nb bx)[n]? = some (.int ((lkA bx n).getD 0)) := by simp [bxl, h]
theorem bxl_set {nb n : Nat} {bx : List (Nat × Int)} {x : Int} : (bxl nb bx).set n (.int x) = bxl nb (ptA bx n x) := by
  refine List.ext_getElem? fun i => ?_
  by_cases hi : i < nb
  · rw [bxl_at hi, lkA_pt]
    by_cases c : i = n
    · subst c
      rw [if_pos rfl, List.getElem?_set_self (by rw [bxl_len]; exact hi)]
      rfl
    · rw [if_neg c, List.getElem?_set_ne (fun z => c z.symm), bxl_at hi]
  · rw [List.getElem?_eq_none (by rw [List.length_set, bxl_len]; omega), List.getElem?_eq_none (by rw [bxl_len]; omega)]
section
variable {P : Program} {w : World} {K : PySem.W.Frag} {mg : Str → Option Value} {base : Heap}
variable {L : List LP} {nb : Nat} {HD H0 H : Hp} {G : GM} {m : Nat} {lv fv : V} {left : Int}
def pF (K : PySem.W.Frag) (g : GJ) : HO := .ins (He.ga K "Job") g.dx (jbF g.pv (g.at_ : Nat) g.sl g.hl g.av)
def pM (K : PySem.W.Frag) (G : GM) (lv : V) (left : Int) (fv : V) : HO := .ins (He.ga K "Machine") G.dx (mhF lv G.bl left G.tl G.jl fv)
def mP (K : PySem.W.Frag) (nb : Nat) (lv : V) (left : Int) (fv : V) (G : GM) : List (Addr × HO) := mG (pM K G lv left fv) (.lst (bxl nb G.bx)) (pF K) G
theorem mh_nom {x : Str} {lv : V} {bl : Addr} {mo : Int} {tl jl : Addr} {ev : V} (h : ((x == ("last" : Str)) = false ∧ (x == ("boxes" : Str)) = false ∧ (x == ("left" : Str)) = false) ∧ (x == ("told" : Str)) = false ∧ (x == ("jobs" : Str)) = false ∧ (x == ("finish" : Str)) = false) : (mhF lv bl mo tl jl ev).lookup x = none := mhF_no h.1.1 h.1.2.1 h.1.2.2 h.2.1 h.2.2.1 h.2.2.2
structure PrAt (K : PySem.W.Frag) (L : List LP) (nb : Nat) (HD H0 H : Hp) (lv : V) (left : Int) (fv : V) (G : GM) (m : Nat) : Prop where
  ow : Ow H0 H (mP K nb lv left fv G)
  s : Same HD H0
  d : ∀ g ∈ G.js, GD K HD g
  ok : G.mc.Ok L nb
  tb : G.told.length ≤ m
  jb : G.js.length ≤ m + 1
  mb : m ≤ 100000
  n5 : nb ≤ 5
  lv : Dp K HD lv (insL L)
theorem PrAt.sm {H' : Hp} (h : PrAt K L nb HD H0 H lv left fv G m) (s : Same H H') : PrAt K L nb HD H0 H' lv left fv G m := ⟨h.ow.sm s, h.s, h.d, h.ok, h.tb, h.jb, h.mb, h.n5, h.lv⟩
theorem PrAt.wide (h : PrAt K L nb HD H0 H lv left fv G m) : PrAt K L nb HD (Hp.less H (mP K nb lv left fv G)) H lv left fv G m := ⟨h.ow.wide.1, h.s.trans h.ow.wide.2, h.d, h.ok, h.tb, h.jb, h.mb, h.n5, h.lv⟩
theorem PrAt.narrow {H1 : Hp} (h : PrAt K L nb HD H1 H lv left fv G m) (s : Same H0 H1) (s0 : Same HD H0) : PrAt K L nb HD H0 H lv left fv G m := ⟨h.ow.narrow s, s0, h.d, h.ok, h.tb, h.jb, h.mb, h.n5, h.lv⟩
theorem PrAt.hd (h : PrAt K L nb HD H0 H lv left fv G m) : Same HD H := h.s.trans h.ow.s
theorem PrAt.self (h : PrAt K L nb HD H0 H lv left fv G m) : H G.o = some (.ins (He.ga K "Machine") G.dx (mhF lv G.bl left G.tl G.jl fv)) := h.ow.get mG_o
theorem PrAt.last {g : GJ} {r : List GJ} (h : PrAt K L nb HD H0 H lv left fv G m) (e : G.js = g :: r) : H G.jl = some (.lst (jrefs r ++ [.ref g.o])) := by
  have := h.ow.get mG_j
  rw [e, jrefs_cons] at this
  exact this
theorem PrAt.job {g : GJ} {r : List GJ} (h : PrAt K L nb HD H0 H lv left fv G m) (e : G.js = g :: r) : H g.o = some (.ins (He.ga K "Job") g.dx (jbF g.pv (g.at_ : Nat) g.sl g.hl g.av)) := h.ow.get (mG_g (by rw [e]; exact List.mem_cons_self ..) mJ_o)
theorem PrAt.shl {g : GJ} {r : List GJ} (h : PrAt K L nb HD H0 H lv left fv G m) (e : G.js = g :: r) : H g.sl = some (.dK (kvA V.int g.sh)) := h.ow.get (mG_g (by rw [e]; exact List.mem_cons_self ..) mJ_s)
theorem PrAt.trs {g : GJ} {r : List GJ} (h : PrAt K L nb HD H0 H lv left fv G m) (e : G.js = g :: r) : H g.hl = some (.dK (kvT g.ts)) := h.ow.get (mG_g (by rw [e]; exact List.mem_cons_self ..) mJ_h)
theorem PrAt.tr {g : GJ} {r : List GJ} {t : Nat} {a : Addr} {l : List Int} (h : PrAt K L nb HD H0 H lv left fv G m) (e : G.js = g :: r) (z : lkA g.ts t = some (a, l)) : H a = some (.lst (l.map V.int)) := h.ow.get (mG_g (by rw [e]; exact List.mem_cons_self ..) (mJ_t z))
theorem PrAt.box (h : PrAt K L nb HD H0 H lv left fv G m) : H G.bl = some (.lst (bxl nb G.bx)) := h.ow.get mG_b
theorem PrAt.tld (h : PrAt K L nb HD H0 H lv left fv G m) : H G.tl = some (.lst (G.told.map V.int)) := h.ow.get mG_t
theorem PrAt.off {a : Addr} (h : PrAt K L nb HD H0 H lv left fv G m) (n : H a = none) : a ∉ (mP K nb lv left fv G).map (·.1) := h.ow.off n
theorem PrAt.jok {g : GJ} {r : List GJ} (h : PrAt K L nb HD H0 H lv left fv G m) (e : G.js = g :: r) : g.jb.Ok L nb := h.ok.js _ (by unfold GM.mc; rw [e]; exact List.mem_cons_self ..)
theorem PrAt.ts3 {g : GJ} {r : List GJ} (h : PrAt K L nb HD H0 H lv left fv G m) (e : G.js = g :: r) : (g.ts.map (·.1)).Nodup ∧ g.ts.length ≤ 100 := by
  have j := h.jok e
  refine ⟨by rw [← ts_keys]; exact j.tw.1, ?_⟩
  have := j.tw.len
  have e2 : g.jb.tr.length = g.ts.length := List.length_map ..
  omega
theorem PrAt.bat (h : PrAt K L nb HD H0 H lv left fv G m) {n : Nat} {x : Int} (e : G.mc.has (.b n) = some x) : (bxl nb G.bx)[n]? = some (.int x) := by
  have l : n < nb := (h.ok.has e).2
  have e2 : lkA G.bx n = some x := e
  rw [bxl_at l, e2]
  rfl
theorem PrAt.gets_b (h : PrAt K L nb HD H0 H lv left fv G m) {n : Nat} {x : Int} (l : n < nb) (i : In32 x) : PrAt K L nb HD H0 (upd H G.bl (.lst ((bxl nb G.bx).set n (.int x)))) lv left fv { G with bx := ptA G.bx n x } m := by
  rw [bxl_set]
  exact ⟨h.ow.box, h.s, h.d, h.ok.gets (p := .b n) l i, h.tb, h.jb, h.mb, h.n5, h.lv⟩
theorem PrAt.gets_s {g : GJ} {r : List GJ} (h : PrAt K L nb HD H0 H lv left fv G m) (e : G.js = g :: r) {n : Nat} {x : Int} (l : n < 3) (i : In32 x) : PrAt K L nb HD H0 (upd H g.sl (.dK (kvA V.int (ptA g.sh n x)))) lv left fv { G with js := { g with sh := ptA g.sh n x } :: r } m := by
  refine ⟨h.ow.shelf e rfl, h.s, fun k hk => ?_, ?_, h.tb, by have := h.jb; rw [e] at this; exact this, h.mb, h.n5, h.lv⟩
  · rcases List.mem_cons.mp hk with rfl | hk
    · exact h.d g (by rw [e]; exact List.mem_cons_self ..)
    · exact h.d k (by rw [e]; exact List.mem_cons_of_mem _ hk)
  · have := h.ok.gets (p := .s n) (nb := nb) l i
    unfold MC.gets GM.mc at this
    dsimp only at this
    rw [e] at this
    exact this
theorem PrAt.d_ts {g : GJ} {r : List GJ} {ts : List (Nat × (Addr × List Int))} (h : PrAt K L nb HD H0 H lv left fv G m) (e : G.js = g :: r) : ∀ k ∈ ({ g with ts := ts } :: r : List GJ), GD K HD k := fun k hk => by
  rcases List.mem_cons.mp hk with rfl | hk
  · exact h.d g (by rw [e]; exact List.mem_cons_self ..)
  · exact h.d k (by rw [e]; exact List.mem_cons_of_mem _ hk)
theorem PrAt.newT {g : GJ} {r : List GJ} (h : PrAt K L nb HD H0 H lv left fv G m) (e : G.js = g :: r) {a : Addr} {t : Nat} {l : List Int} (ea : H a = some (.lst (l.map V.int))) (a0 : H0 a = none) (na : a ∉ (mP K nb lv left fv G).map (·.1)) (ht : t < 3) (l8 : l.length ≤ 8) (i : ∀ y ∈ l, In32 y) :
    PrAt K L nb HD H0 (upd H g.hl (.dK (kvT (ptA g.ts t (a, l))))) lv left fv { G with js := { g with ts := ptA g.ts t (a, l) } :: r } m := by
  obtain ⟨k3, _⟩ := h.ts3 e
  have inj := lk_adr (h.ow.adr e)
  have nn : ∀ {n x}, lkA g.ts n = some x → x.1 ≠ a := fun {n x} hx z => na (by
    rw [← z]
    exact List.mem_map.mpr ⟨_, mG_g (by rw [e]; exact List.mem_cons_self ..) (mJ_t (a := x.1) (l := x.2) hx), rfl⟩)
  refine ⟨Ow.trays (E := [(a, .lst (l.map V.int))]) (h.ow.add ea a0 na) e rfl ?_ ?_, h.s, h.d_ts e, ?_, h.tb, by have := h.jb; rw [e] at this; exact this, h.mb, h.n5, h.lv⟩
  · refine adr_lk ?_ fun n1 n2 x y hx hy ne z => ?_
    · rcases ptA_keys g.ts t (a, l) with e1 | ⟨c, e1⟩
      · rw [e1]; exact k3
      · rw [e1, List.map_append, List.nodup_append]
        exact ⟨k3, by simp, fun x hx y hy z => c (by
          have : y = t := List.mem_singleton.mp hy
          rw [← this, ← z]
          exact hx)⟩
    · rw [lkA_pt] at hx hy
      by_cases c1 : n1 = t
      · rw [if_pos c1] at hx
        rw [if_neg fun z => ne (c1.trans z.symm)] at hy
        cases hx
        exact nn hy z.symm
      · rw [if_neg c1] at hx
        by_cases c2 : n2 = t
        · rw [if_pos c2] at hy
          cases hy
          exact nn hx z
        · rw [if_neg c2] at hy
          exact inj _ _ _ _ hx hy ne z
  · intro x hx
    obtain ⟨p, hp, rfl⟩ := List.mem_map.mp hx
    rcases mem_ptA hp with c | rfl
    · exact .inl (List.mem_map.mpr ⟨p, c, rfl⟩)
    · exact .inr (List.mem_cons_self ..)
  · rw [mc_setT e]
    exact h.ok.setT ht l8 i
theorem PrAt.putT {g : GJ} {r : List GJ} (h : PrAt K L nb HD H0 H lv left fv G m) (e : G.js = g :: r) {a : Addr} {t : Nat} {l l' : List Int} (hl : lkA g.ts t = some (a, l)) (ht : t < 3) (l8 : l'.length ≤ 8) (i : ∀ y ∈ l', In32 y) :
    PrAt K L nb HD H0 (upd H a (.lst (l'.map V.int))) lv left fv { G with js := { g with ts := ptA g.ts t (a, l') } :: r } m := by
  obtain ⟨k3, _⟩ := h.ts3 e
  refine ⟨h.ow.tray e k3 hl rfl, h.s, h.d_ts e, ?_, h.tb, by have := h.jb; rw [e] at this; exact this, h.mb, h.n5, h.lv⟩
  rw [mc_setT e]
  exact h.ok.setT ht l8 i
theorem PrAt.goto {g : GJ} {r : List GJ} (h : PrAt K L nb HD H0 H lv left fv G m) (e : G.js = g :: r) (k : Nat) : PrAt K L nb HD H0 (upd H g.o (.ins (He.ga K "Job") g.dx (jbF g.pv (k : Nat) g.sl g.hl g.av))) lv left fv { G with js := { g with at_ := k } :: r } m := by
  refine ⟨Ow.job (F := pF K) (k := k) h.ow e, h.s, fun x hx => ?_, ?_, h.tb, by have := h.jb; rw [e] at this; exact this, h.mb, h.n5, h.lv⟩
  · rcases List.mem_cons.mp hx with rfl | hx
    · exact h.d g (by rw [e]; exact List.mem_cons_self ..)
    · exact h.d x (by rw [e]; exact List.mem_cons_of_mem _ hx)
  · have := h.ok.goto (k := k)
    unfold MC.goto GM.mc at this
    dsimp only at this
    rw [e] at this
    exact this
theorem PrAt.pop {g : GJ} {r : List GJ} (h : PrAt K L nb HD H0 H lv left fv G m) (e : G.js = g :: r) : PrAt K L nb HD H0 (upd H G.jl (.lst (jrefs r))) lv left fv { G with js := r } m := by
  refine ⟨h.ow.end_ e, h.s, fun x hx => h.d x (by rw [e]; exact List.mem_cons_of_mem _ hx), ⟨h.ok.bw, h.ok.bv, fun j hj => h.ok.js j ?_⟩, h.tb, by have := h.jb; rw [e, List.length_cons] at this; show r.length ≤ m + 1; omega, h.mb, h.n5, h.lv⟩
  show j ∈ G.js.map GJ.jb
  rw [e]
  exact List.mem_cons_of_mem _ hj
theorem PrAt.tell (h : PrAt K L nb HD H0 H lv left fv G m) (l : G.told.length < m) (x : Int) : PrAt K L nb HD H0 (upd H G.tl (.lst ((G.told ++ [x]).map V.int))) lv left fv { G with told := G.told ++ [x] } m :=
  ⟨h.ow.told, h.s, h.d, ⟨h.ok.bw, h.ok.bv, h.ok.js⟩, by show (G.told ++ [x]).length ≤ m; rw [List.length_append, List.length_singleton]; omega, h.jb, h.mb, h.n5, h.lv⟩
/-- its own fields written -/
theorem PrAt.fld (h : PrAt K L nb HD H0 H lv left fv G m) (left' : Int) (fv' : V) : PrAt K L nb HD H0 (upd H G.o (.ins (He.ga K "Machine") G.dx (mhF lv G.bl left' G.tl G.jl fv'))) lv left' fv' G m :=
  ⟨h.ow.self, h.s, h.d, h.ok, h.tb, h.jb, h.mb, h.n5, h.lv⟩
theorem PrAt.up (h : PrAt K L nb HD H0 H lv left fv G m) (l : m + 1 ≤ 100000) : PrAt K L nb HD H0 H lv left fv G (m + 1) := ⟨h.ow, h.s, h.d, h.ok, Nat.le_succ_of_le h.tb, Nat.le_succ_of_le h.jb, l, h.n5, h.lv⟩
def sp_phas (K : PySem.W.Frag) (L : List LP) (nb : Nat) : Sp := fun vs H Q _ => ∃ (HD H0 : Hp) (lv fv : V) (left : Int) (G : GM) (m : Nat) (pl : V), vs = [.ref G.o, pl] ∧ PrAt K L nb HD H0 H lv left fv G m ∧ G.js ≠ [] ∧
  ((∃ p x, Dp K H pl p.d ∧ G.mc.has p = some x ∧ Q (.int x) H) ∨ ∃ t l, Dp K H pl (trD t) ∧ G.mc.tray t = some l ∧ ∀ H' p, Same H H' → H p = none → H' p = some (.lst (l.map V.int)) → Q (.ref p) H')
theorem ok_Machine_has (T : Top K mg) : FnOk P w K mg base CX0 1 (He.ma K (He.ga K "Machine") "has") T.fd_Machine_has ["self", "place"] (sp_phas K L nb) := by
  refine T.F_Machine_has.ok sc_Machine_has (fun vs H Q E h => ?_) (fun cdv A0 outer s0 H vs Q E hr h => ?_)
  · obtain ⟨HD, H0, lv, fv, left, G, m, pl, rfl, _⟩ := h
    rfl
  · obtain ⟨HD, H0, lv, fv, left, G, m, pl, rfl, pr, ne, h⟩ := h
    refine ⟨_, PSs.nox (pss_cons (ps_set (i := 2) sc_Machine_has.nd rfl (Or.inl rfl) (pe_ix ix_list (pe_fld (pv 0) rfl) (pe_un un_neg pe_int) (fun _ _ => rfl)))
        (pss_cons (ps_if (pt_cmpR op_eq (pe_ix ix_tup (pv 1) pe_int (fun _ _ => rfl)) pe_str (nomark _)) (pss_one (ps_ret (pe_ix ix_list (pe_fld (pv 0) rfl) (pe_ix ix_tup (pv 1) pe_int (fun _ _ => rfl)) (fun _ _ => rfl)))) pss_nil)
        (pss_cons (ps_if (pt_cmpR op_eq (pe_ix ix_tup (pv 1) pe_int (fun _ _ => rfl)) pe_str (nomark _)) (pss_one (ps_ret (pe_dget2 (hu_of hr) (pe_fld (pv 2) rfl) (pe_ix ix_tup (pv 1) pe_int (fun _ _ => rfl)) pe_int ⟨rfl, rfl, rfl, rfl⟩))) pss_nil)
        (pss_one (ps_ret (pe_callTy call_list_of (by rfl) T.m_list (by decide +kernel) (pa_cons (pe_dget2 (hu_of hr) (pe_fld (pv 2) rfl) (pe_ix ix_tup (pv 1) pe_int (fun _ _ => rfl)) (pe_lst pa_nil) ⟨rfl, rfl, rfl, rfl⟩) pa_nil))))))), ?_⟩
    obtain ⟨g, r, e⟩ := List.exists_cons_of_ne_nil ne
    have no : ∀ {y z : Str}, decide (y = z) = false → ¬ V.str y = V.str z := fun h q => of_decide_eq_false h (V.str.inj q)
    refine ⟨_, rfl, G.o, _, G.dx, _, _, rfl, pr.self, T.cl_Machine, T.no_Machine_jobs, mhF_jobs .., 1, rfl, G.jl, _, -1, _, rfl, rfl, .of (pr.last e), atI_lst, ?_⟩
    dsimp only [gName, List.set]
    rcases h with ⟨p, x, dv, hx, q⟩ | ⟨t, l, dv, hl, q⟩
    · obtain ⟨pa, rfl, hp⟩ := np_parts dv
      cases p with
      | b n =>
        exact ⟨_, rfl, pa, _, 0, _, rfl, rfl, hp, atI_nat (j := 0) rfl, rfl, _, rfl, ifD rfl ⟨_, rfl, G.o, _, G.dx, _, _, rfl, pr.self, T.cl_Machine, T.no_Machine_boxes, mhF_boxes .., _, rfl, pa, _, 1, _, rfl, rfl, hp, atI_nat (j := 1) rfl, G.bl, _, _, _, rfl, rfl, .of pr.box, atI_nat (pr.bat hx), q⟩⟩
      | s n =>
        obtain ⟨g2, r2, e2, hs⟩ := js_of hx
        rw [e] at e2
        cases e2
        refine ⟨_, rfl, pa, _, 0, _, rfl, rfl, hp, atI_nat (j := 0) rfl, rfl, _, rfl, ifN (no (y := "shelf") (z := "box") (by decide +kernel)) ?_⟩
        exact ⟨_, rfl, pa, _, 0, _, rfl, rfl, hp, atI_nat (j := 0) rfl, rfl, _, rfl, ifD rfl ⟨_, rfl, g.o, _, g.dx, _, _, rfl, pr.job e, T.cl_Job, T.no_Job_places, jbF_places .., g.sl, rfl, .inl ⟨_, .inl (pr.shl e)⟩, _, rfl, pa, _, 1, _, rfl, rfl, hp, atI_nat (j := 1) rfl, _, dget_i1 (pr.shl e) hs, q⟩⟩
    · obtain ⟨pa, rfl, hp⟩ := tr_parts dv
      obtain ⟨g2, r2, a, e2, hla⟩ := tr_of hl
      rw [e] at e2
      cases e2
      refine ⟨_, rfl, pa, _, 0, _, rfl, rfl, hp, atI_nat (j := 0) rfl, rfl, _, rfl, ifN (no (by decide +kernel)) ?_⟩
      refine ⟨_, rfl, pa, _, 0, _, rfl, rfl, hp, atI_nat (j := 0) rfl, rfl, _, rfl, ifN (no (by decide +kernel)) ?_⟩
      refine ⟨_, rfl, g.o, _, g.dx, _, _, rfl, pr.job e, T.cl_Job, T.no_Job_held, jbF_held .., g.hl, rfl, .inl ⟨_, .inl (pr.trs e)⟩, _, rfl, pa, _, 1, _, rfl, rfl, hp, atI_nat (j := 1) rfl, Nat.zero_le _, fun z nz => ?_⟩
      have s1 := same_new (o := .lst []) nz
      have pr1 := pr.sm s1
      exact ⟨_, dget_i1 (pr1.trs e) hla, a, _, rfl, .inl (.of (pr1.tr e hla)), fun p2 np2 => q _ _ (s1.trans (same_new np2)) (s1.free np2) upd_same⟩
end

section
variable {P : Program} {w : World} {K : PySem.W.Frag} {mg : Str → Option Value} {base : Heap}
variable {L : List LP} {nb : Nat} {HD H0 H : Hp} {G : GM} {m : Nat} {lv fv : V} {left : Int}
def sp_pgets (K : PySem.W.Frag) (L : List LP) (nb : Nat) : Sp := fun vs H Q _ => ∃ (HD H0 : Hp) (lv fv : V) (left : Int) (G : GM) (m : Nat) (pl v : V), vs = [.ref G.o, pl, v] ∧ PrAt K L nb HD H0 H lv left fv G m ∧ G.js ≠ [] ∧
  ((∃ (p : NP) (x : Int), Dp K H pl p.d ∧ v = .int x ∧ p.lt nb ∧ In32 x ∧ ∀ H' G', PrAt K L nb HD H0 H' lv left fv G' m → G'.o = G.o → G'.mc = G.mc.gets x p → Q .non H') ∨
   ∃ (t : Nat) (a : Addr) (l : List Int), Dp K H pl (trD t) ∧ v = .ref a ∧ H a = some (.lst (l.map V.int)) ∧ H0 a = none ∧ a ∉ (mP K nb lv left fv G).map (·.1) ∧ t < 3 ∧ l.length ≤ 8 ∧ (∀ y ∈ l, In32 y) ∧ ∀ H' G', PrAt K L nb HD H0 H' lv left fv G' m → G'.o = G.o → G'.mc = G.mc.setT t l → Q .non H')
theorem ok_Machine_gets (T : Top K mg) : FnOk P w K mg base CX0 1 (He.ma K (He.ga K "Machine") "gets") T.fd_Machine_gets ["self", "place", "thing"] (sp_pgets K L nb) := by
  refine T.F_Machine_gets.ok sc_Machine_gets (fun vs H Q E h => ?_) (fun cdv A0 outer s0 H vs Q E hr h => ?_)
  · obtain ⟨HD, H0, lv, fv, left, G, m, pl, v, rfl, _⟩ := h
    rfl
  · obtain ⟨HD, H0, lv, fv, left, G, m, pl, v, rfl, pr, ne, h⟩ := h
    refine ⟨_, PSs.nox (pss_cons (ps_set (i := 3) sc_Machine_gets.nd rfl (Or.inl rfl) (pe_ix ix_list (pe_fld (pv 0) rfl) (pe_un un_neg pe_int) (fun _ _ => rfl)))
        (pss_one (ps_if (pt_cmpR op_eq (pe_ix ix_tup (pv 1) pe_int (fun _ _ => rfl)) pe_str (nomark _)) (pss_one (ps_asg (pv 2) (pg_sub (pe_fld (pv 0) rfl) (pe_ix ix_tup (pv 1) pe_int (fun _ _ => rfl)) set_list))) (pss_one (ps_if (pt_cmpR op_eq (pe_ix ix_tup (pv 1) pe_int (fun _ _ => rfl)) pe_str (nomark _)) (pss_one (ps_dput (hu_of hr) (pe_fld (pv 3) rfl) (pe_ix ix_tup (pv 1) pe_int (fun _ _ => rfl)) (pv 2) (by rfl))) (pss_one (ps_dput (hu_of hr) (pe_fld (pv 3) rfl) (pe_ix ix_tup (pv 1) pe_int (fun _ _ => rfl)) (pv 2) (by rfl)))))))), ?_⟩
    obtain ⟨g, r, e⟩ := List.exists_cons_of_ne_nil ne
    have no : ∀ {y z : Str}, decide (y = z) = false → ¬ V.str y = V.str z := fun h q => of_decide_eq_false h (V.str.inj q)
    refine ⟨_, rfl, G.o, _, G.dx, _, _, rfl, pr.self, T.cl_Machine, T.no_Machine_jobs, mhF_jobs .., 1, rfl, G.jl, _, -1, _, rfl, rfl, .of (pr.last e), atI_lst, ?_⟩
    dsimp only [gName, List.set]
    rcases h with ⟨p, x, dv, rfl, lt, i, q⟩ | ⟨t, a, l, dv, rfl, ea, a0, na, ht, l8, i, q⟩
    · obtain ⟨pa, rfl, hp⟩ := np_parts dv
      cases p with
      | b n =>
        have ln : n < nb := lt
        exact ⟨_, rfl, pa, _, 0, _, rfl, rfl, hp, atI_nat (j := 0) rfl, rfl, _, rfl, ifD rfl ⟨_, rfl, _, rfl, G.o, _, G.dx, _, _, rfl, pr.self, T.cl_Machine, T.no_Machine_boxes, mhF_boxes .., _, rfl, pa, _, 1, _, rfl, rfl, hp, atI_nat (j := 1) rfl, G.bl, _, _, n, rfl, rfl, pr.box, (by rw [bxl_len]; exact ixN_in (Int.natCast_nonneg n) (by show (n : Int) < (nb : Int); omega)), q _ _ (pr.gets_b lt i) rfl rfl⟩⟩
      | s n =>
        have s3 : g.sh.length ≤ 100 := by
          have : g.sh.length ≤ 3 := (pr.jok e).sw.len
          omega
        refine ⟨_, rfl, pa, _, 0, _, rfl, rfl, hp, atI_nat (j := 0) rfl, rfl, _, rfl, ifN (no (y := "shelf") (z := "box") (by decide +kernel)) ?_⟩
        exact ⟨_, rfl, pa, _, 0, _, rfl, rfl, hp, atI_nat (j := 0) rfl, rfl, _, rfl, ifD rfl ⟨_, rfl, _, rfl, g.o, _, g.dx, _, _, rfl, pr.job e, T.cl_Job, T.no_Job_places, jbF_places .., _, rfl, pa, _, 1, _, rfl, rfl, hp, atI_nat (j := 1) rfl, _, _, rfl, dput_i (pr.shl e) s3, q _ _ (pr.gets_s e lt i) rfl (mc_gets_s e).symm⟩⟩
    · obtain ⟨pa, rfl, hp⟩ := tr_parts dv
      obtain ⟨k3, l3⟩ := pr.ts3 e
      refine ⟨_, rfl, pa, _, 0, _, rfl, rfl, hp, atI_nat (j := 0) rfl, rfl, _, rfl, ifN (no (by decide +kernel)) ?_⟩
      refine ⟨_, rfl, pa, _, 0, _, rfl, rfl, hp, atI_nat (j := 0) rfl, rfl, _, rfl, ifN (no (by decide +kernel)) ?_⟩
      exact ⟨_, rfl, _, rfl, g.o, _, g.dx, _, _, rfl, pr.job e, T.cl_Job, T.no_Job_held, jbF_held .., _, rfl, pa, _, 1, _, rfl, rfl, hp, atI_nat (j := 1) rfl, _, _, rfl, dput_i (f := fun x : Addr × List Int => V.ref x.1) (x := (a, l)) (pr.trs e) l3, q _ _ (pr.newT e ea a0 na ht l8 i) rfl (mc_setT e)⟩
/-- what a row's doing leaves -/
def PEnd (K : PySem.W.Frag) (H : Hp) (G : GM) (fv : V) (c' : MC) : Option LE → Prop
  | none => fv = .non ∧ G.mc = c'
  | some e => Dp K H fv e.d ∧ G.told = c'.told
def sp_pend (K : PySem.W.Frag) (L : List LP) (nb : Nat) : Sp := fun vs H Q _ => ∃ (HD H0 : Hp) (lv : V) (left : Int) (G : GM) (m : Nat) (x : Int) (g : GJ) (r : List GJ), vs = [.ref G.o, .int x] ∧ PrAt K L nb HD H0 H lv left .non G m ∧ G.js = g :: r ∧ In32 x ∧ (r ≠ [] → ∃ p, g.ans = some p) ∧
  ((r = [] → ∀ H' t, PrAt K L nb HD H0 H' lv left (.ref t) { G with js := [] } m → H' t = some (.tup [.str "gave", .int x]) → Q .non H') ∧
   (r ≠ [] → ∀ H' G' p, g.ans = some p → PrAt K L nb HD H0 H' lv left .non G' m → G'.o = G.o → G'.mc = ({ G with js := r } : GM).mc.gets x p → Q .non H'))
theorem ok_Machine_end_job (T : Top K mg) : FnOk P w K mg base CX0 2 (He.ma K (He.ga K "Machine") "end_job") T.fd_Machine_end_job ["self", "number"] (sp_pend K L nb) := by
  have G_Machine_gets := ok_Machine_gets (P := P) (w := w) (base := base) (L := L) (nb := nb) T
  refine T.F_Machine_end_job.ok sc_Machine_end_job (fun vs H Q E h => ?_) (fun cdv A0 outer s0 H vs Q E hr h => ?_)
  · obtain ⟨HD, H0, lv, left, G, m, x, g, r, rfl, _⟩ := h
    rfl
  · obtain ⟨HD, H0, lv, left, G, m, x, g, r, rfl, pr, ej, i32, ha, q0, q1⟩ := h
    refine ⟨_, PSs.nox (pss_cons (ps_set (i := 2) sc_Machine_end_job.nd rfl (Or.inl rfl) (pe_bm0 PySem.F.plainAttrs_list PySem.F.slot_list_pop PySem.F.type_list_pop mt_pop (pe_fld (pv 0) rfl)))
        (pss_one (ps_if (pt_truth (pe_fld (pv 0) rfl) (by intro _; rfl)) (pss_one (ps_expr (pe_meth (pv 0) T.cl_Machine T.me_Machine_gets G_Machine_gets (hr.mono (by omega)) T.b_Machine_gets .nil pass0 (pa_cons (pe_fld (pv 2) rfl) (pa_cons (pv 1) pa_nil))))) (pss_one (ps_fld (pv 0) (pe_tup (pa_cons pe_str (pa_cons (pv 1) pa_nil))) rfl))))), ?_⟩
    have one : ∀ n : Nat, n ≤ 10000 → n ≤ sizeLine := fun n h => by rw [sizeLine_eq]; omega
    have ll := pr.last ej
    have pr1 := pr.pop ej
    refine ⟨_, rfl, G.o, _, G.dx, _, _, rfl, pr.self, T.cl_Machine, T.no_Machine_jobs, mhF_jobs .., .inl ⟨rfl, _, .of ll⟩, G.jl, _, _, rfl, rfl, ll, (by rw [List.length_append, List.length_singleton, Nat.add_sub_cancel, List.getElem?_append_right (Nat.le_refl _), Nat.sub_self]; rfl), ?_⟩
    rw [List.dropLast_concat]
    have eg : upd H G.jl (.lst (jrefs r)) g.o = some (.ins (He.ga K "Job") g.dx (jbF g.pv (g.at_ : Nat) g.sl g.hl g.av)) := (upd_ne fun z => by
      have := pr.job ej
      rw [z, ll] at this
      cases this).trans (pr.job ej)
    generalize upd H G.jl (.lst (jrefs r)) = H1 at pr1 eg ⊢
    dsimp only [gName, List.set]
    refine ⟨_, rfl, G.o, _, G.dx, _, _, rfl, pr1.self, T.cl_Machine, T.no_Machine_jobs, mhF_jobs .., ?_⟩
    cases r with
    | nil =>
      refine ⟨_, .inl ⟨_, .of (pr1.ow.get mG_j), rfl⟩, ifF rfl ?_⟩
      refine ⟨_, rfl, one 2 (by decide), fun t nt => ?_⟩
      have s2 := same_new (o := .tup [V.str "gave", .int x]) nt
      have pr2 := pr1.sm s2
      refine ⟨_, rfl, G.o, _, G.dx, _, rfl, pr2.self, T.cl_Machine, T.no_Machine_finish, by show 6 < 1000; decide, ?_⟩
      rw [mhF_put_finish]
      exact q0 rfl _ t (pr2.fld left (.ref t)) ((upd_ne (ne_of_none pr1.self nt).symm).trans upd_same)
    | cons g2 r2 =>
      obtain ⟨p, hp⟩ := ha (fun z => nomatch z)
      have dg := pr.d g (by rw [ej]; exact List.mem_cons_self ..)
      refine ⟨_, .inl ⟨_, .of (pr1.ow.get mG_j), rfl⟩, ifT (by rw [jrefs_cons]; cases jrefs r2 <;> rfl) ?_⟩
      refine ⟨_, rfl, G.o, G.dx, _, rfl, pr1.self, mh_nom (by decide +kernel), _, rfl, g.o, _, g.dx, _, _, rfl, eg, T.cl_Job, T.no_Job_answer, jbF_answer .., _, rfl, HD, H0, lv, .non, left, { G with js := g2 :: r2 }, m, _, _, rfl, pr1, (fun z => nomatch z), .inl ⟨p, x, dp_sm pr1.hd (dg.2 p hp), rfl, (pr.jok ej).ans p hp, i32, fun H' G' p' o' c' => q1 (fun z => nomatch z) H' G' p hp p' o' c'⟩⟩
end

section
variable {P : Program} {w : World} {K : PySem.W.Frag} {mg : Str → Option Value} {base : Heap}
variable {L : List LP} {nb : Nat} {HD H0 H : Hp} {G : GM} {m : Nat} {lv fv : V} {left : Int}
def sp_jinit (K : PySem.W.Frag) : Sp := fun vs H Q _ => ∃ (o dx : Addr) (p0 av : V), vs = [.ref o, p0, av] ∧ H o = some (.ins (He.ga K "Job") dx []) ∧
  ∀ H' sl hl, Kp (fun b => b = o) H H' → H sl = none → H hl = none → sl ≠ hl → sl ≠ o → hl ≠ o → H' o = some (.ins (He.ga K "Job") dx (jbF p0 0 sl hl av)) → H' sl = some (.dK []) → H' hl = some (.dK []) → Q .non H'
theorem ok_Job_init (T : Top K mg) : FnOk P w K mg base CX0 1 (He.ma K (He.ga K "Job") "__init__") T.fd_Job___init__ ["self", "part", "answer"] (sp_jinit K) := by
  refine T.F_Job___init__.ok sc_Job___init__ (fun vs H Q E h => ?_) (fun cdv A0 outer s0 H vs Q E hr h => ?_)
  · obtain ⟨o, dx, p0, av, rfl, _⟩ := h
    rfl
  · obtain ⟨o, dx, p0, av, rfl, eo, q⟩ := h
    refine ⟨_, PSs.nox (pss_cons (ps_fld (pv 0) (pv 1) rfl)
        (pss_cons (ps_fld (pv 0) pe_int rfl)
        (pss_cons (ps_fld (pv 0) pe_dnewK rfl)
        (pss_cons (ps_fld (pv 0) pe_dnewK rfl)
        (pss_one (ps_fld (pv 0) (pv 2) rfl)))))), ?_⟩
    refine ⟨_, rfl, _, rfl, o, _, dx, _, rfl, eo, T.cl_Job, T.no_Job_told_part, by decide, ?_⟩
    rw [show putF ("told_part" : Str) p0 [] = ([("told_part", p0)] : List (Str × V)) from rfl]
    refine ⟨_, rfl, o, _, dx, _, rfl, upd_same, T.cl_Job, T.no_Job_row_at, by show 1 < 1000; decide, ?_⟩
    rw [show putF ("row_at" : Str) (.int 0) [("told_part", p0)] = ([("told_part", p0), ("row_at", .int 0)] : List (Str × V)) by rw [putF_ne (by decide +kernel)]; rfl, upd_upd]
    have k1 : Kp (fun b => b = o) H (upd H o (.ins (He.ga K "Job") dx [("told_part", p0), ("row_at", .int 0)])) := Kp.upd eo trivial rfl
    have o1 : upd H o (.ins (He.ga K "Job") dx [("told_part", p0), ("row_at", .int 0)]) o = some (.ins (He.ga K "Job") dx [("told_part", p0), ("row_at", .int 0)]) := upd_same
    generalize upd H o (.ins (He.ga K "Job") dx [("told_part", p0), ("row_at", .int 0)]) = H1 at k1 o1 ⊢
    refine fun sl nsl => ?_
    have s2 := same_new (o := .dK []) nsl
    have osl : o ≠ sl := ne_of_none o1 nsl
    refine ⟨_, rfl, o, _, dx, _, rfl, s2 _ _ o1, T.cl_Job, T.no_Job_places, by show 2 < 1000; decide, ?_⟩
    rw [show putF ("places" : Str) (.ref sl) [("told_part", p0), ("row_at", .int 0)] = ([("told_part", p0), ("row_at", .int 0), ("places", .ref sl)] : List (Str × V)) by rw [putF_ne (by decide +kernel), putF_ne (by decide +kernel)]; rfl]
    have k3 : Kp (fun b => b = o) H (upd (upd H1 sl (.dK [])) o (.ins (He.ga K "Job") dx [("told_part", p0), ("row_at", .int 0), ("places", .ref sl)])) := (k1.trans (.of_same s2)).trans (Kp.upd (s2 _ _ o1) trivial rfl)
    have o3 : upd (upd H1 sl (.dK [])) o (.ins (He.ga K "Job") dx [("told_part", p0), ("row_at", .int 0), ("places", .ref sl)]) o = some (.ins (He.ga K "Job") dx [("told_part", p0), ("row_at", .int 0), ("places", .ref sl)]) := upd_same
    have e3 : upd (upd H1 sl (.dK [])) o (.ins (He.ga K "Job") dx [("told_part", p0), ("row_at", .int 0), ("places", .ref sl)]) sl = some (.dK []) := (upd_ne osl.symm).trans upd_same
    have nsl0 : H sl = none := kp_none k1 nsl fun z => osl z.symm
    generalize upd (upd H1 sl (.dK [])) o (.ins (He.ga K "Job") dx [("told_part", p0), ("row_at", .int 0), ("places", .ref sl)]) = H3 at k3 o3 e3 ⊢
    refine fun hl nhl => ?_
    have s4 := same_new (o := .dK []) nhl
    have ohl : o ≠ hl := ne_of_none o3 nhl
    have shl : sl ≠ hl := ne_of_none e3 nhl
    refine ⟨_, rfl, o, _, dx, _, rfl, s4 _ _ o3, T.cl_Job, T.no_Job_held, by show 3 < 1000; decide, ?_⟩
    rw [show putF ("held" : Str) (.ref hl) [("told_part", p0), ("row_at", .int 0), ("places", .ref sl)] = ([("told_part", p0), ("row_at", .int 0), ("places", .ref sl), ("held", .ref hl)] : List (Str × V)) by rw [putF_ne (by decide +kernel), putF_ne (by decide +kernel), putF_ne (by decide +kernel)]; rfl]
    refine ⟨_, rfl, _, rfl, o, _, dx, _, rfl, upd_same, T.cl_Job, T.no_Job_answer, by show 4 < 1000; decide, ?_⟩
    rw [show putF ("answer" : Str) av [("told_part", p0), ("row_at", .int 0), ("places", .ref sl), ("held", .ref hl)] = jbF p0 0 sl hl av by rw [putF_ne (by decide +kernel), putF_ne (by decide +kernel), putF_ne (by decide +kernel), putF_ne (by decide +kernel)]; rfl, upd_upd]
    have nhl0 : H hl = none := kp_none k3 nhl fun z => ohl z.symm
    exact q _ sl hl ((k3.trans (.of_same s4)).trans (Kp.upd (s4 _ _ o3) trivial rfl)) nsl0 nhl0 shl osl.symm ohl.symm upd_same ((upd_ne osl.symm).trans (s4 _ _ e3)) ((upd_ne ohl.symm).trans upd_same)
theorem mP_cons {g : GJ} {a : Addr} (h : a ∈ (mP K nb lv left fv { G with js := g :: G.js }).map (·.1)) : a ∈ (mJ (pF K) g).map (·.1) ∨ a ∈ (mP K nb lv left fv G).map (·.1) := by
  have e : mP K nb lv left fv { G with js := g :: G.js } = [(G.o, pM K G lv left fv), (G.bl, .lst (bxl nb G.bx)), (G.jl, .lst (jrefs (g :: G.js))), (G.tl, .lst (G.told.map V.int))] ++ (mJ (pF K) g ++ G.js.flatMap (mJ (pF K))) := rfl
  have e2 : mP K nb lv left fv G = [(G.o, pM K G lv left fv), (G.bl, .lst (bxl nb G.bx)), (G.jl, .lst (jrefs G.js)), (G.tl, .lst (G.told.map V.int))] ++ G.js.flatMap (mJ (pF K)) := rfl
  rw [e, List.map_append, List.map_append] at h
  rw [e2, List.map_append]
  rcases List.mem_append.mp h with h | h
  · exact .inr (List.mem_append_left _ h)
  · exact (List.mem_append.mp h).imp id fun h => List.mem_append_right _ h
def sp_pbegin (K : PySem.W.Frag) (L : List LP) (nb : Nat) : Sp := fun vs H Q _ => ∃ (HD H0 : Hp) (lv fv : V) (left : Int) (G : GM) (m : Nat) (av : V) (c : Nat) (N : Addr) (q : LP) (xs : List Int) (ans : Option NP), vs = [.ref G.o, .int (c : Nat), .ref N, av] ∧ PrAt K L nb HD H0 H lv left fv G m ∧ G.js.length ≤ m ∧ LsOk nb L ∧ L[c]? = some q ∧ H N = some (.lst (xs.map V.int)) ∧ N ∉ (mP K nb lv left fv G).map (·.1) ∧ q.ins.length = xs.length ∧ xs.length ≤ 3 ∧ (∀ x ∈ xs, In32 x) ∧ (∀ p, ans = some p → Dp K HD av p.d ∧ p.lt nb) ∧
  ∀ H' G', PrAt K L nb HD H0 H' lv left fv G' m → G'.o = G.o → G'.mc = G.mc.enter q ans xs → Q .non H'
theorem ok_Machine_begin_job (T : Top K mg) : FnOk P w K mg base CX0 3 (He.ma K (He.ga K "Machine") "begin_job") T.fd_Machine_begin_job ["self", "count", "numbers", "answer"] (sp_pbegin K L nb) := by
  have G_Job___init__ := ok_Job_init (P := P) (w := w) (base := base) T
  have G_Machine_gets := ok_Machine_gets (P := P) (w := w) (base := base) (L := L) (nb := nb) T
  refine T.F_Machine_begin_job.ok sc_Machine_begin_job (fun vs H Q E h => ?_) (fun cdv A0 outer s0 H vs Q E hr h => ?_)
  · obtain ⟨HD, H0, lv, fv, left, G, m, av, c, N, q, xs, ans, rfl, _⟩ := h
    rfl
  · obtain ⟨HD, H0, lv, fv, left, G, m, av, c, N, qp, xs, ans, rfl, pr, jm, lo, eq, eN, nN, lq, l3, x32, ha, q⟩ := h
    refine ⟨_, PSs.nox (pss_cons (ps_set (i := 4) sc_Machine_begin_job.nd rfl (Or.inl rfl) (pe_make T.mk_Job G_Job___init__ (hr.mono (by omega)) (by rfl) T.g_Job T.b_Job___init__ .nil pass0 (pa_cons (pe_ix ix_tup (pe_fld (pv 0) rfl) (pv 1) (fun _ _ => rfl)) (pa_cons (pv 3) pa_nil))))
        (pss_cons (ps_expr (pe_bm PySem.F.plainAttrs_list PySem.F.slot_list_append PySem.F.type_list_append mt_append (pe_fld (pv 0) rfl) (pa_cons (pv 4) pa_nil)))
        (pss_one (ps_for PassesOwn.never (by rfl) (ZipM.pi_zipM (by rfl) T.m_zip (pa_cons (pe_ix ix_tup (pe_fld (pv 4) rfl) pe_int (fun _ _ => rfl)) (pa_cons (pv 2) pa_nil))) (pg_tup (n := 2) (by rfl) (pgs_cons (pg_name (i := 5) sc_Machine_begin_job.nd rfl (Or.inl rfl)) (pgs_cons (pg_name (i := 6) sc_Machine_begin_job.nd rfl (Or.inl rfl)) pgs_nil))) (pss_one (ps_if (pt_cmpR op_notN (pv 5) pe_non (nomark _)) (pss_one (ps_expr (pe_meth (pv 0) T.cl_Machine T.me_Machine_gets G_Machine_gets (hr.mono (by omega)) T.b_Machine_gets .nil pass0 (pa_cons (pv 5) (pa_cons (pv 6) pa_nil))))) pss_nil)))))), ?_⟩
    have sD := pr.hd
    obtain ⟨la, lvs, rfl, hla, dls⟩ := dp_tup pr.lv
    obtain ⟨qv, hqv, dqv⟩ := ls_at dls eq
    obtain ⟨pa, ia, ra, iv, rv, rfl, hpa, hia, div, _, _⟩ := lp_parts dqv
    refine ⟨_, rfl, G.o, _, G.dx, _, _, rfl, pr.self, T.cl_Machine, T.no_Machine_last, mhF_last .., _, rfl, la, _, _, _, rfl, rfl, sqT_sm sD hla, atI_nat hqv, _, rfl, fun x dx nx ndx ne => ?_⟩
    have s2 := same_new (o := .own x) ndx
    have nx2 : upd H dx (.own x) x = none := (upd_ne ne.symm).trans nx
    have s3 := same_new (o := .ins (He.ga K "Job") dx []) nx2
    have s13 := s2.trans s3
    refine ⟨x, dx, _, _, rfl, upd_same, fun H4 sl hl k4 nsl nhl d1 d2 d3 eo es eh => ⟨rfl, ?_⟩⟩
    have fsl : H sl = none := s13.free nsl
    have fhl : H hl = none := s13.free nhl
    have s4 : Same H H4 := fun c o e => k4 _ _ (s13 _ _ e) fun z => by
      rw [z, nx] at e
      cases e
    dsimp only [gName, List.set]
    obtain ⟨g, hg⟩ : ∃ g : GJ, g = ⟨x, dx, sl, hl, .ref pa, av, qp, 0, [], [], ans⟩ := ⟨_, rfl⟩
    have pr4 := pr.sm s4
    have own : Ow H0 H4 (mJ (pF K) g ++ mP K nb (.ref la) left fv G) := by
      have w1 := pr4.ow.add eh (pr.ow.s.free fhl) (pr.ow.off fhl)
      have w2 := w1.add es (pr.ow.s.free fsl) (by
        rw [List.map_cons, List.mem_cons]
        exact fun z => z.elim d1 (pr.ow.off fsl))
      have w3 := w2.add eo (pr.ow.s.free nx) (by
        rw [List.map_cons, List.map_cons, List.mem_cons, List.mem_cons]
        exact fun z => z.elim (fun h => d2 h.symm) fun z => z.elim (fun h => d3 h.symm) (pr.ow.off nx))
      rw [hg]
      exact w3
    have pr5 : PrAt K L nb HD H0 (upd H4 G.jl (.lst (jrefs (g :: G.js)))) (.ref la) left fv { G with js := g :: G.js } m := by
      refine ⟨pr4.ow.begin own, pr.s, fun k hk => ?_, ⟨pr.ok.bw, pr.ok.bv, fun j hj => ?_⟩, pr.tb, (by show G.js.length + 1 ≤ m + 1; omega), pr.mb, pr.n5, pr.lv⟩
      · rcases List.mem_cons.mp hk with rfl | hk
        · rw [hg]
          exact ⟨dqv, fun p hp => (ha p hp).1⟩
        · exact pr.d k hk
      · rcases List.mem_cons.mp (show j ∈ g.jb :: G.mc.js from hj) with rfl | hj
        · rw [hg]
          exact ⟨List.mem_of_getElem? eq, .nil, (fun x hx => nomatch hx), .nil, (fun x hx => nomatch hx), fun p hp => (ha p hp).2⟩
        · exact pr.ok.js j hj
    refine ⟨_, rfl, G.o, _, G.dx, _, _, rfl, pr4.self, T.cl_Machine, T.no_Machine_jobs, mhF_jobs .., .inl ⟨rfl, _, .of (pr4.ow.get mG_j)⟩, _, rfl, G.jl, _, _, rfl, rfl, pr4.ow.get mG_j, (by rw [jrefs_len, sizeLine_eq]; have := pr.mb; omega), ?_⟩
    rw [show jrefs G.js ++ [V.ref x] = jrefs (g :: G.js) by rw [jrefs_cons, hg]]
    have eN5 : upd H4 G.jl (.lst (jrefs (g :: G.js))) N = some (.lst (xs.map V.int)) := by
      rw [upd_ne fun z => nN (by rw [z]; exact List.mem_map.mpr ⟨_, mG_j, rfl⟩)]
      exact s4 _ _ eN
    have emc : ({ G with js := g :: G.js } : GM).mc = ⟨G.bx, ⟨qp, 0, [], [], ans⟩ :: G.js.map GJ.jb, G.told⟩ := by
      rw [hg]
      rfl
    have nN5 : N ∉ (mP K nb (.ref la) left fv { G with js := g :: G.js }).map (·.1) := fun z => by
      rcases mP_cons z with z | z
      · rw [hg] at z
        simp only [mJ, trM, List.map_cons, List.map_nil, List.mem_cons, List.not_mem_nil, or_false] at z
        rcases z with z | z | z
        · rw [z, nx] at eN; cases eN
        · rw [z, fsl] at eN; cases eN
        · rw [z, fhl] at eN; cases eN
      · exact nN z
    have ej5 := pr5.job rfl
    have gs : g.o = x ∧ g.dx = dx ∧ g.pv = .ref pa ∧ g.at_ = 0 ∧ g.sl = sl ∧ g.hl = hl ∧ g.av = av := by rw [hg]; exact ⟨rfl, rfl, rfl, rfl, rfl, rfl, rfl⟩
    obtain ⟨g1, g2, g3, g4, g5, g6, g7⟩ := gs
    rw [g1, g2, g3, g4, g5, g6, g7] at ej5
    generalize upd H4 G.jl (.lst (jrefs (g :: G.js))) = H5 at pr5 eN5 ej5 ⊢
    generalize hG5 : ({ G with js := g :: G.js } : GM) = G5 at pr5 emc nN5
    have o5 : G5.o = G.o := by rw [← hG5]
    have ne5 : G5.js ≠ [] := by rw [← hG5]; exact fun z => nomatch z
    have lw := pr5.wide
    have sw := pr5.ow.wide.2
    have eNw : Hp.less H5 (mP K nb (.ref la) left fv G5) N = some (.lst (xs.map V.int)) := Hp.less_of eN5 nN5
    have hq : ∀ H' G', PrAt K L nb HD (Hp.less H5 (mP K nb (.ref la) left fv G5)) H' (.ref la) left fv G' m → G'.o = G.o → G'.mc = putIns G5.mc qp.ins xs → Q .non H' := fun H' G' a b c => q H' G' (a.narrow sw pr.s) b (by rw [c, emc]; rfl)
    have div2 : iv.length = (xs.map V.int).length := by
      have := dpAll_len div
      rw [List.length_map] at this
      rw [List.length_map]
      omega
    dsimp only
    refine ⟨_, rfl, x, _, dx, _, _, rfl, ej5, T.cl_Job, T.no_Job_told_part, jbF_told_part .., pa, _, 0, _, rfl, rfl, sqT_sm pr5.hd hpa, atI_nat (j := 0) rfl, _, rfl, ia, N, iv, _, rfl, .inl ⟨sqT_sm pr5.hd hia, .of eN5, ?_⟩⟩
    refine ZipM.for_zipM (K := K) (xs := iv) (ys := xs.map V.int) div2 (fun i σ' H' => ∃ G' x5 x6, PrAt K L nb HD (Hp.less H5 (mP K nb (.ref la) left fv G5)) H' (.ref la) left fv G' m ∧ G'.o = G.o ∧ G'.mc = putIns G5.mc (qp.ins.take i) (xs.take i) ∧ G'.js ≠ [] ∧ σ' = [some (.ref G.o), some (.int (c : Nat)), some (.ref N), some av, some (.ref x), x5, x6]) ?_ ?_ ?_ ?_
    · exact ⟨G5, _, _, lw, o5, by simp [putIns], ne5, rfl⟩
    · rintro i σ' H' ⟨G', x5, x6, l', o', c', ne', rfl⟩
      exact ⟨sqT_sm l'.hd hia, .of (l'.ow.s _ _ eNw)⟩
    · rintro i y0 y1 T' σ' H' hy0 hy1 ⟨G', x5, x6, l', o', c', ne', rfl⟩ nT
      refine ⟨T', _, rfl, .inl (.inl upd_same), rfl, _, _, rfl, _, _, rfl, rfl, ?_⟩
      dsimp only [List.set]
      have s6 := same_new (o := .tup [y0, y1]) nT
      have l6 := l'.sm s6
      have hi := (List.getElem?_eq_some_iff.mp hy1).1
      rw [List.length_map] at hi
      have hiq : i < qp.ins.length := by omega
      have hix : qp.ins[i]? = some qp.ins[i] := List.getElem?_eq_getElem hiq
      obtain ⟨iv0, hiv0, dv0⟩ := ins_at div hix
      rw [hy0] at hiv0
      cases hiv0
      have hxi : xs[i]? = some xs[i] := List.getElem?_eq_getElem hi
      rw [List.getElem?_map, hxi] at hy1
      cases hy1
      have tq : qp.ins.take (i + 1) = qp.ins.take i ++ [qp.ins[i]] := (List.take_append_getElem hiq).symm
      have tx : xs.take (i + 1) = xs.take i ++ [xs[i]] := (List.take_append_getElem hi).symm
      have ll : (qp.ins.take i).length = (xs.take i).length := by rw [List.length_take, List.length_take]; omega
      have xi := x32 _ (List.getElem_mem hi)
      have li : ∀ p, qp.ins[i] = some p → p.lt nb := fun p hp => lo.i qp (List.mem_of_getElem? eq) qp.ins[i] (List.getElem_mem hiq) p hp
      generalize qp.ins[i] = oi at hix dv0 tq li
      generalize xs[i] = x1 at hxi tx xi s6 l6 ⊢
      cases oi with
      | none =>
        have ev : y0 = .non := by
          cases dv0
          rfl
        subst ev
        refine ⟨_, rfl, rfl, _, rfl, ifF (by rw [decide_eq_true rfl]; rfl) ⟨G', _, _, l6, o', ?_, ne', rfl⟩⟩
        rw [tq, tx, putIns_snoc ll]
        exact c'
      | some p =>
        have dv1 : Dp K (upd H' T' (.tup [y0, .int x1])) y0 p.d := dp_sm l6.hd dv0
        obtain ⟨pa2, rfl, _⟩ := np_parts dv1
        refine ⟨_, rfl, rfl, _, rfl, ifT (by rw [decide_eq_false (fun z => nomatch z)]; rfl) ?_⟩
        have eo6 := l6.self
        rw [o'] at eo6
        refine ⟨_, rfl, G.o, _, _, rfl, eo6, mh_nom (by decide +kernel), _, rfl, _, rfl, HD, _, _, fv, left, G', m, _, _, (by rw [o']; rfl), l6, ne', .inl ⟨p, x1, dv1, rfl, li p rfl, xi, fun H2 G2 l2 o2 c2 => ⟨G2, _, _, l2, o2.trans o', ?_, fun z => ?_, rfl⟩⟩⟩
        · rw [tq, tx, putIns_snoc ll, c2, c']
        · refine gets_ne (c := G'.mc) (x := x1) (p := p) (mc_ne.mpr ne') ?_
          rw [← c2]
          exact mc_nil z
    · rintro σ' H' ⟨G', x5, x6, l', o', c', ne', rfl⟩
      refine hq _ _ l' o' ?_
      have : iv.length = xs.length := by rw [List.length_map] at div2; exact div2
      rw [c', this, List.take_length, ← lq, List.take_length]
end

section
variable {P : Program} {w : World} {K : PySem.W.Frag} {mg : Str → Option Value} {base : Heap}
variable {L : List LP} {nb : Nat} {HD H0 H : Hp} {G : GM} {m : Nat} {lv fv : V} {left : Int}
def sp_ptray (K : PySem.W.Frag) (L : List LP) (nb : Nat) : Sp := fun vs H Q _ => ∃ (HD H0 : Hp) (lv : V) (left : Int) (G : GM) (m : Nat) (t : Nat) (x : Int) (g : GJ) (r : List GJ) (a : Addr) (l : List Int), vs = [.ref G.o, .int (t : Nat), .int x] ∧ PrAt K L nb HD H0 H lv left .non G m ∧ G.js = g :: r ∧ lkA g.ts t = some (a, l) ∧
  (0 ≤ x ∧ x < l.length → ∀ H', Same H H' → Q (.ref a) H') ∧
  (¬ (0 ≤ x ∧ x < l.length) → ∀ H' u z, PrAt K L nb HD H0 H' lv left (.ref u) G m → H' u = some (.tup [.str "fault", .str "place"]) → H' z = some (.lst (List.replicate 8 (.int 0))) → Q (.ref z) H')
theorem ok_Machine_tray_at (T : Top K mg) : FnOk P w K mg base CX0 1 (He.ma K (He.ga K "Machine") "tray_at") T.fd_Machine_tray_at ["self", "tray", "place"] (sp_ptray K L nb) := by
  refine T.F_Machine_tray_at.ok sc_Machine_tray_at (fun vs H Q E h => ?_) (fun cdv A0 outer s0 H vs Q E hr h => ?_)
  · obtain ⟨HD, H0, lv, left, G, m, t, x, g, r, a, l, rfl, _⟩ := h
    rfl
  · obtain ⟨HD, H0, lv, left, G, m, t, x, g, r, a, l, rfl, pr, ej, hl, q0, q1⟩ := h
    refine ⟨_, PSs.nox (pss_cons (ps_set (i := 3) sc_Machine_tray_at.nd rfl (Or.inl rfl) (pe_dget2 (hu_of hr) (pe_fld (pe_ix ix_list (pe_fld (pv 0) rfl) (pe_un un_neg pe_int) (fun _ _ => rfl)) rfl) (pv 1) (pe_lst pa_nil) ⟨rfl, rfl, rfl, rfl⟩))
        (pss_cons (ps_if (pt_chain op_le op_lt pe_int (pv 2) (pe_callB call_len_seq (by rfl) T.m_len (by decide +kernel) (pa_cons (pv 3) pa_nil))) (pss_one (ps_ret (pv 3))) pss_nil)
        (pss_cons (ps_fld (pv 0) (pe_tup (pa_cons pe_str (pa_cons pe_str pa_nil))) rfl)
        (pss_one (ps_ret (pe_op op_rep (pe_lst (pa_cons pe_int pa_nil)) pe_int)))))), ?_⟩
    have one : ∀ n : Nat, n ≤ 10000 → n ≤ sizeLine := fun n h => by rw [sizeLine_eq]; omega
    refine ⟨_, rfl, G.o, _, G.dx, _, _, rfl, pr.self, T.cl_Machine, T.no_Machine_jobs, mhF_jobs .., 1, rfl, G.jl, _, -1, _, rfl, rfl, .of (pr.last ej), atI_lst, g.o, _, g.dx, _, _, rfl, pr.job ej, T.cl_Job, T.no_Job_held, jbF_held .., g.hl, rfl, .inl ⟨_, .inl (pr.trs ej)⟩, _, rfl, Nat.zero_le _, fun z nz => ?_⟩
    have s1 := same_new (o := .lst []) nz
    have pr1 := pr.sm s1
    refine ⟨_, dget_i1 (pr1.trs ej) hl, ?_⟩
    dsimp only [gName, List.set]
    generalize upd H z (.lst []) = H1 at s1 pr1 ⊢
    have bad : ∀ {Hx : Hp}, PrAt K L nb HD H0 Hx lv left .non G m → ¬ (0 ≤ x ∧ x < l.length) → ∀ u, Hx u = none → PrAt K L nb HD H0 (upd (upd Hx u (.tup [V.str "fault", .str "place"])) G.o (.ins (He.ga K "Machine") G.dx (mhF lv G.bl left G.tl G.jl (.ref u)))) lv left (.ref u) G m ∧ upd (upd Hx u (.tup [V.str "fault", .str "place"])) G.o (.ins (He.ga K "Machine") G.dx (mhF lv G.bl left G.tl G.jl (.ref u))) u = some (.tup [V.str "fault", .str "place"]) := fun {Hx} hx _ u nu =>
      ⟨(hx.sm (same_new nu)).fld left (.ref u), (upd_ne (ne_of_none hx.self nu).symm).trans upd_same⟩
    by_cases cc : 0 ≤ x ∧ x < l.length
    · exact ⟨_, rfl, _, _, rfl, rfl, _, rfl, ifD cc.1 ⟨_, rfl, a, _, rfl, .inl (.of (pr1.tr ej hl)), _, _, rfl, rfl, _, rfl, ifD (by rw [List.length_map]; exact cc.2) ⟨_, rfl, q0 cc _ s1⟩⟩⟩
    · by_cases c0 : 0 ≤ x
      · refine ⟨_, rfl, _, _, rfl, rfl, _, rfl, ifD c0 ⟨_, rfl, a, _, rfl, .inl (.of (pr1.tr ej hl)), _, _, rfl, rfl, _, rfl, ifN (by rw [List.length_map]; exact fun h => cc ⟨c0, h⟩) ?_⟩⟩
        refine ⟨one 2 (by decide), fun u nu => ?_⟩
        have s2 := same_new (o := .tup [V.str "fault", .str "place"]) nu
        have pr2 := pr1.sm s2
        refine ⟨_, rfl, G.o, _, G.dx, _, rfl, pr2.self, T.cl_Machine, T.no_Machine_finish, by show 6 < 1000; decide, ?_⟩
        rw [mhF_put_finish]
        obtain ⟨pr3, e3⟩ := bad pr1 cc u nu
        generalize upd (upd H1 u (.tup [V.str "fault", .str "place"])) G.o (.ins (He.ga K "Machine") G.dx (mhF lv G.bl left G.tl G.jl (.ref u))) = H3 at pr3 e3 ⊢
        refine ⟨one 1 (by decide), fun z1 nz1 => ⟨z1, 8, _, rfl, rfl, upd_same, by decide, by decide, by rw [sizeLine_eq]; decide, fun z2 nz2 => ?_⟩⟩
        have s4 := (same_new (o := .lst [V.int 0]) nz1).trans (same_new (o := .lst (List.replicate (8 : Int).toNat [V.int 0]).flatten) nz2)
        exact q1 cc _ u z2 (pr3.sm s4) (s4 _ _ e3) upd_same
      · refine ⟨_, rfl, _, _, rfl, rfl, _, rfl, ifN c0 ⟨_, rfl, ifF rfl ⟨one 2 (by decide), fun u nu => ?_⟩⟩⟩
        have s2 := same_new (o := .tup [V.str "fault", .str "place"]) nu
        have pr2 := pr1.sm s2
        refine ⟨_, rfl, G.o, _, G.dx, _, rfl, pr2.self, T.cl_Machine, T.no_Machine_finish, by show 6 < 1000; decide, ?_⟩
        rw [mhF_put_finish]
        obtain ⟨pr3, e3⟩ := bad pr1 cc u nu
        generalize upd (upd H1 u (.tup [V.str "fault", .str "place"])) G.o (.ins (He.ga K "Machine") G.dx (mhF lv G.bl left G.tl G.jl (.ref u))) = H3 at pr3 e3 ⊢
        refine ⟨one 1 (by decide), fun z1 nz1 => ⟨z1, 8, _, rfl, rfl, upd_same, by decide, by decide, by rw [sizeLine_eq]; decide, fun z2 nz2 => ?_⟩⟩
        have s4 := (same_new (o := .lst [V.int 0]) nz1).trans (same_new (o := .lst (List.replicate (8 : Int).toNat [V.int 0]).flatten) nz2)
        exact q1 cc _ u z2 (pr3.sm s4) (s4 _ _ e3) upd_same
def sp_prow (K : PySem.W.Frag) (L : List LP) (nb : Nat) (sel : LR → Prop) : Sp := fun vs H Q _ => ∃ (HD H0 : Hp) (lv : V) (left : Int) (G : GM) (m : Nat) (rv : V) (r : LR) (c' : MC) (e : Option LE), vs = [.ref G.o, rv] ∧ PrAt K L nb HD H0 H lv left .non G m ∧ G.js ≠ [] ∧ G.js.length ≤ m ∧ G.told.length < m ∧ LsOk nb L ∧ Dp K HD rv r.d ∧ sel r ∧ RowOk nb r ∧ Stp L G.mc r c' e ∧
  ∀ H' G' fv, PrAt K L nb HD H0 H' lv left fv G' m → G'.o = G.o → PEnd K H' G' fv c' e → Q .non H'
def LR.isO : LR → Prop
  | .op _ _ _ _ => True
  | _ => False
theorem ok_Machine_reckon (T : Top K mg) : FnOk P w K mg base CX0 4 (He.ma K (He.ga K "Machine") "reckon") T.fd_Machine_reckon ["self", "row"] (sp_prow K L nb LR.isO) := by
  have G_reckoned := ok_reckoned (P := P) (w := w) (base := base) T
  refine T.F_Machine_reckon.ok sc_Machine_reckon (fun vs H Q E h => ?_) (fun cdv A0 outer s0 H vs Q E hr h => ?_)
  · obtain ⟨HD, H0, lv, left, G, m, rv, r, c', e, rfl, _⟩ := h
    rfl
  · obtain ⟨HD, H0, lv, left, G, m, rv, r, c', e, rfl, pr, ne, jm, tm, lo, dv0, sel, ro, st, q⟩ := h
    refine ⟨_, PSs.nox (pss_cons (ps_set (i := 2) sc_Machine_reckon.nd rfl (Or.inl rfl) (pe_call G_reckoned (hr.mono (by omega)) (by rfl) T.g_reckoned T.F_reckoned.kp T.b_reckoned .nil pass0 (pa_cons (pe_ix ix_tup (pv 1) pe_int (fun _ _ => rfl)) (pa_cons (pe_ix ix_list (pe_fld (pv 0) rfl) (pe_ix ix_tup (pv 1) pe_int (fun _ _ => rfl)) (fun _ _ => rfl)) (pa_cons (pe_ix ix_list (pe_fld (pv 0) rfl) (pe_ix ix_tup (pv 1) pe_int (fun _ _ => rfl)) (fun _ _ => rfl)) pa_nil)))))
        (pss_one (ps_if (pt_cmpR op_isN (pv 2) pe_non (nomark _)) (pss_one (ps_fld (pv 0) (pe_tup (pa_cons pe_str (pa_cons pe_str pa_nil))) rfl)) (pss_one (ps_asg (pv 2) (pg_sub (pe_fld (pv 0) rfl) (pe_ix ix_tup (pv 1) pe_int (fun _ _ => rfl)) set_list)))))), ?_⟩
    cases r with
    | op z b a d =>
      obtain ⟨x, y, hx, hy, hst⟩ := stp_op st
      obtain ⟨p, rfl, hp0⟩ := row4 dv0
      have hp := sqT_sm pr.hd hp0
      have hz : z ∈ wds := ro.2
      have ix := (pr.ok.has hx).1
      have iy := (pr.ok.has hy).1
      refine ⟨_, rfl, p, _, 0, _, rfl, rfl, hp, atI_nat (j := 0) rfl, _, rfl, G.o, _, G.dx, _, _, rfl, pr.self, T.cl_Machine, T.no_Machine_boxes, mhF_boxes .., _, rfl, p, _, 2, _, rfl, rfl, hp, atI_nat (j := 2) rfl, G.bl, _, _, _, rfl, rfl, .of pr.box, atI_nat (pr.bat hx), _, rfl, G.o, _, G.dx, _, _, rfl, pr.self, T.cl_Machine, T.no_Machine_boxes, mhF_boxes .., _, rfl, p, _, 3, _, rfl, rfl, hp, atI_nat (j := 3) rfl, G.bl, _, _, _, rfl, rfl, .of pr.box, atI_nat (pr.bat hy), z, x, y, _, rfl, ix, iy, due_rck hz, fun H1 s1 => ?_⟩
      dsimp only [gName, List.set]
      have pr1 := pr.sm s1
      rcases hst with ⟨v, hv, rfl, rfl⟩ | ⟨hv, rfl, rfl⟩
      · rw [hv]
        have lt : b < nb := ro.1 _ (List.mem_cons_self ..)
        exact ⟨_, rfl, rfl, _, rfl, ifN (fun z => nomatch z) ⟨_, rfl, _, rfl, G.o, _, G.dx, _, _, rfl, pr1.self, T.cl_Machine, T.no_Machine_boxes, mhF_boxes .., _, rfl, p, _, 1, _, rfl, rfl, sqT_sm s1 hp, atI_nat (j := 1) rfl, G.bl, _, _, b, rfl, rfl, pr1.box, (by rw [bxl_len]; exact ixN_in (Int.natCast_nonneg b) (by omega)), q _ _ _ (pr1.gets_b lt (rck_32 hv)) rfl ⟨rfl, rfl⟩⟩⟩
      · rw [hv]
        refine ⟨_, rfl, rfl, _, rfl, ifD rfl ⟨by rw [sizeLine_eq]; decide, fun u nu => ?_⟩⟩
        have s2 := same_new (o := .tup [V.str "fault", .str "division"]) nu
        have pr2 := pr1.sm s2
        refine ⟨_, rfl, G.o, _, G.dx, _, rfl, pr2.self, T.cl_Machine, T.no_Machine_finish, by show 6 < 1000; decide, ?_⟩
        rw [mhF_put_finish]
        exact q _ _ _ (pr2.fld left (.ref u)) rfl ⟨.tup (.of ((upd_ne (ne_of_none pr1.self nu).symm).trans upd_same)) (.cons (.str _) (.cons (.str _) .nil)), rfl⟩
    | _ => exact sel.elim
end

theorem lk_comm {α : Type} {l : List (Nat × α)} {n m : Nat} {x y : α} (hn : lkA l n = some x) (hm : lkA l m = some y) : ptA (ptA l m x) n y = ptA (ptA l n y) m x := by
  by_cases c : n = m
  · subst c
    rw [hn] at hm
    cases hm
    rfl
  · exact ptA_comm (fun z => c z.symm) (by rw [hm]; rfl) (by rw [hn]; rfl)
theorem gets_comm {c : MC} {p q : NP} {x y : Int} (hp : c.has p = some x) (hq : c.has q = some y) : (c.gets x q).gets y p = (c.gets y p).gets x q := by
  obtain ⟨bx, js, told⟩ := c
  cases p with
  | b n =>
    cases q with
    | b m =>
      show (⟨ptA (ptA bx m x) n y, js, told⟩ : MC) = ⟨ptA (ptA bx n y) m x, js, told⟩
      rw [lk_comm (show lkA bx n = some x from hp) (show lkA bx m = some y from hq)]
    | s m => cases js <;> rfl
  | s n =>
    cases js with
    | nil => cases hp
    | cons j r =>
      cases q with
      | b m => rfl
      | s m =>
        show (⟨bx, ⟨j.p, j.at_, ptA (ptA j.sh m x) n y, j.tr, j.ans⟩ :: r, told⟩ : MC) = ⟨bx, ⟨j.p, j.at_, ptA (ptA j.sh n y) m x, j.tr, j.ans⟩ :: r, told⟩
        rw [lk_comm (show lkA j.sh n = some x from hp) (show lkA j.sh m = some y from hq)]
theorem setT_comm {c : MC} {a b : Nat} {l k : List Int} (ha : c.tray a = some l) (hb : c.tray b = some k) : (c.setT b l).setT a k = (c.setT a k).setT b l := by
  obtain ⟨bx, js, told⟩ := c
  cases js with
  | nil => cases ha
  | cons j r =>
    show (⟨bx, ⟨j.p, j.at_, j.sh, ptA (ptA j.tr b l) a k, j.ans⟩ :: r, told⟩ : MC) = ⟨bx, ⟨j.p, j.at_, j.sh, ptA (ptA j.tr a k) b l, j.ans⟩ :: r, told⟩
    rw [lk_comm (show lkA j.tr a = some l from ha) (show lkA j.tr b = some k from hb)]
section
variable {P : Program} {w : World} {K : PySem.W.Frag} {mg : Str → Option Value} {base : Heap}
variable {L : List LP} {nb : Nat} {HD H0 H : Hp} {G : GM} {m : Nat} {lv fv : V} {left : Int}
theorem PrAt.wideX {E : List (Addr × HO)} (h : PrAt K L nb HD H0 H lv left fv G m) (hE : ∀ x ∈ E, H0 x.1 = none) : PrAt K L nb HD (Hp.less H (E ++ mP K nb lv left fv G)) H lv left fv G m ∧ Same H0 (Hp.less H (E ++ mP K nb lv left fv G)) := by
  have s1 : Same H0 (Hp.less H (E ++ mP K nb lv left fv G)) := fun b o e => Hp.less_of (h.ow.s b o e) fun z => by
    rw [List.map_append] at z
    rcases List.mem_append.mp z with z | z
    · obtain ⟨x, hx, rfl⟩ := List.mem_map.mp z
      rw [hE x hx] at e
      cases e
    · obtain ⟨_, n⟩ := h.ow.in z
      rw [n] at e
      cases e
  exact ⟨⟨⟨Hp.less_same, h.ow.n, fun x hx => ⟨(h.ow.h x hx).1, if_pos (by rw [List.map_append]; exact List.mem_append_right _ (List.mem_map.mpr ⟨x, hx, rfl⟩))⟩⟩, h.s.trans s1, h.d, h.ok, h.tb, h.jb, h.mb, h.n5, h.lv⟩, s1⟩
def LR.isM : LR → Prop
  | .mv _ _ => True
  | .sw _ _ => True
  | .tmv _ _ => True
  | .tsw _ _ => True
  | _ => False
theorem ok_Machine_shift (T : Top K mg) : FnOk P w K mg base CX0 2 (He.ma K (He.ga K "Machine") "shift") T.fd_Machine_shift ["self", "row"] (sp_prow K L nb LR.isM) := by
  have G_Machine_has := ok_Machine_has (P := P) (w := w) (base := base) (L := L) (nb := nb) T
  have G_Machine_gets := ok_Machine_gets (P := P) (w := w) (base := base) (L := L) (nb := nb) T
  refine T.F_Machine_shift.ok sc_Machine_shift (fun vs H Q E h => ?_) (fun cdv A0 outer s0 H vs Q E hr h => ?_)
  · obtain ⟨HD, H0, lv, left, G, m, rv, r, c', e, rfl, _⟩ := h
    rfl
  · obtain ⟨HD, H0, lv, left, G, m, rv, r, c', e, rfl, pr, ne, jm, tm, lo, dv0, sel, ro, st, q⟩ := h
    refine ⟨_, PSs.nox (pss_cons (ps_set (i := 2) sc_Machine_shift.nd rfl (Or.inl rfl) (pe_meth (pv 0) T.cl_Machine T.me_Machine_has G_Machine_has (hr.mono (by omega)) T.b_Machine_has .nil pass0 (pa_cons (pe_ix ix_tup (pv 1) pe_int (fun _ _ => rfl)) pa_nil)))
        (pss_cons (ps_if (pt_cmpR op_eq (pe_ix ix_tup (pv 1) pe_int (fun _ _ => rfl)) pe_str (nomark _)) (pss_one (ps_expr (pe_meth (pv 0) T.cl_Machine T.me_Machine_gets G_Machine_gets (hr.mono (by omega)) T.b_Machine_gets .nil pass0 (pa_cons (pe_ix ix_tup (pv 1) pe_int (fun _ _ => rfl)) (pa_cons (pe_meth (pv 0) T.cl_Machine T.me_Machine_has G_Machine_has (hr.mono (by omega)) T.b_Machine_has .nil pass0 (pa_cons (pe_ix ix_tup (pv 1) pe_int (fun _ _ => rfl)) pa_nil)) pa_nil))))) pss_nil)
        (pss_one (ps_expr (pe_meth (pv 0) T.cl_Machine T.me_Machine_gets G_Machine_gets (hr.mono (by omega)) T.b_Machine_gets .nil pass0 (pa_cons (pe_ix ix_tup (pv 1) pe_int (fun _ _ => rfl)) (pa_cons (pv 2) pa_nil))))))), ?_⟩
    have no : ∀ {y z : Str}, decide (y = z) = false → ¬ V.str y = V.str z := fun h q => of_decide_eq_false h (V.str.inj q)
    have nm := mh_nom (x := "has") (lv := lv) (bl := G.bl) (mo := left) (tl := G.tl) (jl := G.jl) (ev := .non) (by decide +kernel)
    cases r with
    | mv p1 p2 =>
      cases st with
      | @mv _ _ x hx =>
      obtain ⟨p, x1, x2, rfl, hp0, d1, d2⟩ := pair_parts dv0
      have hp := sqT_sm pr.hd hp0
      refine ⟨_, rfl, G.o, G.dx, _, rfl, pr.self, nm, _, rfl, p, _, 2, _, rfl, rfl, hp, atI_nat (j := 2) rfl, HD, H0, lv, .non, left, G, m, x2, rfl, pr, ne, .inl ⟨p2, x, dp_sm pr.hd d2, hx, ?_⟩⟩
      dsimp only [gName, List.set]
      refine ⟨_, rfl, p, _, 0, _, rfl, rfl, hp, atI_nat (j := 0) rfl, rfl, _, rfl, ifN (no (by decide +kernel)) ?_⟩
      exact ⟨_, rfl, G.o, G.dx, _, rfl, pr.self, mh_nom (by decide +kernel), _, rfl, p, _, 1, _, rfl, rfl, hp, atI_nat (j := 1) rfl, _, rfl, HD, H0, lv, .non, left, G, m, x1, _, rfl, pr, ne, .inl ⟨p1, x, dp_sm pr.hd d1, rfl, ro.1 _ (List.mem_cons_self ..), (pr.ok.has hx).1, fun H' G' p' o' c3 => q H' G' .non p' o' ⟨rfl, c3⟩⟩⟩
    | sw p1 p2 =>
      cases st with
      | @sw _ _ x y hx hy =>
      obtain ⟨p, x1, x2, rfl, hp0, d1, d2⟩ := pair_parts dv0
      have hp := sqT_sm pr.hd hp0
      refine ⟨_, rfl, G.o, G.dx, _, rfl, pr.self, nm, _, rfl, p, _, 2, _, rfl, rfl, hp, atI_nat (j := 2) rfl, HD, H0, lv, .non, left, G, m, x2, rfl, pr, ne, .inl ⟨p2, y, dp_sm pr.hd d2, hy, ?_⟩⟩
      dsimp only [gName, List.set]
      refine ⟨_, rfl, p, _, 0, _, rfl, rfl, hp, atI_nat (j := 0) rfl, rfl, _, rfl, ifD rfl ?_⟩
      refine ⟨_, rfl, G.o, G.dx, _, rfl, pr.self, mh_nom (by decide +kernel), _, rfl, p, _, 2, _, rfl, rfl, hp, atI_nat (j := 2) rfl, _, rfl, G.o, G.dx, _, rfl, pr.self, nm, _, rfl, p, _, 1, _, rfl, rfl, hp, atI_nat (j := 1) rfl, HD, H0, lv, .non, left, G, m, x1, rfl, pr, ne, .inl ⟨p1, x, dp_sm pr.hd d1, hx, ?_⟩⟩
      refine ⟨HD, H0, lv, .non, left, G, m, x2, _, rfl, pr, ne, .inl ⟨p2, x, dp_sm pr.hd d2, rfl, (pr.ok.has hy).2, (pr.ok.has hx).1, fun H' G' p' o' c3 => ?_⟩⟩
      have ne' : G'.js ≠ [] := fun z => gets_ne (c := G.mc) (x := x) (p := p2) (mc_ne.mpr ne) (by rw [← c3]; exact mc_nil z)
      have e' := p'.self
      rw [o'] at e'
      refine ⟨_, rfl, G.o, _, _, rfl, e', mh_nom (by decide +kernel), _, rfl, p, _, 1, _, rfl, rfl, sqT_sm p'.hd hp0, atI_nat (j := 1) rfl, _, rfl, HD, H0, lv, .non, left, G', m, x1, _, (by rw [o']; rfl), p', ne', .inl ⟨p1, y, dp_sm p'.hd d1, rfl, (pr.ok.has hx).2, (pr.ok.has hy).1, fun H2 G2 p2' o2 c4 => q H2 G2 .non p2' (o2.trans o') ⟨rfl, ?_⟩⟩⟩
      rw [c4, c3]
      exact gets_comm hx hy
    | tmv a b =>
      cases st with
      | @tmv _ _ l hl =>
      obtain ⟨p, x1, x2, rfl, hp0, d1, d2⟩ := pair_parts dv0
      have hp := sqT_sm pr.hd hp0
      obtain ⟨v8, v9, v3⟩ := pr.ok.tray hl
      refine ⟨_, rfl, G.o, G.dx, _, rfl, pr.self, nm, _, rfl, p, _, 2, _, rfl, rfl, hp, atI_nat (j := 2) rfl, HD, H0, lv, .non, left, G, m, x2, rfl, pr, ne, .inr ⟨b, l, dp_sm pr.hd d2, hl, fun H1 n1 s1 hn1 e1 => ?_⟩⟩
      dsimp only [gName, List.set]
      have pr1 := pr.sm s1
      have hp1 := sqT_sm s1 hp
      refine ⟨_, rfl, p, _, 0, _, rfl, rfl, hp1, atI_nat (j := 0) rfl, rfl, _, rfl, ifN (no (by decide +kernel)) ?_⟩
      exact ⟨_, rfl, G.o, G.dx, _, rfl, pr1.self, mh_nom (by decide +kernel), _, rfl, p, _, 1, _, rfl, rfl, hp1, atI_nat (j := 1) rfl, _, rfl, HD, H0, lv, .non, left, G, m, x1, _, rfl, pr1, ne, .inr ⟨a, n1, l, dp_sm pr1.hd d1, rfl, e1, pr.ow.s.free hn1, pr.off hn1, ro.2.1, v8, v9, fun H' G' p' o' c3 => q H' G' .non p' o' ⟨rfl, c3⟩⟩⟩
    | tsw a b =>
      cases st with
      | @tsw _ _ l k hl hk =>
      obtain ⟨p, x1, x2, rfl, hp0, d1, d2⟩ := pair_parts dv0
      have hp := sqT_sm pr.hd hp0
      obtain ⟨v8, v9, v3⟩ := pr.ok.tray hl
      obtain ⟨w8, w9, w3⟩ := pr.ok.tray hk
      refine ⟨_, rfl, G.o, G.dx, _, rfl, pr.self, nm, _, rfl, p, _, 2, _, rfl, rfl, hp, atI_nat (j := 2) rfl, HD, H0, lv, .non, left, G, m, x2, rfl, pr, ne, .inr ⟨b, k, dp_sm pr.hd d2, hk, fun H1 n1 s1 hn1 e1 => ?_⟩⟩
      dsimp only [gName, List.set]
      have pr1 := pr.sm s1
      have hp1 := sqT_sm s1 hp
      refine ⟨_, rfl, p, _, 0, _, rfl, rfl, hp1, atI_nat (j := 0) rfl, rfl, _, rfl, ifD rfl ?_⟩
      refine ⟨_, rfl, G.o, G.dx, _, rfl, pr1.self, mh_nom (by decide +kernel), _, rfl, p, _, 2, _, rfl, rfl, hp1, atI_nat (j := 2) rfl, _, rfl, G.o, G.dx, _, rfl, pr1.self, nm, _, rfl, p, _, 1, _, rfl, rfl, hp1, atI_nat (j := 1) rfl, HD, H0, lv, .non, left, G, m, x1, rfl, pr1, ne, .inr ⟨a, l, dp_sm pr1.hd d1, hl, fun H2 n2 s2 hn2 e2 => ?_⟩⟩
      have pr2 := pr1.sm s2
      have n12 : n1 ≠ n2 := ne_of_none e1 hn2
      have f1 : H0 n1 = none := pr.ow.s.free hn1
      have f2 : H0 n2 = none := pr1.ow.s.free hn2
      obtain ⟨pw, sw⟩ := pr2.wideX (E := [(n2, .lst (l.map V.int))]) (fun x hx => by rw [List.mem_singleton.mp hx]; exact f2)
      have f1w : Hp.less H2 ([(n2, .lst (l.map V.int))] ++ mP K nb lv left .non G) n1 = some (.lst (k.map V.int)) := Hp.less_of (s2 _ _ e1) fun z => by
        rcases List.mem_cons.mp z with z | z
        · exact n12 z
        · exact pr.off hn1 z
      have f2w : Hp.less H2 ([(n2, .lst (l.map V.int))] ++ mP K nb lv left .non G) n2 = none := if_pos (List.mem_cons_self ..)
      refine ⟨HD, _, lv, .non, left, G, m, x2, _, rfl, pw, ne, .inr ⟨b, n2, l, dp_sm pr2.hd d2, rfl, e2, f2w, pr1.off hn2, w3, v8, v9, fun H' G' p' o' c3 => ?_⟩⟩
      have ne' : G'.js ≠ [] := fun z => by
        have h1 : G'.mc.js = [] := mc_nil z
        rw [c3] at h1
        have h2 := mc_ne.mpr ne
        unfold MC.setT at h1
        split at h1
        · cases h1
        · rename_i h3
          exact h2 h3
      have e' := p'.self
      rw [o'] at e'
      have k1 := p'.ow.s _ _ f1w
      have nin : n1 ∉ (mP K nb lv left .non G').map (·.1) := fun z => by
        have := (p'.ow.in z).2
        rw [f1w] at this
        cases this
      have pn := p'.narrow sw pr.s
      refine ⟨_, rfl, G.o, _, _, rfl, e', mh_nom (by decide +kernel), _, rfl, p, _, 1, _, rfl, rfl, sqT_sm p'.hd hp0, atI_nat (j := 1) rfl, _, rfl, HD, H0, lv, .non, left, G', m, x1, _, (by rw [o']; rfl), pn, ne', .inr ⟨a, n1, k, dp_sm p'.hd d1, rfl, k1, f1, nin, v3, w8, w9, fun H3 G3 p3 o3 c4 => q H3 G3 .non p3 (o3.trans o') ⟨rfl, ?_⟩⟩⟩
      rw [c4, c3]
      exact setT_comm hl hk
    | _ => exact sel.elim
end

section
variable {P : Program} {w : World} {K : PySem.W.Frag} {mg : Str → Option Value} {base : Heap}
variable {L : List LP} {nb : Nat} {HD H0 H : Hp} {G : GM} {m : Nat} {lv fv : V} {left : Int}
theorem ok_Machine_do_tray (T : Top K mg) : FnOk P w K mg base CX0 2 (He.ma K (He.ga K "Machine") "do_tray") T.fd_Machine_do_tray ["self", "row"] (sp_prow K L nb LR.isT) := by
  have G_Machine_tray_at := ok_Machine_tray_at (P := P) (w := w) (base := base) (L := L) (nb := nb) T
  refine T.F_Machine_do_tray.ok sc_Machine_do_tray (fun vs H Q E h => ?_) (fun cdv A0 outer s0 H vs Q E hr h => ?_)
  · obtain ⟨HD, H0, lv, left, G, m, rv, r, c', e, rfl, _⟩ := h
    rfl
  · obtain ⟨HD, H0, lv, left, G, m, rv, r, c', e, rfl, pr, ne, jm, tm, lo, dv0, sel, ro, st, q⟩ := h
    refine ⟨_, PSs.nox (pss_one (ps_if (pt_cmpR op_eq (pe_ix ix_tup (pv 1) pe_int (fun _ _ => rfl)) pe_str (nomark _)) (pss_one (ps_dput (hu_of hr) (pe_fld (pe_ix ix_list (pe_fld (pv 0) rfl) (pe_un un_neg pe_int) (fun _ _ => rfl)) rfl) (pe_ix ix_tup (pv 1) pe_int (fun _ _ => rfl)) (pe_op op_rep (pe_lst (pa_cons pe_int pa_nil)) (pe_ix ix_tup (pv 1) pe_int (fun _ _ => rfl))) (by rfl))) (pss_one (ps_if (pt_cmpR op_eq (pe_ix ix_tup (pv 1) pe_int (fun _ _ => rfl)) pe_str (nomark _)) (pss_cons (ps_set (i := 2) sc_Machine_do_tray.nd rfl (Or.inl rfl) (pe_ix ix_list (pe_fld (pv 0) rfl) (pe_ix ix_tup (pv 1) pe_int (fun _ _ => rfl)) (fun _ _ => rfl)))
        (pss_one (ps_asg (pe_ix ix_list (pe_meth (pv 0) T.cl_Machine T.me_Machine_tray_at G_Machine_tray_at (hr.mono (by omega)) T.b_Machine_tray_at .nil pass0 (pa_cons (pe_ix ix_tup (pv 1) pe_int (fun _ _ => rfl)) (pa_cons (pv 2) pa_nil))) (pe_op op_mod (pv 2) pe_int) (fun _ _ => rfl)) (pg_sub (pe_fld (pv 0) rfl) (pe_ix ix_tup (pv 1) pe_int (fun _ _ => rfl)) set_list)))) (pss_cons (ps_set (i := 2) sc_Machine_do_tray.nd rfl (Or.inl rfl) (pe_ix ix_list (pe_fld (pv 0) rfl) (pe_ix ix_tup (pv 1) pe_int (fun _ _ => rfl)) (fun _ _ => rfl)))
        (pss_cons (ps_set (i := 3) sc_Machine_do_tray.nd rfl (Or.inl rfl) (pe_meth (pv 0) T.cl_Machine T.me_Machine_tray_at G_Machine_tray_at (hr.mono (by omega)) T.b_Machine_tray_at .nil pass0 (pa_cons (pe_ix ix_tup (pv 1) pe_int (fun _ _ => rfl)) (pa_cons (pv 2) pa_nil))))
        (pss_one (ps_if (pt_cmpR op_isN (pe_fld (pv 0) rfl) pe_non (nomark _)) (pss_one (ps_asg (pe_ix ix_list (pe_fld (pv 0) rfl) (pe_ix ix_tup (pv 1) pe_int (fun _ _ => rfl)) (fun _ _ => rfl)) (pg_sub (pv 3) (pv 2) set_list))) pss_nil)))))))), ?_⟩
    have one : ∀ n : Nat, n ≤ 10000 → n ≤ sizeLine := fun n h => by rw [sizeLine_eq]; omega
    have no : ∀ {y z : Str}, decide (y = z) = false → ¬ V.str y = V.str z := fun h q => of_decide_eq_false h (V.str.inj q)
    obtain ⟨g, js, ej⟩ := List.exists_cons_of_ne_nil ne
    cases r with
    | fresh t s =>
      cases st
      obtain ⟨p, rfl, hp0⟩ := row3 dv0
      have hp := sqT_sm pr.hd hp0
      have s8 : s ≤ 8 := ro.2.2
      refine ⟨_, rfl, p, _, 0, _, rfl, rfl, hp, atI_nat (j := 0) rfl, rfl, _, rfl, ifD rfl ?_⟩
      refine ⟨one 1 (by decide), fun z nz => ⟨_, rfl, p, _, 2, _, rfl, rfl, sqT_sm (same_new nz) hp, atI_nat (j := 2) rfl, z, _, _, rfl, rfl, upd_same, by omega, by omega, by rw [sizeLine_eq]; simp; omega, fun p2 np2 => ?_⟩⟩
      rw [show (List.replicate ((s : Int)).toNat [V.int 0]).flatten = (List.replicate s 0).map V.int from repz s]
      have s1 := same_new (o := .lst [V.int 0]) nz
      have s12 := s1.trans (same_new (o := .lst ((List.replicate s 0).map V.int)) np2)
      have pr2 := pr.sm s12
      have fp2 : H p2 = none := s1.free np2
      have ep2 : upd (upd H z (.lst [V.int 0])) p2 (.lst ((List.replicate s 0).map V.int)) p2 = some (.lst ((List.replicate s 0).map V.int)) := upd_same
      generalize upd (upd H z (.lst [V.int 0])) p2 (.lst ((List.replicate s 0).map V.int)) = H2 at s12 pr2 ep2 ⊢
      obtain ⟨k3, l3⟩ := pr.ts3 ej
      refine ⟨_, rfl, G.o, _, G.dx, _, _, rfl, pr2.self, T.cl_Machine, T.no_Machine_jobs, mhF_jobs .., 1, rfl, G.jl, _, -1, _, rfl, rfl, .of (pr2.last ej), atI_lst, g.o, _, g.dx, _, _, rfl, pr2.job ej, T.cl_Job, T.no_Job_held, jbF_held .., _, rfl, p, _, 1, _, rfl, rfl, sqT_sm s12 hp, atI_nat (j := 1) rfl, _, _, rfl, dput_i (f := fun x : Addr × List Int => V.ref x.1) (x := (p2, List.replicate s 0)) (pr2.trs ej) l3, ?_⟩
      refine q _ _ _ (pr2.newT ej ep2 (pr.ow.s.free fp2) (pr.off fp2) ro.2.1 (by rw [List.length_replicate]; exact s8) fun y hy => ?_) rfl ⟨rfl, mc_setT ej⟩
      rw [List.eq_of_mem_replicate hy]
      exact ⟨by decide, by decide⟩
    | get b t a =>
      obtain ⟨p, rfl, hp0⟩ := row4 dv0
      have hp := sqT_sm pr.hd hp0
      have lt : b < nb := ro.1 _ (List.mem_cons_self ..)
      refine ⟨_, rfl, p, _, 0, _, rfl, rfl, hp, atI_nat (j := 0) rfl, rfl, _, rfl, ifN (no (by decide +kernel)) ?_⟩
      refine ⟨_, rfl, p, _, 0, _, rfl, rfl, hp, atI_nat (j := 0) rfl, rfl, _, rfl, ifD rfl ?_⟩
      obtain ⟨l, x, hl, hx, fin⟩ : ∃ l x, G.mc.tray t = some l ∧ G.mc.has (.b a) = some x ∧ ((0 ≤ x ∧ x < l.length ∧ c' = G.mc.gets (l.getD x.toNat 0) (.b b) ∧ e = none) ∨ (¬ (0 ≤ x ∧ x < l.length) ∧ c' = G.mc ∧ e = some .place)) := by
        cases st with
        | get h1 h2 h3 h4 => exact ⟨_, _, h1, h2, .inl ⟨h3, h4, rfl, rfl⟩⟩
        | get0 h1 h2 h3 => exact ⟨_, _, h1, h2, .inr ⟨h3, rfl, rfl⟩⟩
      obtain ⟨g2, r2, ta, e2, hla⟩ := tr_of hl
      rw [ej] at e2
      cases e2
      obtain ⟨v8, v9, v3⟩ := pr.ok.tray hl
      refine ⟨_, rfl, G.o, _, G.dx, _, _, rfl, pr.self, T.cl_Machine, T.no_Machine_boxes, mhF_boxes .., _, rfl, p, _, 3, _, rfl, rfl, hp, atI_nat (j := 3) rfl, G.bl, _, _, _, rfl, rfl, .of pr.box, atI_nat (pr.bat hx), ?_⟩
      dsimp only [gName, List.set]
      refine ⟨_, rfl, G.o, G.dx, _, rfl, pr.self, mh_nom (by decide +kernel), _, rfl, p, _, 2, _, rfl, rfl, hp, atI_nat (j := 2) rfl, _, rfl, HD, H0, lv, left, G, m, t, x, g, js, ta, l, rfl, pr, ej, hla, fun c H1 s1 => ?_, fun c H1 u z pr1 eu ez => ?_⟩
      · rcases fin with ⟨x0, x1, rfl, rfl⟩ | ⟨n, _⟩
        · have pr1 := pr.sm s1
          have xm : x % 8 = x := Int.emod_eq_of_lt x0 (by omega)
          refine ⟨_, rfl, _, _, rfl, rfl, (by show (0 : Int) < 8; decide), ta, _, x % 8, _, rfl, rfl, .of (pr1.tr ej hla), (by rw [xm]; exact at_ints x0 x1), _, rfl, G.o, _, G.dx, _, _, rfl, pr1.self, T.cl_Machine, T.no_Machine_boxes, mhF_boxes .., _, rfl, p, _, 1, _, rfl, rfl, sqT_sm s1 hp, atI_nat (j := 1) rfl, G.bl, _, _, b, rfl, rfl, pr1.box, (by rw [bxl_len]; exact ixN_in (Int.natCast_nonneg b) (by omega)), ?_⟩
          exact q _ _ _ (pr1.gets_b lt (getD_all v9 x0 x1)) rfl ⟨rfl, rfl⟩
        · exact absurd c n
      · rcases fin with ⟨x0, x1, _⟩ | ⟨n, rfl, rfl⟩
        · exact absurd ⟨x0, x1⟩ c
        · have z8 : atI (List.replicate 8 (V.int 0)) (x % 8) = some (.int 0) := by
            have h0 : 0 ≤ x % 8 := Int.emod_nonneg _ (by decide)
            have h1 : x % 8 < 8 := Int.emod_lt_of_pos _ (by decide)
            obtain ⟨j, hj⟩ := Int.eq_ofNat_of_zero_le h0
            rw [hj]
            refine atI_nat ?_
            rw [List.getElem?_replicate, if_pos (by omega)]
          refine ⟨_, rfl, _, _, rfl, rfl, (by show (0 : Int) < 8; decide), z, _, x % 8, _, rfl, rfl, .of ez, z8, _, rfl, G.o, _, G.dx, _, _, rfl, pr1.self, T.cl_Machine, T.no_Machine_boxes, mhF_boxes .., _, rfl, p, _, 1, _, rfl, rfl, sqT_sm pr1.hd hp0, atI_nat (j := 1) rfl, G.bl, _, _, b, rfl, rfl, pr1.box, (by rw [bxl_len]; exact ixN_in (Int.natCast_nonneg b) (by omega)), ?_⟩
          have kp : Kp (fun c => c = G.bl) H1 (upd H1 G.bl (.lst ((bxl nb G.bx).set b (.int 0)))) := Kp.upd pr1.box trivial rfl
          refine q _ _ _ (pr1.gets_b lt ⟨by decide, by decide⟩) rfl ⟨?_, rfl⟩
          exact dp_kp kp _ _ (by simp [LE.d, nLd, nLs]) (.tup (.of eu) (.cons (.str _) (.cons (.str _) .nil)))
    | put t a b =>
      obtain ⟨p, rfl, hp0⟩ := row4 dv0
      have hp := sqT_sm pr.hd hp0
      refine ⟨_, rfl, p, _, 0, _, rfl, rfl, hp, atI_nat (j := 0) rfl, rfl, _, rfl, ifN (no (by decide +kernel)) ?_⟩
      refine ⟨_, rfl, p, _, 0, _, rfl, rfl, hp, atI_nat (j := 0) rfl, rfl, _, rfl, ifN (no (by decide +kernel)) ?_⟩
      obtain ⟨l, x, y, hl, hx, hy, fin⟩ : ∃ l x y, G.mc.tray t = some l ∧ G.mc.has (.b a) = some x ∧ G.mc.has (.b b) = some y ∧ ((0 ≤ x ∧ x < l.length ∧ c' = G.mc.setT t (l.set x.toNat y) ∧ e = none) ∨ (¬ (0 ≤ x ∧ x < l.length) ∧ c' = G.mc ∧ e = some .place)) := by
        cases st with
        | put h1 h2 h5 h3 h4 => exact ⟨_, _, _, h1, h2, h5, .inl ⟨h3, h4, rfl, rfl⟩⟩
        | put0 h1 h2 h5 h3 => exact ⟨_, _, _, h1, h2, h5, .inr ⟨h3, rfl, rfl⟩⟩
      obtain ⟨g2, r2, ta, e2, hla⟩ := tr_of hl
      rw [ej] at e2
      cases e2
      obtain ⟨v8, v9, v3⟩ := pr.ok.tray hl
      refine ⟨_, rfl, G.o, _, G.dx, _, _, rfl, pr.self, T.cl_Machine, T.no_Machine_boxes, mhF_boxes .., _, rfl, p, _, 2, _, rfl, rfl, hp, atI_nat (j := 2) rfl, G.bl, _, _, _, rfl, rfl, .of pr.box, atI_nat (pr.bat hx), ?_⟩
      dsimp only [gName, List.set]
      refine ⟨_, rfl, G.o, G.dx, _, rfl, pr.self, mh_nom (by decide +kernel), _, rfl, p, _, 1, _, rfl, rfl, hp, atI_nat (j := 1) rfl, _, rfl, HD, H0, lv, left, G, m, t, x, g, js, ta, l, rfl, pr, ej, hla, fun c H1 s1 => ?_, fun c H1 u z pr1 eu ez => ?_⟩
      · rcases fin with ⟨x0, x1, rfl, rfl⟩ | ⟨n, _⟩
        · have pr1 := pr.sm s1
          dsimp only [gName, List.set]
          refine ⟨_, rfl, G.o, _, G.dx, _, _, rfl, pr1.self, T.cl_Machine, T.no_Machine_finish, mhF_finish .., rfl, _, rfl, ifD rfl ?_⟩
          refine ⟨_, rfl, G.o, _, G.dx, _, _, rfl, pr1.self, T.cl_Machine, T.no_Machine_boxes, mhF_boxes .., _, rfl, p, _, 3, _, rfl, rfl, sqT_sm s1 hp, atI_nat (j := 3) rfl, G.bl, _, _, _, rfl, rfl, .of pr1.box, atI_nat (pr1.bat hy), _, rfl, _, rfl, ta, _, _, x.toNat, rfl, rfl, pr1.tr ej hla, (by rw [List.length_map]; exact ixN_in x0 x1), ?_⟩
          have l3 := pr1.putT (l' := l.set x.toNat y) ej hla v3 (by rw [List.length_set]; exact v8) fun u hu => (List.mem_or_eq_of_mem_set hu).elim (v9 u) fun e => e ▸ (pr.ok.has hy).1
          rw [List.map_set] at l3
          exact q _ _ _ l3 rfl ⟨rfl, mc_setT ej⟩
        · exact absurd c n
      · rcases fin with ⟨x0, x1, _⟩ | ⟨n, rfl, rfl⟩
        · exact absurd ⟨x0, x1⟩ c
        · dsimp only [gName, List.set]
          refine ⟨_, rfl, G.o, _, G.dx, _, _, rfl, pr1.self, T.cl_Machine, T.no_Machine_finish, mhF_finish .., rfl, _, rfl, ifN (fun z => nomatch z) ?_⟩
          exact q _ _ _ pr1 rfl ⟨.tup (.of eu) (.cons (.str _) (.cons (.str _) .nil)), rfl⟩
    | _ => exact sel.elim
theorem ok_Machine_do_way (T : Top K mg) : FnOk P w K mg base CX0 4 (He.ma K (He.ga K "Machine") "do_way") T.fd_Machine_do_way ["self", "row"] (sp_prow K L nb LR.isW) := by
  have G_Machine_has := ok_Machine_has (P := P) (w := w) (base := base) (L := L) (nb := nb) T
  have G_Machine_begin_job := ok_Machine_begin_job (P := P) (w := w) (base := base) (L := L) (nb := nb) T
  have G_Machine_end_job := ok_Machine_end_job (P := P) (w := w) (base := base) (L := L) (nb := nb) T
  refine T.F_Machine_do_way.ok sc_Machine_do_way (fun vs H Q E h => ?_) (fun cdv A0 outer s0 H vs Q E hr h => ?_)
  · obtain ⟨HD, H0, lv, left, G, m, rv, r, c', e, rfl, _⟩ := h
    rfl
  · obtain ⟨HD, H0, lv, left, G, m, rv, r, c', e, rfl, pr, ne, jm, tm, lo, dv0, sel, ro, st, q⟩ := h
    refine ⟨_, PSs.nox (pss_cons (ps_set (i := 2) sc_Machine_do_way.nd rfl (Or.inl rfl) (pe_ix ix_tup (pv 1) pe_int (fun _ _ => rfl)))
        (pss_cons (ps_set (i := 3) sc_Machine_do_way.nd rfl (Or.inl rfl) (pe_ix ix_list (pe_fld (pv 0) rfl) (pe_un un_neg pe_int) (fun _ _ => rfl)))
        (pss_one (ps_if (pt_cmpR op_eq (pv 2) pe_str (nomark _)) (pss_one (ps_fld (pv 3) (pe_ix ix_tup (pv 1) pe_int (fun _ _ => rfl)) rfl)) (pss_one (ps_if (pt_cmpR op_eq (pv 2) pe_str (nomark _)) (pss_one (ps_fld (pv 3) (pe_ifExp (pt_cmpR op_eq (pe_ix ix_list (pe_fld (pv 0) rfl) (pe_ix ix_tup (pv 1) pe_int (fun _ _ => rfl)) (fun _ _ => rfl)) pe_int (nomark _)) (pe_ix ix_tup (pv 1) pe_int (fun _ _ => rfl)) (pe_ix ix_tup (pv 1) pe_int (fun _ _ => rfl))) rfl)) (pss_one (ps_if (pt_cmpR op_eq (pv 2) pe_str (nomark _)) (pss_one (ps_expr (pe_meth (pv 0) T.cl_Machine T.me_Machine_begin_job G_Machine_begin_job (hr.mono (by omega)) T.b_Machine_begin_job .nil pass0 (pa_cons (pe_ix ix_tup (pv 1) pe_int (fun _ _ => rfl)) (pa_cons (pe_lc (own := [("place", 5)]) (by rfl) sc_Machine_do_way.nd (pi_tup (pe_ix ix_tup (pv 1) pe_int (fun _ _ => rfl))) (blkOk_by (own := [("place", 5)]) (N := N_Machine_do_way) (sc := defScope s_Machine_do_way) (by decide +kernel)) (fun _ _ _ _ _ => (pg_name (i := 5) sc_Machine_do_way.nd rfl (Or.inl rfl))) (fun _ _ _ _ _ => pts_nil) (fun _ _ _ _ _ => (pe_meth (pv 0) T.cl_Machine T.me_Machine_has G_Machine_has (hr.mono (by omega)) T.b_Machine_has .nil pass0 (pa_cons (pv 5) pa_nil)))) (pa_cons (pe_ix ix_tup (pv 1) pe_int (fun _ _ => rfl)) pa_nil)))))) (pss_one (ps_if (pt_cmpR op_eq (pv 2) pe_str (nomark _)) (pss_one (ps_expr (pe_meth (pv 0) T.cl_Machine T.me_Machine_end_job G_Machine_end_job (hr.mono (by omega)) T.b_Machine_end_job .nil pass0 (pa_cons (pe_ix ix_list (pe_fld (pv 0) rfl) (pe_ix ix_tup (pv 1) pe_int (fun _ _ => rfl)) (fun _ _ => rfl)) pa_nil)))) (pss_cons (ps_set (i := 4) sc_Machine_do_way.nd rfl (Or.inl rfl) (pe_ix ix_tup (pv 1) pe_int (fun _ _ => rfl)))
        (pss_one (ps_fld (pv 0) (pe_tup (pa_cons pe_str (pa_cons (pe_joined (.cons pe_str (.cons (pe_fmt (pv 4)) .nil))) pa_nil))) rfl))))))))))))), ?_⟩
    have one : ∀ n : Nat, n ≤ 10000 → n ≤ sizeLine := fun n h => by rw [sizeLine_eq]; omega
    have no : ∀ {y z : Str}, decide (y = z) = false → ¬ V.str y = V.str z := fun h q => of_decide_eq_false h (V.str.inj q)
    obtain ⟨g, js, ej⟩ := List.exists_cons_of_ne_nil ne
    cases st with
    | @jump k =>
      obtain ⟨p, rfl, hp0⟩ := row2 dv0
      have hp := sqT_sm pr.hd hp0
      refine ⟨_, rfl, p, _, 0, _, rfl, rfl, hp, atI_nat (j := 0) rfl, ?_⟩
      dsimp only [gName, List.set]
      refine ⟨_, rfl, G.o, _, G.dx, _, _, rfl, pr.self, T.cl_Machine, T.no_Machine_jobs, mhF_jobs .., 1, rfl, G.jl, _, -1, _, rfl, rfl, .of (pr.last ej), atI_lst, ?_⟩
      dsimp only [gName, List.set]
      refine ⟨_, rfl, rfl, _, rfl, ifD rfl ?_⟩
      refine ⟨_, rfl, p, _, 1, _, rfl, rfl, hp, atI_nat (j := 1) rfl, _, rfl, g.o, _, g.dx, _, rfl, pr.job ej, T.cl_Job, T.no_Job_row_at, by show 5 < 1000; decide, ?_⟩
      rw [jbF_put_row_at]
      exact q _ _ _ (pr.goto ej k) rfl ⟨rfl, mc_goto ej⟩
    | @cho b r1 r2 x hx =>
      obtain ⟨p, rfl, hp0⟩ := row4 dv0
      have hp := sqT_sm pr.hd hp0
      refine ⟨_, rfl, p, _, 0, _, rfl, rfl, hp, atI_nat (j := 0) rfl, ?_⟩
      dsimp only [gName, List.set]
      refine ⟨_, rfl, G.o, _, G.dx, _, _, rfl, pr.self, T.cl_Machine, T.no_Machine_jobs, mhF_jobs .., 1, rfl, G.jl, _, -1, _, rfl, rfl, .of (pr.last ej), atI_lst, ?_⟩
      dsimp only [gName, List.set]
      refine ⟨_, rfl, rfl, _, rfl, ifN (no (by decide +kernel)) ?_⟩
      refine ⟨_, rfl, rfl, _, rfl, ifD rfl ?_⟩
      by_cases c : x = 0
      · refine ⟨_, rfl, G.o, _, G.dx, _, _, rfl, pr.self, T.cl_Machine, T.no_Machine_boxes, mhF_boxes .., _, rfl, p, _, 1, _, rfl, rfl, hp, atI_nat (j := 1) rfl, G.bl, _, _, _, rfl, rfl, .of pr.box, atI_nat (pr.bat hx), rfl, _, rfl, ifD (congrArg V.int c) ?_⟩
        refine ⟨_, rfl, p, _, 3, _, rfl, rfl, hp, atI_nat (j := 3) rfl, _, rfl, g.o, _, g.dx, _, rfl, pr.job ej, T.cl_Job, T.no_Job_row_at, by show 5 < 1000; decide, ?_⟩
        rw [jbF_put_row_at]
        exact q _ _ _ (pr.goto ej r2) rfl ⟨rfl, (mc_goto ej).trans (by rw [if_pos c])⟩
      · refine ⟨_, rfl, G.o, _, G.dx, _, _, rfl, pr.self, T.cl_Machine, T.no_Machine_boxes, mhF_boxes .., _, rfl, p, _, 1, _, rfl, rfl, hp, atI_nat (j := 1) rfl, G.bl, _, _, _, rfl, rfl, .of pr.box, atI_nat (pr.bat hx), rfl, _, rfl, ifN (fun z => c (V.int.inj z)) ?_⟩
        refine ⟨_, rfl, p, _, 2, _, rfl, rfl, hp, atI_nat (j := 2) rfl, _, rfl, g.o, _, g.dx, _, rfl, pr.job ej, T.cl_Job, T.no_Job_row_at, by show 5 < 1000; decide, ?_⟩
        rw [jbF_put_row_at]
        exact q _ _ _ (pr.goto ej r1) rfl ⟨rfl, (mc_goto ej).trans (by rw [if_neg c])⟩
    | @call n ps ans qp vs hq hv hl =>
      obtain ⟨p, pp, pw, av, rfl, hp0, hpp0, dps, dav⟩ := call_parts dv0
      have hp := sqT_sm pr.hd hp0
      have hpp := sqT_sm pr.hd hpp0
      refine ⟨_, rfl, p, _, 0, _, rfl, rfl, hp, atI_nat (j := 0) rfl, ?_⟩
      dsimp only [gName, List.set]
      refine ⟨_, rfl, G.o, _, G.dx, _, _, rfl, pr.self, T.cl_Machine, T.no_Machine_jobs, mhF_jobs .., 1, rfl, G.jl, _, -1, _, rfl, rfl, .of (pr.last ej), atI_lst, ?_⟩
      dsimp only [gName, List.set]
      refine ⟨_, rfl, rfl, _, rfl, ifN (no (by decide +kernel)) ?_⟩
      refine ⟨_, rfl, rfl, _, rfl, ifN (no (by decide +kernel)) ?_⟩
      refine ⟨_, rfl, rfl, _, rfl, ifD rfl ?_⟩
      have lps := dpAll_len dps
      rw [List.length_map] at lps
      have lvs := (hv.in pr.ok).2
      have l3 : vs.length ≤ 3 := by have := lo.l qp (List.mem_of_getElem? hq); omega
      refine ⟨_, rfl, G.o, G.dx, _, rfl, pr.self, mh_nom (by decide +kernel), _, rfl, p, _, 1, _, rfl, rfl, hp, atI_nat (j := 1) rfl, _, rfl, p, _, 2, _, rfl, rfl, hp, atI_nat (j := 2) rfl, pp, rfl, ⟨_, hpp⟩, fun D nD => ?_⟩
      refine lc_tup (K := K) (a := pp) (xs := pw) (fun i H' => Same H H' ∧ H' D = some (.lst ((vs.take i).map V.int))) ?_ ?_ ?_ ?_
      · exact ⟨same_new nD, upd_same⟩
      · rintro i H' _ ⟨s', _⟩
        exact sqT_sm s' hpp
      · rintro i y H' hy ⟨s', eD⟩
        have hi := (List.getElem?_eq_some_iff.mp hy).1
        have hik : i < ps.length := by omega
        obtain ⟨dx, hdx, dvx⟩ := dpAll_getV dps hy
        rw [List.getElem?_map, List.getElem?_eq_getElem hik] at hdx
        cases hdx
        obtain ⟨x, hx, hpx⟩ := hasL_at hv (List.getElem?_eq_getElem hik)
        have hiv : i < vs.length := by omega
        have tk : vs.take (i + 1) = vs.take i ++ [x] := by
          rw [← List.take_append_getElem hiv]
          rw [List.getElem?_eq_getElem hiv] at hx
          rw [Option.some.inj hx]
        dsimp only [gName]
        dsimp only [tYes]
        rw [if_pos rfl]
        refine ⟨rfl, _, rfl, G.o, G.dx, _, rfl, (pr.sm s').self, mh_nom (by decide +kernel), _, rfl, HD, H0, lv, .non, left, G, m, y, rfl, pr.sm s', ne, .inl ⟨_, x, dp_sm (pr.hd.trans s') dvx, hpx, _, eD, by rw [List.length_map, List.length_take, sizeLine_eq]; omega, same_upd s' nD, ?_⟩⟩
        rw [upd_same, tk, List.map_append]
        rfl
      · rintro H1 ⟨s1, eD⟩
        rw [lps, ← lvs, List.take_length] at eD
        have i32 := (hv.in pr.ok).1
        refine ⟨_, rfl, p, _, 3, _, rfl, rfl, sqT_sm s1 hp, atI_nat (j := 3) rfl, ?_⟩
        exact ⟨HD, H0, lv, .non, left, G, m, av, n, D, qp, vs, some ans, rfl, pr.sm s1, jm, lo, hq, eD, pr.ow.off nD, by omega, l3, i32, fun p hp => by cases hp; exact ⟨dav, ro.1 _ (List.mem_cons_self ..)⟩, fun H' G' l' o' c3 => q H' G' .non l' o' ⟨rfl, c3⟩⟩
    | @give0 b x j hx hj =>
      obtain ⟨p, rfl, hp0⟩ := row2 dv0
      have hp := sqT_sm pr.hd hp0
      refine ⟨_, rfl, p, _, 0, _, rfl, rfl, hp, atI_nat (j := 0) rfl, ?_⟩
      dsimp only [gName, List.set]
      refine ⟨_, rfl, G.o, _, G.dx, _, _, rfl, pr.self, T.cl_Machine, T.no_Machine_jobs, mhF_jobs .., 1, rfl, G.jl, _, -1, _, rfl, rfl, .of (pr.last ej), atI_lst, ?_⟩
      dsimp only [gName, List.set]
      refine ⟨_, rfl, rfl, _, rfl, ifN (no (by decide +kernel)) ?_⟩
      refine ⟨_, rfl, rfl, _, rfl, ifN (no (by decide +kernel)) ?_⟩
      refine ⟨_, rfl, rfl, _, rfl, ifN (no (by decide +kernel)) ?_⟩
      refine ⟨_, rfl, rfl, _, rfl, ifD rfl ?_⟩
      have ejs : js = [] := by
        have : G.mc.js = [j] := hj
        unfold GM.mc at this
        dsimp only at this
        rw [ej] at this
        have h2 := (List.cons.inj this).2
        exact List.map_eq_nil_iff.mp h2
      subst ejs
      exact ⟨_, rfl, G.o, G.dx, _, rfl, pr.self, mh_nom (by decide +kernel), _, rfl, G.o, _, G.dx, _, _, rfl, pr.self, T.cl_Machine, T.no_Machine_boxes, mhF_boxes .., _, rfl, p, _, 1, _, rfl, rfl, hp, atI_nat (j := 1) rfl, G.bl, _, _, _, rfl, rfl, .of pr.box, atI_nat (pr.bat hx), HD, H0, lv, left, G, m, x, g, [], rfl, pr, ej, (pr.ok.has hx).1, (fun h => absurd rfl h), fun _ H' t p' et => q _ _ _ p' rfl ⟨.tup (.of et) (.cons (.str _) (.cons (.int _) .nil)), rfl⟩, fun h => absurd rfl h⟩
    | @give b x j i r pa hx hj ha =>
      obtain ⟨p, rfl, hp0⟩ := row2 dv0
      have hp := sqT_sm pr.hd hp0
      refine ⟨_, rfl, p, _, 0, _, rfl, rfl, hp, atI_nat (j := 0) rfl, ?_⟩
      dsimp only [gName, List.set]
      refine ⟨_, rfl, G.o, _, G.dx, _, _, rfl, pr.self, T.cl_Machine, T.no_Machine_jobs, mhF_jobs .., 1, rfl, G.jl, _, -1, _, rfl, rfl, .of (pr.last ej), atI_lst, ?_⟩
      dsimp only [gName, List.set]
      refine ⟨_, rfl, rfl, _, rfl, ifN (no (by decide +kernel)) ?_⟩
      refine ⟨_, rfl, rfl, _, rfl, ifN (no (by decide +kernel)) ?_⟩
      refine ⟨_, rfl, rfl, _, rfl, ifN (no (by decide +kernel)) ?_⟩
      refine ⟨_, rfl, rfl, _, rfl, ifD rfl ?_⟩
      have hj2 : g.jb :: js.map GJ.jb = j :: i :: r := by
        have : G.mc.js = j :: i :: r := hj
        unfold GM.mc at this
        dsimp only at this
        rw [ej] at this
        exact this
      obtain ⟨ej1, ej2⟩ := List.cons.inj hj2
      have njs : js ≠ [] := fun z => by rw [z] at ej2; cases ej2
      have hans : g.ans = some pa := by rw [← ej1] at ha; exact ha
      refine ⟨_, rfl, G.o, G.dx, _, rfl, pr.self, mh_nom (by decide +kernel), _, rfl, G.o, _, G.dx, _, _, rfl, pr.self, T.cl_Machine, T.no_Machine_boxes, mhF_boxes .., _, rfl, p, _, 1, _, rfl, rfl, hp, atI_nat (j := 1) rfl, G.bl, _, _, _, rfl, rfl, .of pr.box, atI_nat (pr.bat hx), HD, H0, lv, left, G, m, x, g, js, rfl, pr, ej, (pr.ok.has hx).1, (fun _ => ⟨pa, hans⟩), fun h => absurd h njs, fun _ H' G' p2 hp2 p' o' c3 => q H' G' .non p' o' ⟨rfl, ?_⟩⟩
      rw [hans] at hp2
      cases hp2
      rw [c3]
      unfold GM.mc
      dsimp only
      rw [ej2]
    | @fail n =>
      obtain ⟨p, rfl, hp0⟩ := row2 dv0
      have hp := sqT_sm pr.hd hp0
      refine ⟨_, rfl, p, _, 0, _, rfl, rfl, hp, atI_nat (j := 0) rfl, ?_⟩
      dsimp only [gName, List.set]
      refine ⟨_, rfl, G.o, _, G.dx, _, _, rfl, pr.self, T.cl_Machine, T.no_Machine_jobs, mhF_jobs .., 1, rfl, G.jl, _, -1, _, rfl, rfl, .of (pr.last ej), atI_lst, ?_⟩
      dsimp only [gName, List.set]
      refine ⟨_, rfl, rfl, _, rfl, ifN (no (by decide +kernel)) ?_⟩
      refine ⟨_, rfl, rfl, _, rfl, ifN (no (by decide +kernel)) ?_⟩
      refine ⟨_, rfl, rfl, _, rfl, ifN (no (by decide +kernel)) ?_⟩
      refine ⟨_, rfl, rfl, _, rfl, ifN (no (by decide +kernel)) ?_⟩
      refine ⟨_, rfl, p, _, 1, _, rfl, rfl, hp, atI_nat (j := 1) rfl, ?_⟩
      dsimp only [gName, List.set]
      obtain ⟨t1, t2⟩ := ten_len (n : Nat) (by omega) (by have : n < 100 := ro.2; omega)
      have e5 : Str.empty ++ ("fail " : Str) = "fail " := by decide +kernel
      refine ⟨_, rfl, by rw [e5, sizeLine_eq]; decide +kernel, _, rfl, .inr ⟨_, rfl, t2, _, rfl, ?_, ?_⟩⟩
      · rw [e5, PySem.Str.length_append, sizeLine_eq]
        have : (("fail " : Str)).length = 5 := by decide +kernel
        omega
      · rw [e5]
        dsimp only [tJs]
        refine ⟨one 2 (by decide), fun u nu => ?_⟩
        have s2 := same_new (o := .tup [V.str "fault", .str ((("fail " : Str)) ++ Str.ofString (toString (n : Int)))]) nu
        have pr2 := pr.sm s2
        refine ⟨_, rfl, G.o, _, G.dx, _, rfl, pr2.self, T.cl_Machine, T.no_Machine_finish, by show 6 < 1000; decide, ?_⟩
        rw [mhF_put_finish]
        exact q _ _ _ (pr2.fld left (.ref u)) rfl ⟨.tup (.of ((upd_ne (ne_of_none pr.self nu).symm).trans upd_same)) (.cons (.str _) (.cons (.str _) .nil)), rfl⟩
    | _ => exact sel.elim
end

section
variable {P : Program} {w : World} {K : PySem.W.Frag} {mg : Str → Option Value} {base : Heap}
variable {L : List LP} {nb : Nat} {HD H0 H : Hp} {G : GM} {m : Nat} {lv fv : V} {left : Int}
theorem wd_yes {z : Str} (h : z ∈ wds) : inV (.str z) [V.str "add", .str "sub", .str "mul", .str "div", .str "rem", .str "less", .str "same"] = true := by
  unfold wds at h
  simp only [List.mem_cons, List.not_mem_nil, or_false] at h
  rcases h with rfl | rfl | rfl | rfl | rfl | rfl | rfl <;> decide +kernel
theorem ok_Machine_do (T : Top K mg) : FnOk P w K mg base CX0 5 (He.ma K (He.ga K "Machine") "do") T.fd_Machine_do ["self", "row"] (sp_prow K L nb fun _ => True) := by
  have G_denied := ok_denied (P := P) (w := w) (base := base) T
  have G_Machine_reckon := ok_Machine_reckon (P := P) (w := w) (base := base) (L := L) (nb := nb) T
  have G_Machine_shift := ok_Machine_shift (P := P) (w := w) (base := base) (L := L) (nb := nb) T
  have G_Machine_do_tray := ok_Machine_do_tray (P := P) (w := w) (base := base) (L := L) (nb := nb) T
  have G_Machine_do_way := ok_Machine_do_way (P := P) (w := w) (base := base) (L := L) (nb := nb) T
  refine T.F_Machine_do.ok sc_Machine_do (fun vs H Q E h => ?_) (fun cdv A0 outer s0 H vs Q E hr h => ?_)
  · obtain ⟨HD, H0, lv, left, G, m, rv, r, c', e, rfl, _⟩ := h
    rfl
  · obtain ⟨HD, H0, lv, left, G, m, rv, r, c', e, rfl, pr, ne, jm, tm, lo, dv0, sel, ro, st, q⟩ := h
    refine ⟨_, PSs.nox (pss_cons (ps_set (i := 2) sc_Machine_do.nd rfl (Or.inl rfl) (pe_ix ix_tup (pv 1) pe_int (fun _ _ => rfl)))
        (pss_one (ps_if (pt_cmpR op_in_seq (pv 2) (pe_glob (v := .ref (He.ga K "WORDS")) (by rfl) T.c_WORDS rfl) (by rfl)) (pss_one (ps_expr (pe_meth (pv 0) T.cl_Machine T.me_Machine_reckon G_Machine_reckon (hr.mono (by omega)) T.b_Machine_reckon .nil pass0 (pa_cons (pv 1) pa_nil)))) (pss_one (ps_if (pt_cmpR op_eq (pv 2) pe_str (nomark _)) (pss_one (ps_asg (pe_ix ix_tup (pv 1) pe_int (fun _ _ => rfl)) (pg_sub (pe_fld (pv 0) rfl) (pe_ix ix_tup (pv 1) pe_int (fun _ _ => rfl)) set_list))) (pss_one (ps_if (pt_cmpR op_eq (pv 2) pe_str (nomark _)) (pss_one (ps_asg (pe_call G_denied (hr.mono (by omega)) (by rfl) T.g_denied T.F_denied.kp T.b_denied .nil pass0 (pa_cons (pe_ix ix_list (pe_fld (pv 0) rfl) (pe_ix ix_tup (pv 1) pe_int (fun _ _ => rfl)) (fun _ _ => rfl)) pa_nil)) (pg_sub (pe_fld (pv 0) rfl) (pe_ix ix_tup (pv 1) pe_int (fun _ _ => rfl)) set_list))) (pss_one (ps_if (pt_cmpR op_eq (pv 2) pe_str (nomark _)) (pss_one (ps_expr (pe_bm PySem.F.plainAttrs_list PySem.F.slot_list_append PySem.F.type_list_append mt_append (pe_fld (pv 0) rfl) (pa_cons (pe_ix ix_list (pe_fld (pv 0) rfl) (pe_ix ix_tup (pv 1) pe_int (fun _ _ => rfl)) (fun _ _ => rfl)) pa_nil)))) (pss_one (ps_if (pt_cmpR op_in_seq (pv 2) (pe_tup (pa_cons pe_str (pa_cons pe_str pa_nil))) (by rfl)) (pss_one (ps_expr (pe_meth (pv 0) T.cl_Machine T.me_Machine_shift G_Machine_shift (hr.mono (by omega)) T.b_Machine_shift .nil pass0 (pa_cons (pv 1) pa_nil)))) (pss_one (ps_if (pt_cmpR op_in_seq (pv 2) (pe_tup (pa_cons pe_str (pa_cons pe_str (pa_cons pe_str pa_nil)))) (by rfl)) (pss_one (ps_expr (pe_meth (pv 0) T.cl_Machine T.me_Machine_do_tray G_Machine_do_tray (hr.mono (by omega)) T.b_Machine_do_tray .nil pass0 (pa_cons (pv 1) pa_nil)))) (pss_one (ps_expr (pe_meth (pv 0) T.cl_Machine T.me_Machine_do_way G_Machine_do_way (hr.mono (by omega)) T.b_Machine_do_way .nil pass0 (pa_cons (pv 1) pa_nil))))))))))))))))), ?_⟩
    have one : ∀ n : Nat, n ≤ 10000 → n ≤ sizeLine := fun n h => by rw [sizeLine_eq]; omega
    have no : ∀ {y z : Str}, decide (y = z) = false → ¬ V.str y = V.str z := fun h q => of_decide_eq_false h (V.str.inj q)
    cases r with
    | num b n =>
      cases st
      have lt : b < nb := ro.1 _ (List.mem_cons_self ..)
      obtain ⟨p, x1, x2, rfl, hp0, d1, d2⟩ := pair_parts dv0
      cases dp_int d1
      cases dp_int d2
      have hp := sqT_sm pr.hd hp0
      refine ⟨_, rfl, p, _, 0, _, rfl, rfl, hp, atI_nat (j := 0) rfl, ?_⟩
      dsimp only [gName, List.set]
      refine ⟨_, rfl, _, _, rfl, .inr (T.q_WORDS _), rfl, rfl, _, rfl, ifF (by decide +kernel) ?_⟩
      refine ⟨_, rfl, rfl, _, rfl, ifD rfl ?_⟩
      exact ⟨_, rfl, p, _, 2, _, rfl, rfl, hp, atI_nat (j := 2) rfl, _, rfl, G.o, _, G.dx, _, _, rfl, pr.self, T.cl_Machine, T.no_Machine_boxes, mhF_boxes .., _, rfl, p, _, 1, _, rfl, rfl, hp, atI_nat (j := 1) rfl, G.bl, _, _, b, rfl, rfl, pr.box, (by rw [bxl_len]; exact ixN_in (Int.natCast_nonneg b) (by omega)), q _ _ _ (pr.gets_b lt ro.2) rfl ⟨rfl, rfl⟩⟩
    | no b a =>
      cases st with
      | @no _ _ x hx =>
      have lt : b < nb := ro.1 _ (List.mem_cons_self ..)
      obtain ⟨p, rfl, hp0⟩ := row3 dv0
      have hp := sqT_sm pr.hd hp0
      refine ⟨_, rfl, p, _, 0, _, rfl, rfl, hp, atI_nat (j := 0) rfl, ?_⟩
      dsimp only [gName, List.set]
      refine ⟨_, rfl, _, _, rfl, .inr (T.q_WORDS _), rfl, rfl, _, rfl, ifF (by decide +kernel) ?_⟩
      refine ⟨_, rfl, rfl, _, rfl, ifN (no (by decide +kernel)) ?_⟩
      refine ⟨_, rfl, rfl, _, rfl, ifD rfl ?_⟩
      refine ⟨_, rfl, G.o, _, G.dx, _, _, rfl, pr.self, T.cl_Machine, T.no_Machine_boxes, mhF_boxes .., _, rfl, p, _, 2, _, rfl, rfl, hp, atI_nat (j := 2) rfl, G.bl, _, _, _, rfl, rfl, .of pr.box, atI_nat (pr.bat hx), x, rfl, ?_⟩
      rw [dec_v]
      exact ⟨_, rfl, G.o, _, G.dx, _, _, rfl, pr.self, T.cl_Machine, T.no_Machine_boxes, mhF_boxes .., _, rfl, p, _, 1, _, rfl, rfl, hp, atI_nat (j := 1) rfl, G.bl, _, _, b, rfl, rfl, pr.box, (by rw [bxl_len]; exact ixN_in (Int.natCast_nonneg b) (by omega)), q _ _ _ (pr.gets_b lt (b2n_32 _)) rfl ⟨rfl, rfl⟩⟩
    | op z b a d =>
      obtain ⟨p, rfl, hp0⟩ := row4 dv0
      have hp := sqT_sm pr.hd hp0
      refine ⟨_, rfl, p, _, 0, _, rfl, rfl, hp, atI_nat (j := 0) rfl, ?_⟩
      dsimp only [gName, List.set]
      refine ⟨_, rfl, _, _, rfl, .inr (T.q_WORDS _), rfl, rfl, _, rfl, ifT (wd_yes ro.2) ?_⟩
      exact ⟨_, rfl, G.o, G.dx, _, rfl, pr.self, mh_nom (by decide +kernel), _, rfl, HD, H0, lv, left, G, m, _, _, c', e, rfl, pr, ne, jm, tm, lo, dv0, trivial, ro, st, q⟩
    | tell b =>
      cases st with
      | @tell _ x hx =>
      obtain ⟨p, rfl, hp0⟩ := row2 dv0
      have hp := sqT_sm pr.hd hp0
      refine ⟨_, rfl, p, _, 0, _, rfl, rfl, hp, atI_nat (j := 0) rfl, ?_⟩
      dsimp only [gName, List.set]
      refine ⟨_, rfl, _, _, rfl, .inr (T.q_WORDS _), rfl, rfl, _, rfl, ifF (by decide +kernel) ?_⟩
      refine ⟨_, rfl, rfl, _, rfl, ifN (no (by decide +kernel)) ?_⟩
      refine ⟨_, rfl, rfl, _, rfl, ifN (no (by decide +kernel)) ?_⟩
      refine ⟨_, rfl, rfl, _, rfl, ifD rfl ?_⟩
      refine ⟨_, rfl, G.o, _, G.dx, _, _, rfl, pr.self, T.cl_Machine, T.no_Machine_told, mhF_told .., .inl ⟨rfl, _, .of pr.tld⟩, _, rfl, G.o, _, G.dx, _, _, rfl, pr.self, T.cl_Machine, T.no_Machine_boxes, mhF_boxes .., _, rfl, p, _, 1, _, rfl, rfl, hp, atI_nat (j := 1) rfl, G.bl, _, _, _, rfl, rfl, .of pr.box, atI_nat (pr.bat hx), G.tl, _, _, rfl, rfl, pr.tld, by rw [List.length_map, sizeLine_eq]; have := pr.mb; omega, ?_⟩
      have l3 := pr.tell tm x
      rw [List.map_append] at l3
      exact q _ _ _ l3 rfl ⟨rfl, rfl⟩
    | mv p1 p2 =>
      obtain ⟨p, x1, x2, rfl, hp0, d1, d2⟩ := pair_parts dv0
      have hp := sqT_sm pr.hd hp0
      refine ⟨_, rfl, p, _, 0, _, rfl, rfl, hp, atI_nat (j := 0) rfl, ?_⟩
      dsimp only [gName, List.set]
      refine ⟨_, rfl, _, _, rfl, .inr (T.q_WORDS _), rfl, rfl, _, rfl, ifF (by decide +kernel) ?_⟩
      refine ⟨_, rfl, rfl, _, rfl, ifN (no (by decide +kernel)) ?_⟩
      refine ⟨_, rfl, rfl, _, rfl, ifN (no (by decide +kernel)) ?_⟩
      refine ⟨_, rfl, rfl, _, rfl, ifN (no (by decide +kernel)) ?_⟩
      refine ⟨_, rfl, one 2 (by decide), fun n1 hn1 => ⟨n1, _, rfl, .inr (.of upd_same), rfl, rfl, _, rfl, ifT (by decide +kernel) ?_⟩⟩
      have pr1 := pr.sm (same_new (o := .tup [V.str "move", .str "swap"]) hn1)
      generalize upd H n1 (.tup [V.str "move", .str "swap"]) = H1 at pr1 ⊢
      exact ⟨_, rfl, G.o, G.dx, _, rfl, pr1.self, mh_nom (by decide +kernel), _, rfl, HD, H0, lv, left, G, m, _, _, c', e, rfl, pr1, ne, jm, tm, lo, dv0, trivial, ro, st, q⟩
    | sw p1 p2 =>
      obtain ⟨p, x1, x2, rfl, hp0, d1, d2⟩ := pair_parts dv0
      have hp := sqT_sm pr.hd hp0
      refine ⟨_, rfl, p, _, 0, _, rfl, rfl, hp, atI_nat (j := 0) rfl, ?_⟩
      dsimp only [gName, List.set]
      refine ⟨_, rfl, _, _, rfl, .inr (T.q_WORDS _), rfl, rfl, _, rfl, ifF (by decide +kernel) ?_⟩
      refine ⟨_, rfl, rfl, _, rfl, ifN (no (by decide +kernel)) ?_⟩
      refine ⟨_, rfl, rfl, _, rfl, ifN (no (by decide +kernel)) ?_⟩
      refine ⟨_, rfl, rfl, _, rfl, ifN (no (by decide +kernel)) ?_⟩
      refine ⟨_, rfl, one 2 (by decide), fun n1 hn1 => ⟨n1, _, rfl, .inr (.of upd_same), rfl, rfl, _, rfl, ifT (by decide +kernel) ?_⟩⟩
      have pr1 := pr.sm (same_new (o := .tup [V.str "move", .str "swap"]) hn1)
      generalize upd H n1 (.tup [V.str "move", .str "swap"]) = H1 at pr1 ⊢
      exact ⟨_, rfl, G.o, G.dx, _, rfl, pr1.self, mh_nom (by decide +kernel), _, rfl, HD, H0, lv, left, G, m, _, _, c', e, rfl, pr1, ne, jm, tm, lo, dv0, trivial, ro, st, q⟩
    | tmv a b =>
      obtain ⟨p, x1, x2, rfl, hp0, d1, d2⟩ := pair_parts dv0
      have hp := sqT_sm pr.hd hp0
      refine ⟨_, rfl, p, _, 0, _, rfl, rfl, hp, atI_nat (j := 0) rfl, ?_⟩
      dsimp only [gName, List.set]
      refine ⟨_, rfl, _, _, rfl, .inr (T.q_WORDS _), rfl, rfl, _, rfl, ifF (by decide +kernel) ?_⟩
      refine ⟨_, rfl, rfl, _, rfl, ifN (no (by decide +kernel)) ?_⟩
      refine ⟨_, rfl, rfl, _, rfl, ifN (no (by decide +kernel)) ?_⟩
      refine ⟨_, rfl, rfl, _, rfl, ifN (no (by decide +kernel)) ?_⟩
      refine ⟨_, rfl, one 2 (by decide), fun n1 hn1 => ⟨n1, _, rfl, .inr (.of upd_same), rfl, rfl, _, rfl, ifT (by decide +kernel) ?_⟩⟩
      have pr1 := pr.sm (same_new (o := .tup [V.str "move", .str "swap"]) hn1)
      generalize upd H n1 (.tup [V.str "move", .str "swap"]) = H1 at pr1 ⊢
      exact ⟨_, rfl, G.o, G.dx, _, rfl, pr1.self, mh_nom (by decide +kernel), _, rfl, HD, H0, lv, left, G, m, _, _, c', e, rfl, pr1, ne, jm, tm, lo, dv0, trivial, ro, st, q⟩
    | tsw a b =>
      obtain ⟨p, x1, x2, rfl, hp0, d1, d2⟩ := pair_parts dv0
      have hp := sqT_sm pr.hd hp0
      refine ⟨_, rfl, p, _, 0, _, rfl, rfl, hp, atI_nat (j := 0) rfl, ?_⟩
      dsimp only [gName, List.set]
      refine ⟨_, rfl, _, _, rfl, .inr (T.q_WORDS _), rfl, rfl, _, rfl, ifF (by decide +kernel) ?_⟩
      refine ⟨_, rfl, rfl, _, rfl, ifN (no (by decide +kernel)) ?_⟩
      refine ⟨_, rfl, rfl, _, rfl, ifN (no (by decide +kernel)) ?_⟩
      refine ⟨_, rfl, rfl, _, rfl, ifN (no (by decide +kernel)) ?_⟩
      refine ⟨_, rfl, one 2 (by decide), fun n1 hn1 => ⟨n1, _, rfl, .inr (.of upd_same), rfl, rfl, _, rfl, ifT (by decide +kernel) ?_⟩⟩
      have pr1 := pr.sm (same_new (o := .tup [V.str "move", .str "swap"]) hn1)
      generalize upd H n1 (.tup [V.str "move", .str "swap"]) = H1 at pr1 ⊢
      exact ⟨_, rfl, G.o, G.dx, _, rfl, pr1.self, mh_nom (by decide +kernel), _, rfl, HD, H0, lv, left, G, m, _, _, c', e, rfl, pr1, ne, jm, tm, lo, dv0, trivial, ro, st, q⟩
    | fresh t s =>
      obtain ⟨p, rfl, hp0⟩ := row3 dv0
      have hp := sqT_sm pr.hd hp0
      refine ⟨_, rfl, p, _, 0, _, rfl, rfl, hp, atI_nat (j := 0) rfl, ?_⟩
      dsimp only [gName, List.set]
      refine ⟨_, rfl, _, _, rfl, .inr (T.q_WORDS _), rfl, rfl, _, rfl, ifF (by decide +kernel) ?_⟩
      refine ⟨_, rfl, rfl, _, rfl, ifN (no (by decide +kernel)) ?_⟩
      refine ⟨_, rfl, rfl, _, rfl, ifN (no (by decide +kernel)) ?_⟩
      refine ⟨_, rfl, rfl, _, rfl, ifN (no (by decide +kernel)) ?_⟩
      refine ⟨_, rfl, one 2 (by decide), fun n1 hn1 => ⟨n1, _, rfl, .inr (.of upd_same), rfl, rfl, _, rfl, ifF (by decide +kernel) ?_⟩⟩
      have pr1 := pr.sm (same_new (o := .tup [V.str "move", .str "swap"]) hn1)
      generalize upd H n1 (.tup [V.str "move", .str "swap"]) = H1 at pr1 ⊢
      refine ⟨_, rfl, one 3 (by decide), fun n2 hn2 => ⟨n2, _, rfl, .inr (.of upd_same), rfl, rfl, _, rfl, ifT (by decide +kernel) ?_⟩⟩
      have pr2 := pr1.sm (same_new (o := .tup [V.str "fresh", .str "get", .str "put"]) hn2)
      generalize upd H1 n2 (.tup [V.str "fresh", .str "get", .str "put"]) = H2 at pr2 ⊢
      exact ⟨_, rfl, G.o, G.dx, _, rfl, pr2.self, mh_nom (by decide +kernel), _, rfl, HD, H0, lv, left, G, m, _, _, c', e, rfl, pr2, ne, jm, tm, lo, dv0, trivial, ro, st, q⟩
    | get b t a =>
      obtain ⟨p, rfl, hp0⟩ := row4 dv0
      have hp := sqT_sm pr.hd hp0
      refine ⟨_, rfl, p, _, 0, _, rfl, rfl, hp, atI_nat (j := 0) rfl, ?_⟩
      dsimp only [gName, List.set]
      refine ⟨_, rfl, _, _, rfl, .inr (T.q_WORDS _), rfl, rfl, _, rfl, ifF (by decide +kernel) ?_⟩
      refine ⟨_, rfl, rfl, _, rfl, ifN (no (by decide +kernel)) ?_⟩
      refine ⟨_, rfl, rfl, _, rfl, ifN (no (by decide +kernel)) ?_⟩
      refine ⟨_, rfl, rfl, _, rfl, ifN (no (by decide +kernel)) ?_⟩
      refine ⟨_, rfl, one 2 (by decide), fun n1 hn1 => ⟨n1, _, rfl, .inr (.of upd_same), rfl, rfl, _, rfl, ifF (by decide +kernel) ?_⟩⟩
      have pr1 := pr.sm (same_new (o := .tup [V.str "move", .str "swap"]) hn1)
      generalize upd H n1 (.tup [V.str "move", .str "swap"]) = H1 at pr1 ⊢
      refine ⟨_, rfl, one 3 (by decide), fun n2 hn2 => ⟨n2, _, rfl, .inr (.of upd_same), rfl, rfl, _, rfl, ifT (by decide +kernel) ?_⟩⟩
      have pr2 := pr1.sm (same_new (o := .tup [V.str "fresh", .str "get", .str "put"]) hn2)
      generalize upd H1 n2 (.tup [V.str "fresh", .str "get", .str "put"]) = H2 at pr2 ⊢
      exact ⟨_, rfl, G.o, G.dx, _, rfl, pr2.self, mh_nom (by decide +kernel), _, rfl, HD, H0, lv, left, G, m, _, _, c', e, rfl, pr2, ne, jm, tm, lo, dv0, trivial, ro, st, q⟩
    | put t a b =>
      obtain ⟨p, rfl, hp0⟩ := row4 dv0
      have hp := sqT_sm pr.hd hp0
      refine ⟨_, rfl, p, _, 0, _, rfl, rfl, hp, atI_nat (j := 0) rfl, ?_⟩
      dsimp only [gName, List.set]
      refine ⟨_, rfl, _, _, rfl, .inr (T.q_WORDS _), rfl, rfl, _, rfl, ifF (by decide +kernel) ?_⟩
      refine ⟨_, rfl, rfl, _, rfl, ifN (no (by decide +kernel)) ?_⟩
      refine ⟨_, rfl, rfl, _, rfl, ifN (no (by decide +kernel)) ?_⟩
      refine ⟨_, rfl, rfl, _, rfl, ifN (no (by decide +kernel)) ?_⟩
      refine ⟨_, rfl, one 2 (by decide), fun n1 hn1 => ⟨n1, _, rfl, .inr (.of upd_same), rfl, rfl, _, rfl, ifF (by decide +kernel) ?_⟩⟩
      have pr1 := pr.sm (same_new (o := .tup [V.str "move", .str "swap"]) hn1)
      generalize upd H n1 (.tup [V.str "move", .str "swap"]) = H1 at pr1 ⊢
      refine ⟨_, rfl, one 3 (by decide), fun n2 hn2 => ⟨n2, _, rfl, .inr (.of upd_same), rfl, rfl, _, rfl, ifT (by decide +kernel) ?_⟩⟩
      have pr2 := pr1.sm (same_new (o := .tup [V.str "fresh", .str "get", .str "put"]) hn2)
      generalize upd H1 n2 (.tup [V.str "fresh", .str "get", .str "put"]) = H2 at pr2 ⊢
      exact ⟨_, rfl, G.o, G.dx, _, rfl, pr2.self, mh_nom (by decide +kernel), _, rfl, HD, H0, lv, left, G, m, _, _, c', e, rfl, pr2, ne, jm, tm, lo, dv0, trivial, ro, st, q⟩
    | jump k =>
      obtain ⟨p, rfl, hp0⟩ := row2 dv0
      have hp := sqT_sm pr.hd hp0
      refine ⟨_, rfl, p, _, 0, _, rfl, rfl, hp, atI_nat (j := 0) rfl, ?_⟩
      dsimp only [gName, List.set]
      refine ⟨_, rfl, _, _, rfl, .inr (T.q_WORDS _), rfl, rfl, _, rfl, ifF (by decide +kernel) ?_⟩
      refine ⟨_, rfl, rfl, _, rfl, ifN (no (by decide +kernel)) ?_⟩
      refine ⟨_, rfl, rfl, _, rfl, ifN (no (by decide +kernel)) ?_⟩
      refine ⟨_, rfl, rfl, _, rfl, ifN (no (by decide +kernel)) ?_⟩
      refine ⟨_, rfl, one 2 (by decide), fun n1 hn1 => ⟨n1, _, rfl, .inr (.of upd_same), rfl, rfl, _, rfl, ifF (by decide +kernel) ?_⟩⟩
      have pr1 := pr.sm (same_new (o := .tup [V.str "move", .str "swap"]) hn1)
      generalize upd H n1 (.tup [V.str "move", .str "swap"]) = H1 at pr1 ⊢
      refine ⟨_, rfl, one 3 (by decide), fun n2 hn2 => ⟨n2, _, rfl, .inr (.of upd_same), rfl, rfl, _, rfl, ifF (by decide +kernel) ?_⟩⟩
      have pr2 := pr1.sm (same_new (o := .tup [V.str "fresh", .str "get", .str "put"]) hn2)
      generalize upd H1 n2 (.tup [V.str "fresh", .str "get", .str "put"]) = H2 at pr2 ⊢
      exact ⟨_, rfl, G.o, G.dx, _, rfl, pr2.self, mh_nom (by decide +kernel), _, rfl, HD, H0, lv, left, G, m, _, _, c', e, rfl, pr2, ne, jm, tm, lo, dv0, trivial, ro, st, q⟩
    | cho b r1 r2 =>
      obtain ⟨p, rfl, hp0⟩ := row4 dv0
      have hp := sqT_sm pr.hd hp0
      refine ⟨_, rfl, p, _, 0, _, rfl, rfl, hp, atI_nat (j := 0) rfl, ?_⟩
      dsimp only [gName, List.set]
      refine ⟨_, rfl, _, _, rfl, .inr (T.q_WORDS _), rfl, rfl, _, rfl, ifF (by decide +kernel) ?_⟩
      refine ⟨_, rfl, rfl, _, rfl, ifN (no (by decide +kernel)) ?_⟩
      refine ⟨_, rfl, rfl, _, rfl, ifN (no (by decide +kernel)) ?_⟩
      refine ⟨_, rfl, rfl, _, rfl, ifN (no (by decide +kernel)) ?_⟩
      refine ⟨_, rfl, one 2 (by decide), fun n1 hn1 => ⟨n1, _, rfl, .inr (.of upd_same), rfl, rfl, _, rfl, ifF (by decide +kernel) ?_⟩⟩
      have pr1 := pr.sm (same_new (o := .tup [V.str "move", .str "swap"]) hn1)
      generalize upd H n1 (.tup [V.str "move", .str "swap"]) = H1 at pr1 ⊢
      refine ⟨_, rfl, one 3 (by decide), fun n2 hn2 => ⟨n2, _, rfl, .inr (.of upd_same), rfl, rfl, _, rfl, ifF (by decide +kernel) ?_⟩⟩
      have pr2 := pr1.sm (same_new (o := .tup [V.str "fresh", .str "get", .str "put"]) hn2)
      generalize upd H1 n2 (.tup [V.str "fresh", .str "get", .str "put"]) = H2 at pr2 ⊢
      exact ⟨_, rfl, G.o, G.dx, _, rfl, pr2.self, mh_nom (by decide +kernel), _, rfl, HD, H0, lv, left, G, m, _, _, c', e, rfl, pr2, ne, jm, tm, lo, dv0, trivial, ro, st, q⟩
    | call n ps ans =>
      obtain ⟨p, pp, pw, av, rfl, hp0, hpp0, dps, dav⟩ := call_parts dv0
      have hp := sqT_sm pr.hd hp0
      refine ⟨_, rfl, p, _, 0, _, rfl, rfl, hp, atI_nat (j := 0) rfl, ?_⟩
      dsimp only [gName, List.set]
      refine ⟨_, rfl, _, _, rfl, .inr (T.q_WORDS _), rfl, rfl, _, rfl, ifF (by decide +kernel) ?_⟩
      refine ⟨_, rfl, rfl, _, rfl, ifN (no (by decide +kernel)) ?_⟩
      refine ⟨_, rfl, rfl, _, rfl, ifN (no (by decide +kernel)) ?_⟩
      refine ⟨_, rfl, rfl, _, rfl, ifN (no (by decide +kernel)) ?_⟩
      refine ⟨_, rfl, one 2 (by decide), fun n1 hn1 => ⟨n1, _, rfl, .inr (.of upd_same), rfl, rfl, _, rfl, ifF (by decide +kernel) ?_⟩⟩
      have pr1 := pr.sm (same_new (o := .tup [V.str "move", .str "swap"]) hn1)
      generalize upd H n1 (.tup [V.str "move", .str "swap"]) = H1 at pr1 ⊢
      refine ⟨_, rfl, one 3 (by decide), fun n2 hn2 => ⟨n2, _, rfl, .inr (.of upd_same), rfl, rfl, _, rfl, ifF (by decide +kernel) ?_⟩⟩
      have pr2 := pr1.sm (same_new (o := .tup [V.str "fresh", .str "get", .str "put"]) hn2)
      generalize upd H1 n2 (.tup [V.str "fresh", .str "get", .str "put"]) = H2 at pr2 ⊢
      exact ⟨_, rfl, G.o, G.dx, _, rfl, pr2.self, mh_nom (by decide +kernel), _, rfl, HD, H0, lv, left, G, m, _, _, c', e, rfl, pr2, ne, jm, tm, lo, dv0, trivial, ro, st, q⟩
    | give b =>
      obtain ⟨p, rfl, hp0⟩ := row2 dv0
      have hp := sqT_sm pr.hd hp0
      refine ⟨_, rfl, p, _, 0, _, rfl, rfl, hp, atI_nat (j := 0) rfl, ?_⟩
      dsimp only [gName, List.set]
      refine ⟨_, rfl, _, _, rfl, .inr (T.q_WORDS _), rfl, rfl, _, rfl, ifF (by decide +kernel) ?_⟩
      refine ⟨_, rfl, rfl, _, rfl, ifN (no (by decide +kernel)) ?_⟩
      refine ⟨_, rfl, rfl, _, rfl, ifN (no (by decide +kernel)) ?_⟩
      refine ⟨_, rfl, rfl, _, rfl, ifN (no (by decide +kernel)) ?_⟩
      refine ⟨_, rfl, one 2 (by decide), fun n1 hn1 => ⟨n1, _, rfl, .inr (.of upd_same), rfl, rfl, _, rfl, ifF (by decide +kernel) ?_⟩⟩
      have pr1 := pr.sm (same_new (o := .tup [V.str "move", .str "swap"]) hn1)
      generalize upd H n1 (.tup [V.str "move", .str "swap"]) = H1 at pr1 ⊢
      refine ⟨_, rfl, one 3 (by decide), fun n2 hn2 => ⟨n2, _, rfl, .inr (.of upd_same), rfl, rfl, _, rfl, ifF (by decide +kernel) ?_⟩⟩
      have pr2 := pr1.sm (same_new (o := .tup [V.str "fresh", .str "get", .str "put"]) hn2)
      generalize upd H1 n2 (.tup [V.str "fresh", .str "get", .str "put"]) = H2 at pr2 ⊢
      exact ⟨_, rfl, G.o, G.dx, _, rfl, pr2.self, mh_nom (by decide +kernel), _, rfl, HD, H0, lv, left, G, m, _, _, c', e, rfl, pr2, ne, jm, tm, lo, dv0, trivial, ro, st, q⟩
    | fail n =>
      obtain ⟨p, rfl, hp0⟩ := row2 dv0
      have hp := sqT_sm pr.hd hp0
      refine ⟨_, rfl, p, _, 0, _, rfl, rfl, hp, atI_nat (j := 0) rfl, ?_⟩
      dsimp only [gName, List.set]
      refine ⟨_, rfl, _, _, rfl, .inr (T.q_WORDS _), rfl, rfl, _, rfl, ifF (by decide +kernel) ?_⟩
      refine ⟨_, rfl, rfl, _, rfl, ifN (no (by decide +kernel)) ?_⟩
      refine ⟨_, rfl, rfl, _, rfl, ifN (no (by decide +kernel)) ?_⟩
      refine ⟨_, rfl, rfl, _, rfl, ifN (no (by decide +kernel)) ?_⟩
      refine ⟨_, rfl, one 2 (by decide), fun n1 hn1 => ⟨n1, _, rfl, .inr (.of upd_same), rfl, rfl, _, rfl, ifF (by decide +kernel) ?_⟩⟩
      have pr1 := pr.sm (same_new (o := .tup [V.str "move", .str "swap"]) hn1)
      generalize upd H n1 (.tup [V.str "move", .str "swap"]) = H1 at pr1 ⊢
      refine ⟨_, rfl, one 3 (by decide), fun n2 hn2 => ⟨n2, _, rfl, .inr (.of upd_same), rfl, rfl, _, rfl, ifF (by decide +kernel) ?_⟩⟩
      have pr2 := pr1.sm (same_new (o := .tup [V.str "fresh", .str "get", .str "put"]) hn2)
      generalize upd H1 n2 (.tup [V.str "fresh", .str "get", .str "put"]) = H2 at pr2 ⊢
      exact ⟨_, rfl, G.o, G.dx, _, rfl, pr2.self, mh_nom (by decide +kernel), _, rfl, HD, H0, lv, left, G, m, _, _, c', e, rfl, pr2, ne, jm, tm, lo, dv0, trivial, ro, st, q⟩
end

section
variable {P : Program} {w : World} {K : PySem.W.Frag} {mg : Str → Option Value} {base : Heap}
variable {L : List LP} {nb : Nat} {HD H0 H : Hp} {G : GM} {m : Nat} {lv fv : V} {left : Int}
def goP (K : PySem.W.Frag) (L : List LP) (nb : Nat) (HD H0 : Hp) (o : Addr) (lv : V) (t : List Int) (e : LE) (i : Nat) (σ : L2.St) (H : Hp) : Prop :=
  ∃ (G : GM) (x1 : Option V), σ = [some (.ref o), x1] ∧ G.o = o ∧ ((∃ n k mm, i = n + 1 ∧ PrAt K L nb HD H0 H lv (n : Nat) .non G mm ∧ mm + n ≤ 20000 ∧ Rn L n G.mc t e k) ∨ ∃ left fv mm, i = 0 ∧ PrAt K L nb HD H0 H lv left fv G mm ∧ G.told = t ∧ Dp K H fv e.d ∧ fv ≠ .non)
def sp_pgo (K : PySem.W.Frag) (L : List LP) (nb : Nat) : Sp := fun vs H Q _ => ∃ (HD H0 : Hp) (lv : V) (n : Nat) (G : GM) (t : List Int) (e : LE) (k : Nat), vs = [.ref G.o] ∧ PrAt K L nb HD H0 H lv (n : Nat) .non G 0 ∧ n ≤ 20000 ∧ LsOk nb L ∧ Rn L n G.mc t e k ∧
  ∀ H' G' fv left m, PrAt K L nb HD H0 H' lv left fv G' m → G'.o = G.o → G'.told = t → Dp K H' fv e.d → Q .non H'
theorem ref_of_le {H : Hp} {v : V} {e : LE} (h : Dp K H v e.d) : ∃ a, v = .ref a := by
  cases e <;> (obtain ⟨a, _, rfl, _⟩ := dp_tup h; exact ⟨a, rfl⟩)
theorem ok_Machine_go (T : Top K mg) : FnOk P w K mg base CX0 6 (He.ma K (He.ga K "Machine") "go") T.fd_Machine_go ["self"] (sp_pgo K L nb) := by
  have G_Machine_do := ok_Machine_do (P := P) (w := w) (base := base) (L := L) (nb := nb) T
  refine T.F_Machine_go.ok sc_Machine_go (fun vs H Q E h => ?_) (fun cdv A0 outer s0 H vs Q E hr h => ?_)
  · obtain ⟨HD, H0, lv, n, G, t, e, k, rfl, _⟩ := h
    rfl
  · obtain ⟨HD, H0, lv, n, G, t, e, k, rfl, pr0, n2, lo, rn, q⟩ := h
    refine ⟨_, PSs.nox (pss_one (ps_while PassesOwn.never (pt_cmpR op_isN (pe_fld (pv 0) rfl) pe_non (nomark _)) (pss_cons (ps_if (pt_cmpR op_eq (pe_fld (pv 0) rfl) pe_int (nomark _)) (pss_cons (ps_fld (pv 0) (pe_tup (pa_cons pe_str pa_nil)) rfl)
        (pss_one ps_break)) pss_nil)
        (pss_cons (ps_fldaug (pv 0) pe_int in_sub)
        (pss_cons (ps_set (i := 1) sc_Machine_go.nd rfl (Or.inl rfl) (pe_ix ix_list (pe_fld (pv 0) rfl) (pe_un un_neg pe_int) (fun _ _ => rfl)))
        (pss_cons (ps_fldaug (pv 1) pe_int in_add)
        (pss_one (ps_expr (pe_meth (pv 0) T.cl_Machine T.me_Machine_do G_Machine_do (hr.mono (by omega)) T.b_Machine_do .nil pass0 (pa_cons (pe_ix ix_tup (pe_ix ix_tup (pe_fld (pv 1) rfl) pe_int (fun _ _ => rfl)) (pe_op op_sub (pe_fld (pv 1) rfl) pe_int) (fun _ _ => rfl)) pa_nil)))))))))), ?_⟩
    have one : ∀ n : Nat, n ≤ 10000 → n ≤ sizeLine := fun n h => by rw [sizeLine_eq]; omega
    refine ⟨goP K L nb HD H0 G.o lv t e, ⟨n + 1, G, _, rfl, rfl, .inl ⟨n, k, 0, rfl, pr0, by omega, rn⟩⟩, ?_⟩
    rintro i σ' H1 ⟨G1, x1, rfl, o1, ⟨n1, k1, mm, rfl, pr, nm, rn1⟩ | ⟨left, fv, mm, rfl, pr, et, ev, nn⟩⟩
    · rw [← o1]
      refine ⟨_, rfl, G1.o, _, G1.dx, _, _, rfl, pr.self, T.cl_Machine, T.no_Machine_finish, mhF_finish .., rfl, _, rfl, ite2 (fun _ => ?_) (fun c => absurd (decide_eq_true rfl) c)⟩
      refine ⟨fun σ' H' => ∃ m', m' < n1 + 1 ∧ goP K L nb HD H0 G1.o lv t e m' σ' H', fun _ _ h => h, ?_⟩
      refine ⟨_, rfl, G1.o, _, G1.dx, _, _, rfl, pr.self, T.cl_Machine, T.no_Machine_left, mhF_left .., rfl, _, rfl, ?_⟩
      cases n1 with
      | zero =>
        cases rn1
        refine ifD rfl ⟨one 1 (by decide), fun u nu => ?_⟩
        have s2 := same_new (o := .tup [V.str "on"]) nu
        have pr2 := pr.sm s2
        refine ⟨_, rfl, G1.o, _, G1.dx, _, rfl, pr2.self, T.cl_Machine, T.no_Machine_finish, by show 6 < 1000; decide, ?_⟩
        rw [mhF_put_finish]
        exact q _ G1 _ _ _ (pr2.fld _ (.ref u)) o1 rfl (.tup (.of ((upd_ne (ne_of_none pr.self nu).symm).trans upd_same)) (.cons (.str _) .nil))
      | succ n1 =>
        refine ifN (fun z => by have := V.int.inj z; omega) ?_
        refine ⟨_, rfl, G1.o, _, G1.dx, _, _, rfl, pr.self, T.cl_Machine, T.no_Machine_left, mhF_left .., _, _, rfl, rfl, ?_⟩
        refine ⟨G1.dx, _, pr.self, by show 6 < 1000; decide, ?_⟩
        rw [mhF_put_left]
        obtain ⟨r, c', oe, hr, st, fin⟩ := rn_inv rn1
        obtain ⟨g, js, ej, hrow⟩ := row_of hr
        have ro := pr.ok.row lo hr
        have pr2 : PrAt K L nb HD H0 (upd H1 G1.o (.ins (He.ga K "Machine") G1.dx (mhF lv G1.bl (((n1 + 1 : Nat) : Int) - 1) G1.tl G1.jl .non))) lv (n1 : Nat) .non G1 mm := by
          rw [show (((n1 + 1 : Nat) : Int) - 1) = ((n1 : Nat) : Int) by omega]
          exact pr.fld (n1 : Nat) .non
        dsimp only
        generalize upd H1 G1.o (.ins (He.ga K "Machine") G1.dx (mhF lv G1.bl (((n1 + 1 : Nat) : Int) - 1) G1.tl G1.jl .non)) = H2 at pr2 ⊢
        obtain ⟨dp, _⟩ := pr.d g (by rw [ej]; exact List.mem_cons_self ..)
        obtain ⟨pa, ia, ra, iv, rv, epv, hpa, _, _, hra, drv⟩ := lp_parts dp
        obtain ⟨v, hv, dv⟩ := rows_at drv hrow
        refine ⟨_, rfl, G1.o, _, G1.dx, _, _, rfl, pr2.self, T.cl_Machine, T.no_Machine_jobs, mhF_jobs .., 1, rfl, G1.jl, _, -1, _, rfl, rfl, .of (pr2.last ej), atI_lst, ?_⟩
        dsimp only [gName, List.set]
        refine ⟨_, rfl, g.o, _, g.dx, _, _, rfl, pr2.job ej, T.cl_Job, T.no_Job_row_at, jbF_row_at .., _, _, rfl, rfl, ?_⟩
        refine ⟨g.dx, _, pr2.job ej, by show 5 < 1000; decide, ?_⟩
        rw [jbF_put_row_at]
        have pr3 := pr2.goto ej (g.at_ + 1)
        have e3 := pr3.job rfl
        have hmc := mc_next ej
        dsimp only at e3 ⊢
        rw [show ((g.at_ : Nat) : Int) + 1 = ((g.at_ + 1 : Nat) : Int) by omega]
        have nm2 : mm + 1 ≤ 100000 := by omega
        have pr4 := pr3.up nm2
        generalize upd H2 g.o (.ins (He.ga K "Job") g.dx (jbF g.pv ((g.at_ + 1 : Nat) : Int) g.sl g.hl g.av)) = H3 at pr3 pr4 e3 ⊢
        rw [← hmc] at st
        refine ⟨_, rfl, G1.o, G1.dx, _, rfl, pr3.self, mh_nom (by decide +kernel), _, rfl, g.o, _, g.dx, _, _, rfl, e3, T.cl_Job, T.no_Job_told_part, jbF_told_part .., pa, _, 3, _, epv, rfl, sqT_sm pr3.hd hpa, atI_nat (j := 3) rfl, _, rfl, g.o, _, g.dx, _, _, rfl, e3, T.cl_Job, T.no_Job_row_at, jbF_row_at .., _, _, rfl, rfl, ra, _, _, _, rfl, rfl, sqT_sm pr3.hd hra, (by rw [show (((g.at_ + 1 : Nat)) : Int) - 1 = ((g.at_ : Nat) : Int) by omega]; exact atI_nat hv), ?_⟩
        refine ⟨HD, H0, lv, (n1 : Nat), { G1 with js := { g with at_ := g.at_ + 1 } :: js }, mm + 1, _, r, c', oe, rfl, pr4, (fun h => nomatch h), ?_, ?_, lo, dv, trivial, ro, st, fun H4 G4 fv4 p4 o4 pe => ?_⟩
        · have := pr.jb
          rw [ej] at this
          exact this
        · have := pr.tb
          show G1.told.length < mm + 1
          omega
        · rcases fin with ⟨rfl, et, rfl⟩ | ⟨rfl, k', rfl, rn2⟩
          · have pe1 : Dp K H4 fv4 e.d := pe.1
            have pe2 : G4.told = c'.told := pe.2
            obtain ⟨a4, ea4⟩ := ref_of_le pe1
            exact ⟨0, by omega, G4, _, rfl, o4, .inr ⟨_, fv4, _, rfl, p4, by rw [pe2, et], pe1, by rw [ea4]; exact fun z => nomatch z⟩⟩
          · obtain ⟨pe1, pe2⟩ : fv4 = .non ∧ G4.mc = c' := pe
            subst pe1
            exact ⟨n1 + 1, by omega, G4, _, rfl, o4, .inl ⟨n1, k', mm + 1, rfl, p4, by omega, by rw [pe2]; exact rn2⟩⟩
    · rw [← o1]
      refine ⟨_, rfl, G1.o, _, G1.dx, _, _, rfl, pr.self, T.cl_Machine, T.no_Machine_finish, mhF_finish .., rfl, _, rfl, ite2 (fun c => absurd (of_decide_eq_true c) nn) (fun _ => ?_)⟩
      exact q _ G1 _ _ _ pr o1 et ev
end

section
variable {P : Program} {w : World} {K : PySem.W.Frag} {mg : Str → Option Value} {base : Heap}
def sp_isnum : Sp := fun vs H Q _ => ∃ i : Int, vs = [.int i] ∧ In32 i ∧ Q (.bl true) H
theorem ok_is_number (T : Top K mg) : FnOk P w K mg base CX0 1 (He.ga K "is_number") T.fd_is_number ["thing"] sp_isnum := by
  refine T.F_is_number.ok sc_is_number (fun vs H Q E h => ?_) (fun cdv A0 outer s0 H vs Q E hr h => ?_)
  · obtain ⟨i, rfl, _⟩ := h
    rfl
  · obtain ⟨i, rfl, i32, q⟩ := h
    refine ⟨_, PSs.nox (pss_one (ps_ret (pe_and (pe_callB call_isi (by rfl) T.m_isinstance (by decide +kernel) (pa_cons (pv 0) (pa_cons (pe_bltn (v := .ty "int") (by rfl) T.m_int (by decide +kernel) rfl) pa_nil))) (pe_and (pe_not (pe_callB call_isi (by rfl) T.m_isinstance (by decide +kernel) (pa_cons (pv 0) (pa_cons (pe_bltn (v := .ty "bool") (by rfl) T.m_bool (by decide +kernel) rfl) pa_nil)))) (pe_one (pe_chain op_le op_le (pe_un un_neg pe_int) (pv 0) pe_int)))))), ?_⟩
    have ty := dp_ty (K := K) (H := H) (Dp.int i)
    refine ⟨_, rfl, _, _, _, _, isI (.int i), rfl, .ty _, ty, kit_int (.int i), _, rfl, ?_⟩
    refine ⟨_, rfl, _, _, _, _, isB (.int i), rfl, .ty _, ty, kit_bool (.int i), _, rfl, _, rfl, ?_⟩
    refine ⟨_, rfl, _, rfl, _, _, rfl, rfl, _, rfl, ifD i32.1 ?_⟩
    refine ⟨_, _, rfl, rfl, ?_⟩
    show Q (V.bl (decide (i ≤ 2147483647))) H
    rw [decide_eq_true i32.2]
    exact q
def sp_minit (K : PySem.W.Frag) : Sp := fun vs H Q _ => ∃ (o dx : Addr) (lv : V) (nb most : Nat), vs = [.ref o, lv, .int (nb : Nat), .int (most : Nat)] ∧ H o = some (.ins (He.ga K "Machine") dx []) ∧ nb ≤ 1000 ∧
  ∀ H' bl tl jl, Kp (fun b => b = o) H H' → H bl = none → H tl = none → H jl = none → ([o, bl, jl, tl] : List Addr).Nodup → H' o = some (.ins (He.ga K "Machine") dx (mhF lv bl (most : Nat) tl jl .non)) → H' bl = some (.lst (bxl nb [])) → H' tl = some (.lst []) → H' jl = some (.lst []) → Q .non H'
theorem repzV : ∀ s : Nat, (List.replicate s [V.int 0]).flatten = List.replicate s (V.int 0)
  | 0 => rfl
  | s + 1 => by
    rw [List.replicate_succ, List.replicate_succ, List.flatten_cons, repzV s]
    rfl
theorem bxl_nil (nb : Nat) : bxl nb [] = List.replicate nb (V.int 0) := by
  refine List.ext_getElem? fun i => ?_
  by_cases hi : i < nb
  · rw [bxl_at hi, List.getElem?_replicate, if_pos hi]
    rfl
  · rw [List.getElem?_eq_none (by rw [bxl_len]; omega), List.getElem?_replicate, if_neg hi]
theorem ok_Machine_init (T : Top K mg) : FnOk P w K mg base CX0 1 (He.ma K (He.ga K "Machine") "__init__") T.fd_Machine___init__ ["self", "last", "boxes", "most"] (sp_minit K) := by
  refine T.F_Machine___init__.ok sc_Machine___init__ (fun vs H Q E h => ?_) (fun cdv A0 outer s0 H vs Q E hr h => ?_)
  · obtain ⟨o, dx, lv, nb, most, rfl, _⟩ := h
    rfl
  · obtain ⟨o, dx, lv, nb, most, rfl, eo, n3, q⟩ := h
    refine ⟨_, PSs.nox (pss_cons (ps_fld (pv 0) (pv 1) rfl)
        (pss_cons (ps_fld (pv 0) (pe_op op_rep (pe_lst (pa_cons pe_int pa_nil)) (pv 2)) rfl)
        (pss_cons (ps_fld (pv 0) (pv 3) rfl)
        (pss_cons (ps_fld (pv 0) (pe_lst pa_nil) rfl)
        (pss_cons (ps_fld (pv 0) (pe_lst pa_nil) rfl)
        (pss_one (ps_fld (pv 0) pe_non rfl))))))), ?_⟩
    have one : ∀ n : Nat, n ≤ 10000 → n ≤ sizeLine := fun n h => by rw [sizeLine_eq]; omega
    refine ⟨_, rfl, _, rfl, o, _, dx, _, rfl, eo, T.cl_Machine, T.no_Machine_last, by decide, ?_⟩
    rw [show putF ("last" : Str) lv [] = ([("last", lv)] : List (Str × V)) from rfl]
    have k1 : Kp (fun b => b = o) H (upd H o (.ins (He.ga K "Machine") dx [("last", lv)])) := Kp.upd eo trivial rfl
    have o1 : upd H o (.ins (He.ga K "Machine") dx [("last", lv)]) o = some (.ins (He.ga K "Machine") dx [("last", lv)]) := upd_same
    generalize upd H o (.ins (He.ga K "Machine") dx [("last", lv)]) = H1 at k1 o1 ⊢
    refine ⟨one 1 (by decide), fun z nz => ⟨_, rfl, z, (nb : Nat), _, rfl, rfl, upd_same, by omega, by omega, by rw [sizeLine_eq]; simp; omega, fun bl nbl => ?_⟩⟩
    rw [show (List.replicate (nb : Int).toNat [V.int 0]).flatten = bxl nb [] by rw [bxl_nil]; exact repzV nb]
    have s2 := (same_new (o := .lst [V.int 0]) nz).trans (same_new (o := .lst (bxl nb [])) nbl)
    have x2 : upd (upd H1 z (.lst [V.int 0])) bl (.lst (bxl nb [])) bl = some (.lst (bxl nb [])) := upd_same
    have b1 : H1 bl = none := (same_new (o := .lst [V.int 0]) nz).free nbl
    have obl : o ≠ bl := ne_of_none o1 b1
    generalize upd (upd H1 z (.lst [V.int 0])) bl (.lst (bxl nb [])) = H2 at s2 x2 ⊢
    refine ⟨_, rfl, o, _, dx, _, rfl, s2 _ _ o1, T.cl_Machine, T.no_Machine_boxes, by show 1 < 1000; decide, ?_⟩
    rw [show putF ("boxes" : Str) (.ref bl) [("last", lv)] = ([("last", lv), ("boxes", .ref bl)] : List (Str × V)) by rw [putF_ne (by decide +kernel)]; rfl]
    refine ⟨_, rfl, _, rfl, o, _, dx, _, rfl, upd_same, T.cl_Machine, T.no_Machine_left, by show 2 < 1000; decide, ?_⟩
    rw [show putF ("left" : Str) (.int (most : Nat)) [("last", lv), ("boxes", .ref bl)] = ([("last", lv), ("boxes", .ref bl), ("left", .int (most : Nat))] : List (Str × V)) by rw [putF_ne (by decide +kernel), putF_ne (by decide +kernel)]; rfl, upd_upd]
    have k3 : Kp (fun b => b = o) H (upd H2 o (.ins (He.ga K "Machine") dx [("last", lv), ("boxes", .ref bl), ("left", .int (most : Nat))])) := (k1.trans (.of_same s2)).trans (Kp.upd (s2 _ _ o1) trivial rfl)
    have o3 : upd H2 o (.ins (He.ga K "Machine") dx [("last", lv), ("boxes", .ref bl), ("left", .int (most : Nat))]) o = some (.ins (He.ga K "Machine") dx [("last", lv), ("boxes", .ref bl), ("left", .int (most : Nat))]) := upd_same
    have x3 : upd H2 o (.ins (He.ga K "Machine") dx [("last", lv), ("boxes", .ref bl), ("left", .int (most : Nat))]) bl = some (.lst (bxl nb [])) := (upd_ne obl.symm).trans x2
    have b0 : H bl = none := kp_none k1 b1 fun z => obl z.symm
    generalize upd H2 o (.ins (He.ga K "Machine") dx [("last", lv), ("boxes", .ref bl), ("left", .int (most : Nat))]) = H3 at k3 o3 x3 ⊢
    refine ⟨Nat.zero_le _, fun tl ntl => ?_⟩
    have s4 := same_new (o := .lst []) ntl
    have otl : o ≠ tl := ne_of_none o3 ntl
    have btl : bl ≠ tl := ne_of_none x3 ntl
    refine ⟨_, rfl, o, _, dx, _, rfl, s4 _ _ o3, T.cl_Machine, T.no_Machine_told, by show 3 < 1000; decide, ?_⟩
    rw [show putF ("told" : Str) (.ref tl) [("last", lv), ("boxes", .ref bl), ("left", .int (most : Nat))] = ([("last", lv), ("boxes", .ref bl), ("left", .int (most : Nat)), ("told", .ref tl)] : List (Str × V)) by rw [putF_ne (by decide +kernel), putF_ne (by decide +kernel), putF_ne (by decide +kernel)]; rfl]
    have k5 : Kp (fun b => b = o) H (upd (upd H3 tl (.lst [])) o (.ins (He.ga K "Machine") dx [("last", lv), ("boxes", .ref bl), ("left", .int (most : Nat)), ("told", .ref tl)])) := (k3.trans (.of_same s4)).trans (Kp.upd (s4 _ _ o3) trivial rfl)
    have o5 : upd (upd H3 tl (.lst [])) o (.ins (He.ga K "Machine") dx [("last", lv), ("boxes", .ref bl), ("left", .int (most : Nat)), ("told", .ref tl)]) o = some (.ins (He.ga K "Machine") dx [("last", lv), ("boxes", .ref bl), ("left", .int (most : Nat)), ("told", .ref tl)]) := upd_same
    have x5 : upd (upd H3 tl (.lst [])) o (.ins (He.ga K "Machine") dx [("last", lv), ("boxes", .ref bl), ("left", .int (most : Nat)), ("told", .ref tl)]) bl = some (.lst (bxl nb [])) := (upd_ne obl.symm).trans (s4 _ _ x3)
    have y5 : upd (upd H3 tl (.lst [])) o (.ins (He.ga K "Machine") dx [("last", lv), ("boxes", .ref bl), ("left", .int (most : Nat)), ("told", .ref tl)]) tl = some (.lst []) := (upd_ne otl.symm).trans upd_same
    have t0 : H tl = none := kp_none k3 ntl fun z => otl z.symm
    generalize upd (upd H3 tl (.lst [])) o (.ins (He.ga K "Machine") dx [("last", lv), ("boxes", .ref bl), ("left", .int (most : Nat)), ("told", .ref tl)]) = H5 at k5 o5 x5 y5 ⊢
    refine ⟨Nat.zero_le _, fun jl njl => ?_⟩
    have s6 := same_new (o := .lst []) njl
    have ojl : o ≠ jl := ne_of_none o5 njl
    have bjl : bl ≠ jl := ne_of_none x5 njl
    have tjl : tl ≠ jl := ne_of_none y5 njl
    refine ⟨_, rfl, o, _, dx, _, rfl, s6 _ _ o5, T.cl_Machine, T.no_Machine_jobs, by show 4 < 1000; decide, ?_⟩
    rw [show putF ("jobs" : Str) (.ref jl) [("last", lv), ("boxes", .ref bl), ("left", .int (most : Nat)), ("told", .ref tl)] = ([("last", lv), ("boxes", .ref bl), ("left", .int (most : Nat)), ("told", .ref tl), ("jobs", .ref jl)] : List (Str × V)) by rw [putF_ne (by decide +kernel), putF_ne (by decide +kernel), putF_ne (by decide +kernel), putF_ne (by decide +kernel)]; rfl]
    refine ⟨_, rfl, o, _, dx, _, rfl, upd_same, T.cl_Machine, T.no_Machine_finish, by show 5 < 1000; decide, ?_⟩
    rw [show putF ("finish" : Str) .non [("last", lv), ("boxes", .ref bl), ("left", .int (most : Nat)), ("told", .ref tl), ("jobs", .ref jl)] = mhF lv bl (most : Nat) tl jl .non by rw [putF_ne (by decide +kernel), putF_ne (by decide +kernel), putF_ne (by decide +kernel), putF_ne (by decide +kernel), putF_ne (by decide +kernel)]; rfl, upd_upd]
    refine q _ bl tl jl ((k5.trans (.of_same s6)).trans (Kp.upd (s6 _ _ o5) trivial rfl)) b0 t0 (kp_none k5 njl fun z => ojl z.symm) ?_ upd_same ((upd_ne obl.symm).trans (s6 _ _ x5)) ((upd_ne otl.symm).trans (s6 _ _ y5)) ((upd_ne ojl.symm).trans upd_same)
    simp only [List.nodup_cons, List.mem_cons, List.not_mem_nil, or_false, not_or, not_false_eq_true, List.nodup_nil, and_true]
    exact ⟨⟨obl, ojl, otl⟩, ⟨bjl, btl⟩, tjl.symm⟩
theorem isi_seqL (K : PySem.W.Frag) (b : Bool) : PySem.W.kitAny K (.type (if b then "list" else "tuple")) [.type "list", .type "tuple"] = some true := by
  cases b with
  | true => exact kitAny_cons (kit_ty (r := true) (by decide +kernel)) (fun z => nomatch z) fun _ => rfl
  | false => exact kitAny_cons (kit_ty (r := false) (by decide +kernel)) (fun _ => kitAny_cons (kit_ty (r := true) (by decide +kernel)) (fun z => nomatch z) fun _ => rfl) (fun z => nomatch z)
def fndD (t : List Int) (e : LE) : PyData := .tuple [.tuple (t.map PyData.int), e.d]
def sp_played (K : PySem.W.Frag) : Sp := fun vs H Q _ => ∃ (lv : V) (I : Addr) (L : List LP) (nb most : Nat) (q : LP) (xs : List Int) (t : List Int) (e : LE) (k : Nat), vs = [lv, .int (nb : Nat), .ref I, .int (most : Nat)] ∧ Dp K H lv (insL (L ++ [q])) ∧ (SqL K H I (xs.map V.int) ∨ SqT K H I (xs.map V.int)) ∧ q.ins.length = xs.length ∧ (∀ x ∈ xs, In32 x) ∧ LsOk nb (L ++ [q]) ∧ (L ++ [q]).length ≤ 1000 ∧ nb ≤ 5 ∧ most ≤ 20000 ∧ Rn (L ++ [q]) most (MC.zero.enter q none xs) t e k ∧
  ∀ H' v, Same H H' → Dp K H' v (fndD t e) → Q v H'
theorem ok_played_last (T : Top K mg) : FnOk P w K mg base CX0 7 (He.ga K "played_last") T.fd_played_last ["last", "boxes", "inputs", "most"] (sp_played K) := by
  have G_is_number := ok_is_number (P := P) (w := w) (base := base) T
  have G_Machine___init__ := ok_Machine_init (P := P) (w := w) (base := base) T
  refine T.F_played_last.ok sc_played_last (fun vs H Q E h => ?_) (fun cdv A outer s H vs Q E hr h => ?_)
  · obtain ⟨lv, I, L, nb, most, q, xs, t, e, k, rfl, _⟩ := h
    rfl
  · obtain ⟨lv, I, L, nb, most, qp, xs, t, e, k, rfl, dl, hb, lq, x32, lo, lL, n5, m2, rn, q⟩ := h
    have G_Machine_begin_job := ok_Machine_begin_job (P := P) (w := w) (base := base) (L := L ++ [qp]) (nb := nb) T
    have G_Machine_go := ok_Machine_go (P := P) (w := w) (base := base) (L := L ++ [qp]) (nb := nb) T
    have l3 : xs.length ≤ 3 := by
      rw [← lq]
      exact lo.l qp (List.mem_append_right _ (List.mem_singleton.mpr rfl))
    obtain ⟨la, lvs, rfl, hla, dls⟩ := dp_tup dl
    have llv := dpAll_len dls
    rw [List.length_map, List.length_append, List.length_singleton] at llv
    have e1 : (L ++ [qp])[L.length]? = some qp := by rw [List.getElem?_append_right (Nat.le_refl _), Nat.sub_self]; rfl
    obtain ⟨qv, hqv, dqv⟩ := ls_at dls e1
    obtain ⟨pa, ia, ra, iv, rv, rfl, hpa, hia, div, _, _⟩ := lp_parts dqv
    have lastI : atI lvs (-1) = some (.ref pa) := by
      obtain ⟨lh, rfl⟩ : ∃ lh, lvs = lh ++ [V.ref pa] := by
        refine ⟨lvs.take L.length, ?_⟩
        have hl : L.length < lvs.length := by omega
        have h1 : lvs[L.length] = V.ref pa := by
          rw [List.getElem?_eq_getElem hl] at hqv
          exact Option.some.inj hqv
        rw [← h1, List.take_append_getElem hl, List.take_of_length_le (by omega)]
      exact atI_lst
    have div2 : iv.length = xs.length := by
      have := dpAll_len div
      rw [List.length_map] at this
      omega
    rcases hb with hb | hb
    · refine ⟨_, PSs.nox (pss_cons (ps_if (PW.pt (pw_or (pt_not (pt_val (pe_callB call_isiT (by rfl) T.m_isinstance (by decide +kernel) (pa_cons (pv 2) (pa_cons (pe_tup (pa_cons (pe_bltn (v := .ty "list") (by rfl) T.m_list (by decide +kernel) rfl) (pa_cons (pe_bltn (v := .ty "tuple") (by rfl) T.m_tuple (by decide +kernel) rfl) pa_nil))) pa_nil))))) (pw_or1 (pt_cmpR op_ne (pe_callB call_len_seq (by rfl) T.m_len (by decide +kernel) (pa_cons (pv 2) pa_nil)) (pe_callB call_len_seq (by rfl) T.m_len (by decide +kernel) (pa_cons (pe_ix ix_tup (pe_ix ix_tup (pv 0) (pe_un un_neg pe_int) (fun _ _ => rfl)) pe_int (fun _ _ => rfl)) pa_nil)) (nomark _))))) (pss_one ps_never) pss_nil)
        (pss_cons (ps_if (pt_not (pt_val (pe_callB (cr_all (by rfl)) (by rfl) T.m_all (by decide +kernel) (pa_cons (pe_lc (own := [("one", 5)]) (by rfl) sc_played_last.nd (pi_list (pv 2)) (blkOk_by (own := [("one", 5)]) (N := N_played_last) (sc := defScope s_played_last) (by decide +kernel)) (fun _ _ _ _ _ => (pg_name (i := 5) sc_played_last.nd rfl (Or.inl rfl))) (fun _ _ _ _ _ => pts_nil) (fun _ _ _ _ _ => (pe_call G_is_number (hr.mono (by omega)) (by rfl) T.g_is_number T.F_is_number.kp T.b_is_number .nil pass0 (pa_cons (pv 5) pa_nil)))) pa_nil)))) (pss_one ps_never) pss_nil)
        (pss_cons (ps_set (i := 4) sc_played_last.nd rfl (Or.inl rfl) (pe_make T.mk_Machine G_Machine___init__ (hr.mono (by omega)) (by rfl) T.g_Machine T.b_Machine___init__ .nil pass0 (pa_cons (pv 0) (pa_cons (pv 1) (pa_cons (pv 3) pa_nil)))))
        (pss_cons (ps_expr (pe_meth (pv 4) T.cl_Machine T.me_Machine_begin_job G_Machine_begin_job (hr.mono (by omega)) T.b_Machine_begin_job .nil pass0 (pa_cons (pe_op op_sub (pe_callB call_len_seq (by rfl) T.m_len (by decide +kernel) (pa_cons (pv 0) pa_nil)) pe_int) (pa_cons (pe_callTy call_list_of (by rfl) T.m_list (by decide +kernel) (pa_cons (pv 2) pa_nil)) (pa_cons pe_non pa_nil)))))
        (pss_cons (ps_expr (pe_meth0 (pv 4) T.cl_Machine T.me_Machine_go G_Machine_go (hr.mono (by omega)) T.b_Machine_go .nil pass0))
        (pss_one (ps_ret (pe_tup (pa_cons (pe_callTy call_tuple_of (by rfl) T.m_tuple (by decide +kernel) (pa_cons (pe_fld (pv 4) rfl) pa_nil)) (pa_cons (pe_fld (pv 4) rfl) pa_nil)))))))))), ?_⟩
      refine ⟨_, rfl, by rw [sizeLine_eq]; show 2 ≤ _; omega, fun tp htp => ?_⟩
      have s1 : Same H (upd H tp (.tup [.ty "list", .ty "tuple"])) := same_new htp
      have hb1 := s1.seq hb
      refine ⟨_, tp, _, _, _, true, rfl, upd_same, .cons (.ty _) (.cons (.ty _) .nil), ty_lst hb1, isi_seqL K true, _, rfl, ifF rfl ?_⟩
      generalize upd H tp (.tup [.ty "list", .ty "tuple"]) = H1 at s1 hb1 ⊢
      refine ⟨_, rfl, I, _, rfl, .inl hb1, _, rfl, 1, rfl, la, _, -1, _, rfl, rfl, sqT_sm s1 hla, lastI, pa, _, 0, _, rfl, rfl, sqT_sm s1 hpa, atI_nat (j := 0) rfl, ia, _, rfl, .inr (sqT_sm s1 hia), rfl, _, rfl, ?_⟩
      rw [List.length_map, div2]
      refine ifNF rfl ?_
      refine ⟨_, rfl, I, rfl, ⟨_, hb1⟩, fun D hD => ?_⟩
      have hD0 : H D = none := s1.free hD
      refine lc_list (K := K) (a := I) (xs := xs.map V.int) (fun j H' => Same H H' ∧ H' D = some (.lst ((List.replicate j true).map V.bl))) ?_ ?_ ?_ ?_
      · exact ⟨same_upd s1 hD0, upd_same⟩
      · intro j H' _ k
        exact k.1.seq hb
      · rintro j x H1 hx ⟨k1, e1⟩
        rw [List.getElem?_map] at hx
        have jl : j < xs.length := by
          cases hj : xs[j]? with
          | none => rw [hj] at hx; cases hx
          | some n => exact (List.getElem?_eq_some_iff.mp hj).1
        rw [List.getElem?_eq_getElem jl] at hx
        cases hx
        dsimp only [gName]
        dsimp only [tYes]
        rw [if_pos rfl]
        refine ⟨rfl, _, rfl, xs[j], rfl, x32 _ (List.getElem_mem jl), _, e1, by rw [List.length_map, List.length_replicate, sizeLine_eq]; omega, same_upd k1 hD0, ?_⟩
        rw [upd_same, List.replicate_succ', List.map_append]
        rfl
      · rintro H2 ⟨k1, e2⟩
        refine ⟨D, _, rfl, .inl (.inl e2), _, rfl, ?_⟩
        have ea : (List.replicate (xs.map V.int).length true).all id = true := by
          rw [List.all_eq_true]
          intro x hx
          rw [List.eq_of_mem_replicate hx]
          rfl
        rw [ea]
        refine ifF rfl ?_
        have hb2 := k1.seq hb
        clear e2 ea hD hD0 s1 hb1
        refine ⟨_, rfl, _, rfl, _, rfl, fun x dx nx ndx ne => ?_⟩
        have s2 := same_new (o := .own x) ndx
        have nx2 : upd H2 dx (.own x) x = none := (upd_ne ne.symm).trans nx
        have s3 := same_new (o := .ins (He.ga K "Machine") dx []) nx2
        have s13 := (k1.trans s2).trans s3
        have nx0 : H x = none := k1.free nx
        refine ⟨x, dx, .ref la, nb, most, rfl, upd_same, by omega, fun H4 bl tl jl k4 b0 t0 j0 nd eo eb et ej => ⟨rfl, ?_⟩⟩
        have s4 : Same H H4 := fun c o e => k4 _ _ (s13 _ _ e) fun z => by
          rw [z, nx0] at e
          cases e
        obtain ⟨G, hG⟩ : ∃ G : GM, G = ⟨x, dx, bl, jl, tl, [], [], []⟩ := ⟨_, rfl⟩
        have pr : PrAt K (L ++ [qp]) nb H H H4 (.ref la) (most : Nat) .non G 0 := by
          rw [hG]
          refine ⟨⟨s4, nd, fun y hy => ?_⟩, Same.refl _, (fun g hg => nomatch hg), ⟨.nil, (fun x hx => nomatch hx), fun j hj => nomatch hj⟩, Nat.le_refl _, Nat.zero_le _, by decide, n5, dl⟩
          simp only [mP, mG, List.flatMap_nil, List.mem_cons, List.not_mem_nil, or_false] at hy
          rcases hy with rfl | rfl | rfl | rfl
          · exact ⟨eo, nx0⟩
          · exact ⟨eb, s13.free b0⟩
          · exact ⟨ej, s13.free j0⟩
          · exact ⟨et, s13.free t0⟩
        have oG : x = G.o := by rw [hG]
        have dG : dx = G.dx := by rw [hG]
        have js0 : G.js = [] := by rw [hG]
        have mc0 : G.mc = MC.zero := by rw [hG]; rfl
        rw [oG]
        clear hG eo eb et ej nd k4 b0 t0 j0 nx2 s3 s13 nx s2 ndx ne nx0
        dsimp only [gName, List.set]
        refine ⟨_, rfl, G.o, G.dx, _, rfl, pr.self, mh_nom (by decide +kernel), _, rfl, la, _, rfl, .inr (sqT_sm s4 hla), _, _, rfl, rfl, _, rfl, I, _, rfl, .inl (s4.seq hb), fun N nN => ?_⟩
        have s6 := same_new (o := .lst (xs.map V.int)) nN
        have pr6 := pr.sm s6
        have el : ((lvs.length : Nat) : Int) - 1 = ((L.length : Nat) : Int) := by rw [llv]; omega
        refine ⟨H, H, .ref la, .non, (most : Nat), G, 0, _, L.length, N, qp, xs, none, (by rw [← el]; rfl), pr6, by rw [js0]; exact Nat.le_refl _, lo, e1, upd_same, pr.ow.off nN, lq, l3, x32, (fun p hp => nomatch hp), fun H7 G7 p7 o7 c7 => ?_⟩
        rw [mc0] at c7
        have eo7 := p7.self
        rw [o7] at eo7
        refine ⟨_, rfl, G.o, _, _, rfl, eo7, mh_nom (by decide +kernel), H, H, .ref la, most, G7, t, e, k, (by rw [o7]; rfl), p7, m2, lo, by rw [c7]; exact rn, fun H8 G8 fv left m8 p8 o8 et ev => ?_⟩
        have eo8 := p8.self
        rw [o8, o7] at eo8
        obtain ⟨a8, rfl⟩ := ref_of_le ev
        refine ⟨_, rfl, G.o, _, _, _, _, rfl, eo8, T.cl_Machine, T.no_Machine_told, mhF_told .., G8.tl, _, rfl, .inl ⟨.of p8.tld, fun u nu => ?_⟩⟩
        have a1 := same_new (o := .tup (G8.told.map V.int)) nu
        refine ⟨_, rfl, G.o, _, _, _, _, rfl, a1 _ _ eo8, T.cl_Machine, T.no_Machine_finish, mhF_finish .., by rw [sizeLine_eq]; show 2 ≤ _; omega, fun v nv => ?_⟩
        have a2 := same_new (o := .tup [.ref u, .ref a8]) nv
        rw [et] at a1 a2 ⊢
        exact q _ _ ((p8.hd.trans a1).trans a2) (.tup (.of upd_same) (.cons (.tup (.of (a2 _ _ upd_same)) ints_dp) (.cons (dp_sm (a1.trans a2) ev) .nil)))
    · refine ⟨_, PSs.nox (pss_cons (ps_if (PW.pt (pw_or (pt_not (pt_val (pe_callB call_isiT (by rfl) T.m_isinstance (by decide +kernel) (pa_cons (pv 2) (pa_cons (pe_tup (pa_cons (pe_bltn (v := .ty "list") (by rfl) T.m_list (by decide +kernel) rfl) (pa_cons (pe_bltn (v := .ty "tuple") (by rfl) T.m_tuple (by decide +kernel) rfl) pa_nil))) pa_nil))))) (pw_or1 (pt_cmpR op_ne (pe_callB call_len_seq (by rfl) T.m_len (by decide +kernel) (pa_cons (pv 2) pa_nil)) (pe_callB call_len_seq (by rfl) T.m_len (by decide +kernel) (pa_cons (pe_ix ix_tup (pe_ix ix_tup (pv 0) (pe_un un_neg pe_int) (fun _ _ => rfl)) pe_int (fun _ _ => rfl)) pa_nil)) (nomark _))))) (pss_one ps_never) pss_nil)
        (pss_cons (ps_if (pt_not (pt_val (pe_callB (cr_all (by rfl)) (by rfl) T.m_all (by decide +kernel) (pa_cons (pe_lc (own := [("one", 5)]) (by rfl) sc_played_last.nd (pi_tup (pv 2)) (blkOk_by (own := [("one", 5)]) (N := N_played_last) (sc := defScope s_played_last) (by decide +kernel)) (fun _ _ _ _ _ => (pg_name (i := 5) sc_played_last.nd rfl (Or.inl rfl))) (fun _ _ _ _ _ => pts_nil) (fun _ _ _ _ _ => (pe_call G_is_number (hr.mono (by omega)) (by rfl) T.g_is_number T.F_is_number.kp T.b_is_number .nil pass0 (pa_cons (pv 5) pa_nil)))) pa_nil)))) (pss_one ps_never) pss_nil)
        (pss_cons (ps_set (i := 4) sc_played_last.nd rfl (Or.inl rfl) (pe_make T.mk_Machine G_Machine___init__ (hr.mono (by omega)) (by rfl) T.g_Machine T.b_Machine___init__ .nil pass0 (pa_cons (pv 0) (pa_cons (pv 1) (pa_cons (pv 3) pa_nil)))))
        (pss_cons (ps_expr (pe_meth (pv 4) T.cl_Machine T.me_Machine_begin_job G_Machine_begin_job (hr.mono (by omega)) T.b_Machine_begin_job .nil pass0 (pa_cons (pe_op op_sub (pe_callB call_len_seq (by rfl) T.m_len (by decide +kernel) (pa_cons (pv 0) pa_nil)) pe_int) (pa_cons (pe_callTy call_list_of (by rfl) T.m_list (by decide +kernel) (pa_cons (pv 2) pa_nil)) (pa_cons pe_non pa_nil)))))
        (pss_cons (ps_expr (pe_meth0 (pv 4) T.cl_Machine T.me_Machine_go G_Machine_go (hr.mono (by omega)) T.b_Machine_go .nil pass0))
        (pss_one (ps_ret (pe_tup (pa_cons (pe_callTy call_tuple_of (by rfl) T.m_tuple (by decide +kernel) (pa_cons (pe_fld (pv 4) rfl) pa_nil)) (pa_cons (pe_fld (pv 4) rfl) pa_nil)))))))))), ?_⟩
      refine ⟨_, rfl, by rw [sizeLine_eq]; show 2 ≤ _; omega, fun tp htp => ?_⟩
      have s1 : Same H (upd H tp (.tup [.ty "list", .ty "tuple"])) := same_new htp
      have hb1 := sqT_sm s1 hb
      refine ⟨_, tp, _, _, _, true, rfl, upd_same, .cons (.ty _) (.cons (.ty _) .nil), ty_tup hb1, isi_seqL K false, _, rfl, ifF rfl ?_⟩
      generalize upd H tp (.tup [.ty "list", .ty "tuple"]) = H1 at s1 hb1 ⊢
      refine ⟨_, rfl, I, _, rfl, .inr hb1, _, rfl, 1, rfl, la, _, -1, _, rfl, rfl, sqT_sm s1 hla, lastI, pa, _, 0, _, rfl, rfl, sqT_sm s1 hpa, atI_nat (j := 0) rfl, ia, _, rfl, .inr (sqT_sm s1 hia), rfl, _, rfl, ?_⟩
      rw [List.length_map, div2]
      refine ifNF rfl ?_
      refine ⟨_, rfl, I, rfl, ⟨_, hb1⟩, fun D hD => ?_⟩
      have hD0 : H D = none := s1.free hD
      refine lc_tup (K := K) (a := I) (xs := xs.map V.int) (fun j H' => Same H H' ∧ H' D = some (.lst ((List.replicate j true).map V.bl))) ?_ ?_ ?_ ?_
      · exact ⟨same_upd s1 hD0, upd_same⟩
      · intro j H' _ k
        exact sqT_sm k.1 hb
      · rintro j x H1 hx ⟨k1, e1⟩
        rw [List.getElem?_map] at hx
        have jl : j < xs.length := by
          cases hj : xs[j]? with
          | none => rw [hj] at hx; cases hx
          | some n => exact (List.getElem?_eq_some_iff.mp hj).1
        rw [List.getElem?_eq_getElem jl] at hx
        cases hx
        dsimp only [gName]
        dsimp only [tYes]
        rw [if_pos rfl]
        refine ⟨rfl, _, rfl, xs[j], rfl, x32 _ (List.getElem_mem jl), _, e1, by rw [List.length_map, List.length_replicate, sizeLine_eq]; omega, same_upd k1 hD0, ?_⟩
        rw [upd_same, List.replicate_succ', List.map_append]
        rfl
      · rintro H2 ⟨k1, e2⟩
        refine ⟨D, _, rfl, .inl (.inl e2), _, rfl, ?_⟩
        have ea : (List.replicate (xs.map V.int).length true).all id = true := by
          rw [List.all_eq_true]
          intro x hx
          rw [List.eq_of_mem_replicate hx]
          rfl
        rw [ea]
        refine ifF rfl ?_
        have hb2 := sqT_sm k1 hb
        clear e2 ea hD hD0 s1 hb1
        refine ⟨_, rfl, _, rfl, _, rfl, fun x dx nx ndx ne => ?_⟩
        have s2 := same_new (o := .own x) ndx
        have nx2 : upd H2 dx (.own x) x = none := (upd_ne ne.symm).trans nx
        have s3 := same_new (o := .ins (He.ga K "Machine") dx []) nx2
        have s13 := (k1.trans s2).trans s3
        have nx0 : H x = none := k1.free nx
        refine ⟨x, dx, .ref la, nb, most, rfl, upd_same, by omega, fun H4 bl tl jl k4 b0 t0 j0 nd eo eb et ej => ⟨rfl, ?_⟩⟩
        have s4 : Same H H4 := fun c o e => k4 _ _ (s13 _ _ e) fun z => by
          rw [z, nx0] at e
          cases e
        obtain ⟨G, hG⟩ : ∃ G : GM, G = ⟨x, dx, bl, jl, tl, [], [], []⟩ := ⟨_, rfl⟩
        have pr : PrAt K (L ++ [qp]) nb H H H4 (.ref la) (most : Nat) .non G 0 := by
          rw [hG]
          refine ⟨⟨s4, nd, fun y hy => ?_⟩, Same.refl _, (fun g hg => nomatch hg), ⟨.nil, (fun x hx => nomatch hx), fun j hj => nomatch hj⟩, Nat.le_refl _, Nat.zero_le _, by decide, n5, dl⟩
          simp only [mP, mG, List.flatMap_nil, List.mem_cons, List.not_mem_nil, or_false] at hy
          rcases hy with rfl | rfl | rfl | rfl
          · exact ⟨eo, nx0⟩
          · exact ⟨eb, s13.free b0⟩
          · exact ⟨ej, s13.free j0⟩
          · exact ⟨et, s13.free t0⟩
        have oG : x = G.o := by rw [hG]
        have dG : dx = G.dx := by rw [hG]
        have js0 : G.js = [] := by rw [hG]
        have mc0 : G.mc = MC.zero := by rw [hG]; rfl
        rw [oG]
        clear hG eo eb et ej nd k4 b0 t0 j0 nx2 s3 s13 nx s2 ndx ne nx0
        dsimp only [gName, List.set]
        refine ⟨_, rfl, G.o, G.dx, _, rfl, pr.self, mh_nom (by decide +kernel), _, rfl, la, _, rfl, .inr (sqT_sm s4 hla), _, _, rfl, rfl, _, rfl, I, _, rfl, .inr (sqT_sm s4 hb), fun N nN => ?_⟩
        have s6 := same_new (o := .lst (xs.map V.int)) nN
        have pr6 := pr.sm s6
        have el : ((lvs.length : Nat) : Int) - 1 = ((L.length : Nat) : Int) := by rw [llv]; omega
        refine ⟨H, H, .ref la, .non, (most : Nat), G, 0, _, L.length, N, qp, xs, none, (by rw [← el]; rfl), pr6, by rw [js0]; exact Nat.le_refl _, lo, e1, upd_same, pr.ow.off nN, lq, l3, x32, (fun p hp => nomatch hp), fun H7 G7 p7 o7 c7 => ?_⟩
        rw [mc0] at c7
        have eo7 := p7.self
        rw [o7] at eo7
        refine ⟨_, rfl, G.o, _, _, rfl, eo7, mh_nom (by decide +kernel), H, H, .ref la, most, G7, t, e, k, (by rw [o7]; rfl), p7, m2, lo, by rw [c7]; exact rn, fun H8 G8 fv left m8 p8 o8 et ev => ?_⟩
        have eo8 := p8.self
        rw [o8, o7] at eo8
        obtain ⟨a8, rfl⟩ := ref_of_le ev
        refine ⟨_, rfl, G.o, _, _, _, _, rfl, eo8, T.cl_Machine, T.no_Machine_told, mhF_told .., G8.tl, _, rfl, .inl ⟨.of p8.tld, fun u nu => ?_⟩⟩
        have a1 := same_new (o := .tup (G8.told.map V.int)) nu
        refine ⟨_, rfl, G.o, _, _, _, _, rfl, a1 _ _ eo8, T.cl_Machine, T.no_Machine_finish, mhF_finish .., by rw [sizeLine_eq]; show 2 ≤ _; omega, fun v nv => ?_⟩
        have a2 := same_new (o := .tup [.ref u, .ref a8]) nv
        rw [et] at a1 a2 ⊢
        exact q _ _ ((p8.hd.trans a1).trans a2) (.tup (.of upd_same) (.cons (.tup (.of (a2 _ _ upd_same)) ints_dp) (.cons (dp_sm (a1.trans a2) ev) .nil)))
end

/-! texts that may be shown; what repr gives -/
theorem strOk_of (s : String) : PyData.strOk (Str.ofString s) = true := by
  unfold PyData.strOk
  rw [Str.ofString_eq_toList]
  show ((s.toList.map Char.toNat).toArray.all fun x => decide (x < 0x110000)) = true
  rw [List.all_toArray, List.all_eq_true]
  intro x hx
  obtain ⟨ch, _, rfl⟩ := List.mem_map.mp hx
  refine decide_eq_true ?_
  rcases ch.valid with h | h
  · have : ch.toNat < 0xd800 := h
    omega
  · exact h.2
theorem strOk_app {a b : Str} (h : PyData.strOk a = true) (k : PyData.strOk b = true) : PyData.strOk (a ++ b) = true := by
  unfold PyData.strOk at *
  show ((a.cps ++ b.cps).all fun x => decide (x < 0x110000)) = true
  rw [Array.all_append, h, k]
  rfl
theorem ints_okdL {l : List Int} (h : ∀ a ∈ l, In32 a) : OkdL 0 (41 * l.length) (l.map PyData.int) := all_okd (f := PyData.int) (w := 40) fun x hx => Okd.int (h x hx)
theorem ints_shapedL (a : List Int) : SeqAt.shaped (.list (a.map PyData.int)) = true := by
  have h : PyData.canLayAll0 (a.map PyData.int) = true ∧ PyData.depthAll (a.map PyData.int) = 0 := by
    induction a with
    | nil => exact ⟨by simp only [List.map_nil, PyData.canLayAll0], by simp only [List.map_nil, PyData.depthAll]⟩
    | cons x r ih => exact ⟨by simp only [List.map_cons, PyData.canLayAll0, PyData.canLay0, ih.1]; rfl, by simp only [List.map_cons, PyData.depthAll, PyData.depth, ih.2]; rfl⟩
  unfold SeqAt.shaped
  simp only [PyData.canLay0, PyData.depth, h.1, h.2]
  rfl
theorem Okd.rep {H : Hp} {K : PySem.W.Frag} {n m : Nat} {v : V} {ds : List PyData} {Q : VK} (h : Okd n m (.tuple ds)) (hn : n ≤ 60) (hm : m ≤ 1000000) (d : Dp K H v (.tuple ds)) (q : Q (.str (PyData.tuple ds).shown) H) : rRepr K [v] H Q :=
  ⟨v, ds, rfl, d, h.1, h.2.1, Nat.le_trans h.2.2.2.1 hn, (h.mono (Nat.le_refl _) hm).shown_len (by omega), q⟩

/-! what is found may be shown -/
def LE.Ok : LE → Prop
  | .gave n => In32 n
  | .fail n => n < 100
  | _ => True
theorem puts_told : ∀ {ins : List (Option NP)} {vs : List Int} {c : MC}, (putIns c ins vs).told = c.told
  | [], _, _ => by simp [putIns]
  | some p :: r, [], _ => by simp [putIns]
  | none :: r, [], _ => by simp [putIns]
  | some p :: r, x :: xs, c => by
    unfold putIns
    rw [puts_told]
    obtain ⟨bx, js, told⟩ := c
    cases p <;> cases js <;> rfl
  | none :: r, x :: xs, c => by
    unfold putIns
    exact puts_told
theorem enter_told {c : MC} {q : LP} {ans : Option NP} {vs : List Int} : (c.enter q ans vs).told = c.told := puts_told
theorem gets_told {c : MC} {x : Int} {p : NP} : (c.gets x p).told = c.told := by
  obtain ⟨bx, js, told⟩ := c
  cases p <;> cases js <;> rfl
theorem setT_told {c : MC} {t : Nat} {l : List Int} : (c.setT t l).told = c.told := by
  obtain ⟨bx, js, told⟩ := c
  cases js <;> rfl
theorem goto_told {c : MC} {k : Nat} : (c.goto k).told = c.told := by
  obtain ⟨bx, js, told⟩ := c
  cases js <;> rfl
theorem next_told {c : MC} : c.next.told = c.told := by
  obtain ⟨bx, js, told⟩ := c
  cases js <;> rfl
/-- what was told grows by one number at most -/
theorem Stp.told {L : List LP} {nb : Nat} {c c' : MC} {r : LR} {e : Option LE} (h : c.Ok L nb) (ro : RowOk nb r) (s : Stp L c r c' e) : (c'.told = c.told ∨ ∃ x, In32 x ∧ c'.told = c.told ++ [x]) ∧ ∀ l, e = some l → l.Ok ∧ l ≠ .on := by
  cases s with
  | num => exact ⟨.inl gets_told, fun l z => nomatch z⟩
  | no => exact ⟨.inl gets_told, fun l z => nomatch z⟩
  | op => exact ⟨.inl gets_told, fun l z => nomatch z⟩
  | op0 => exact ⟨.inl rfl, fun l z => by cases z; exact ⟨trivial, fun z => nomatch z⟩⟩
  | tell a => exact ⟨.inr ⟨_, (h.has a).1, rfl⟩, fun l z => nomatch z⟩
  | mv => exact ⟨.inl gets_told, fun l z => nomatch z⟩
  | sw => exact ⟨.inl (gets_told.trans gets_told), fun l z => nomatch z⟩
  | tmv => exact ⟨.inl setT_told, fun l z => nomatch z⟩
  | tsw => exact ⟨.inl (setT_told.trans setT_told), fun l z => nomatch z⟩
  | fresh => exact ⟨.inl setT_told, fun l z => nomatch z⟩
  | get => exact ⟨.inl gets_told, fun l z => nomatch z⟩
  | get0 => exact ⟨.inl rfl, fun l z => by cases z; exact ⟨trivial, fun z => nomatch z⟩⟩
  | put => exact ⟨.inl setT_told, fun l z => nomatch z⟩
  | put0 => exact ⟨.inl rfl, fun l z => by cases z; exact ⟨trivial, fun z => nomatch z⟩⟩
  | jump => exact ⟨.inl goto_told, fun l z => nomatch z⟩
  | cho => exact ⟨.inl goto_told, fun l z => nomatch z⟩
  | call => exact ⟨.inl enter_told, fun l z => nomatch z⟩
  | give0 a => exact ⟨.inl rfl, fun l z => by cases z; exact ⟨(h.has a).1, fun z => nomatch z⟩⟩
  | give => exact ⟨.inl gets_told, fun l z => nomatch z⟩
  | fail => exact ⟨.inl rfl, fun l z => by cases z; exact ⟨ro.2, fun z => nomatch z⟩⟩
theorem rn_told {L : List LP} {nb : Nat} (lo : LsOk nb L) : ∀ {n : Nat} {c : MC} {t : List Int} {e : LE} {k : Nat}, Rn L n c t e k → c.Ok L nb → (∀ x ∈ c.told, In32 x) → (∀ x ∈ t, In32 x) ∧ t.length ≤ c.told.length + k ∧ e.Ok ∧ k ≤ n
  | _, c, _, _, _, .zero, _, h => ⟨h, Nat.le_refl _, trivial, Nat.le_refl _⟩
  | _, c, _, _, _, .stop (e := e) hr st, ok, h => by
    obtain ⟨ht, he⟩ := Stp.told ok.next (ok.row lo hr) st
    rw [next_told] at ht
    refine ⟨fun x hx => ?_, ?_, (he _ rfl).1, by omega⟩
    · rcases ht with e | ⟨y, y32, e⟩
      · rw [e] at hx
        exact h x hx
      · rw [e] at hx
        rcases List.mem_append.mp hx with hx | hx
        · exact h x hx
        · rw [List.mem_singleton.mp hx]
          exact y32
    · rcases ht with e | ⟨y, _, e⟩ <;> rw [e]
      · omega
      · rw [List.length_append, List.length_singleton]
        exact Nat.le_refl _
  | _, c, _, _, _, .go hr st rn, ok, h => by
    obtain ⟨ht, _⟩ := Stp.told ok.next (ok.row lo hr) st
    rw [next_told] at ht
    obtain ⟨a, b, d, f⟩ := rn_told lo rn (Stp.ok lo ok.next (ok.row lo hr) st) (fun x hx => by
      rcases ht with e | ⟨y, y32, e⟩
      · rw [e] at hx
        exact h x hx
      · rw [e] at hx
        rcases List.mem_append.mp hx with hx | hx
        · exact h x hx
        · rw [List.mem_singleton.mp hx]
          exact y32)
    refine ⟨a, Nat.le_trans b ?_, d, by omega⟩
    rcases ht with e | ⟨y, _, e⟩ <;> rw [e]
    · omega
    · rw [List.length_append, List.length_singleton]
      omega
theorem zero_ok {L : List LP} {nb : Nat} : MC.Ok L nb MC.zero := ⟨.nil, (fun x hx => nomatch hx), fun j hj => nomatch hj⟩
theorem LE.okd {e : LE} (h : e.Ok) : Okd 1 100 e.d := by
  cases e with
  | gave n => exact (Okd.tup (OkdL.cons (n := 0) (Okd.kw (z := "gave") (by decide +kernel) (by decide +kernel)) (OkdL.cons (Okd.int h) (OkdL.nil (w := 0))))).mono (by decide) (by decide)
  | place => exact (Okd.tup (OkdL.cons (n := 0) (Okd.kw (z := "fault") (by decide +kernel) (by decide +kernel)) (OkdL.cons (Okd.kw (z := "place") (by decide +kernel) (by decide +kernel)) (OkdL.nil (w := 0))))).mono (by decide) (by decide)
  | div => exact (Okd.tup (OkdL.cons (n := 0) (Okd.kw (z := "fault") (by decide +kernel) (by decide +kernel)) (OkdL.cons (Okd.kw (z := "division") (by decide +kernel) (by decide +kernel)) (OkdL.nil (w := 0))))).mono (by decide) (by decide)
  | fail n =>
    have hn : n < 100 := h
    obtain ⟨tl1, tl2⟩ := ten_len (n : Nat) (by omega) (by omega)
    have l5 : (("fail " : Str)).length = 5 := by decide +kernel
    have lf : (failT (n : Nat)).length ≤ 8 := by
      have : (failT (n : Nat)).length = ("fail " : Str).length + (Str.ofString (toString ((n : Nat) : Int))).length := PySem.Str.length_append _ _
      omega
    exact (Okd.tup (OkdL.cons (n := 0) (Okd.kw (z := "fault") (by decide +kernel) (by decide +kernel)) (OkdL.cons (Okd.kw (strOk_app (by decide +kernel) (strOk_of _)) lf) (OkdL.nil (w := 0))))).mono (by decide) (by decide)
  | on => exact (Okd.tup (OkdL.cons (n := 0) (Okd.kw (z := "on") (by decide +kernel) (by decide +kernel)) (OkdL.nil (w := 0)))).mono (by decide) (by decide)
theorem fndD_okd {t : List Int} {e : LE} (h : ∀ x ∈ t, In32 x) (l : t.length ≤ 3000) (es : e.Ok) : Okd 2 200000 (fndD t e) := by
  have h1 : Okd 1 123000 (.tuple (t.map PyData.int)) := (Okd.tup (ints_okdL h)).mono (Nat.le_refl _) (by omega)
  exact (Okd.tup (OkdL.cons h1 (OkdL.cons (LE.okd es) (OkdL.nil (w := 0))))).mono (Nat.le_refl _) (by decide)

/-! the long loop -/
def longP (many : Nat) : LP := ⟨[], 0, [.num 0 (many : Nat), .num 1 1, .cho 0 3 5, .op "sub" 0 0 1, .jump 2, .tell 0, .give 1]⟩
def lgC (q : LP) (z : Int) (at_ : Nat) (t : List Int) : MC := ⟨[(0, z), (1, 1)], [⟨q, at_, [], [], none⟩], t⟩
section
variable {L : List LP} {many : Nat}
theorem lg_enter {q : LP} (h : q.ins = []) : MC.zero.enter q none [] = ⟨[], [⟨q, 0, [], [], none⟩], []⟩ := by
  unfold MC.enter
  rw [h]
  rfl
theorem rck_sub1 (z : Nat) (h : z < 100000) : rck "sub" ((z + 1 : Nat) : Int) 1 = some (z : Nat) := by
  have h1 : ¬ ("sub" : Str) = "add" := by decide +kernel
  unfold rck
  rw [if_neg h1, if_pos rfl]
  congr 1
  unfold wr
  omega
/-- one turn: three rows -/
theorem lg_turn {z n k : Nat} {t : List Int} {e : LE} (hz : z < 100000) (h : Rn L n (lgC (longP many) (z : Nat) 2 []) t e k) : Rn L (n + 3) (lgC (longP many) ((z + 1 : Nat) : Int) 2 []) t e (k + 3) := by
  have ne : ¬ ((z + 1 : Nat) : Int) = 0 := by omega
  have s1 : Stp L (lgC (longP many) ((z + 1 : Nat) : Int) 2 []).next (.cho 0 3 5) (lgC (longP many) ((z + 1 : Nat) : Int) 3 []) none := by
    have := Stp.cho (L := L) (c := (lgC (longP many) ((z + 1 : Nat) : Int) 2 []).next) (b := 0) (r1 := 3) (r2 := 5) (x := ((z + 1 : Nat) : Int)) rfl
    rw [if_neg ne] at this
    exact this
  have s2 : Stp L (lgC (longP many) ((z + 1 : Nat) : Int) 3 []).next (.op "sub" 0 0 1) (lgC (longP many) (z : Nat) 4 []) none := Stp.op (x := ((z + 1 : Nat) : Int)) (y := 1) rfl rfl (rck_sub1 z hz)
  have s3 : Stp L (lgC (longP many) (z : Nat) 4 []).next (.jump 2) (lgC (longP many) (z : Nat) 2 []) none := Stp.jump
  exact .go (r := .cho 0 3 5) rfl s1 (.go (r := .op "sub" 0 0 1) rfl s2 (.go (r := .jump 2) rfl s3 h))
theorem lg_end : Rn L 3 (lgC (longP many) 0 2 []) [0] (.gave 1) 3 := by
  have s1 : Stp L (lgC (longP many) 0 2 []).next (.cho 0 3 5) (lgC (longP many) 0 5 []) none := by
    have := Stp.cho (L := L) (c := (lgC (longP many) 0 2 []).next) (b := 0) (r1 := 3) (r2 := 5) (x := 0) rfl
    rw [if_pos rfl] at this
    exact this
  have s2 : Stp L (lgC (longP many) 0 5 []).next (.tell 0) (lgC (longP many) 0 6 [0]) none := Stp.tell (x := 0) rfl
  have s3 : Stp L (lgC (longP many) 0 6 [0]).next (.give 1) ⟨[(0, 0), (1, 1)], [], [0]⟩ (some (.gave 1)) := Stp.give0 (x := 1) rfl rfl
  exact .go (r := .cho 0 3 5) rfl s1 (.go (r := .tell 0) rfl s2 (.stop (r := .give 1) rfl s3))
theorem lg_all : ∀ z : Nat, z < 100000 → Rn L (3 * z + 3) (lgC (longP many) (z : Nat) 2 []) [0] (.gave 1) (3 * z + 3)
  | 0, _ => lg_end
  | z + 1, h => by
    have := lg_turn (by omega) (lg_all z (by omega))
    rw [show 3 * (z + 1) + 3 = 3 * z + 3 + 3 by omega]
    exact this
theorem lg_on : ∀ k z : Nat, k ≤ z → z < 100000 → Rn L (3 * k) (lgC (longP many) (z : Nat) 2 []) [] .on (3 * k)
  | 0, z, _, _ => .zero
  | k + 1, 0, h, _ => by omega
  | k + 1, z + 1, h, hz => by
    have := lg_turn (by omega) (lg_on k z (by omega) (by omega))
    rw [show 3 * (k + 1) = 3 * k + 3 by omega]
    exact this
theorem lg_begin {n k : Nat} {t : List Int} {e : LE} (h : Rn L n (lgC (longP many) (many : Nat) 2 []) t e k) : Rn L (n + 2) (MC.zero.enter (longP many) none []) t e (k + 2) := by
  rw [lg_enter rfl]
  have s1 : Stp L (⟨[], [⟨longP many, 0, [], [], none⟩], []⟩ : MC).next (.num 0 (many : Nat)) ⟨[(0, (many : Nat))], [⟨longP many, 1, [], [], none⟩], []⟩ none := Stp.num
  have s2 : Stp L (⟨[(0, (many : Nat))], [⟨longP many, 1, [], [], none⟩], []⟩ : MC).next (.num 1 1) (lgC (longP many) (many : Nat) 2 []) none := Stp.num
  exact .go (r := .num 0 (many : Nat)) rfl s1 (.go (r := .num 1 1) rfl s2 h)
end
theorem lg_6665 {L : List LP} : Rn L 20000 (MC.zero.enter (longP 6665) none []) [0] (.gave 1) 20000 := lg_begin (lg_all 6665 (by decide))
theorem lg_6666 {L : List LP} : Rn L 20000 (MC.zero.enter (longP 6666) none []) [] .on 20000 := lg_begin (lg_on 6666 6666 (Nat.le_refl _) (by decide))
theorem long_ok {nb many : Nat} (nb2 : 2 ≤ nb) (h : many < 100000) : LsOk nb ([] ++ [longP many]) := by
  have non : ∀ {r : LR}, r.gv = [] → r.fine → RowOk nb r := fun g f => ⟨(fun p hp => by rw [g] at hp; exact absurd hp List.not_mem_nil), f⟩
  refine ⟨fun q hq r hr => ?_, fun q hq o ho => ?_, fun q hq => ?_⟩
  · rw [List.mem_singleton.mp hq] at hr
    simp only [longP, List.mem_cons, List.not_mem_nil, or_false] at hr
    rcases hr with rfl | rfl | rfl | rfl | rfl | rfl | rfl
    · exact ⟨fun p hp => List.mem_singleton.mp hp ▸ (show 0 < nb by omega), by show In32 _; unfold In32; omega⟩
    · exact ⟨fun p hp => List.mem_singleton.mp hp ▸ (show 1 < nb by omega), by show In32 _; unfold In32; omega⟩
    · exact non rfl trivial
    · exact ⟨fun p hp => List.mem_singleton.mp hp ▸ (show 0 < nb by omega), by show ("sub" : Str) ∈ wds; decide +kernel⟩
    · exact non rfl trivial
    · exact non rfl trivial
    · exact non rfl trivial
  · rw [List.mem_singleton.mp hq] at ho
    exact nomatch ho
  · rw [List.mem_singleton.mp hq]
    exact Nat.zero_le _
section
variable {P : Program} {w : World} {K : PySem.W.Frag} {mg : Str → Option Value} {base : Heap}
def sp_numbers (K : PySem.W.Frag) : Sp := fun vs H Q _ => ∃ (c : Int) (many : Nat), vs = [.int c, .int (many : Nat)] ∧ many ≤ 1000 ∧ ∀ (H' : Hp) (D : Addr) (xs : List Int), Same H H' → H' D = some (.lst (xs.map V.int)) → xs.length = many → (∀ x ∈ xs, In32 x) → Q (.ref D) H'
theorem ok__law_numbers (T : Top K mg) : FnOk P w K mg base CX0 4 (He.ga K "_law_numbers") T.fd__law_numbers ["_law_cell", "_law_many"] (sp_numbers K) := by
  have G__law_state := ok__law_state (P := P) (w := w) (base := base) T
  have G__law_number := ok__law_numD (P := P) (w := w) (base := base) T
  refine T.F__law_numbers.ok sc__law_numbers (fun vs H Q E h => ?_) (fun cdv A0 outer s0 H vs Q E hr h => ?_)
  · obtain ⟨c, many, rfl, _⟩ := h
    rfl
  · obtain ⟨c, many, rfl, m3, q⟩ := h
    refine ⟨_, PSs.nox (pss_cons (ps_set (i := 2) sc__law_numbers.nd rfl (Or.inr rfl) (pe_call G__law_state (hr.mono (by omega)) (by rfl) T.g__law_state T.F__law_state.kp T.b__law_state .nil pass0 (pa_cons (pv 0) (pa_cons pe_int pa_nil))))
        (pss_one (ps_ret (pe_lc (own := [("_law_turn", 3)]) (by rfl) sc__law_numbers.nd (pi_range1 (by rfl) T.m_range (pa_cons (pv 1) pa_nil)) (blkOk_by (own := [("_law_turn", 3)]) (N := N__law_numbers) (sc := defScope s__law_numbers) (by decide +kernel)) (fun _ _ _ _ _ => (pg_name (i := 3) sc__law_numbers.nd rfl (Or.inl rfl))) (fun _ _ _ _ _ => pts_nil) (fun _ _ _ _ _ => (pe_call G__law_number (hr.mono (by omega)) (by rfl) T.g__law_number T.F__law_number.kp T.b__law_number .nil pass0 (pa_cons (pv 2) pa_nil))))))), ?_⟩
    refine ⟨_, rfl, c, 6, rfl, fun H1 A s s1 nA ws tA _ _ => ?_⟩
    obtain ⟨f, ds⟩ := ws.dsv tA
    have nd : H A.d = none := nA _ (own_d A)
    generalize A.d = d at ds nd ⊢
    dsimp only [gName, List.set]
    refine ⟨_, rfl, _, rfl, by omega, by omega, fun D nD => ?_⟩
    refine lc_range (lo := 0) (n := ((many : Nat) : Int).toNat) (fun i H' => ∃ xs : List Int, Kp (fun b => b = d) H1 H' ∧ DSv H' d 8 f ∧ H' D = some (.lst (xs.map V.int)) ∧ xs.length = i ∧ ∀ x ∈ xs, In32 x) ?_ ?_ ?_
    · exact ⟨[], Kp.of_same (same_new nD), ds.sm (same_new nD), upd_same, rfl, fun x hx => nomatch hx⟩
    · rintro i H' hi ⟨xs, k1, d1, e1, l1, x1⟩
      dsimp only [gName]
      dsimp only [tYes]
      rw [if_pos rfl]
      have nDd : D ≠ d := ds.neL nD
      refine ⟨rfl, _, rfl, d, 8, f, rfl, d1, fun H2 r k2 d2 r32 => ⟨_, k2 _ _ e1 fun y => absurd y nDd, by rw [List.length_map, sizeLine_eq]; omega, ?_⟩⟩
      have e2 := k2 _ _ e1 fun y => absurd y nDd
      have nD1 : H1 D = none := nD
      have kD : Kp (fun b => b = D) H2 (upd H2 D (.lst (xs.map V.int ++ [.int r]))) := Kp.upd e2 trivial rfl
      refine ⟨xs ++ [r], ?_, d2.kp kD nDd.symm, ?_, by simp [l1], fun x hx => ?_⟩
      · intro b o eb z
        refine kD b o ((k1.trans k2) b o eb z) fun y => ?_
        rw [y, nD1] at eb
        cases eb
      · rw [upd_same, List.map_append]
        rfl
      · rcases List.mem_append.mp hx with hx | hx
        · exact x1 x hx
        · rw [List.mem_singleton.mp hx]
          exact r32
    · rintro H' ⟨xs, k1, d1, e1, l1, x1⟩
      exact q H' D xs (same_kd s1 k1 nd) e1 (by rw [l1]; omega) x1
def sp_long (K : PySem.W.Frag) : Sp := fun vs H Q _ => ∃ many : Nat, vs = [.int (many : Nat)] ∧ ∀ H' v, Same H H' → Dp K H' v (insL ([] ++ [longP many])) → Q v H'
theorem ok__law_long_loop (T : Top K mg) : FnOk P w K mg base CX0 1 (He.ga K "_law_long_loop") T.fd__law_long_loop ["_law_many"] (sp_long K) := by
  refine T.F__law_long_loop.ok sc__law_long_loop (fun vs H Q E h => ?_) (fun cdv A0 outer s0 H vs Q E hr h => ?_)
  · obtain ⟨many, rfl, _⟩ := h
    rfl
  · obtain ⟨many, rfl, q⟩ := h
    refine ⟨_, PSs.nox (pss_cons (ps_set (i := 1) sc__law_long_loop.nd rfl (Or.inl rfl) (pe_tup (pa_cons (pe_tup (pa_cons pe_str (pa_cons pe_int (pa_cons (pv 0) pa_nil)))) (pa_cons (pe_tup (pa_cons pe_str (pa_cons pe_int (pa_cons pe_int pa_nil)))) (pa_cons (pe_tup (pa_cons pe_str (pa_cons pe_int (pa_cons pe_int (pa_cons pe_int pa_nil))))) (pa_cons (pe_tup (pa_cons pe_str (pa_cons pe_int (pa_cons pe_int (pa_cons pe_int pa_nil))))) (pa_cons (pe_tup (pa_cons pe_str (pa_cons pe_int pa_nil))) (pa_cons (pe_tup (pa_cons pe_str (pa_cons pe_int pa_nil))) pa_nil))))))))
        (pss_one (ps_ret (pe_tup (pa_cons (pe_tup (pa_cons (pe_tup pa_nil) (pa_cons pe_int (pa_cons pe_int (pa_cons (pe_op op_catA (pv 1) (pe_tup (pa_cons (pe_tup (pa_cons pe_str (pa_cons pe_int pa_nil))) pa_nil))) pa_nil))))) pa_nil))))), ?_⟩
    have row : ∀ {σ : L2.St} {z : Str} {a b : Int}, Md K H σ (.tuple [.str z, .int a, .int b]) (tTup (tCons (tC (.str z)) (tCons (tC (.int a)) (tCons (tC (.int b)) tNil)))) := md_tup (mds_cons md_str (mds_cons md_int (mds_cons md_int mds_nil)))
    have rows : Mds K H (L2.start N__law_long_loop [V.int (many : Nat)]) ([.num 0 (many : Nat), .num 1 1, .cho 0 3 5, .op "sub" 0 0 1, .jump 2, .tell 0].map LR.d) _ :=
      mds_cons (md_tup (mds_cons md_str (mds_cons md_int (mds_cons (md_var (i := 0) (d := .int (many : Nat)) rfl (.int _)) mds_nil)))) (mds_cons row (mds_cons (md_tup (mds_cons md_str (mds_cons md_int (mds_cons md_int (mds_cons md_int mds_nil))))) (mds_cons (md_tup (mds_cons md_str (mds_cons md_int (mds_cons md_int (mds_cons md_int mds_nil))))) (mds_cons (md_tup (mds_cons md_str (mds_cons md_int mds_nil))) (mds_cons (md_tup (mds_cons md_str (mds_cons md_int mds_nil))) mds_nil)))))
    refine st_asg (md_tup rows (by simp) H _ (Same.refl _) fun H1 x1 s1 d1 => ?_)
    dsimp only [gName, List.set]
    refine st_ret (md_tup (K := K) (H0 := H1) (ds := [(longP many).d]) (mds_cons (md_tup (mds_cons (md_tup mds_nil (by show 0 ≤ 1000; decide)) (mds_cons md_int (mds_cons md_int (mds_cons (md_by ?_) mds_nil))))) mds_nil) (by simp) H1 _ (Same.refl _) fun H' x s' d' => q H' x (s1.trans s') d')
    intro H2 Q2 s2 q2
    refine ⟨_, rfl, ?_⟩
    refine (md_tup (K := K) (H0 := H2) (ds := [(LR.give 1).d]) (mds_cons (md_tup (mds_cons md_str (mds_cons md_int mds_nil))) mds_nil)) H2 _ (Same.refl _) fun H3 y s3 d3 => ?_
    obtain ⟨a, xs, rfl, ha, dx⟩ := dp_tup (dp_sm (s2.trans s3) d1)
    obtain ⟨b, ys, rfl, hb, dy⟩ := dp_tup d3
    have lx := dpAll_len dx
    have ly := dpAll_len dy
    have nx : xs ≠ [] := fun z => by rw [z] at lx; cases lx
    have ny : ys ≠ [] := fun z => by rw [z] at ly; cases ly
    refine ⟨a, b, xs, ys, rfl, rfl, ha, hb, by rw [lx, ly, sizeLine_eq]; show 6 + 1 ≤ _; omega, fun z => absurd z nx, fun _ z => absurd z ny, fun _ _ p np => ?_⟩
    have s4 := same_new (o := .tup (xs ++ ys)) np
    exact q2 _ _ (s3.trans s4) (.tup (.of upd_same) (dpAll_sm s4 (dpAll_app dx dy)))
end

section
variable {P : Program} {w : World} {K : PySem.W.Frag} {mg : Str → Option Value} {base : Heap}
def sp_law (K : PySem.W.Frag) : Sp := fun vs H Q _ => ∃ (a : Addr) (ns : List Int), vs = [.ref a] ∧ SqL K H a (ns.map V.int) ∧ ∀ H', Q (.bl true) H'
theorem law_start {K : PySem.W.Frag} {H : Hp} {a : Addr} {ns : List Int} (hl : ns.length ≤ 63) (hb : ∀ z ∈ ns, Builtin.Int.intBits z ≤ 1048576) (hS : SqL K H a (ns.map V.int)) : sp_law K [.ref a] H (fun v _ => v = .bl true) fun _ _ _ => False := ⟨a, ns, rfl, hS, fun _ => rfl⟩
/-- what was found, its first two parts -/
theorem due_parts {H : Hp} {v : V} {t : List Int} {e : LE} {k : Nat} (h : Dp K H v (endD t e k)) : ∃ p x y, v = .ref p ∧ SqT K H p [x, y, .int (k : Nat)] ∧ Dp K H x (.tuple (t.map PyData.int)) ∧ Dp K H y e.d := by
  obtain ⟨p, xs, rfl, hp, dq⟩ := dp_tup h
  obtain ⟨z0, w0, rfl, g0, u0⟩ := dpAll_cons dq
  obtain ⟨z1, w1, rfl, g1, u1⟩ := dpAll_cons u0
  obtain ⟨z2, w2, rfl, g2, u2⟩ := dpAll_cons u1
  cases u2
  cases dp_int g2
  exact ⟨p, z0, z1, rfl, hp, g0, g1⟩
theorem lastD_parts {H : Hp} {v : V} {L : List LP} {nb m : Nat} (h : Dp K H v (lastD L nb m)) : ∃ p x, v = .ref p ∧ SqT K H p [x, .int (nb : Nat), .int (m : Nat)] ∧ Dp K H x (insL L) := by
  obtain ⟨p, xs, rfl, hp, dq⟩ := dp_tup h
  obtain ⟨z0, w0, rfl, g0, u0⟩ := dpAll_cons dq
  obtain ⟨z1, w1, rfl, g1, u1⟩ := dpAll_cons u0
  obtain ⟨z2, w2, rfl, g2, u2⟩ := dpAll_cons u1
  cases u2
  cases dp_int g1
  cases dp_int g2
  exact ⟨p, z0, rfl, hp, g0⟩
theorem sl2 {x y z : V} {p : Addr} {H : Hp} {Q : VK} (h : SqT K H p [x, y, z]) (q : ∀ u, H u = none → Q (.ref u) (upd H u (.tup [x, y]))) : rSlA K (.ref p) none (some 2) H Q := by
  refine ⟨p, _, rfl, h, fun hz => ?_, fun _ u nu => ?_⟩
  · have e : HT.sIx ([x, y, z] : List V).length ([x, y, z] : List V).length (some (2 : Int)) = 2 := by
      rw [show (2 : Int) = ((2 : Nat) : Int) from rfl, HT.sIx_nat]
      rfl
    rw [e] at hz
    exact absurd hz.2 (by show ¬ 2 = 3; decide)
  · have e : cutV [x, y, z] none (some (2 : Int)) = [x, y] := cutV_to [x, y, z] 2
    rw [e]
    exact q u nu
theorem ok_law (T : Top K mg) : FnG P w K mg base CX0 100 (He.ga K "law") T.fd_law ["_law_script"] (sp_law K) := by
  have G__law_cell_at := ok__law_cell_at (P := P) (w := w) (base := base) T
  have G__law_last_by := ok__law_last_by (P := P) (w := w) (base := base) T
  have G__law_numbers := ok__law_numbers (P := P) (w := w) (base := base) T
  have G__law_last_played := ok__law_last_played (P := P) (w := w) (base := base) T
  have G__law_long_loop := ok__law_long_loop (P := P) (w := w) (base := base) T
  have G_played_last := ok_played_last (P := P) (w := w) (base := base) T
  refine FnG.mk' T.F_law sc_law (fun vs H Q E h => ?_) (fun cdv A outer s H vs Q E gd hr h => ?_)
  · obtain ⟨a, ns, rfl, _⟩ := h
    rfl
  · obtain ⟨a, ns, rfl, hS, q⟩ := h
    refine ⟨_, PSs.nox (pss_cons (ps_asg (pe_call G__law_last_by (hr.mono (by omega)) (by rfl) T.g__law_last_by T.F__law_last_by.kp T.b__law_last_by .nil pass0 (pa_cons (pe_call G__law_cell_at (hr.mono (by omega)) (by rfl) T.g__law_cell_at T.F__law_cell_at.kp T.b__law_cell_at .nil pass0 (pa_cons (pv 0) (pa_cons pe_int pa_nil))) (pa_cons pe_int pa_nil))) (pg_tup (n := 3) (by rfl) (pgs_cons (pg_name (i := 1) sc_law.nd rfl (Or.inl rfl)) (pgs_cons (pg_name (i := 2) sc_law.nd rfl (Or.inr rfl)) (pgs_cons (pg_name (i := 3) sc_law.nd rfl (Or.inl rfl)) pgs_nil)))))
        (pss_cons (ps_set (i := 4) sc_law.nd rfl (Or.inl rfl) (pe_call G__law_numbers (hr.mono (by omega)) (by rfl) T.g__law_numbers T.F__law_numbers.kp T.b__law_numbers .nil pass0 (pa_cons (pe_call G__law_cell_at (hr.mono (by omega)) (by rfl) T.g__law_cell_at T.F__law_cell_at.kp T.b__law_cell_at .nil pass0 (pa_cons (pv 0) (pa_cons pe_int pa_nil))) (pa_cons (pv 3) pa_nil))))
        (pss_cons (ps_set (i := 5) sc_law.nd rfl (Or.inl rfl) (pe_call G__law_last_played (hr.mono (by omega)) (by rfl) T.g__law_last_played T.F__law_last_played.kp T.b__law_last_played .nil pass0 (pa_cons (pv 1) (pa_cons (pv 2) (pa_cons (pv 4) (pa_cons pe_int pa_nil))))))
        (pss_cons (ps_set (i := 6) sc_law.nd rfl (Or.inl rfl) (pe_callTy call_list_of (by rfl) T.m_list (by decide +kernel) (pa_cons (pv 4) pa_nil)))
        (pss_cons (ps_if (PW.pt (pw_or (pt_cmpR op_ne (pe_callB (call_reprD gd hr) (by rfl) T.m_repr (by decide +kernel) (pa_cons (pe_call G_played_last (hr.mono (by omega)) (by rfl) T.g_played_last T.F_played_last.kp T.b_played_last.choose_spec.2 T.b_played_last.choose_spec.1 pass0 (pa_cons (pv 1) (pa_cons (pv 2) (pa_cons (pv 6) (pa_cons pe_int pa_nil))))) pa_nil)) (pe_callB (call_reprD gd hr) (by rfl) T.m_repr (by decide +kernel) (pa_cons (pe_slice sl_tupA (pv 5) po_none (po_some pe_int)) pa_nil)) (nomark _)) (pw_or1 (pt_cmpR (op_neD hr.units) (pv 6) (pv 4) (nomark _))))) (pss_one (ps_ret pe_bl)) pss_nil)
        (pss_cons (ps_set (i := 7) sc_law.nd rfl (Or.inl rfl) (pe_op op_mod (pe_call G__law_cell_at (hr.mono (by omega)) (by rfl) T.g__law_cell_at T.F__law_cell_at.kp T.b__law_cell_at .nil pass0 (pa_cons (pv 0) (pa_cons pe_int pa_nil))) (pe_op op_add (pe_ix ix_tup (pv 5) pe_int (fun _ _ => rfl)) pe_int)))
        (pss_cons (ps_for PassesOwn.never (by rfl) (pi_list (pe_lst (pa_cons (pe_ix ix_tup (pv 5) pe_int (fun _ _ => rfl)) (pa_cons (pe_op op_sub (pe_ix ix_tup (pv 5) pe_int (fun _ _ => rfl)) pe_int) (pa_cons pe_int (pa_cons (pv 7) pa_nil)))))) (pg_name (i := 8) sc_law.nd rfl (Or.inl rfl)) (pss_cons (ps_set (i := 9) sc_law.nd rfl (Or.inl rfl) (pe_call G__law_last_played (hr.mono (by omega)) (by rfl) T.g__law_last_played T.F__law_last_played.kp T.b__law_last_played .nil pass0 (pa_cons (pv 1) (pa_cons (pv 2) (pa_cons (pv 4) (pa_cons (pv 8) pa_nil))))))
        (pss_one (ps_if (pt_cmpR op_ne (pe_callB (call_reprD gd hr) (by rfl) T.m_repr (by decide +kernel) (pa_cons (pe_call G_played_last (hr.mono (by omega)) (by rfl) T.g_played_last T.F_played_last.kp T.b_played_last.choose_spec.2 T.b_played_last.choose_spec.1 pass0 (pa_cons (pv 1) (pa_cons (pv 2) (pa_cons (pe_callTy call_tuple_of (by rfl) T.m_tuple (by decide +kernel) (pa_cons (pv 4) pa_nil)) (pa_cons (pv 8) pa_nil))))) pa_nil)) (pe_callB (call_reprD gd hr) (by rfl) T.m_repr (by decide +kernel) (pa_cons (pe_slice sl_tupA (pv 9) po_none (po_some pe_int)) pa_nil)) (nomark _)) (pss_one (ps_ret pe_bl)) pss_nil))))
        (pss_cons (ps_if (pt_cmpR op_eq (pe_op op_mod (pe_call G__law_cell_at (hr.mono (by omega)) (by rfl) T.g__law_cell_at T.F__law_cell_at.kp T.b__law_cell_at .nil pass0 (pa_cons (pv 0) (pa_cons pe_int pa_nil))) pe_int) pe_int (nomark _)) (pss_cons (ps_setLc (i := 10) (own := [("_law_many", 3)]) (by rfl) sc_law.nd rfl rfl (sw_true rfl rfl rfl (by decide +kernel)) (pi_list (pe_lst (pa_cons pe_int (pa_cons pe_int pa_nil)))) (blkOk_by (own := [("_law_many", 3)]) (N := N_law) (sc := defScope s_law) (by decide +kernel)) (fun _ _ _ _ _ => (pg_name (i := 3) sc_law.nd rfl (Or.inl rfl))) (fun _ _ _ _ _ => pts_nil) (fun _ _ _ _ _ => (pe_call G_played_last (hr.mono (by omega)) (by rfl) T.g_played_last T.F_played_last.kp T.b3_played_last.choose_spec.2 T.b3_played_last.choose_spec.1 pass0 (pa_cons (pe_call G__law_long_loop (hr.mono (by omega)) (by rfl) T.g__law_long_loop T.F__law_long_loop.kp T.b__law_long_loop .nil pass0 (pa_cons (pv 3) pa_nil)) (pa_cons (pv 2) (pa_cons (pe_lst pa_nil) pa_nil))))))
        (pss_one (ps_if (pt_cmpR op_ne (pe_callB (call_reprL gd hr) (by rfl) T.m_repr (by decide +kernel) (pa_cons (pv 10) pa_nil)) (pe_callB (call_reprL gd hr) (by rfl) T.m_repr (by decide +kernel) (pa_cons (pe_lst (pa_cons (pe_tup (pa_cons (pe_tup (pa_cons pe_int pa_nil)) (pa_cons (pe_tup (pa_cons pe_str (pa_cons pe_int pa_nil))) pa_nil))) (pa_cons (pe_tup (pa_cons (pe_tup pa_nil) (pa_cons (pe_tup (pa_cons pe_str pa_nil)) pa_nil))) pa_nil))) pa_nil)) (nomark _)) (pss_one (ps_ret pe_bl)) pss_nil))) pss_nil)
        (pss_one (ps_ret (pe_cmpR op_eq (pe_callB (call_reprD gd hr) (by rfl) T.m_repr (by decide +kernel) (pa_cons (pe_call G_played_last (hr.mono (by omega)) (by rfl) T.g_played_last T.F_played_last.kp T.b3_played_last.choose_spec.2 T.b3_played_last.choose_spec.1 pass0 (pa_cons (pv 1) (pa_cons (pv 2) (pa_cons (pv 4) pa_nil)))) pa_nil)) (pe_callB (call_reprD gd hr) (by rfl) T.m_repr (by decide +kernel) (pa_cons (pe_slice sl_tupA (pv 5) po_none (po_some pe_int)) pa_nil)) (nomark _)))))))))))), ?_⟩
    have one : ∀ n : Nat, n ≤ 10000 → n ≤ sizeLine := fun n h => by rw [sizeLine_eq]; omega
    refine ⟨_, rfl, a, ns, 0, rfl, by decide, hS, cellA ns 0, 8, rfl, fun H1 v1 L nb qp s1 d1 ld nb2 nb5 => ?_⟩
    obtain ⟨p1, lv, rfl, h1, dl1⟩ := lastD_parts d1
    refine ⟨p1, _, rfl, h1, rfl, _, _, rfl, _, _, rfl, _, _, rfl, rfl, ?_⟩
    dsimp only [List.set]
    have lo := ld.ok nb2
    have lL : (L ++ [qp]).length ≤ 1000 := by have := ld.l; omega
    have e1 : (L ++ [qp])[L.length]? = some qp := by rw [List.getElem?_append_right (Nat.le_refl _), Nat.sub_self]; rfl
    have m3 := (ld.p _ _ e1).2.1
    have hS1 := s1.seq hS
    refine ⟨_, rfl, a, ns, 1, rfl, by decide, hS1, _, rfl, cellA ns 1, qp.ins.length, rfl, by omega, fun H2 pi xs s2 ei li i32 => ?_⟩
    dsimp only [gName, List.set]
    obtain ⟨k, t, e, k2, eon, ends⟩ := drawn_end ld (vs := xs) li
    have R := rn_ends ends
    have c0ok : MC.Ok (L ++ [qp]) nb (MC.zero.enter qp none xs) := MC.Ok.enter lo zero_ok (List.mem_of_getElem? e1) (fun p hp => by cases hp) i32
    have okr : ∀ {n t' e' k'}, Rn (L ++ [qp]) n (MC.zero.enter qp none xs) t' e' k' → k' ≤ 3000 → Okd 2 200000 (fndD t' e') := fun {n t' e' k'} rn hk => by
      obtain ⟨b1, b2, b3, b4⟩ := rn_told lo rn c0ok (by rw [enter_told]; exact fun x hx => nomatch hx)
      rw [enter_told] at b2
      have : t'.length ≤ 0 + k' := b2
      exact fndD_okd b1 (by omega) b3
    have any : ∀ n, n ≤ 3000 → ∃ t' e' k', Rn (L ++ [qp]) n (MC.zero.enter qp none xs) t' e' k' ∧ k' ≤ 3000 := fun n hn => by
      by_cases c : k ≤ n
      · exact ⟨t, e, k, (R n).2.1 c, by omega⟩
      · obtain ⟨t', h⟩ := (R n).2.2 (by omega)
        exact ⟨t', .on, n, h, hn⟩
    have two : ∀ {H H' : Hp} {n t' e' k'} {p : Addr} {x y : V}, Rn (L ++ [qp]) n (MC.zero.enter qp none xs) t' e' k' → SqT K H p [x, y, .int (k' : Nat)] → True := fun _ _ => trivial
    have dl2 := dp_sm s2 dl1
    refine ⟨_, rfl, _, rfl, _, rfl, lv, .int (nb : Nat), pi, L, nb, 2000, qp, xs, t, e, k, rfl, dl2, ei, li.symm, i32, lo, lL, nb5, by decide, (R 2000).2.1 k2, fun H3 v3 s3 d3 => ?_⟩
    obtain ⟨t3, x3, y3, rfl, h3, dx3, dy3⟩ := due_parts d3
    dsimp only [gName, List.set]
    refine ⟨_, rfl, pi, _, rfl, .inl (.of (s3 _ _ ei)), fun Lh nLh => ?_⟩
    have s4 := same_new (o := .lst (xs.map V.int)) nLh
    have eh4 : upd H3 Lh (.lst (xs.map V.int)) Lh = some (.lst (xs.map V.int)) := upd_same
    generalize upd H3 Lh (.lst (xs.map V.int)) = H4 at s4 eh4 ⊢
    have s34 := s3.trans s4
    dsimp only [gName, List.set]
    refine ⟨_, rfl, _, rfl, _, rfl, lv, Lh, L, nb, 2000, qp, xs, t, e, k, rfl, dp_sm s34 dl2, .inl (.of eh4), li.symm, i32, lo, lL, nb5, by decide, (R 2000).2.1 k2, fun H5 v5 s5 d5 => ?_⟩
    have ok0 := okr ((R 2000).2.1 k2) (by omega)
    dsimp only [tNil]
    refine ok0.rep (by decide) (by decide) d5 ?_
    have h35 := sqT_sm (s4.trans s5) h3
    refine ⟨_, rfl, 2, rfl, sl2 h35 fun p6 np6 => ?_⟩
    have s6 := same_new (o := .tup [x3, y3]) np6
    have s46 := (s4.trans s5).trans s6
    have s26 := s3.trans s46
    have d6 : Dp K (upd H5 p6 (.tup [x3, y3])) (.ref p6) (fndD t e) := .tup (.of upd_same) (.cons (dp_sm s46 dx3) (.cons (dp_sm s46 dy3) .nil))
    dsimp only [tNil]
    refine ok0.rep (by decide) (by decide) d6 ?_
    refine ne_use rfl rfl ?_
    refine ⟨_, rfl, ifF rfl ?_⟩
    have eh6 := s6 _ _ (s5 _ _ eh4)
    generalize upd H5 p6 (.tup [x3, y3]) = H6 at s6 s46 s26 d6 eh6 ⊢
    have ei6 := s26 _ _ ei
    refine ⟨_, rfl, _, rfl, _, _, .lst (.inl (.of eh6)) ints_dp, .lst (.inl (.of ei6)) ints_dp, ints_shapedL xs, ints_shapedL xs, _, rfl, ?_⟩
    rw [SeqAt.eqv_refl _ (SeqAt.canLay_of_shaped (ints_shapedL xs))]
    refine ifF rfl ?_
    have k0 := (R 0).1
    refine ⟨_, rfl, a, ns, 2, rfl, by decide, s26.seq (s2.seq hS1), _, rfl, t3, _, 2, _, rfl, rfl, sqT_sm s46 h3, atI_nat (j := 2) rfl, _, _, rfl, rfl, _, _, rfl, rfl, (by show (0 : Int) < (k : Int) + 2; omega), ?_⟩
    have b1 := Int.emod_nonneg (cellA ns 2) (b := (k : Int) + 2) (by omega)
    have b2 := Int.emod_lt_of_pos (cellA ns 2) (b := (k : Int) + 2) (by omega)
    obtain ⟨M, eM⟩ : ∃ M : Nat, cellA ns 2 % ((k : Int) + 2) = M := ⟨(cellA ns 2 % ((k : Int) + 2)).toNat, by omega⟩
    dsimp only [gName, List.set]
    rw [eM]
    have M4 : M ≤ k + 1 := by omega
    have h36 := sqT_sm s46 h3
    refine ⟨_, rfl, t3, _, 2, _, rfl, rfl, h36, atI_nat (j := 2) rfl, _, rfl, t3, _, 2, _, rfl, rfl, h36, atI_nat (j := 2) rfl, _, _, rfl, rfl, _, rfl, one 4 (by decide), fun Z nZ => ?_⟩
    have zk : ((k : Nat) : Int) - 1 = ((k - 1 : Nat) : Int) := by omega
    obtain ⟨zs, hzs⟩ : ∃ zs : List V, zs = [V.int (k : Nat), .int ((k : Nat) - 1), .int 0, .int (M : Nat)] := ⟨_, rfl⟩
    have zat : ∀ {i : Nat} {x : V}, zs[i]? = some x → ∃ n : Nat, n ≤ 3000 ∧ x = .int (n : Nat) := fun {i x} hx => by
      have hm := List.mem_of_getElem? hx
      rw [hzs] at hm
      simp only [List.mem_cons, List.not_mem_nil, or_false] at hm
      rcases hm with rfl | rfl | rfl | rfl
      · exact ⟨k, by omega, rfl⟩
      · exact ⟨k - 1, by omega, by rw [zk]⟩
      · exact ⟨0, by omega, rfl⟩
      · exact ⟨M, by omega, rfl⟩
    have s7 : Same H6 (upd H6 Z (.lst zs)) := same_new nZ
    have e7 : upd H6 Z (.lst zs) Z = some (.lst zs) := upd_same
    refine ⟨Z, rfl, ⟨zs, .of (by rw [hzs]; exact upd_same)⟩, ?_⟩
    have eZ : upd H6 Z (.lst [V.int (k : Nat), .int ((k : Nat) - 1), .int 0, .int (M : Nat)]) = upd H6 Z (.lst zs) := by rw [hzs]
    refine for_list (K := K) (a := Z) (xs := zs) (fun i σ' H' => Same H6 H' ∧ H' Z = some (.lst zs) ∧ ∃ x8 x9, σ' = [some (.ref a), some lv, some (.int (nb : Nat)), some (.int (qp.ins.length : Nat)), some (.ref pi), some (.ref t3), some (.ref Lh), some (.int (M : Nat)), x8, x9, none]) ?_ ?_ ?_ ?_
    · exact ⟨same_new nZ, by rw [hzs]; exact upd_same, _, _, rfl⟩
    · rintro i σ' H' _ ⟨s', e', _⟩
      exact .of e'
    · rintro i x σ' H' hx ⟨s', e', x8, x9, rfl⟩
      obtain ⟨n, hn, rfl⟩ := zat hx
      obtain ⟨t', e0, k', rn', hk'⟩ := any n hn
      have okn := okr rn' hk'
      dsimp only [gName, List.set]
      have s2' := s26.trans s'
      refine ⟨_, rfl, _, rfl, _, rfl, _, rfl, lv, .int (nb : Nat), pi, L, nb, n, qp, xs, t', e0, k', rfl, dp_sm s2' dl2, s' _ _ ei6, li.symm, i32, lo, lL, nb5, by omega, rn', fun H8 v8 s8 d8 => ?_⟩
      obtain ⟨t8, x8, y8, rfl, h8, dx8, dy8⟩ := due_parts d8
      dsimp only [gName, List.set]
      have s28 := s2'.trans s8
      refine ⟨_, rfl, _, rfl, _, rfl, pi, _, rfl, .inl ⟨.of (s28 _ _ ei), fun tp ntp => ?_⟩⟩
      have s9 := same_new (o := .tup (xs.map V.int)) ntp
      have e9 : upd H8 tp (.tup (xs.map V.int)) tp = some (.tup (xs.map V.int)) := upd_same
      generalize upd H8 tp (.tup (xs.map V.int)) = H9 at s9 e9 ⊢
      refine ⟨_, rfl, lv, tp, L, nb, n, qp, xs, t', e0, k', rfl, dp_sm (s28.trans s9) dl2, .inr (.of e9), li.symm, i32, lo, lL, nb5, by omega, rn', fun H10 v10 s10 d10 => ?_⟩
      dsimp only [tNil]
      refine okn.rep (by decide) (by decide) d10 ?_
      have s810 := s9.trans s10
      refine ⟨_, rfl, 2, rfl, sl2 (sqT_sm s810 h8) fun p11 np11 => ?_⟩
      have s11 := same_new (o := .tup [x8, y8]) np11
      have s811 := s810.trans s11
      have d11 : Dp K (upd H10 p11 (.tup [x8, y8])) (.ref p11) (fndD t' e0) := .tup (.of upd_same) (.cons (dp_sm s811 dx8) (.cons (dp_sm s811 dy8) .nil))
      dsimp only [tNil]
      refine okn.rep (by decide) (by decide) d11 ?_
      refine ne_use rfl rfl ?_
      refine ⟨_, rfl, ifF rfl ?_⟩
      exact ⟨(s'.trans s8).trans s811, (s8.trans s811) _ _ e', _, _, rfl⟩
    · rintro σ' H' ⟨s', e', x8, x9, rfl⟩
      dsimp only
      have s2' := s26.trans s'
      have s4' := s46.trans s'
      clear e' e7 s7 eZ zat hzs nZ
      refine ifs_by (fun σ' H'' => Same H' H'' ∧ ∃ x3 x8 x9 x10, σ' = [some (.ref a), some lv, some (.int (nb : Nat)), x3, some (.ref pi), some (.ref t3), some (.ref Lh), some (.int (M : Nat)), x8, x9, x10]) ?_ ?_
      · rintro σ' H7 ⟨s7, x3', x8', x9', x10', rfl⟩
        have s27 := s2'.trans s7
        refine ⟨_, rfl, _, rfl, _, rfl, lv, pi, L, nb, 20000, qp, xs, t, e, k, rfl, dp_sm s27 dl2, .inl (.of (s27 _ _ ei)), li.symm, i32, lo, lL, nb5, by decide, (R 20000).2.1 (by omega), fun H8 v8 s8 d8 => ?_⟩
        dsimp only [tNil]
        refine ok0.rep (by decide) (by decide) d8 ?_
        have s48 := (s4'.trans s7).trans s8
        refine ⟨_, rfl, 2, rfl, sl2 (sqT_sm s48 h3) fun p9 np9 => ?_⟩
        have s9 := same_new (o := .tup [x3, y3]) np9
        have s49 := s48.trans s9
        have d9 : Dp K (upd H8 p9 (.tup [x3, y3])) (.ref p9) (fndD t e) := .tup (.of upd_same) (.cons (dp_sm s49 dx3) (.cons (dp_sm s49 dy3) .nil))
        dsimp only [tNil]
        refine ok0.rep (by decide) (by decide) d9 ?_
        refine eq_use rfl rfl ?_
        exact q _
      · intro N hN
        refine ⟨_, rfl, a, ns, 3, rfl, by decide, s2'.seq (s2.seq hS1), _, _, rfl, rfl, (by show (0 : Int) < 16; decide), rfl, _, rfl, ite2 (fun _ => ?_) (fun _ => hN _ _ ⟨Same.refl _, _, _, _, _, rfl⟩)⟩
        refine ⟨one 2 (by decide), fun z nz => ⟨z, rfl, ⟨_, .of upd_same⟩, fun D nD => ?_⟩⟩
        have z1 := same_new (o := .lst [V.int 6665, .int 6666]) nz
        have ez := upd_same (H := H') (a := z) (o := .lst [V.int 6665, .int 6666])
        generalize upd H' z (.lst [V.int 6665, .int 6666]) = H1' at z1 ez nD ⊢
        have nD1 : H1' D = none := nD
        obtain ⟨fs, hfs⟩ : ∃ fs : List PyData, fs = [fndD [0] (.gave 1), fndD [] .on] := ⟨_, rfl⟩
        have fnl : ∀ i, nLs (fs.take i) = true := fun i => noLs_all fun x hx => by
          have := List.mem_of_mem_take hx
          rw [hfs] at this
          simp only [List.mem_cons, List.not_mem_nil, or_false] at this
          rcases this with rfl | rfl <;> simp [fndD, LE.d, nLd, nLs]
        refine lc_list (K := K) (a := z) (xs := [V.int 6665, .int 6666]) (fun i H'' => Same H1' H'' ∧ ∃ acc, H'' D = some (.lst acc) ∧ DpAll K H'' acc (fs.take i)) ?_ ?_ ?_ ?_
        · exact ⟨same_new nD, [], upd_same, by rw [List.take_zero]; exact .nil⟩
        · rintro i H'' _ ⟨s'', _⟩
          exact .of (s'' _ _ ez)
        · rintro i y H'' hy ⟨s'', acc, eD, dA⟩
          obtain ⟨many, t0, e0, hm, ey, lrn, hi, hf⟩ : ∃ (many : Nat) (t0 : List Int) (e0 : LE), many < 100000 ∧ y = .int (many : Nat) ∧ Rn ([] ++ [longP many]) 20000 (MC.zero.enter (longP many) none []) t0 e0 20000 ∧ i < 2 ∧ fs[i]? = some (fndD t0 e0) := by
            rcases i with _ | _ | i
            · cases hy
              exact ⟨6665, [0], .gave 1, by decide, rfl, lg_6665, by decide, by rw [hfs]; rfl⟩
            · cases hy
              exact ⟨6666, [], .on, by decide, rfl, lg_6666, by decide, by rw [hfs]; rfl⟩
            · simp at hy
          subst ey
          dsimp only [gName]
          dsimp only [tYes]
          rw [if_pos rfl]
          refine ⟨rfl, _, rfl, many, rfl, fun H2'' v2 w2 dv2 => ⟨_, rfl, Nat.zero_le _, fun E nE => ?_⟩⟩
          have w3 := same_new (o := .lst []) nE
          refine ⟨v2, E, [], nb, 20000, longP many, [], t0, e0, 20000, rfl, dp_sm w3 dv2, .inl (.of upd_same), rfl, (fun x hx => nomatch hx), long_ok nb2 hm, (by show 1 ≤ 1000; decide), nb5, by decide, lrn, fun H4'' v4 w4 dv4 => ?_⟩
          have w24 := (w2.trans w3).trans w4
          have eD4 := w24 _ _ eD
          have lA := dpAll_len dA
          have lA2 : acc.length ≤ 2 := by rw [lA, List.length_take]; omega
          refine ⟨acc, eD4, by rw [sizeLine_eq]; omega, same_upd (s''.trans w24) nD1, acc ++ [v4], upd_same, ?_⟩
          have kD : Kp (fun b => b = D) H4'' (upd H4'' D (.lst (acc ++ [v4]))) := Kp.upd eD4 trivial rfl
          have hl : i < fs.length := (List.getElem?_eq_some_iff.mp hf).1
          have tk : fs.take (i + 1) = fs.take i ++ [fndD t0 e0] := by
            rw [← List.take_append_getElem hl]
            rw [List.getElem?_eq_getElem hl] at hf
            rw [Option.some.inj hf]
          have nl1 : nLd (fndD t0 e0) = true := by
            cases e0 <;> simp [fndD, LE.d, nLd, nLs, ints_nl]
          rw [tk]
          exact dpAll_app (dpAll_kp kD _ _ (fnl i) (dpAll_kp (Kp.of_same (S := fun _ => False) w24) _ _ (fnl i) dA)) (.cons (dp_kp kD _ _ nl1 dv4) .nil)
        · rintro H2'' ⟨w2, acc, eD, dA⟩
          rw [show ([V.int 6665, .int 6666] : List V).length = fs.length by rw [hfs]; rfl, List.take_length] at dA
          dsimp only [gName, List.set]
          have okL : Okd 3 500000 (.list fs) := by
            rw [hfs]
            exact (Okd.lst (OkdL.cons (fndD_okd (t := [0]) (e := .gave 1) (fun x hx => by rw [List.mem_singleton.mp hx]; exact ⟨by decide, by decide⟩) (by decide) ⟨by decide, by decide⟩) (OkdL.cons (fndD_okd (t := []) (e := .on) (fun x hx => nomatch hx) (by decide) trivial) (OkdL.nil (w := 0))))).mono (by decide) (by decide)
          refine ⟨_, rfl, ?_⟩
          dsimp only [tNil]
          refine okL.repL (by decide) (by decide) (.lst (.of eD) dA) ?_
          delta tCB
          refine ar_cons (ml_lst (K := K) (H0 := H2'') (ds := fs) ?_ (Same.refl _) (fun H3'' Lz vz w3 nz3 e3 d3 => ?_) (by rw [hfs]; show 2 ≤ 1000; decide))
          · rw [hfs]
            exact mds_cons (md_tup (mds_cons (md_tup (ds := [.int 0]) (mds_cons md_int mds_nil)) (mds_cons (md_tup (ds := [.str "gave", .int 1]) (mds_cons md_str (mds_cons md_int mds_nil))) mds_nil))) (mds_cons (md_tup (mds_cons (md_tup (ds := []) mds_nil) (mds_cons (md_tup (ds := [.str "on"]) (mds_cons md_str mds_nil)) mds_nil))) mds_nil)
          dsimp only [tNil]
          refine okL.repL (by decide) (by decide) (.lst (.of e3) d3) ?_
          refine ne_use rfl rfl ?_
          exact ⟨_, rfl, ifF rfl (hN _ _ ⟨(z1.trans w2).trans w3, _, _, _, _, rfl⟩)⟩
end

end K75
namespace K75
open PySem PySem.Spec PyProof.Rows L2
theorem law_F (w : World) (mg : Str → Option Value) (fa : Addr) (h : Heap) (Y : hk.says w h) (G : h.Ns mainGlobals mg) (hmg : mg "law" = some (.ref fa)) :
    ∃ (K : PySem.W.Frag) (fd : FuncData) (sp : Sp), K.In h ∧ (∀ (s : Shared) (u : Value), BindsTo s fd ⟨[u], []⟩ [("_law_script", u)]) ∧
        (∀ (H : Hp) (a : Addr) (ns : List Int), ns.length ≤ 63 → (∀ z ∈ ns, Builtin.Int.intBits z ≤ 1048576) → Only H → SqL K H a (ns.map V.int) → sp [.ref a] H (fun v _ => v = .bl true) fun _ _ _ => False) ∧
        ∀ base : Heap, K.In base → base.Ns mainGlobals mg → FnG (PySem.Challenge.rw_passworks_k75_machine_by_hand).prog w K mg base L2.CX0 100 fa fd ["_law_script"] sp := by
  obtain ⟨K, KX, c⟩ := Y
  obtain ⟨T⟩ := top_of KX G c
  obtain rfl : He.ga K "law" = fa := by
    have e := T.g_law.symm.trans hmg
    injection e with e
    injection e
  exact ⟨K, T.fd_law, sp_law K, KX, law_binds T, fun H a ns hl hb _ hS => law_start hl hb hS, fun base _ _ => ok_law T⟩
end K75
open PySem PySem.W PySem.Calls PyProof.Rows
theorem K75.law_nm : (HandSHeadRun.topDef (OpenLaw.row PySem.Challenge.rw_passworks_k75_machine_by_hand).prog 40).name = ("law" : PySem.Str) := by kernel_rfl
theorem K75.law_walk : PySem.W.WalkO (view (OpenLaw.row PySem.Challenge.rw_passworks_k75_machine_by_hand).prog [40]) K75.lo (XL (view (OpenLaw.row PySem.Challenge.rw_passworks_k75_machine_by_hand).prog [40]) []) K75.hk.says (OpenLaw.row PySem.Challenge.rw_passworks_k75_machine_by_hand).toRowW (HandSHeadRun.topDef (OpenLaw.row PySem.Challenge.rw_passworks_k75_machine_by_hand).prog 40) [] (fun f vs => PySem.call f vs) :=
  K75.walk_bitsG (l := PySem.Challenge.rw_passworks_k75_machine_by_hand) (n := 63) (k := 100) (x := "_law_script") (CX := L2.CX0) rfl (by decide) (by kernel_rfl) ⟨rfl, by decide, by decide⟩ (fun w mg fa h Y G hmg0 => K75.law_F w mg fa h Y G (K75.law_nm ▸ hmg0)) (fun _ _ _ _ z => z)
theorem PySem.Challenge.cw_passworks_k75_machine_by_hand_holds : PySem.Challenge.rw_passworks_k75_machine_by_hand.Holds := by
  w_on; o_law
  refine HandSHeadRun.head_any (r := OpenLaw.row PySem.Challenge.rw_passworks_k75_machine_by_hand) (q := view (OpenLaw.row PySem.Challenge.rw_passworks_k75_machine_by_hand).prog [40]) (H := K75.hk) (ob := K75.ob) (M := 9000) (loose := K75.lo) (d := HandSHeadRun.topDef (OpenLaw.row PySem.Challenge.rw_passworks_k75_machine_by_hand).prog 40) (kwd := []) K75.ob_eq
    (by kernel_rfl) (fun s => by kernel_rfl) K75.run (by kernel_rfl) (by kernel_rfl) (by kernel_rfl) (by rfl) (by first | assumption | decide +kernel) (by decide +kernel) ⟨rfl, rfl, rfl, rfl, rfl, by decide +kernel⟩ ?hw K75.law_walk
  case hw => w_witness2

