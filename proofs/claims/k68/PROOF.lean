import PyProof.Rows.All
import Wide.All
import OpenK.AllK
import Wide.FinOn
import KE.KStateDown
import KE.KRevSl
import Lean
import HandS.ForMost
import HandS.Wide
import KE.GoesEnum
import HandS.Iter
import HandS.Walk
import HandS.WideBits
import HandS.IsInst
import HandS.Flow
import HandS.Style
import HandS.FStr
import HandS.RaiseMore
import HandS.TupAny
import HandS.Defaults
import HandS.EndBits
import HandS.Head0
import HandS.Head1
import HandS.Head2
import HandS.HeadEnd
import HandS.HeadHook1
import HandS.HeadHook2
import PySem.Challenge.RW_passworks_k68_measure
set_option Elab.async false
set_option linter.all false
set_option maxRecDepth 100000
set_option maxHeartbeats 4000000
namespace K68
/-! what the head shows: defs, facts by names, one more Bool -/
open PySem PySem.Spec PyProof.Rows L2
def obsE (n : Nat) (fa : List He.Fa) (fn : List He.DefD) (ex : PySem.W.Frag → Bool) (g : Addr → Option Obj) : He.AlD × Bool :=
  (He.obsD fa fn (He.frG g (He.asD g n)), ex (He.frG g (He.asD g n)))
def SaysE (fa : List He.Fa) (fn : List He.DefD) (ex : PySem.W.Frag → Bool) (K : PySem.W.Frag) : Prop := He.SaysD fa fn K ∧ ex K = true
def hookE (n : Nat) (fa : List He.Fa) (fn : List He.DefD) (ex : PySem.W.Frag → Bool) : PySem.W.Hook where
  α := He.AlD × Bool
  obs := fun s => obsE n fa fn ex s.heap.get?
  val := fun _ => (He.valD fn, true)
  says := fun _ h => ∃ K : PySem.W.Frag, K.In h ∧ SaysE fa fn ex K
  of := fun _ _ z => ⟨_, He.frG_in, congrArg Prod.fst z, congrArg Prod.snd z⟩
  keeps := fun _ _ _ ⟨K, a, c⟩ k => ⟨K, a.keeps k, c⟩
theorem obsE_eq {n : Nat} {fa : List He.Fa} {fn : List He.DefD} {ex : PySem.W.Frag → Bool} {g : Addr → Option Obj} {s : Shared} (z : ∀ a, g a = s.heap.get? a) :
    obsE n fa fn ex g = (hookE n fa fn ex).obs s := by
  obtain rfl : g = s.heap.get? := funext z
  rfl
/-- a law's end, the bits of the script's numbers told -/
theorem walk_bits {l : PySem.W.OpenLaw} {n k : Nat} {q : Program} {loose : List Str} {XP : (Str → Option Value) → Heap → Prop} {YP : World → Heap → Prop} {d : DefRec} {CX : CXT} {x : Str}
    (hn : l.most = some n) (hn2 : n ≤ sizeLine) (hdf : d.params.defaults = []) (hr : Room k callerA)
    (F : ∀ (w : World) (mg : Str → Option Value) (fa : Addr) (h : Heap), YP w h → h.Ns mainGlobals mg → mg d.name = some (.ref fa) →
      ∃ (K : PySem.W.Frag) (fd : FuncData) (sp : Sp), K.In h ∧ (∀ (s : Shared) (u : Value), BindsTo s fd ⟨[u], []⟩ [(x, u)]) ∧
        (∀ (H : Hp) (a : Addr) (ns : List Int), ns.length ≤ n → (∀ z ∈ ns, Builtin.Int.intBits z ≤ 1048576) → Only H → SqL K H a (ns.map V.int) →
          sp [.ref a] H (fun v _ => v = .bl true) fun _ _ _ => False) ∧
        ∀ base : Heap, K.In base → base.Ns mainGlobals mg → FnOk l.prog w K mg base CX k fa fd [x] sp)
    (hCX : ∀ (H : Hp) (s : Shared) (e : Value) (s' : Shared), CX [] H s (fun _ _ _ => False) e s' → False) :
    PySem.W.WalkO q loose XP YP l.row.toRowW d [] (fun f vs => PySem.call f vs) := by
  apply Att.attach_callB hn hdf
  intro w s0 s1 mg mb fa o pm cd doc a vs ns G Y ho hd hcd hmg hobj hints hlen hbits hg
  obtain ⟨K, fd, sp, KX, hb, hsp, hF⟩ := F w mg fa _ Y G.T.g hmg
  exact law_call KX G.T.g G.T.b G.T.builtins G.T.nolimit hg hobj hints (Nat.le_trans hlen hn2) hr hF hb (fun H z1 z2 => hsp H a ns hlen hbits z1 z2)
    (fun H e s' => hCX H s1 e s')
/-! heaps -/
theorem same_new {H : Hp} {p : Addr} {o : HO} (z : H p = none) : Same H (upd H p o) := by
  intro b x e
  rw [upd_ne (ne_of_none e z)]
  exact e
theorem at_ints {ns : List Int} {i : Int} (h0 : 0 ≤ i) (h1 : i < ns.length) : atI (ns.map V.int) i = some (.int (ns.getD i.toNat 0)) := by
  obtain ⟨j, rfl⟩ := Int.eq_ofNat_of_zero_le h0
  have hj : j < ns.length := by omega
  refine atI_nat ?_
  rw [List.getElem?_map, List.getElem?_eq_getElem hj]
  simp [List.getD, hj]
/-- what stands behind a statement, once for all its ways -/
theorem seq_by {t u : TS} {D : Ends} {σ : L2.St} {H : Hp} (Pv : L2.St → Hp → Prop) (fin : ∀ σ' H', Pv σ' H' → u D σ' H')
    (first : ∀ N : L2.St → Hp → Prop, (∀ σ' H', Pv σ' H' → N σ' H') → t { D with nx := N } σ H) : tSeq t u D σ H := first _ fin
theorem ifs_by {c : TT} {t1 t2 u : TS} {D : Ends} {σ : L2.St} {H : Hp} (Pv : L2.St → Hp → Prop) (fin : ∀ σ' H', Pv σ' H' → u D σ' H')
    (first : ∀ N : L2.St → Hp → Prop, (∀ σ' H', Pv σ' H' → N σ' H') → tIfS c t1 t2 { D with nx := N } σ H) : tSeq (tIfS c t1 t2) u D σ H := first _ fin
theorem ifD {c A B : Prop} [Decidable c] (hc : c) (h : A) : if decide c = true then A else B := by
  rw [if_pos (decide_eq_true hc)]
  exact h
theorem ifN {c A B : Prop} [Decidable c] (hc : ¬ c) (h : B) : if decide c = true then A else B := by
  rw [if_neg (by rw [decide_eq_true_eq]; exact hc)]
  exact h
theorem blD {c : Prop} [Decidable c] {Q : VK} {H : Hp} (hc : c) (h : Q (.bl true) H) : Q (.bl (decide c)) H := by
  rw [decide_eq_true hc]
  exact h
theorem blN {c : Prop} [Decidable c] {Q : VK} {H : Hp} (hc : ¬ c) (h : Q (.bl false) H) : Q (.bl (decide c)) H := by
  rw [decide_eq_false hc]
  exact h
theorem getD_all {α : Type} {Pr : α → Prop} {ns : List α} {d : α} (h : ∀ x ∈ ns, Pr x) {j : Int} (h0 : 0 ≤ j) (h1 : j < ns.length) : Pr (ns.getD j.toNat d) := by
  have hi : j.toNat < ns.length := by omega
  have e : ns.getD j.toNat d = ns[j.toNat]'hi := by simp [List.getD, hi]
  rw [e]
  exact h _ (List.getElem_mem _)
theorem ifNF {c A B : Prop} [Decidable c] (hc : c) (h : B) : if (!decide c) = true then A else B := by
  rw [decide_eq_true hc]
  exact h
theorem ifNT {c A B : Prop} [Decidable c] (hc : ¬ c) (h : A) : if (!decide c) = true then A else B := by
  rw [decide_eq_false hc]
  exact h
theorem at_list {α : Type} {ns : List α} {i : Int} (h0 : 0 ≤ i) (h1 : i < ns.length) : ∃ x ∈ ns, atI ns i = some x := by
  obtain ⟨j, rfl⟩ := Int.eq_ofNat_of_zero_le h0
  have hj : j < ns.length := by omega
  exact ⟨ns[j], List.getElem_mem _, atI_nat (List.getElem?_eq_getElem hj)⟩
theorem ite_share {c A R : Prop} [Decidable c] (leaf : A) (rest : ¬ c → A → R) : if c then A else R := by
  split
  · exact leaf
  · exact rest (by assumption) leaf
theorem ite_else {c A R : Prop} [Decidable c] (leaf : R) (rest : c → R → A) : if c then A else R := by
  split
  · exact rest (by assumption) leaf
  · exact leaf

/-! own rules: // and divmod by any divisor of few bits, a list turned about -/
section
variable {X : Cx}
theorem op_fdivG : OpR X (binaryOp .FloorDiv) (rI (fun _ j => j ≠ 0 ∧ j.natAbs.log2 < 9000) fun i j => .int (i.fdiv j)) :=
  opI fun _ _ _ _ _ _ _ hc q => floordiv_int hc.1 q (.inl (PyProof.noPylong_of_log2 hc.2))
theorem call_divmodG : CallR X (.builtin "divmod") (fun xs H Q => ∃ i j, xs = [.int i, .int j] ∧ (j ≠ 0 ∧ j.natAbs.log2 < 9000) ∧ ∀ p, H p = none → Q (.ref p) (upd H p (.tup [.int (i.fdiv j), .int (i.fmod j)]))) := by
  intro pins s σ H xs us Q I r h
  obtain ⟨i, j, rfl, hc, q⟩ := h
  obtain ⟨u1, u2, rfl, ⟨t1, rfl⟩, ⟨t2, rfl⟩⟩ := vals2 r
  refine divmod_int hc.1 ?_ (.inl (PyProof.noPylong_of_log2 hc.2))
  refine ⟨.ref s.heap.objs.size, _, ?_, rfl, q _ (I.hok.fresh (Nat.le_refl _))⟩
  refine I.laid (fun b o e => Heap.get?_push_of_some _ e) (Nat.le_refl _) ⟨by show 2 ≤ sizeLine; rw [sizeLine_eq]; decide, [.int (i.fdiv j) s.toks, .int (i.fmod j) (s.toks + 1)], .cons ⟨_, rfl⟩ (.cons ⟨_, rfl⟩ .nil), ?_⟩
  exact ⟨_, Heap.get?_push_size s.heap rfl, rfl, 0, rfl⟩
def tRevL (K : PySem.W.Frag) (te tk : TE) : TE := fun σ H Q => te σ H fun x H1 => tk σ H1 fun y H2 => y = .int (-1) ∧ ∃ a xs, x = .ref a ∧ SqL K H2 a xs ∧ ∀ p, H2 p = none → Q (.ref p) (upd H2 p (.lst xs.reverse))
theorem vals_rev : ∀ {xs : List V} {us : List Value}, Vals xs us → Vals xs.reverse us.reverse
  | _, _, .nil => .nil
  | _, _, .cons r t => by
    rw [List.reverse_cons, List.reverse_cons]
    exact (vals_rev t).append (.cons r .nil)
theorem pe_revL {e k : Expr} {te tk : TE} {p2 pos : Pos} (he : PE X e te) (hk : PE X k tk) : PE X (.Subscript e (.Slice none none (some k) p2) pos) (tRevL X.K te tk) := by
  refine ⟨fun pins s σ H Q I h => ?_⟩
  refine Subscript_ (thn (he.run pins s σ H _ I h) fun v s1 ⟨x, H1, I1, r1, q1⟩ => ?_)
  refine wpAny_Slice ?_
  rw [evalPart_none]
  refine wpAny_pure (wpAny_pure ?_)
  rw [evalPart_some]
  refine thn (hk.run pins s1 σ H1 _ I1 q1) fun vk s2 ⟨y, H2, I2, r2, ey, a, xs, ex, hx, q⟩ => ?_
  subst ey ex
  obtain ⟨t, rfl⟩ := r2
  cases r1
  have I4 : Inv X pins σ H2 { s2 with heap := s2.heap.push { cls := .type "slice", data := .fields #[.none, .none, .int (-1) t] } } := I2.kept (t' := s2.toks) fun b ob q => Heap.get?_push_of_some _ q
  obtain ⟨its, r, ht, hz⟩ := I4.list hx
  have hlen := r.length
  refine tail_any (ops := [.ref a, .ref s2.heap.objs.size]) ht.isList.typeIs slot_list_getitem.lookup ?_ (by with_unfolding_all rfl)
  refine wpAny_getItem_list_slice ht.isList (Heap.IsSliceOf.new ..) .none .none (.int (-1) t) (by decide) ?_ (by rw [List.size_toArray]; omega)
  rw [PySem.W.krv_pick]
  refine ⟨.ref _, _, I4.laid (t' := s2.toks) (o := .lst xs.reverse) (fun b ob q => Heap.get?_push_of_some _ q) (Nat.le_refl _) ?_, rfl, q _ (I4.hok.fresh (Nat.le_refl _))⟩
  exact ⟨by rw [List.length_reverse]; exact hz, its.reverse, 0, vals_rev r, Heap.get?_push_size _ rfl⟩
end

/-! what is kept: all but the mutable things of a set -/
def Kp (S : Addr → Prop) (H H' : Hp) : Prop := ∀ b o, H b = some o → (S b → ¬ Mut (some o)) → H' b = some o
theorem Kp.refl {S : Addr → Prop} {H : Hp} : Kp S H H := fun _ _ h _ => h
theorem Kp.trans {S : Addr → Prop} {H H1 H2 : Hp} (a : Kp S H H1) (b : Kp S H1 H2) : Kp S H H2 := fun c o h k => b c o (a c o h k) k
theorem Kp.mono {S S' : Addr → Prop} {H H' : Hp} (a : Kp S H H') (h : ∀ b, S b → S' b) : Kp S' H H' := fun c o e k => a c o e fun z => k (h c z)
theorem Kp.of_same {S : Addr → Prop} {H H' : Hp} (a : Same H H') : Kp S H H' := fun c o e _ => a c o e
theorem Kp.same {S : Addr → Prop} {H H1 H2 : Hp} (a : Same H H1) (b : Kp S H1 H2) (h : ∀ b, S b → H b = none) : Same H H2 := fun c o e => b c o (a c o e) fun z => by
  rw [h c z] at e
  cases e
theorem Kp.upd {S : Addr → Prop} {H : Hp} {p : Addr} {o u : HO} (h : H p = some o) (m : Mut (some o)) (hp : S p) : Kp S H (upd H p u) := fun c x e k => by
  by_cases z : c = p
  · subst z
    rw [h] at e
    cases e
    exact absurd m (k hp)
  · rw [upd_ne z]
    exact e
/-- the script: read, never written -/
def Scr (K : PySem.W.Frag) (H : Hp) (a : Addr) (xs : List V) : Prop := SqL K H a xs ∧ ¬ Mut (H a)
theorem Scr.kp {K : PySem.W.Frag} {S : Addr → Prop} {H H' : Hp} {a : Addr} {xs : List V} (h : Scr K H a xs) (k : Kp S H H') : SqL K H' a xs := by
  obtain ⟨h1, h2⟩ := h
  rcases h1 with (e | ⟨o, e⟩) | e
  · rw [e] at h2
    exact absurd trivial h2
  · exact .inl (.inr ⟨o, k _ _ e fun _ => by rw [← e]; exact h2⟩)
  · exact .inr e
/-! an own rule: a text some times over -/
section
variable {X : Cx}
theorem op_rep_str : OpR X (binaryOp .Mult) (fun x y H Q => ∃ (z : Str) (n : Int), x = .str z ∧ y = .int n ∧ 0 < z.length ∧ z.length ≤ 1000 ∧ 2 ≤ n ∧ n ≤ 1000 ∧ ∀ u : Str, u.length = n.toNat * z.length → Q (.str u) H) := by
  intro pins s σ H x y v u Q I rx ry h
  obtain ⟨z, n, rfl, rfl, z0, z1, n0, n1, q⟩ := h
  obtain ⟨t, rfl⟩ := rx
  obtain ⟨t', rfl⟩ := ry
  have hn : ¬ n < 1 := by omega
  have hq : (n == 1 || z.length == 0) = false := by
    rw [Bool.or_eq_false_iff]
    exact ⟨beq_eq_false_iff_ne.mpr (by omega), beq_eq_false_iff_ne.mpr (by omega)⟩
  have le : ∀ (k : Nat) (acc : Array Nat), ((List.replicate k z.cps).foldl (· ++ ·) acc).size = acc.size + k * z.length := by
    intro k
    induction k with
    | zero => intro acc; simp
    | succ k ih =>
      intro acc
      rw [List.replicate_succ, List.foldl_cons, ih, Array.size_append]
      show acc.size + z.length + k * z.length = acc.size + (k + 1) * z.length
      rw [Nat.add_mul]
      omega
  have l2 : (⟨(List.replicate n.toNat z.cps).foldl (· ++ ·) #[]⟩ : Str).length = n.toNat * z.length := by
    show ((List.replicate n.toNat z.cps).foldl (· ++ ·) #[]).size = _
    rw [le]
    simp
  have mm : z.length * n.toNat ≤ 1000 * 1000 := Nat.mul_le_mul z1 (by omega)
  have tl : Builtin.Str.tooLong (z.length * n.toNat) = false := by
    unfold Builtin.Str.tooLong
    rw [sizeLine_eq]
    exact decide_eq_false (by omega)
  refine PySem.P.mul_str ?_ (fun _ _ => ?_) (fun _ _ => tl) ?_
  · rw [decide_eq_false (by omega), decide_eq_false (by omega)]
    rfl
  · have : (1000 : Int) * n ≤ 2 ^ 63 - 1 := by omega
    have h3 : (1000 : Int) ≤ (2 ^ 63 - 1) / n := (Int.le_ediv_iff_mul_le (by omega)).mpr this
    omega
  · rw [if_neg hn, hq]
    exact ⟨by rw [l2, Nat.mul_comm, sizeLine_eq]; omega, .str _, H, I.tok _, ⟨_, rfl⟩, q _ l2⟩
end
/-- a comprehension over a text's signs -/
theorem lc_str {x : Str} {g : TG} {tt : TT} {te : TE} {vs : List Nat} {σ : L2.St} {H1 : Hp} {D : Addr} {Qd : Hp → Prop} (Pv : Nat → Hp → Prop) (h0 : Pv 0 (upd H1 D (.lst [])))
    (hs : ∀ i c H, x.cps.toList[i]? = some c → Pv i H → g (.str ⟨#[c]⟩) (wipe σ vs) H fun σ2 H2 => wipe σ2 vs = wipe σ vs ∧ tt σ2 H2 fun b H3 =>
      if b = true then te σ2 H3 fun y H4 => ∃ acc, H4 D = some (.lst acc) ∧ acc.length < sizeLine ∧ Pv (i + 1) (upd H4 D (.lst (acc ++ [y]))) else Pv (i + 1) H3) (hd : ∀ H, Pv x.cps.toList.length H → Qd H) :
    ∃ W : Nat → Nat → Hp → Prop, (∃ m, W 0 m (upd H1 D (.lst []))) ∧ ∀ i m H, W i m H →
      ((Its x).stop i H ∧ Qd H) ∨ ((Its x).go i H ∧ ∃ Nx : Hp → Prop, (∀ H', Nx H' → ∃ m', m' < m ∧ W (i + 1) m' H') ∧ ∀ y H', (Its x).yld i H y H' → g y (wipe σ vs) H' fun σ2 H2 => wipe σ2 vs = wipe σ vs ∧ tt σ2 H2 fun b H3 =>
        if b = true then te σ2 H3 fun y H4 => ∃ acc, H4 D = some (.lst acc) ∧ acc.length < sizeLine ∧ Nx (upd H4 D (.lst (acc ++ [y]))) else Nx H3) := by
  have hl : x.cps.toList.length = x.cps.size := by simp
  refine ⟨fun i m H => m = x.cps.size - i ∧ i ≤ x.cps.size ∧ Pv i H, ⟨x.cps.size, by simp, Nat.zero_le _, h0⟩, ?_⟩
  rintro i m H ⟨rfl, hi, p⟩
  by_cases hlt : i < x.cps.size
  · refine .inr ⟨hlt, Pv (i + 1), fun H' p' => ⟨x.cps.size - (i + 1), by omega, rfl, hlt, p'⟩, fun y H' hy => ?_⟩
    obtain ⟨rfl, c, hc, rfl⟩ := hy
    exact hs i c H' (by rw [Array.getElem?_toList]; exact hc) p
  · refine .inl ⟨Nat.le_of_not_lt hlt, hd H ?_⟩
    rw [hl, show x.cps.size = i by omega]
    exact p
section
variable {X : Cx}
theorem call_str_any : CallR X (.type "str") (fun xs H Q => (∃ i : Int, xs = [.int i] ∧ i.natAbs.log2 < 1920 ∧ Q (.str (toString i)) H) ∨ ∃ a : Str, xs = [.str a] ∧ Q (.str a) H) := by
  intro pins s σ H xs us Q I r h
  rcases h with h | h
  · exact call_str_int pins s σ H xs us Q I r h
  · exact SkE.call_str_str pins s σ H xs us Q I r h
end

/-! rules for use within a comprehension: the written part named -/
section
variable {X : Cx} {K : PySem.W.Frag}
theorem ix_listK (h : X.K = K) : IxR X (rIxL K) := by subst h; exact ix_list
theorem ix_tupK (h : X.K = K) : IxR X (rIxT K) := by subst h; exact ix_tup
theorem op_in_seqK (h : X.K = K) : OpR X (compareOp .In) (rIn K false) := by subst h; exact op_in_seq
theorem op_notIn_seqK (h : X.K = K) : OpR X (compareOp .NotIn) (rIn K true) := by subst h; exact op_notIn_seq
theorem call_isiK (h : X.K = K) : CallR X (.builtin "isinstance") (rIsi K) := by subst h; exact call_isi
theorem call_len_seqK (h : X.K = K) : CallR X (.builtin "len") (fun xs H Q => ∃ p ys, xs = [.ref p] ∧ (SqL K H p ys ∨ SqT K H p ys) ∧ Q (.int ys.length) H) := by subst h; exact call_len_seq
end

def topS (i : Nat) : Stmt := PySem.Challenge.pw_passworks_k68_measure.main.body.getD i (.Pass ⟨0, 0, 0, 0⟩)
abbrev s_ways : Stmt := topS 1
abbrev N_ways : List Str := ["end", "word"]
theorem sc_ways : FnScope N_ways ["end"] (defScope s_ways) := ⟨rfl, rfl, rfl, by decide +kernel, rfl, by decide +kernel, by decide +kernel⟩
abbrev s_leads_to : Stmt := topS 3
abbrev N_leads_to : List Str := ["graph", "found", "number", "block", "way"]
theorem sc_leads_to : FnScope N_leads_to ["graph"] (defScope s_leads_to) := ⟨rfl, rfl, rfl, by decide +kernel, rfl, by decide +kernel, by decide +kernel⟩
abbrev s_elders : Stmt := topS 5
abbrev N_elders : List Str := ["graph", "ahead", "whole", "found", "changed", "number", "common", "other"]
theorem sc_elders : FnScope N_elders ["graph"] (defScope s_elders) := ⟨rfl, rfl, rfl, by decide +kernel, rfl, by decide +kernel, by decide +kernel⟩
abbrev s_blocks_back : Stmt := topS 7
abbrev N_blocks_back : List Str := ["head", "backs", "ahead", "found", "left", "number"]
theorem sc_blocks_back : FnScope N_blocks_back ["head", "backs", "ahead"] (defScope s_blocks_back) := ⟨rfl, rfl, rfl, by decide +kernel, rfl, by decide +kernel, by decide +kernel⟩
abbrev s_loops : Stmt := topS 8
abbrev N_loops : List Str := ["graph", "above", "ahead", "found", "head", "backs", "number"]
theorem sc_loops : FnScope N_loops ["graph"] (defScope s_loops) := ⟨rfl, rfl, rfl, by decide +kernel, rfl, by decide +kernel, by decide +kernel⟩
abbrev s_weight : Stmt := topS 11
abbrev N_weight : List Str := ["graph", "rounds", "found", "number", "block", "deep", "head", "blocks"]
theorem sc_weight : FnScope N_weight ["graph"] (defScope s_weight) := ⟨rfl, rfl, rfl, by decide +kernel, rfl, by decide +kernel, by decide +kernel⟩
abbrev s_measure : Stmt := topS 12
abbrev N_measure : List Str := ["works", "name", "graph"]
theorem sc_measure : FnScope N_measure ["works"] (defScope s_measure) := ⟨rfl, rfl, rfl, by decide +kernel, rfl, by decide +kernel, by decide +kernel⟩
abbrev s__law_mark : Stmt := topS 14
abbrev N__law_mark : List Str := ["_law_script", "_law_k", "_law_cell", "_law_mark_here"]
theorem sc__law_mark : FnScope N__law_mark ["_law_script", "_law_k"] (defScope s__law_mark) := ⟨rfl, rfl, rfl, by decide +kernel, rfl, by decide +kernel, by decide +kernel⟩
abbrev s__law_number_by : Stmt := topS 15
abbrev N__law_number_by : List Str := ["_law_mark_here", "_law_n"]
theorem sc__law_number_by : FnScope N__law_number_by ["_law_mark_here"] (defScope s__law_number_by) := ⟨rfl, rfl, rfl, by decide +kernel, rfl, by decide +kernel, by decide +kernel⟩
abbrev s__law_row_by : Stmt := topS 16
abbrev N__law_row_by : List Str := ["_law_mark_here", "_law_scope", "_law_value", "_law_numbers", "_law_held", "_law_kind", "_law_one", "_law_other", "_law_word", "_law_row", "_law_size", "_law_pair"]
theorem sc__law_row_by : FnScope N__law_row_by ["_law_mark_here", "_law_scope", "_law_value"] (defScope s__law_row_by) := ⟨rfl, rfl, rfl, by decide +kernel, rfl, by decide +kernel, by decide +kernel⟩
abbrev s__law_rows_by : Stmt := topS 17
abbrev N__law_rows_by : List Str := ["_law_script", "_law_at", "_law_many", "_law_scope", "_law_value", "_law_rows", "_law_k", "_law_row", "_law_size"]
theorem sc__law_rows_by : FnScope N__law_rows_by ["_law_script", "_law_at", "_law_many", "_law_scope", "_law_value"] (defScope s__law_rows_by) := ⟨rfl, rfl, rfl, by decide +kernel, rfl, by decide +kernel, by decide +kernel⟩
abbrev s__law_last : Stmt := topS 18
abbrev N__law_last : List Str := ["_law_scope", "_law_mark_here", "_law_numbers", "_law_one", "_law_size"]
theorem sc__law_last : FnScope N__law_last ["_law_scope", "_law_mark_here"] (defScope s__law_last) := ⟨rfl, rfl, rfl, by decide +kernel, rfl, by decide +kernel, by decide +kernel⟩
abbrev s__law_end_by : Stmt := topS 19
abbrev N__law_end_by : List Str := ["_law_mark_here", "_law_scope"]
theorem sc__law_end_by : FnScope N__law_end_by ["_law_mark_here", "_law_scope"] (defScope s__law_end_by) := ⟨rfl, rfl, rfl, by decide +kernel, rfl, by decide +kernel, by decide +kernel⟩
abbrev s__law_straight : Stmt := topS 20
abbrev N__law_straight : List Str := ["_law_script", "_law_at", "_law_inputs", "_law_ahead", "_law_rows", "_law_scope", "_law_value", "_law_k"]
theorem sc__law_straight : FnScope N__law_straight ["_law_script", "_law_at", "_law_inputs"] (defScope s__law_straight) := ⟨rfl, rfl, rfl, by decide +kernel, rfl, by decide +kernel, by decide +kernel⟩
abbrev s__law_diamond : Stmt := topS 21
abbrev N__law_diamond : List Str := ["_law_script", "_law_at", "_law_inputs", "_law_mark_here", "_law_ahead", "_law_rows", "_law_scope", "_law_value", "_law_blocks", "_law_k", "_law_more", "_law_behind", "_law_last_here", "_law_over"]
theorem sc__law_diamond : FnScope N__law_diamond ["_law_script", "_law_at", "_law_inputs"] (defScope s__law_diamond) := ⟨rfl, rfl, rfl, by decide +kernel, rfl, by decide +kernel, by decide +kernel⟩
abbrev s__law_loop : Stmt := topS 22
abbrev N__law_loop : List Str := ["_law_script", "_law_at", "_law_inputs", "_law_mark_here", "_law_ahead", "_law_rows", "_law_scope", "_law_value", "_law_blocks", "_law_count", "_law_turn", "_law_row", "_law_inside", "_law_more", "_law_k"]
theorem sc__law_loop : FnScope N__law_loop ["_law_script", "_law_at", "_law_inputs"] (defScope s__law_loop) := ⟨rfl, rfl, rfl, by decide +kernel, rfl, by decide +kernel, by decide +kernel⟩
abbrev s__law_caller : Stmt := topS 23
abbrev N__law_caller : List Str := ["_law_script", "_law_at", "_law_inputs", "_law_many", "_law_mark_here", "_law_ahead", "_law_rows", "_law_scope", "_law_value", "_law_args", "_law_first", "_law_behind", "_law_last_here", "_law_over", "_law_end", "_law_k"]
theorem sc__law_caller : FnScope N__law_caller ["_law_script", "_law_at", "_law_inputs", "_law_many"] (defScope s__law_caller) := ⟨rfl, rfl, rfl, by decide +kernel, rfl, by decide +kernel, by decide +kernel⟩
abbrev s__law_works_by : Stmt := topS 24
abbrev N__law_works_by : List Str := ["_law_script", "_law_at", "_law_mark_here", "_law_many", "_law_inputs", "_law_helper", "_law_shape", "_law_main"]
theorem sc__law_works_by : FnScope N__law_works_by ["_law_script", "_law_at"] (defScope s__law_works_by) := ⟨rfl, rfl, rfl, by decide +kernel, rfl, by decide +kernel, by decide +kernel⟩
abbrev s__law_ways : Stmt := topS 25
abbrev N__law_ways : List Str := ["_law_end", "_law_one"]
theorem sc__law_ways : FnScope N__law_ways ["_law_end"] (defScope s__law_ways) := ⟨rfl, rfl, rfl, by decide +kernel, rfl, by decide +kernel, by decide +kernel⟩
abbrev s__law_come : Stmt := topS 26
abbrev N__law_come : List Str := ["_law_graph", "_law_start", "_law_without", "_law_found", "_law_at", "_law_other"]
theorem sc__law_come : FnScope N__law_come ["_law_graph", "_law_start", "_law_without"] (defScope s__law_come) := ⟨rfl, rfl, rfl, by decide +kernel, rfl, by decide +kernel, by decide +kernel⟩
abbrev s__law_weight : Stmt := topS 27
abbrev N__law_weight : List Str := ["_law_graph", "_law_many", "_law_total", "_law_number", "_law_deep", "_law_head", "_law_ahead", "_law_tails", "_law_come_here", "_law_inside", "_law_one"]
theorem sc__law_weight : FnScope N__law_weight ["_law_graph"] (defScope s__law_weight) := ⟨rfl, rfl, rfl, by decide +kernel, rfl, by decide +kernel, by decide +kernel⟩
abbrev s__law_rows_told : Stmt := topS 28
abbrev N__law_rows_told : List Str := ["_law_many", "_law_first", "_law_j"]
theorem sc__law_rows_told : FnScope N__law_rows_told ["_law_many", "_law_first"] (defScope s__law_rows_told) := ⟨rfl, rfl, rfl, by decide +kernel, rfl, by decide +kernel, by decide +kernel⟩
abbrev s__law_nested : Stmt := topS 29
abbrev N__law_nested : List Str := ["_law_script", "_law_at", "_law_mark_here", "_law_deep", "_law_more", "_law_blocks", "_law_k", "_law_back"]
theorem sc__law_nested : FnScope N__law_nested ["_law_script", "_law_at"] (defScope s__law_nested) := ⟨rfl, rfl, rfl, by decide +kernel, rfl, by decide +kernel, by decide +kernel⟩
abbrev s_law : Stmt := topS 30
abbrev N_law : List Str := ["_law_script", "_law_works", "_law_scopes", "_law_nested_here", "_law_one", "_law_found", "_law_due", "_law_name", "_law_graph"]
theorem sc_law : FnScope N_law ["_law_script"] (defScope s_law) := ⟨rfl, rfl, rfl, by decide +kernel, rfl, by decide +kernel, by decide +kernel⟩
abbrev FnP (K : PySem.W.Frag) (x : Str) (st : Stmt) (f : Addr) (fd : FuncData) : Prop := FunD K x x (defArgs st) (defBody st) (defScope st) [] [] f fd
structure Top (K : PySem.W.Frag) (mg : Str → Option Value) where
  fd_ways : FuncData
  F_ways : FnP K "ways" s_ways (He.ga K "ways") fd_ways
  b_ways : Binds K fd_ways ["end"] []
  g_ways : mg "ways" = some (.ref (He.ga K "ways"))
  fd_leads_to : FuncData
  F_leads_to : FnP K "leads_to" s_leads_to (He.ga K "leads_to") fd_leads_to
  b_leads_to : Binds K fd_leads_to ["graph"] []
  g_leads_to : mg "leads_to" = some (.ref (He.ga K "leads_to"))
  fd_elders : FuncData
  F_elders : FnP K "elders" s_elders (He.ga K "elders") fd_elders
  b_elders : Binds K fd_elders ["graph"] []
  g_elders : mg "elders" = some (.ref (He.ga K "elders"))
  fd_blocks_back : FuncData
  F_blocks_back : FnP K "blocks_back" s_blocks_back (He.ga K "blocks_back") fd_blocks_back
  b_blocks_back : Binds K fd_blocks_back ["head", "backs", "ahead"] []
  g_blocks_back : mg "blocks_back" = some (.ref (He.ga K "blocks_back"))
  fd_loops : FuncData
  F_loops : FnP K "loops" s_loops (He.ga K "loops") fd_loops
  b_loops : Binds K fd_loops ["graph"] []
  g_loops : mg "loops" = some (.ref (He.ga K "loops"))
  fd_weight : FuncData
  F_weight : FnP K "weight" s_weight (He.ga K "weight") fd_weight
  b_weight : Binds K fd_weight ["graph"] []
  g_weight : mg "weight" = some (.ref (He.ga K "weight"))
  fd_measure : FuncData
  F_measure : FnP K "measure" s_measure (He.ga K "measure") fd_measure
  b_measure : Binds K fd_measure ["works"] []
  g_measure : mg "measure" = some (.ref (He.ga K "measure"))
  fd__law_mark : FuncData
  F__law_mark : FnP K "_law_mark" s__law_mark (He.ga K "_law_mark") fd__law_mark
  b__law_mark : Binds K fd__law_mark ["_law_script", "_law_k"] []
  g__law_mark : mg "_law_mark" = some (.ref (He.ga K "_law_mark"))
  fd__law_number_by : FuncData
  F__law_number_by : FnP K "_law_number_by" s__law_number_by (He.ga K "_law_number_by") fd__law_number_by
  b__law_number_by : Binds K fd__law_number_by ["_law_mark_here"] []
  g__law_number_by : mg "_law_number_by" = some (.ref (He.ga K "_law_number_by"))
  fd__law_row_by : FuncData
  F__law_row_by : FnP K "_law_row_by" s__law_row_by (He.ga K "_law_row_by") fd__law_row_by
  b__law_row_by : Binds K fd__law_row_by ["_law_mark_here", "_law_scope", "_law_value"] []
  g__law_row_by : mg "_law_row_by" = some (.ref (He.ga K "_law_row_by"))
  fd__law_rows_by : FuncData
  F__law_rows_by : FnP K "_law_rows_by" s__law_rows_by (He.ga K "_law_rows_by") fd__law_rows_by
  b__law_rows_by : Binds K fd__law_rows_by ["_law_script", "_law_at", "_law_many", "_law_scope", "_law_value"] []
  g__law_rows_by : mg "_law_rows_by" = some (.ref (He.ga K "_law_rows_by"))
  fd__law_last : FuncData
  F__law_last : FnP K "_law_last" s__law_last (He.ga K "_law_last") fd__law_last
  b__law_last : Binds K fd__law_last ["_law_scope", "_law_mark_here"] []
  g__law_last : mg "_law_last" = some (.ref (He.ga K "_law_last"))
  fd__law_end_by : FuncData
  F__law_end_by : FnP K "_law_end_by" s__law_end_by (He.ga K "_law_end_by") fd__law_end_by
  b__law_end_by : Binds K fd__law_end_by ["_law_mark_here", "_law_scope"] []
  g__law_end_by : mg "_law_end_by" = some (.ref (He.ga K "_law_end_by"))
  fd__law_straight : FuncData
  F__law_straight : FnP K "_law_straight" s__law_straight (He.ga K "_law_straight") fd__law_straight
  b__law_straight : Binds K fd__law_straight ["_law_script", "_law_at", "_law_inputs"] []
  g__law_straight : mg "_law_straight" = some (.ref (He.ga K "_law_straight"))
  fd__law_diamond : FuncData
  F__law_diamond : FnP K "_law_diamond" s__law_diamond (He.ga K "_law_diamond") fd__law_diamond
  b__law_diamond : Binds K fd__law_diamond ["_law_script", "_law_at", "_law_inputs"] []
  g__law_diamond : mg "_law_diamond" = some (.ref (He.ga K "_law_diamond"))
  fd__law_loop : FuncData
  F__law_loop : FnP K "_law_loop" s__law_loop (He.ga K "_law_loop") fd__law_loop
  b__law_loop : Binds K fd__law_loop ["_law_script", "_law_at", "_law_inputs"] []
  g__law_loop : mg "_law_loop" = some (.ref (He.ga K "_law_loop"))
  fd__law_caller : FuncData
  F__law_caller : FnP K "_law_caller" s__law_caller (He.ga K "_law_caller") fd__law_caller
  b__law_caller : Binds K fd__law_caller ["_law_script", "_law_at", "_law_inputs", "_law_many"] []
  g__law_caller : mg "_law_caller" = some (.ref (He.ga K "_law_caller"))
  fd__law_works_by : FuncData
  F__law_works_by : FnP K "_law_works_by" s__law_works_by (He.ga K "_law_works_by") fd__law_works_by
  b__law_works_by : Binds K fd__law_works_by ["_law_script", "_law_at"] []
  g__law_works_by : mg "_law_works_by" = some (.ref (He.ga K "_law_works_by"))
  fd__law_ways : FuncData
  F__law_ways : FnP K "_law_ways" s__law_ways (He.ga K "_law_ways") fd__law_ways
  b__law_ways : Binds K fd__law_ways ["_law_end"] []
  g__law_ways : mg "_law_ways" = some (.ref (He.ga K "_law_ways"))
  fd__law_come : FuncData
  F__law_come : FnP K "_law_come" s__law_come (He.ga K "_law_come") fd__law_come
  b__law_come : Binds K fd__law_come ["_law_graph", "_law_start", "_law_without"] []
  g__law_come : mg "_law_come" = some (.ref (He.ga K "_law_come"))
  fd__law_weight : FuncData
  F__law_weight : FnP K "_law_weight" s__law_weight (He.ga K "_law_weight") fd__law_weight
  b__law_weight : Binds K fd__law_weight ["_law_graph"] []
  g__law_weight : mg "_law_weight" = some (.ref (He.ga K "_law_weight"))
  fd__law_rows_told : FuncData
  F__law_rows_told : FnP K "_law_rows_told" s__law_rows_told (He.ga K "_law_rows_told") fd__law_rows_told
  b__law_rows_told : Binds K fd__law_rows_told ["_law_many", "_law_first"] []
  g__law_rows_told : mg "_law_rows_told" = some (.ref (He.ga K "_law_rows_told"))
  fd__law_nested : FuncData
  F__law_nested : FnP K "_law_nested" s__law_nested (He.ga K "_law_nested") fd__law_nested
  b__law_nested : Binds K fd__law_nested ["_law_script", "_law_at"] []
  g__law_nested : mg "_law_nested" = some (.ref (He.ga K "_law_nested"))
  fd_law : FuncData
  F_law : FnP K "law" s_law (He.ga K "law") fd_law
  b_law : Binds K fd_law ["_law_script"] []
  g_law : mg "law" = some (.ref (He.ga K "law"))
  m_bool : mg "bool" = none
  m_enumerate : mg "enumerate" = none
  m_int : mg "int" = none
  m_isinstance : mg "isinstance" = none
  m_len : mg "len" = none
  m_list : mg "list" = none
  m_min : mg "min" = none
  m_range : mg "range" = none
  m_sum : mg "sum" = none
  m_tuple : mg "tuple" = none
  c_TIMES : mg "TIMES" = some (.ref (He.ga K "TIMES"))
  q_TIMES : ∀ H : Hp, SqT K H (He.ga K "TIMES") [.int 1, .int 8, .int 64, .int 512, .int 4096]
/-! data without lists stays -/
mutual
def nLd : PyData → Bool
  | .list _ => false
  | .dict _ => false
  | .tuple xs => nLs xs
  | .none => true
  | .bool _ => true
  | .int _ => true
  | .str _ => true
def nLs : List PyData → Bool
  | [] => true
  | x :: r => nLd x && nLs r
end
theorem sqT_kp {K : PySem.W.Frag} {S : Addr → Prop} {H H' : Hp} {a : Addr} {xs : List V} (k : Kp S H H') (h : SqT K H a xs) : SqT K H' a xs := by
  rcases h with (e | ⟨o, e⟩) | e
  · exact .inl (.inl (k _ _ e fun _ z => z))
  · exact .inl (.inr ⟨o, k _ _ e fun _ z => z⟩)
  · exact .inr e
mutual
theorem dp_kp {K : PySem.W.Frag} {S : Addr → Prop} {H H' : Hp} (k : Kp S H H') : ∀ (d : PyData) (v : V), nLd d = true → Dp K H v d → Dp K H' v d
  | .none, _, _, h => by cases h; exact .non
  | .bool b, _, _, h => by cases h; exact .bl b
  | .int i, _, _, h => by cases h; exact .int i
  | .str x, _, _, h => by cases h; exact .str x
  | .list _, _, n, _ => by cases n
  | .dict _, _, n, _ => by cases n
  | .tuple ds, _, n, h => by
    cases h with
    | tup hs ha => exact .tup (sqT_kp k hs) (dpAll_kp k ds _ n ha)
theorem dpAll_kp {K : PySem.W.Frag} {S : Addr → Prop} {H H' : Hp} (k : Kp S H H') : ∀ (ds : List PyData) (vs : List V), nLs ds = true → DpAll K H vs ds → DpAll K H' vs ds
  | [], _, _, h => by cases h; exact .nil
  | d :: ds, _, n, h => by
    have n2 : nLd d = true ∧ nLs ds = true := by
      unfold nLs at n
      exact Bool.and_eq_true_iff.mp n
    cases h with
    | cons h1 h2 => exact .cons (dp_kp k d _ n2.1 h1) (dpAll_kp k ds _ n2.2 h2)
end
section
variable {K : PySem.W.Frag} {H : Hp}
theorem dp_tup {v : V} {ds : List PyData} (h : Dp K H v (.tuple ds)) : ∃ a xs, v = .ref a ∧ SqT K H a xs ∧ DpAll K H xs ds := by
  cases h with
  | tup h1 h2 => exact ⟨_, _, rfl, h1, h2⟩
theorem dp_str {v : V} {z : Str} (h : Dp K H v (.str z)) : v = .str z := by cases h; rfl
theorem dp_int {v : V} {z : Int} (h : Dp K H v (.int z)) : v = .int z := by cases h; rfl
theorem dpAll_cons {vs : List V} {d : PyData} {ds : List PyData} (h : DpAll K H vs (d :: ds)) : ∃ v r, vs = v :: r ∧ Dp K H v d ∧ DpAll K H r ds := by
  cases h with
  | cons h1 h2 => exact ⟨_, _, rfl, h1, h2⟩
theorem dpAll_nil {vs : List V} (h : DpAll K H vs []) : vs = [] := by cases h; rfl
theorem dpAll_len : ∀ {vs : List V} {ds : List PyData}, DpAll K H vs ds → vs.length = ds.length
  | _, _, .nil => rfl
  | _, _, .cons _ t => by rw [List.length_cons, List.length_cons, dpAll_len t]
theorem dpAll_get : ∀ {vs : List V} {ds : List PyData} {i : Nat} {d : PyData}, DpAll K H vs ds → ds[i]? = some d → ∃ v, vs[i]? = some v ∧ Dp K H v d
  | _, _, _, _, .nil, e => by simp at e
  | _, _, 0, _, .cons h _, e => ⟨_, rfl, (Option.some.inj e) ▸ h⟩
  | _, _, i + 1, _, .cons _ t, e => dpAll_get (i := i) t e
theorem dpAll_getV : ∀ {vs : List V} {ds : List PyData} {i : Nat} {v : V}, DpAll K H vs ds → vs[i]? = some v → ∃ d, ds[i]? = some d ∧ Dp K H v d
  | _, _, _, _, .nil, e => by simp at e
  | _, _, 0, _, .cons h _, e => ⟨_, rfl, (Option.some.inj e) ▸ h⟩
  | _, _, i + 1, _, .cons _ t, e => dpAll_getV (i := i) t e
theorem dpAll_app : ∀ {vs ws : List V} {ds es : List PyData}, DpAll K H vs ds → DpAll K H ws es → DpAll K H (vs ++ ws) (ds ++ es)
  | _, _, _, _, .nil, s => s
  | _, _, _, _, .cons h t, s => .cons h (dpAll_app t s)
theorem dpAll_take : ∀ {vs : List V} {ds : List PyData} (n : Nat), DpAll K H vs ds → DpAll K H (vs.take n) (ds.take n)
  | _, _, 0, _ => .nil
  | _, _, _ + 1, .nil => .nil
  | _, _, n + 1, .cons h t => .cons h (dpAll_take n t)
theorem dpAll_drop : ∀ {vs : List V} {ds : List PyData} (n : Nat), DpAll K H vs ds → DpAll K H (vs.drop n) (ds.drop n)
  | _, _, 0, h => h
  | _, _, _ + 1, .nil => .nil
  | _, _, n + 1, .cons _ t => dpAll_drop n t
theorem dpAll_strs : ∀ {vs : List V} {zs : List Str}, DpAll K H vs (zs.map PyData.str) → vs = zs.map V.str
  | _, [], h => dpAll_nil h
  | _, z :: zs, h => by
    obtain ⟨v, r, rfl, h1, h2⟩ := dpAll_cons h
    rw [dp_str h1, dpAll_strs h2]
    rfl
theorem strs_dpAll : ∀ (zs : List Str), DpAll K H (zs.map V.str) (zs.map PyData.str)
  | [] => .nil
  | z :: zs => .cons (.str z) (strs_dpAll zs)
end

section
variable {P : Program} {w : World} {K : PySem.W.Frag} {mg : Str → Option Value} {base : Heap}
def isB : PyData → Bool
  | .bool _ => true
  | _ => false
def tyS : PyData → String
  | .none => "NoneType"
  | .bool _ => "bool"
  | .int _ => "int"
  | .str _ => "str"
  | .list _ => "list"
  | .tuple _ => "tuple"
  | .dict _ => "dict"
theorem ty_lst {H : Hp} {a : Addr} {xs : List V} (h : SqL K H a xs) : TyX K H (.ref a) (.type "list") := by
  rcases h with (h | ⟨ob, h⟩) | ⟨o, its, n, hk, hc, _⟩
  · exact .base (.lst h)
  · exact .base (.frz h)
  · exact .kList hk hc
theorem ty_tup {H : Hp} {a : Addr} {xs : List V} (h : SqT K H a xs) : TyX K H (.ref a) (.type "tuple") := by
  rcases h with (h | ⟨ob, h⟩) | ⟨o, its, n, hk, hc, _⟩
  · exact .base (.tup h)
  · exact .fTuple h
  · exact .kTuple hk hc
theorem dp_ty {H : Hp} {v : V} {d : PyData} (h : Dp K H v d) : TyX K H v (.type (tyS d)) := by
  cases h with
  | non => exact .base .non
  | bl b => exact .base (.bl b)
  | int i => exact .base (.int i)
  | str x => exact .base (.str x)
  | lst h _ => exact ty_lst h
  | tup h _ => exact ty_tup h
def isI : PyData → Bool
  | .int _ => true
  | .bool _ => true
  | _ => false
def isT : PyData → Bool
  | .tuple _ => true
  | _ => false
def isS : PyData → Bool
  | .str _ => true
  | _ => false
theorem kit_int : ∀ d : PyData, PySem.W.kitOne K (.type (tyS d)) (.type "int") = some (isI d)
  | .none => kit_ty (a := "NoneType") (b := "int") (r := false) (by decide +kernel)
  | .bool _ => kit_ty (a := "bool") (b := "int") (r := true) (by decide +kernel)
  | .int _ => kit_ty (a := "int") (b := "int") (r := true) (by decide +kernel)
  | .str _ => kit_ty (a := "str") (b := "int") (r := false) (by decide +kernel)
  | .list _ => kit_ty (a := "list") (b := "int") (r := false) (by decide +kernel)
  | .tuple _ => kit_ty (a := "tuple") (b := "int") (r := false) (by decide +kernel)
  | .dict _ => kit_ty (a := "dict") (b := "int") (r := false) (by decide +kernel)
theorem kit_bool : ∀ d : PyData, PySem.W.kitOne K (.type (tyS d)) (.type "bool") = some (isB d)
  | .none => kit_ty (a := "NoneType") (b := "bool") (r := false) (by decide +kernel)
  | .bool _ => kit_ty (a := "bool") (b := "bool") (r := true) (by decide +kernel)
  | .int _ => kit_ty (a := "int") (b := "bool") (r := false) (by decide +kernel)
  | .str _ => kit_ty (a := "str") (b := "bool") (r := false) (by decide +kernel)
  | .list _ => kit_ty (a := "list") (b := "bool") (r := false) (by decide +kernel)
  | .tuple _ => kit_ty (a := "tuple") (b := "bool") (r := false) (by decide +kernel)
  | .dict _ => kit_ty (a := "dict") (b := "bool") (r := false) (by decide +kernel)
theorem kit_tup : ∀ d : PyData, PySem.W.kitOne K (.type (tyS d)) (.type "tuple") = some (isT d)
  | .none => kit_ty (a := "NoneType") (b := "tuple") (r := false) (by decide +kernel)
  | .bool _ => kit_ty (a := "bool") (b := "tuple") (r := false) (by decide +kernel)
  | .int _ => kit_ty (a := "int") (b := "tuple") (r := false) (by decide +kernel)
  | .str _ => kit_ty (a := "str") (b := "tuple") (r := false) (by decide +kernel)
  | .list _ => kit_ty (a := "list") (b := "tuple") (r := false) (by decide +kernel)
  | .tuple _ => kit_ty (a := "tuple") (b := "tuple") (r := true) (by decide +kernel)
  | .dict _ => kit_ty (a := "dict") (b := "tuple") (r := false) (by decide +kernel)
theorem kit_str : ∀ d : PyData, PySem.W.kitOne K (.type (tyS d)) (.type "str") = some (isS d)
  | .none => kit_ty (a := "NoneType") (b := "str") (r := false) (by decide +kernel)
  | .bool _ => kit_ty (a := "bool") (b := "str") (r := false) (by decide +kernel)
  | .int _ => kit_ty (a := "int") (b := "str") (r := false) (by decide +kernel)
  | .str _ => kit_ty (a := "str") (b := "str") (r := true) (by decide +kernel)
  | .list _ => kit_ty (a := "list") (b := "str") (r := false) (by decide +kernel)
  | .tuple _ => kit_ty (a := "tuple") (b := "str") (r := false) (by decide +kernel)
  | .dict _ => kit_ty (a := "dict") (b := "str") (r := false) (by decide +kernel)
mutual
theorem dp_sm {H H' : Hp} (k : Same H H') : ∀ {v : V} {d : PyData}, Dp K H v d → Dp K H' v d
  | _, _, .non => .non
  | _, _, .bl b => .bl b
  | _, _, .int i => .int i
  | _, _, .str x => .str x
  | _, _, .lst h da => .lst (k.seq h) (dpAll_sm k da)
  | _, _, .tup h da => .tup (sqT_kp (Kp.of_same (S := fun _ => False) k) h) (dpAll_sm k da)
theorem dpAll_sm {H H' : Hp} (k : Same H H') : ∀ {vs : List V} {ds : List PyData}, DpAll K H vs ds → DpAll K H' vs ds
  | _, _, .nil => .nil
  | _, _, .cons h r => .cons (dp_sm k h) (dpAll_sm k r)
end
/-- a value != a shallow one -/
def rNeE (K : PySem.W.Frag) : R2 := fun x y H Q => ∃ d e, Dp K H x d ∧ Dp K H y e ∧ d.canLay0 = true ∧ e.canLay0 = true ∧ e.depth ≤ 64 ∧ Q (.bl (!PyData.eqv d e)) H
theorem op_neE {X : Cx} (hu : X.A.units + 64 < cLine) : OpR X (compareOp .NotEq) (rNeE X.K) := by
  intro pins s σ H x y v u Q I rx ry h
  obtain ⟨d, e, hd, he, sd, se, de, q⟩ := h
  obtain ⟨as, r1⟩ := Dp.reads I d x v hd rx
  obtain ⟨bs, r2⟩ := Dp.reads I e y u he ry
  refine SeqAt.compareNe_reads r1 r2 sd se ?_ ⟨.bl _, H, I, rfl, q⟩
  have : min d.depth e.depth ≤ e.depth := Nat.min_le_right _ _
  omega
theorem in_strs {z : Str} {ws : List Str} : inV (.str z) (ws.map V.str) = decide (z ∈ ws) := by
  unfold inV
  rw [List.any_map]
  by_cases h : z ∈ ws
  · rw [decide_eq_true h]
    refine List.any_eq_true.mpr ⟨z, h, ?_⟩
    show (z == z) = true
    exact beq_self_eq_true z
  · rw [decide_eq_false h]
    refine List.any_eq_false.mpr fun x hx e => h ?_
    have e2 : (x == z) = true := e
    rw [← eq_of_beq e2]
    exact hx
theorem ifT {c : Bool} {A B : Prop} (hc : c = true) (h : A) : if c = true then A else B := by rw [if_pos hc]; exact h
theorem ifF {c : Bool} {A B : Prop} (hc : c = false) (h : B) : if c = true then A else B := by rw [if_neg (by rw [hc]; exact Bool.false_ne_true)]; exact h
theorem cd {i j : Int} (h0 : 0 < j) (h1 : j < 2 ^ 64) : CDivW i j := wide_div (b := 64) h0 (by omega) (by decide) (by decide)
theorem at_ints2 {ns : List Int} {i : Int} (h0 : 0 ≤ i) (h1 : i < ns.length) : ∃ z, atI (ns.map V.int) i = some (.int z) := ⟨_, at_ints h0 h1⟩
theorem strs_at {zs : List Str} {i : Int} (h0 : 0 ≤ i) (h1 : i < zs.length) : ∃ z ∈ zs, atI (zs.map V.str) i = some (.str z) := by
  obtain ⟨x, hx, e⟩ := at_list (ns := zs.map V.str) h0 (by rw [List.length_map]; exact h1)
  obtain ⟨z, hz, rfl⟩ := List.mem_map.mp hx
  exact ⟨z, hz, e⟩
def Scp (K : PySem.W.Frag) (H : Hp) (a : Addr) (ns : List Int) : Prop := ns.length ≤ 63 ∧ (∀ z ∈ ns, Builtin.Int.intBits z ≤ 1048576) ∧ SqL K H a (ns.map V.int)
theorem Scp.sm {H H' : Hp} {a : Addr} {ns : List Int} (h : Scp K H a ns) (k : Same H H') : Scp K H' a ns := ⟨h.1, h.2.1, k.seq h.2.2⟩
theorem same_upd {H H' : Hp} {D : Addr} {o : HO} (s : Same H H') (n : H D = none) : Same H (upd H' D o) := fun b x hb => by
  rw [upd_ne (ne_of_none hb n)]
  exact s _ _ hb
theorem tail_no {x : V} {zs : List V} : ¬ (HT.sIx (x :: zs).length 0 (some 1) = 0 ∧ HT.sIx (x :: zs).length (x :: zs).length none = (x :: zs).length) := by
  have e1 : HT.sIx (x :: zs).length 0 (some 1) = 1 := by
    show min 1 (zs.length + 1) = 1
    omega
  rw [e1]
  exact fun z => absurd z.1 (by decide)
theorem cut_tail {x : V} {zs : List V} : cutV (x :: zs) (some 1) none = zs := by
  have e1 : HT.sIx (x :: zs).length 0 (some 1) = 1 := by
    show min 1 (zs.length + 1) = 1
    omega
  have e2 : HT.sIx (x :: zs).length (x :: zs).length none = zs.length + 1 := rfl
  unfold cutV
  rw [e1, e2]
  simp
theorem sqT_sm {H H' : Hp} {a : Addr} {xs : List V} (s : Same H H') (h : SqT K H a xs) : SqT K H' a xs := sqT_kp (Kp.of_same (S := fun _ => False) s) h
end

section
variable {P : Program} {w : World} {K : PySem.W.Frag} {mg : Str → Option Value} {base : Heap}
theorem lt_bits {z : Int} {n : Nat} (h : Builtin.Int.intBits z ≤ n) : z.natAbs < 2 ^ n := by
  unfold Builtin.Int.intBits at h
  by_cases h0 : z.natAbs = 0
  · rw [h0]
    exact Nat.two_pow_pos n
  · split at h
    · rename_i hz
      exact absurd (by rw [eq_of_beq hz]; rfl) h0
    · exact (Nat.log2_lt h0).mp (by omega)
set_option exponentiation.threshold 2000 in
theorem mark_bits {c k l : Int} (h : Builtin.Int.intBits c ≤ 1048576) (k0 : 0 ≤ k) (k1 : k < 2 ^ 20) (l0 : 0 ≤ l) (l1 : l ≤ 63) : (c * 48271 + 104729 * k + 7919 * l + 1).natAbs < 2 ^ (1048576 + 40) := by
  have b := lt_bits h
  rw [Nat.pow_add]
  have p : 1 ≤ 2 ^ 1048576 := Nat.one_le_two_pow
  generalize 2 ^ 1048576 = B at b p
  have e : B * 2 ^ 40 = B * 1099511627776 := rfl
  rw [e]
  omega
def sp_mark (K : PySem.W.Frag) : Sp := fun vs H Q _ => ∃ (a : Addr) (ns : List Int) (k : Int), vs = [.ref a, .int k] ∧ ns.length ≤ 63 ∧ (∀ z ∈ ns, Builtin.Int.intBits z ≤ 1048576) ∧ SqL K H a (ns.map V.int) ∧ 0 ≤ k ∧ k < 2 ^ 20 ∧ ∀ r, 0 ≤ r → r < 2 ^ 31 → Q (.int r) H
theorem ok__law_mark (T : Top K mg) : FnOk P w K mg base CX0 1 (He.ga K "_law_mark") T.fd__law_mark ["_law_script", "_law_k"] (sp_mark K) := by
  refine T.F__law_mark.ok sc__law_mark (fun vs H Q E h => ?_) (fun cdv A outer s H vs Q E hr h => ?_)
  · obtain ⟨a, ns, k, rfl, _⟩ := h
    rfl
  · obtain ⟨a, ns, k, rfl, hl, hb, hS, k0, k1, q⟩ := h
    refine ⟨_, PSs.nox (pss_cons (ps_set (i := 2) sc__law_mark.nd rfl (Or.inl rfl) pe_int)
        (pss_cons (ps_if (pt_cmpR op_lt (pv 1) (pe_callB call_len_seq (by rfl) T.m_len (by decide +kernel) (pa_cons (pv 0) pa_nil)) (nomark _)) (pss_one (ps_set (i := 2) sc__law_mark.nd rfl (Or.inl rfl) (pe_ix ix_list (pv 0) (pv 1) (fun _ _ => rfl)))) pss_nil)
        (pss_cons (ps_set (i := 3) sc__law_mark.nd rfl (Or.inl rfl) (pe_op op_add (pe_op op_add (pe_op op_add (pe_op op_mul (pv 2) pe_int) (pe_op op_mul pe_int (pv 1))) (pe_op op_mul pe_int (pe_callB call_len_seq (by rfl) T.m_len (by decide +kernel) (pa_cons (pv 0) pa_nil)))) pe_int))
        (pss_one (ps_ret (pe_op op_mod (pe_op op_mul (pe_op op_mod (pe_op op_mulX (pv 3) (pv 3)) pe_int) pe_int) pe_int)))))), ?_⟩
    refine seq_by (fun σ' H' => H = H' ∧ σ' = [some (.ref a), some (.int k), some (.int 0), none]) ?_ (fun N hN => hN _ _ ⟨rfl, rfl⟩)
    rintro σ' H' ⟨rfl, rfl⟩
    refine ifs_by (fun σ' H' => ∃ c, H = H' ∧ Builtin.Int.intBits c ≤ 1048576 ∧ σ' = [some (.ref a), some (.int k), some (.int c), none]) ?_ ?_
    · rintro σ' H' ⟨c, rfl, cb, rfl⟩
      have mb := mark_bits cb k0 k1 (l := (ns.map V.int).length) (by omega) (by rw [List.length_map]; omega)
      refine ⟨_, rfl, _, _, rfl, rfl, .inr ⟨by decide, by decide⟩, _, rfl, _, _, rfl, rfl, .inl ⟨by decide, by decide⟩, _, _, rfl, rfl, _, rfl, a, _, rfl, .inl hS, _, _, rfl, rfl, .inl ⟨by decide, by decide⟩, _, _, rfl, rfl, _, _, rfl, rfl, ?_⟩
      dsimp only
      generalize c * 48271 + 104729 * k + 7919 * ((ns.map V.int).length : Int) + 1 = z at mb
      refine ⟨_, rfl, _, rfl, _, _, rfl, rfl, mulx_ok mb mb (by decide), _, _, rfl, rfl, (by show (0 : Int) < 2147483647; decide), _, _, rfl, rfl, .inr ⟨by decide, by decide⟩, _, _, rfl, rfl, (by show (0 : Int) < 2147483629; decide), ?_⟩
      have r1 := Int.emod_lt_of_pos (z * z % 2147483647 * 2003) (show (0 : Int) < 2147483629 by decide)
      exact q _ (Int.emod_nonneg _ (by decide)) (by omega)
    · intro N hN
      refine ⟨_, rfl, _, rfl, a, _, rfl, .inl hS, _, _, rfl, rfl, _, rfl, ite2 (fun e => ?_) (fun e => ?_)⟩
      · have e1 : k < (ns.map V.int).length := of_decide_eq_true e
        rw [List.length_map] at e1
        exact ⟨_, rfl, _, rfl, a, _, _, _, rfl, rfl, hS, at_ints k0 e1, hN _ _ ⟨_, rfl, getD_all (d := 0) hb k0 e1, rfl⟩⟩
      · exact hN _ _ ⟨0, rfl, by decide, rfl⟩
end

/-! [f, g][i](e, ..): a def picked out of a list -/
structure Pickd (X : Cx) (f : Addr) (sp : Sp) : Prop where
  ok : ∃ (k : Nat) (fd : FuncData) (ps : List Str), FnOk X.prog X.w X.K X.mg X.base CX0 k f fd ps sp ∧ Room k X.A ∧ PySem.W.keepIn X.K (.ref f) = true ∧ Binds X.K fd ps []
def tPick (C : Addr → Sp → Prop) (te : TE) (t : TA) : TE := fun σ H Q => te σ H fun x H1 => ∃ f sp, x = .ref f ∧ C f sp ∧ t σ H1 fun vs H2 => sp vs H2 Q E0
theorem pe_pick {X : Cx} {C : Addr → Sp → Prop} {o i e : Expr} {es : List Expr} {p pos : Pos} {te : TE} {t : TA} (hC : ∀ f sp, C f sp → Pickd X f sp) (hf : PE X (.Subscript o i p) te) (ha : PA X (e :: es) t)
    (he : starEach (e :: es) X.env = (false, eval e X.env) :: starEach es X.env := by rfl) (hpl : (backTo pos (starEach es X.env)).any (·.1) = false := by rfl) :
    PE X (.Call (.Subscript o i p) (e :: es) [] pos) (tPick C te t) := by
  refine ⟨fun pins s σ H Q I h => ?_⟩
  have e0 : eval (.Call (.Subscript o i p) (e :: es) [] pos) X.env = (do
    callWith pos (← eval (.Subscript o i p) X.env) [] (backTo pos (starEach (e :: es) X.env)) (backToKw pos (keywordEach [] X.env))) := rfl
  rw [e0]
  refine wpAny_bind (thn (hf.run pins s σ H _ I h) fun u s1 ⟨x, H1, I1, rx, f, sp, ex, c, q⟩ => ?_)
  subst ex
  cases rx
  obtain ⟨k, fd, ps, F, hr, hk, hb⟩ := (hC f sp c).ok
  refine PySem.W.callWith_K (h₀ := X.base) I.ok.mod.kin hk (thn (ha.run pos pins s1 σ H1 _ I1 q) fun us s2 ⟨vs, H2, I2, r, q2⟩ => ⟨I2.kIn, ?_⟩) he hpl
  exact run_fn (dvs := []) F hr hb .nil pass0 I2 r (by rw [List.append_nil]; exact q2)

/-! graphs, in plain words -/
inductive En where
  | fail (n : Int)
  | give (n : Int)
  | jump (t : Nat) (as : List Int)
  | choose (c : Int) (t u : Nat) (as bs : List Int)
  | call (h : Str) (as : List Int) (t : Nat) (bs : List Int)
def wy (t : Nat) (as : List Int) : PyData := .tuple [.int t, .tuple (as.map .int)]
def En.d : En → PyData
  | .fail n => .tuple [.str "fail", .int n]
  | .give n => .tuple [.str "give", .int n]
  | .jump t as => .tuple [.str "jump", wy t as]
  | .choose c t u as bs => .tuple [.str "choose", .int c, wy t as, wy u bs]
  | .call h as t bs => .tuple [.str "call", .str h, .tuple (as.map .int), wy t bs]
def En.ws : En → List (Nat × List Int)
  | .fail _ => []
  | .give _ => []
  | .jump t as => [(t, as)]
  | .choose _ t u as bs => [(t, as), (u, bs)]
  | .call _ _ t bs => [(t, bs)]
def En.ts (e : En) : List Nat := e.ws.map (·.1)
def En.small : En → Bool
  | .fail _ => true
  | .give _ => true
  | .jump _ as => decide (as.length ≤ 100)
  | .choose _ _ _ as bs => decide (as.length ≤ 100) && decide (bs.length ≤ 100)
  | .call _ as _ bs => decide (as.length ≤ 100) && decide (bs.length ≤ 100)
structure Bk where
  ps : List PyData
  rs : List PyData
  e : En
def Bk.d (b : Bk) : PyData := .tuple [.tuple b.ps, .tuple b.rs, b.e.d]
abbrev Gr := List Bk
def Gr.d (g : Gr) : PyData := .tuple (g.map Bk.d)
abbrev Shp := List (List Nat)
def shp (g : Gr) : Shp := g.map fun b => b.e.ts
/-! what the program reckons of a shape -/
def addAt (aa : List (List Nat)) (t n : Nat) : List (List Nat) := aa.modify t (· ++ [n])
def leadB (aa : List (List Nat)) (n : Nat) (ts : List Nat) : List (List Nat) := ts.foldl (fun aa t => addAt aa t n) aa
def leadI (s : Shp) (j : Nat) : List (List Nat) := ((s.zipIdx).take j).foldl (fun aa q => leadB aa q.2 q.1) (List.replicate s.length [])
def leadP (s : Shp) : List (List Nat) := leadI s s.length
def whole (n : Nat) : Int := 1 * 2 ^ ((n : Int)).toNat - 1
def comI (aa : List (List Nat)) (fs : List Int) (w : Int) (x j : Nat) : Int := ((aa.getD x []).take j).foldl (fun c o => Builtin.bitAnd c (fs.getD o 0)) w
def com (aa : List (List Nat)) (fs : List Int) (w : Int) (x : Nat) : Int := Builtin.bitOr (comI aa fs w x (aa.getD x []).length) (1 * 2 ^ ((x : Int)).toNat)
def stepE (aa : List (List Nat)) (w : Int) (q : List Int × Bool) (x : Nat) : List Int × Bool :=
  if com aa q.1 w x ≠ q.1.getD x 0 then (q.1.set x (com aa q.1 w x), true) else q
def passI (aa : List (List Nat)) (w : Int) (fs : List Int) (j : Nat) : List Int × Bool := (List.range j).foldl (fun q i => stepE aa w q (1 + i)) (fs, false)
def eldI (aa : List (List Nat)) (w : Int) (n : Nat) : Nat → List Int → Option (List Int)
  | 0, _ => none
  | k + 1, fs => if (passI aa w fs (n - 1)).2 = true then eldI aa w n k (passI aa w fs (n - 1)).1 else some (passI aa w fs (n - 1)).1
def eldP (s : Shp) : Option (List Int) := eldI (leadP s) (whole s.length) s.length 50 ((List.replicate s.length (whole s.length)).set 0 1)
def bit (f : Int) (x : Nat) : Int := Builtin.bitAnd (f / 2 ^ ((x : Int)).toNat) 1
def bbI (aa : List (List Nat)) : Nat → Int → List Nat → Option Int
  | 0, f, l => if l = [] then some f else none
  | k + 1, f, l => if l = [] then some f else if bit f (l.getLastD 0) = 0 then bbI aa k (Builtin.bitOr f (1 * 2 ^ ((l.getLastD 0 : Nat) : Int).toNat)) (l.dropLast ++ aa.getD (l.getLastD 0) []) else bbI aa k f l.dropLast
def backs (aa : List (List Nat)) (ab : List Int) (h : Nat) : List Nat := (aa.getD h []).filter fun x => decide (bit (ab.getD x 0) h = 1)
def loopI (aa : List (List Nat)) (ab : List Int) : Nat → Option (List (Nat × Int))
  | 0 => some []
  | j + 1 => match loopI aa ab j with
    | none => none
    | some l => if backs aa ab j = [] then some l else match bbI aa 100 (1 * 2 ^ ((j : Int)).toNat) (backs aa ab j) with
      | none => none
      | some b => some (l ++ [(j, b)])
def loopP (s : Shp) : Option (List (Nat × Int)) := match eldP s with
  | none => none
  | some ab => loopI (leadP s) ab s.length
def deepP (lp : List (Nat × Int)) (x : Nat) : Nat := (lp.filter fun q => decide (bit q.2 x = 1)).length
def tms : List Int := [1, 8, 64, 512, 4096]
def wgt (ls : List Nat) (dp : Nat → Nat) (j : Nat) : Int := ((List.range j).map fun i => (((ls.getD i 0 : Nat) : Int) + 1) * tms.getD (min (dp i) 4) 0).sum
/-! what the law reckons of a shape -/
def comeS (s : Shp) (wo : Nat) (f : List Nat) (x j : Nat) : List Nat := ((s.getD x []).take j).foldl (fun f o => if o ∉ f ∧ o ≠ wo then f ++ [o] else f) f
def comeI (s : Shp) (wo : Nat) : Nat → Nat → List Nat → Option (List Nat)
  | 0, _, _ => none
  | k + 1, a, f => if a < f.length then comeI s wo k (a + 1) (comeS s wo f (f.getD a 0) (s.getD (f.getD a 0) []).length) else some f
def come (s : Shp) (st wo : Nat) : Option (List Nat) := comeI s wo 50 0 [st]
def tails (s : Shp) (ah : List Nat) (h : Nat) : List Nat := (List.range s.length).filter fun x => decide (x ∉ ah) && decide (h ∈ s.getD x [])
def deepI (s : Shp) (x : Nat) : Nat → Option Nat
  | 0 => some 0
  | j + 1 => match deepI s x j, come s 0 (1 + j) with
    | some d, some ah => if tails s ah (1 + j) ≠ [] ∧ x ∉ ah then match come s x (1 + j) with
        | none => none
        | some ch => some (d + if ((tails s ah (1 + j)).filter fun o => decide (x = 1 + j) || decide (o ∈ ch)) ≠ [] then 1 else 0)
      else some d
    | _, _ => none
def deepL (s : Shp) (x : Nat) : Option Nat := deepI s x (s.length - 1)
/-- a shape at which both come to the same -/
def okS (s : Shp) : Bool := decide (s.length ≤ 20) && (s.all fun l => l.all fun t => decide (t < s.length)) && decide (0 < s.length) && match loopP s with
  | none => false
  | some lp => (List.range s.length).all fun x => decide (deepL s x = some (deepP lp x))
def nest (d : Nat) : Shp := [[1]] ++ ((List.range d).map fun i => [i + 2, if i = 0 then d + 2 else i]) ++ [[d], []]
theorem ok_straight : okS [[]] = true := by decide +kernel
theorem ok_diamond : okS [[1, 2], [3], [3], []] = true := by decide +kernel
theorem ok_loop : okS [[1], [2, 3], [1], []] = true := by decide +kernel
theorem ok_caller : okS [[1], []] = true := by decide +kernel
theorem ok_nest : ∀ d, d < 6 → okS (nest (d + 1)) = true := by decide +kernel

/-! enumerate(t), t a tuple -/
namespace EnT
open PySem PySem.Spec PyProof.Rows L2
set_option maxHeartbeats 2000000 in
theorem meets_new {v : Value} {o : Obj} {H : Heap → Prop} (B : Begins v o H) :
    Meets (Builtin.«enumerate.__new__» ⟨[.type "enumerate", v], []⟩) (fun _ R s => H s.heap ∧
      R (.ok (.ret (.ref (s.heap.push o).objs.size))) { s with heap := (s.heap.push o).push { cls := .type "enumerate", data := .fields #[.none, .bool false, .ref s.heap.objs.size, rawInt 0, .none, .none] } }) :=
  .of_wp fun prog w A R s h => by
    obtain ⟨hp, g, d, tk, os⟩ := s; obtain ⟨h1, h⟩ := h
    have hsub := sub_enumerate
    have q1 : ∀ {A' : Around} {E : Value → Shared → Prop} {Q : Value → Shared → Prop}, Q (.ref hp.objs.size) ⟨hp.push o, g, d, tk, os⟩ → wpAny (model prog w) A' (pyIter v) Q E ⟨hp, g, d, tk, os⟩ :=
      fun q => B.iter prog w _ _ ⟨hp, g, d, tk, os⟩ _ h1 q
    wp_walk using q1
    refine wpAny_stack_any fun st => wpAny_pure ?_
    split
    · rename_i c _ _ _ _ _
      cases (c == Value.type "enumerate")
      · wp_walk using q1
        exact ⟨_, rfl, h⟩
      · wp_walk using q1
        exact ⟨_, rfl, h⟩
    · wp_walk using q1
      exact ⟨_, rfl, h⟩
section
variable {prog : Program} {w : World} {A : Around} {E : Value → Shared → Prop} {s : Shared}
theorem call_begins {v : Value} {o : Obj} {H : Heap → Prop} {Q : Value → Shared → Prop} (B : Begins v o H) (h1 : H s.heap)
    (h : ∀ h', IsEnum h' (s.heap.objs.size + 1) s.heap.objs.size 0 .none → h'.get? s.heap.objs.size = some o → h'.objs.size = s.heap.objs.size + 2 →
      (∀ b o, s.heap.get? b = some o → h'.get? b = some o) → Q (.ref (s.heap.objs.size + 1)) { s with heap := h' }) :
    wpAny (model prog w) A (call (.type "enumerate") [v]) Q E s := by
  refine callType_new F.called_enumerate (by decide) (F.typeCall_enumerate_1 _) (F.newCall_enumerate_1 _) (fun obj => F.args_object_init_2 obj _) F.entry_enumerate_new
    (meets_new B) ⟨h1, ?_⟩
  have hz : (s.heap.push o).objs.size = s.heap.objs.size + 1 := Heap.size_push ..
  show _ ∧ _
  rw [hz]
  have he : IsEnum ((s.heap.push o).push { cls := .type "enumerate", data := .fields #[.none, .bool false, .ref s.heap.objs.size, rawInt 0, .none, .none] }) (s.heap.objs.size + 1) s.heap.objs.size 0 .none := by
    have := Heap.get?_push_size (s.heap.push o) (o := { cls := .type "enumerate", data := .fields #[.none, .bool false, .ref s.heap.objs.size, rawInt 0, .none, .none] }) rfl
    rw [hz] at this; exact this
  refine ⟨⟨_, he, rfl⟩, h _ he (Heap.get?_push_of_some _ (Heap.get?_push_size _ B.free)) (by rw [Heap.size_push, hz]) fun b o x => Heap.get?_push_of_some _ (Heap.get?_push_of_some _ x)⟩
end
/-- the tuple at a, each item in a new pair -/
def Ite (K : PySem.W.Frag) (a : Addr) : It :=
  ⟨fun i H => ∃ (xs : List V) (x : V), SqT K H a xs ∧ xs[i]? = some x, fun i H v H' => ∃ T x, v = .ref T ∧ H T = none ∧ H' = upd H T (.tup [.int (i : Nat), x]) ∧ ∀ xs, SqT K H a xs → xs[i]? = some x, fun i H => ∃ xs : List V, SqT K H a xs ∧ xs.length = i⟩
theorem turn {P : Program} {w : World} {K : PySem.W.Frag} {elts : List Expr} {kk : Nat} {tpos : Pos} (a e it : Addr) :
    Turn P w K (.Tuple elts kk tpos) (Ite K a) [e, it] e (fun i h => (∃ old, IsEnum h e it ((i : Nat) : Int) old) ∧ h.IsTupleIter it a i ∧ e ≠ it) where
  mem := by simp
  obj := fun i h st b hb => by
    obtain ⟨⟨old, he⟩, ⟨o, ho, hc, hd⟩, _⟩ := st
    have e' : b = e ∨ b = it := by simpa using hb
    rcases e' with z | z
    · rw [z]; exact ⟨_, he, fun v q => nomatch q⟩
    · rw [z]; exact ⟨o, ho, fun v q => by rw [hd] at q; cases q⟩
  keep := fun i h h' st k => let ⟨⟨old, he⟩, hi, hne⟩ := st; ⟨⟨old, k e (by simp) _ he⟩, hi.at fun o q => k it (by simp) o q, hne⟩
  item := by
    intro X hP hw hK hc i pins s σ H E I hf st hg
    subst hP hw hK
    obtain ⟨⟨old, he⟩, hit, hne⟩ := st
    obtain ⟨xs, x, hq, hx⟩ := hg
    obtain ⟨its, rv, p, hz⟩ := I.tuple hq
    obtain ⟨u, hu, ru⟩ := rv.get hx
    have hel : e < s.heap.objs.size := Heap.lt_size he
    have hil : it < s.heap.objs.size := by obtain ⟨_, q, _⟩ := hit; exact Heap.lt_size q
    have p' : s.heap.IsTuple a its.toArray := p
    have ai : a ≠ it := fun z => by
      obtain ⟨o1, h1, c1, _⟩ := p
      obtain ⟨o2, h2, c2, _⟩ := hit
      rw [z, h2] at h1
      cases h1
      rw [c1] at c2
      exact absurd c2 (by decide)
    have ae : e ≠ a := fun z => by
      obtain ⟨o1, h1, c1, _⟩ := p
      have h2 : s.heap.get? e = some _ := he
      rw [z, h1] at h2
      cases h2
      exact absurd (show Value.type "enumerate" = Value.type "tuple" from c1) (by decide)
    have D := Draws.tuple (prog := X.prog) (w := X.w) (A := X.A.in1) (I.ok.hd hc) it a ai its.toArray
    have hlt : i < its.toArray.size := by
      have := (List.getElem?_eq_some_iff.mp hu).1
      simpa using this
    refine wpAny_pyNext_enum_itemD D he ⟨hit, p'⟩ hlt hne (by simp [hne, ae]) fun y h' tk hP ho hs' hT hsz hk => ?_
    have hy : y = u := by
      have hP' : its.toArray[i]? = some y := hP
      have : its[i]? = some y := by simpa using hP'
      rw [hu] at this
      cases this
      rfl
    subst hy
    refine ⟨_, rfl, wpAny_letOwnedTupleGo_enum (s := { s with heap := h', toks := tk + 1 }) ho fun h'' he' sb => ?_⟩
    have hT2 : h''.get? s.heap.objs.size = some { cls := .type "tuple", data := .seq #[.int i tk, y] } := (sb.2 _ (Nat.ne_of_gt hel)).trans hT
    have new : ObjOk X.prog X.w (upd H s.heap.objs.size (.tup [.int (i : Nat), x])) h'' s.heap.objs.size (.tup [.int (i : Nat), x]) :=
      ⟨by show 2 ≤ sizeLine; decide, [.int i tk, y], .cons ⟨_, rfl⟩ (.cons ru .nil), ⟨_, hT2, rfl, _, rfl⟩⟩
    have I1 : Inv X pins σ (upd H s.heap.objs.size (.tup [.int (i : Nat), x])) { s with heap := h'', toks := tk + 1 } :=
      I.turnedNew (ch := [e, it]) (fun b ob hb q => (sb.2 b (fun z => hb (by simp [z]))).trans (hk b ob (fun z => hb (by simp [z])) (fun z => hb (by simp [z])) q)) hf (Nat.le_refl _) new
    refine ⟨.ref s.heap.objs.size, _, I1, rfl, ⟨_, x, rfl, I.hok.fresh (Nat.le_refl _), rfl, fun ys hy => by rw [I.tuple_inj hy hq]; exact hx⟩, ⟨⟨y, ?_⟩, hs'.1.at fun o q => (sb.2 it (Ne.symm hne)).trans q, hne⟩, fun b hb => ?_⟩
    · have e1 : ((i + 1 : Nat) : Int) = (i : Int) + 1 := by omega
      rw [e1]; exact he'
    · have hb' : b < s.heap.objs.size := by
        have e' : b = e ∨ b = it := by simpa using hb
        rcases e' with z | z
        · rw [z]; exact hel
        · rw [z]; exact hil
      rw [upd_ne (Nat.ne_of_lt hb')]
      exact (hf b hb).1
  done := by
    intro X hP hw hK hc i pins s σ H E I hf st hg
    subst hP hw hK
    obtain ⟨⟨old, he⟩, hit, hne⟩ := st
    obtain ⟨xs, hq, hx⟩ := hg
    obtain ⟨its, rv, p, hz⟩ := I.tuple hq
    obtain ⟨f0, f1, f2, f3, f4, f5⟩ := hf it (by simp)
    have hl := rv.length
    have ai : a ≠ it := fun z => by
      obtain ⟨o1, h1, c1, _⟩ := p
      obtain ⟨o2, h2, c2, _⟩ := hit
      rw [z, h2] at h1
      cases h1
      rw [c1] at c2
      exact absurd c2 (by decide)
    have D := Draws.tuple (prog := X.prog) (w := X.w) (A := X.A.in1) (I.ok.hd hc) it a ai its.toArray
    have e9 : its.toArray.size = i := by
      simp
      omega
    refine wpAny_pyNext_enum_endD D he (by rw [e9]; exact ⟨hit, p⟩) fun h' eb => ⟨rfl, I.turned (t' := s.toks) (fun b o hb q => eb b o hb q) f0 f1 f3 f4 f5⟩
  self := fun A i s Q E st h => let ⟨⟨_, he⟩, _⟩ := st; wpAny_pyIter_enum he h
def iEnumT (K : PySem.W.Frag) (ta : TA) : TI := fun σ H R => ta σ H fun vs H1 => ∃ a xs, vs = [.ref a] ∧ SqT K H1 a xs ∧ R (Ite K a) H1
theorem pi_enumT {X : Cx} {e : Expr} {ta : TA} {p pos tpos : Pos} {elts : List Expr} {kk : Nat} (hg : Gl X "enumerate") (hm : X.mg "enumerate" = none) (ha : PA X [e] ta) (hs : starEach [e] X.env = [(false, eval e X.env)] := by rfl) :
    PI X (.Tuple elts kk tpos) (.Call (.Name "enumerate" p) [e] [] pos) (iEnumT X.K ta) := by
  refine ⟨fun pins s σ H R I h => ?_⟩
  refine Call_ (ld_blt I hg hm boot_enumerate (PyProof.Rows.callWith_type1 (thn (ha.run pos pins s σ H _ I h) fun us s1 ⟨vs, H1, I1, r1, q1⟩ => ?_) hs rfl))
  obtain ⟨a, xs, ex, hq, q⟩ := q1
  subst ex
  cases r1 with
  | cons r rr =>
    cases rr
    cases r
    obtain ⟨its, rv, p', hz⟩ := I1.tuple hq
    refine call_begins (begins_tuple a its.toArray) p' fun h' he hit hsz hk => wpAny_pyIter_enum he ?_
    have I2 : Inv X pins σ H1 { s1 with heap := h' } := I1.kept (t' := s1.toks) hk
    refine ⟨s1.heap.objs.size + 1, [s1.heap.objs.size + 1, s1.heap.objs.size], _, _, H1, rfl, I2, turn a (s1.heap.objs.size + 1) s1.heap.objs.size, ⟨⟨.none, he⟩, ⟨_, hit, rfl, rfl⟩, Nat.succ_ne_self _⟩, fun b hb => ?_, q⟩
    have e' : b = s1.heap.objs.size + 1 ∨ b = s1.heap.objs.size := by simpa using hb
    have hle : s1.heap.objs.size ≤ b := by
      rcases e' with z | z
      · rw [z]; exact Nat.le_add_right _ _
      · rw [z]; exact Nat.le_refl _
    exact I1.fpOk hle (I1.hok.fresh hle)
theorem walk {K : PySem.W.Frag} {a : Addr} {xs : List V} : Walk (Ite K a) xs.length (fun H => SqT K H a xs) (YPair (fun i => some (.int (i : Nat))) (fun i => xs[i]?)) := by
  refine ⟨fun i _ hi q => ⟨xs, xs[i], q, by simp [hi]⟩, fun _ q => ⟨xs, q, rfl⟩, fun i H v H' _ q y => ?_⟩
  obtain ⟨T, x, h1, h2, h3, h4⟩ := y
  exact ⟨T, .int (i : Nat), x, h1, h2, h3, rfl, h4 xs q⟩
end EnT

section
variable {P : Program} {w : World} {K : PySem.W.Frag} {mg : Str → Option Value} {base : Heap}
def wyD (q : Nat × List Int) : PyData := wy q.1 q.2
def sp_ways (K : PySem.W.Frag) : Sp := fun vs H Q _ => ∃ (v : V) (e : En), vs = [v] ∧ Dp K H v e.d ∧ ∀ H' p xs, Same H H' → SqT K H' p xs → DpAll K H' xs (e.ws.map wyD) → Q (.ref p) H'
theorem ok_ways (T : Top K mg) : FnOk P w K mg base CX0 1 (He.ga K "ways") T.fd_ways ["end"] (sp_ways K) := by
  refine T.F_ways.ok sc_ways (fun vs H Q E h => ?_) (fun cdv A outer s H vs Q E hr h => ?_)
  · obtain ⟨v, e, rfl, _⟩ := h
    rfl
  · obtain ⟨v, e, rfl, dp, q⟩ := h
    refine ⟨_, PSs.nox (pss_cons (ps_set (i := 1) sc_ways.nd rfl (Or.inl rfl) (pe_ix ix_tup (pv 0) pe_int (fun _ _ => rfl)))
        (pss_cons (ps_if (pt_cmpR op_eq (pv 1) pe_str (nomark _)) (pss_one (ps_ret (pe_tup (pa_cons (pe_ix ix_tup (pv 0) pe_int (fun _ _ => rfl)) pa_nil)))) pss_nil)
        (pss_cons (ps_if (pt_cmpR op_eq (pv 1) pe_str (nomark _)) (pss_one (ps_ret (pe_tup (pa_cons (pe_ix ix_tup (pv 0) pe_int (fun _ _ => rfl)) (pa_cons (pe_ix ix_tup (pv 0) pe_int (fun _ _ => rfl)) pa_nil))))) pss_nil)
        (pss_cons (ps_if (pt_cmpR op_eq (pv 1) pe_str (nomark _)) (pss_one (ps_ret (pe_tup (pa_cons (pe_ix ix_tup (pv 0) pe_int (fun _ _ => rfl)) pa_nil)))) pss_nil)
        (pss_one (ps_ret (pe_tup pa_nil))))))), ?_⟩
    have big : ∀ n : Nat, n ≤ 10000 → n ≤ sizeLine := fun n h => by rw [sizeLine_eq]; omega
    cases e with
    | fail n =>
      obtain ⟨p, xs, rfl, hp, da⟩ := dp_tup dp
      obtain ⟨x0, r0, rfl, d0, e0⟩ := dpAll_cons da
      cases dp_str d0
      refine ⟨_, rfl, p, _, 0, _, rfl, rfl, hp, atI_nat (j := 0) rfl, ?_⟩
      refine ⟨_, rfl, rfl, _, rfl, ifN (by decide +kernel) ?_⟩
      refine ⟨_, rfl, rfl, _, rfl, ifN (by decide +kernel) ?_⟩
      refine ⟨_, rfl, rfl, _, rfl, ifN (by decide +kernel) ?_⟩
      exact ⟨Nat.zero_le _, fun q0 nq => q _ q0 [] (same_new nq) (.of upd_same) .nil⟩
    | give n =>
      obtain ⟨p, xs, rfl, hp, da⟩ := dp_tup dp
      obtain ⟨x0, r0, rfl, d0, e0⟩ := dpAll_cons da
      cases dp_str d0
      refine ⟨_, rfl, p, _, 0, _, rfl, rfl, hp, atI_nat (j := 0) rfl, ?_⟩
      refine ⟨_, rfl, rfl, _, rfl, ifN (by decide +kernel) ?_⟩
      refine ⟨_, rfl, rfl, _, rfl, ifN (by decide +kernel) ?_⟩
      refine ⟨_, rfl, rfl, _, rfl, ifN (by decide +kernel) ?_⟩
      exact ⟨Nat.zero_le _, fun q0 nq => q _ q0 [] (same_new nq) (.of upd_same) .nil⟩
    | jump t as =>
      obtain ⟨p, xs, rfl, hp, da⟩ := dp_tup dp
      obtain ⟨x0, r0, rfl, d0, e0⟩ := dpAll_cons da
      cases dp_str d0
      obtain ⟨x1, r1, rfl, d1, e1⟩ := dpAll_cons e0
      refine ⟨_, rfl, p, _, 0, _, rfl, rfl, hp, atI_nat (j := 0) rfl, ?_⟩
      refine ⟨_, rfl, rfl, _, rfl, ifD rfl ?_⟩
      exact ⟨_, rfl, p, _, 1, _, rfl, rfl, hp, atI_nat (j := 1) rfl, big 1 (by decide), fun q0 nq => q _ q0 [x1] (same_new nq) (.of upd_same) (.cons (dp_sm (same_new nq) d1) .nil)⟩
    | choose c t u as bs =>
      obtain ⟨p, xs, rfl, hp, da⟩ := dp_tup dp
      obtain ⟨x0, r0, rfl, d0, e0⟩ := dpAll_cons da
      cases dp_str d0
      obtain ⟨x1, r1, rfl, d1, e1⟩ := dpAll_cons e0
      obtain ⟨x2, r2, rfl, d2, e2⟩ := dpAll_cons e1
      obtain ⟨x3, r3, rfl, d3, e3⟩ := dpAll_cons e2
      refine ⟨_, rfl, p, _, 0, _, rfl, rfl, hp, atI_nat (j := 0) rfl, ?_⟩
      refine ⟨_, rfl, rfl, _, rfl, ifN (by decide +kernel) ?_⟩
      refine ⟨_, rfl, rfl, _, rfl, ifD rfl ?_⟩
      exact ⟨_, rfl, p, _, 2, _, rfl, rfl, hp, atI_nat (j := 2) rfl, _, rfl, p, _, 3, _, rfl, rfl, hp, atI_nat (j := 3) rfl, big 2 (by decide), fun q0 nq => q _ q0 [x2, x3] (same_new nq) (.of upd_same) (.cons (dp_sm (same_new nq) d2) (.cons (dp_sm (same_new nq) d3) .nil))⟩
    | call h as t bs =>
      obtain ⟨p, xs, rfl, hp, da⟩ := dp_tup dp
      obtain ⟨x0, r0, rfl, d0, e0⟩ := dpAll_cons da
      cases dp_str d0
      obtain ⟨x1, r1, rfl, d1, e1⟩ := dpAll_cons e0
      obtain ⟨x2, r2, rfl, d2, e2⟩ := dpAll_cons e1
      obtain ⟨x3, r3, rfl, d3, e3⟩ := dpAll_cons e2
      refine ⟨_, rfl, p, _, 0, _, rfl, rfl, hp, atI_nat (j := 0) rfl, ?_⟩
      refine ⟨_, rfl, rfl, _, rfl, ifN (by decide +kernel) ?_⟩
      refine ⟨_, rfl, rfl, _, rfl, ifN (by decide +kernel) ?_⟩
      refine ⟨_, rfl, rfl, _, rfl, ifD rfl ?_⟩
      exact ⟨_, rfl, p, _, 3, _, rfl, rfl, hp, atI_nat (j := 3) rfl, big 1 (by decide), fun q0 nq => q _ q0 [x3] (same_new nq) (.of upd_same) (.cons (dp_sm (same_new nq) d3) .nil)⟩
def nV (n : Nat) : V := .int (n : Int)
/-- a list of lists of numbers -/
structure LLs (H : Hp) (F : Addr) (Ls : List Addr) (aa : List (List Nat)) : Prop where
  at_ : H F = some (.lst (Ls.map V.ref))
  nd : Ls.Nodup
  out : F ∉ Ls
  len : Ls.length = aa.length
  el : ∀ (i : Nat) (L : Addr) (l : List Nat), Ls[i]? = some L → aa[i]? = some l → H L = some (.lst (l.map nV))
theorem LLs.sm {H H' : Hp} {F : Addr} {Ls : List Addr} {aa : List (List Nat)} (h : LLs H F Ls aa) (s : Same H H') : LLs H' F Ls aa := ⟨s _ _ h.at_, h.nd, h.out, h.len, fun i L l h1 h2 => s _ _ (h.el i L l h1 h2)⟩
theorem LLs.get {H : Hp} {F : Addr} {Ls : List Addr} {aa : List (List Nat)} (h : LLs H F Ls aa) {i : Nat} (hi : i < aa.length) : ∃ L, Ls[i]? = some L ∧ H L = some (.lst ((aa.getD i []).map nV)) := by
  have hl : i < Ls.length := by rw [h.len]; exact hi
  refine ⟨Ls[i], List.getElem?_eq_getElem hl, ?_⟩
  have e : aa.getD i [] = aa[i] := by simp [List.getD, hi]
  rw [e]
  exact h.el i _ _ (List.getElem?_eq_getElem hl) (List.getElem?_eq_getElem hi)
theorem LLs.add {H : Hp} {F L : Addr} {Ls : List Addr} {aa : List (List Nat)} (h : LLs H F Ls aa) {t n : Nat} (hL : Ls[t]? = some L) (ht : t < aa.length) : LLs (upd H L (.lst ((aa.getD t []).map nV ++ [nV n]))) F Ls (addAt aa t n) := by
  have mL : L ∈ Ls := List.mem_of_getElem? hL
  refine ⟨?_, h.nd, h.out, by unfold addAt; rw [List.length_modify]; exact h.len, fun i M l h1 h2 => ?_⟩
  · rw [upd_ne (fun z => h.out (by rw [z]; exact mL))]
    exact h.at_
  · unfold addAt at h2
    rw [List.getElem?_modify] at h2
    by_cases hi : t = i
    · subst hi
      rw [hL] at h1
      cases h1
      rw [upd_same]
      have e : aa.getD t [] = aa[t] := by simp [List.getD, ht]
      rw [List.getElem?_eq_getElem ht] at h2
      simp at h2
      rw [← h2, e, List.map_append]
      rfl
    · have ne : M ≠ L := fun z => by
        subst z
        have l1 := (List.getElem?_eq_some_iff.mp hL)
        have l2 := (List.getElem?_eq_some_iff.mp h1)
        obtain ⟨p1, e1⟩ := l1
        obtain ⟨p2, e2⟩ := l2
        exact hi ((List.getElem_inj h.nd).mp (e1.trans e2.symm))
      rw [upd_ne ne]
      exact h.el i M l h1 (by simpa [hi] using h2)
end

section
variable {P : Program} {w : World} {K : PySem.W.Frag} {mg : Str → Option Value} {base : Heap}
theorem leadB_len (n : Nat) : ∀ (ts : List Nat) (aa : List (List Nat)), (leadB aa n ts).length = aa.length
  | [], aa => rfl
  | t :: ts, aa => by
    show (leadB (addAt aa t n) n ts).length = _
    rw [leadB_len n ts, addAt, List.length_modify]
theorem leadI_succ (s : Shp) {j : Nat} (h : j < s.length) : leadI s (j + 1) = leadB (leadI s j) j s[j] := by
  unfold leadI
  rw [List.take_succ, List.foldl_append]
  have e : s.zipIdx[j]? = some (s[j], j) := by
    rw [List.getElem?_zipIdx, List.getElem?_eq_getElem h]
    simp
  rw [e]
  rfl
theorem leadI_len (s : Shp) : ∀ {j : Nat}, j ≤ s.length → (leadI s j).length = s.length
  | 0, _ => by simp [leadI]
  | j + 1, h => by rw [leadI_succ s h, leadB_len, leadI_len s (by omega)]
theorem leadB_snoc (aa : List (List Nat)) (n : Nat) (ts : List Nat) (t : Nat) : leadB aa n (ts ++ [t]) = addAt (leadB aa n ts) t n := by
  unfold leadB
  rw [List.foldl_append]
  rfl
theorem wy_nl (t : Nat) (as : List Int) : nLd (wy t as) = true := by
  simp only [wy, nLd, nLs, Bool.true_and, Bool.and_true]
  induction as with
  | nil => rfl
  | cons a r ih => simpa [nLs, nLd] using ih
def lenB (aa : List (List Nat)) (M : Nat) : Prop := ∀ l ∈ aa, l.length ≤ M
theorem addAt_lenB {aa : List (List Nat)} {M t n : Nat} (h : lenB aa M) : lenB (addAt aa t n) (M + 1) := by
  intro l hl
  obtain ⟨i, hi⟩ := List.mem_iff_getElem?.mp hl
  unfold addAt at hi
  rw [List.getElem?_modify] at hi
  cases ha : aa[i]? with
  | none =>
    rw [ha] at hi
    simp at hi
  | some k =>
    have := h k (List.mem_of_getElem? ha)
    rw [ha] at hi
    simp at hi
    split at hi <;> (subst hi; simp; try omega)
theorem leadB_lenB (n : Nat) : ∀ {ts : List Nat} {aa : List (List Nat)} {M : Nat}, lenB aa M → lenB (leadB aa n ts) (M + ts.length)
  | [], aa, M, h => h
  | t :: ts, aa, M, h => by
    have := leadB_lenB n (ts := ts) (addAt_lenB (t := t) (n := n) h)
    rw [List.length_cons, show M + (ts.length + 1) = M + 1 + ts.length by omega]
    exact this
theorem leadI_lenB (s : Shp) (h2 : ∀ l ∈ s, l.length ≤ 2) : ∀ {j : Nat}, j ≤ s.length → lenB (leadI s j) (2 * j)
  | 0, _ => by
    intro l hl
    have hl2 : l ∈ List.replicate s.length ([] : List Nat) := hl
    have : l = [] := (List.mem_replicate.mp hl2).2
    simp [this]
  | j + 1, h => by
    rw [leadI_succ s h]
    have h3 := leadB_lenB j (ts := s[j]) (leadI_lenB s h2 (j := j) (by omega))
    have h4 := h2 s[j] (List.getElem_mem _)
    intro l hl
    have := h3 l hl
    omega
theorem ts_two (e : En) : e.ts.length ≤ 2 := by cases e <;> simp [En.ts, En.ws]
theorem shp_two (g : Gr) : ∀ l ∈ shp g, l.length ≤ 2 := by
  intro l hl
  obtain ⟨b, _, rfl⟩ := List.mem_map.mp hl
  exact ts_two b.e
def okT (s : Shp) : Prop := s.length ≤ 20 ∧ (∀ l ∈ s, ∀ t ∈ l, t < s.length) ∧ 0 < s.length
/-- a graph, by its data -/
def GrAt (K : PySem.W.Frag) (H : Hp) (v : V) (g : Gr) : Prop := Dp K H v (Gr.d g) ∧ okT (shp g) ∧ ∀ b ∈ g, b.rs.length ≤ 1000 ∧ b.e.small = true
theorem GrAt.sm {H H' : Hp} {v : V} {g : Gr} (h : GrAt K H v g) (s : Same H H') : GrAt K H' v g := ⟨dp_sm s h.1, h.2⟩
theorem GrAt.tup {H : Hp} {v : V} {g : Gr} (h : GrAt K H v g) : ∃ p xs, v = .ref p ∧ SqT K H p xs ∧ xs.length = g.length ∧ ∀ (i : Nat) (x : V), xs[i]? = some x → ∃ b ∈ g, g[i]? = some b ∧ ∃ q pv rv ev, x = .ref q ∧ SqT K H q [pv, rv, ev] ∧ Dp K H rv (.tuple b.rs) ∧ Dp K H ev b.e.d := by
  obtain ⟨p, xs, rfl, hp, da⟩ := dp_tup h.1
  refine ⟨p, xs, rfl, hp, by rw [dpAll_len da, List.length_map], fun i x hx => ?_⟩
  obtain ⟨d, hd, dd⟩ := dpAll_getV da hx
  rw [List.getElem?_map] at hd
  obtain ⟨b, hb, rfl⟩ := Option.map_eq_some_iff.mp hd
  obtain ⟨q, ys, rfl, hq, dy⟩ := dp_tup dd
  obtain ⟨x0, r0, rfl, d0, e0⟩ := dpAll_cons dy
  obtain ⟨x1, r1, rfl, d1, e1⟩ := dpAll_cons e0
  obtain ⟨x2, r2, rfl, d2, e2⟩ := dpAll_cons e1
  cases dpAll_nil e2
  exact ⟨b, List.mem_of_getElem? hb, hb, q, x0, x1, x2, rfl, hq, d1, d2⟩
theorem shp_len (g : Gr) : (shp g).length = g.length := by simp [shp]
theorem shp_get {g : Gr} {i : Nat} {b : Bk} (h : g[i]? = some b) : (shp g)[i]? = some b.e.ts := by
  unfold shp
  rw [List.getElem?_map, h]
  rfl
def sp_lead (K : PySem.W.Frag) : Sp := fun vs H Q _ => ∃ (v : V) (g : Gr), vs = [v] ∧ GrAt K H v g ∧ ∀ H' F Ls, Same H H' → H F = none → (∀ L ∈ Ls, H L = none) → LLs H' F Ls (leadP (shp g)) → Q (.ref F) H'
theorem ok_leads_to (T : Top K mg) : FnOk P w K mg base CX0 2 (He.ga K "leads_to") T.fd_leads_to ["graph"] (sp_lead K) := by
  have G_ways := ok_ways (P := P) (w := w) (base := base) T
  refine T.F_leads_to.ok sc_leads_to (fun vs H Q E h => ?_) (fun cdv A outer s H vs Q E hr h => ?_)
  · obtain ⟨v, g, rfl, _⟩ := h
    rfl
  · obtain ⟨v, g, rfl, hg, q⟩ := h
    refine ⟨_, PSs.nox (pss_cons (ps_setLc (i := 1) (own := [("block", 3)]) (by rfl) sc_leads_to.nd rfl rfl (sw_true rfl rfl rfl (by decide +kernel)) (pi_tup (pv 0)) (blkOk_by (own := [("block", 3)]) (N := N_leads_to) (sc := defScope s_leads_to) (by decide +kernel)) (fun _ _ _ _ _ => (pg_name (i := 3) sc_leads_to.nd rfl (Or.inl rfl))) (fun _ _ _ _ _ => pts_nil) (fun _ _ _ _ _ => (pe_lst pa_nil)))
        (pss_cons (ps_for PassesOwn.never (by rfl) (EnT.pi_enumT (by rfl) T.m_enumerate (pa_cons (pv 0) pa_nil)) (pg_tup (n := 2) (by rfl) (pgs_cons (pg_name (i := 2) sc_leads_to.nd rfl (Or.inl rfl)) (pgs_cons (pg_name (i := 3) sc_leads_to.nd rfl (Or.inl rfl)) pgs_nil))) (pss_one (ps_for PassesOwn.never (by rfl) (pi_tup (pe_call G_ways (hr.mono (by omega)) (by rfl) T.g_ways T.F_ways.kp T.b_ways .nil pass0 (pa_cons (pe_ix ix_tup (pv 3) pe_int (fun _ _ => rfl)) pa_nil))) (pg_name (i := 4) sc_leads_to.nd rfl (Or.inl rfl)) (pss_one (ps_expr (pe_bm PySem.F.plainAttrs_list PySem.F.slot_list_append PySem.F.type_list_append mt_append (pe_ix ix_list (pv 1) (pe_ix ix_tup (pv 4) pe_int (fun _ _ => rfl)) (fun _ _ => rfl)) (pa_cons (pv 2) pa_nil)))))))
        (pss_one (ps_ret (pv 1))))), ?_⟩
    have big : ∀ n : Nat, n ≤ 10000 → n ≤ sizeLine := fun n h => by rw [sizeLine_eq]; omega
    obtain ⟨p, xs, rfl, hp, lx, el⟩ := hg.tup
    have l20 : g.length ≤ 20 := by
      have := hg.2.1.1
      rw [shp_len] at this
      exact this
    refine ⟨_, rfl, p, rfl, ⟨_, hp⟩, fun F nF => ?_⟩
    refine lc_tup (K := K) (xs := xs) (fun i H' => Same H H' ∧ ∃ Ls : List Addr, LLs H' F Ls (List.replicate i []) ∧ ∀ L ∈ Ls, H L = none) ?_ ?_ ?_ ?_
    · exact ⟨same_new nF, [], ⟨upd_same, .nil, (fun h => nomatch h), rfl, fun i L l h _ => by simp at h⟩, (fun L h => nomatch h)⟩
    · rintro i H' _ ⟨s', _⟩
      exact sqT_sm s' hp
    · rintro i x H1 hx ⟨s1, Ls, ll, fr⟩
      have hi : i < xs.length := (List.getElem?_eq_some_iff.mp hx).1
      have li : Ls.length = i := by rw [ll.len]; simp
      refine ⟨rfl, Nat.zero_le _, fun L nL => ⟨_, same_new nL _ _ ll.at_, by rw [List.length_map, sizeLine_eq]; omega, same_upd (s1.trans (same_new nL)) nF, Ls ++ [L], ⟨?_, ?_, ?_, ?_, ?_⟩, ?_⟩⟩
      · rw [upd_same, List.map_append]
        rfl
      · refine List.nodup_append.mpr ⟨ll.nd, by simp, fun a ha b hb => ?_⟩
        rw [List.mem_singleton.mp hb]
        intro z
        subst z
        obtain ⟨k, hk⟩ := List.mem_iff_getElem?.mp ha
        have hk2 : k < Ls.length := (List.getElem?_eq_some_iff.mp hk).1
        have := ll.el k a [] hk (by rw [List.getElem?_replicate, if_pos (by omega)])
        rw [nL] at this
        cases this
      · intro z
        rcases List.mem_append.mp z with z | z
        · exact ll.out z
        · have z2 := List.mem_singleton.mp z
          have := ll.at_
          rw [z2, nL] at this
          cases this
      · rw [List.length_append, li, List.length_replicate]
        rfl
      · intro k M l h1 h2
        have fM : M ≠ F := fun z => by
          subst z
          rcases List.mem_append.mp (List.mem_of_getElem? h1) with z | z
          · exact ll.out z
          · have := ll.at_
            rw [List.mem_singleton.mp z, nL] at this
            cases this
        rw [upd_ne fM]
        have l0 : l = [] := by
          have := List.mem_of_getElem? h2
          exact (List.mem_replicate.mp this).2
        subst l0
        by_cases hk : k < Ls.length
        · rw [List.getElem?_append_left hk] at h1
          have := ll.el k M [] h1 (by rw [List.getElem?_replicate, if_pos (by omega)])
          exact same_new nL _ _ this
        · rw [List.getElem?_append_right (by omega)] at h1
          have : M = L := by
            have := List.mem_of_getElem? h1
            exact List.mem_singleton.mp this
          rw [this, upd_same]
          rfl
      · intro M hM
        rcases List.mem_append.mp hM with z | z
        · exact fr M z
        · rw [List.mem_singleton.mp z]
          exact s1.free nL
    · rintro H1 ⟨s1, Ls, ll, fr⟩
      rw [lx, ← shp_len g] at ll
      refine ⟨_, rfl, p, xs, rfl, sqT_sm s1 hp, ?_⟩
      refine for_it (EnT.walk (K := K) (a := p) (xs := xs)) (fun i σ' H' => Same H H' ∧ ∃ x2 x3 x4, LLs H' F Ls (leadI (shp g) i) ∧ σ' = [some (.ref p), some (.ref F), x2, x3, x4]) ?_ ?_ ?_ ?_
      · exact ⟨s1, none, none, none, ll, rfl⟩
      · rintro i σ' H' _ ⟨s', _⟩
        exact sqT_sm s' hp
      · rintro i x σ' H2 H3 hi ⟨s2, x2, x3, x4, l2, rfl⟩ ⟨Tn, y1, y2, rfl, nT, rfl, e1, e2⟩
        cases e1
        obtain ⟨b, mb, hb, q0, pv, rv, ev, rfl, hq, dr, de⟩ := el i y2 e2
        have k3 := same_new (o := .tup [.int (i : Nat), .ref q0]) nT
        have s3 := s2.trans k3
        refine ⟨Tn, _, rfl, .of upd_same, rfl, _, _, rfl, _, _, rfl, rfl, ?_⟩
        refine ⟨_, rfl, q0, _, 2, _, rfl, rfl, sqT_sm s3 hq, atI_nat (j := 2) rfl, ev, b.e, rfl, dp_sm s3 de, fun H4 pw xw s4 hw dw => ?_⟩
        have s04 := s3.trans s4
        have l4 := l2.sm (k3.trans s4)
        have lw := dpAll_len dw
        have gi : i < (shp g).length := by rw [shp_len, ← lx]; exact hi
        have gts : (shp g)[i] = b.e.ts := by
          have := shp_get hb
          rw [List.getElem?_eq_getElem gi] at this
          injection this
        refine ⟨pw, rfl, ⟨_, hw⟩, for_tup (K := K) (xs := xw) (fun j σ' H' => Same H H' ∧ Kp (fun a => a ∈ Ls) H4 H' ∧ (∃ x4, LLs H' F Ls (leadB (leadI (shp g) i) i (b.e.ts.take j)) ∧ σ' = [some (.ref p), some (.ref F), some (.int (i : Nat)), some (.ref q0), x4])) ?_ ?_ ?_ ?_⟩
        · exact ⟨s04, Kp.refl, _, l4, rfl⟩
        · rintro j σ' H' _ ⟨_, h, _⟩
          exact sqT_kp h hw
        · rintro j x σ' H5 hx ⟨s5, k5, x4, l5, rfl⟩
          obtain ⟨d, hd, dd⟩ := dpAll_getV dw hx
          rw [List.getElem?_map] at hd
          obtain ⟨⟨t, as⟩, hta, rfl⟩ := Option.map_eq_some_iff.mp hd
          have d5 := dp_kp k5 _ _ (wy_nl t as) dd
          obtain ⟨qx, ys, rfl, hqx, dy⟩ := dp_tup d5
          obtain ⟨y0, r0, rfl, dy0, _⟩ := dpAll_cons dy
          cases dp_int dy0
          have ht : b.e.ts[j]? = some t := by
            unfold En.ts
            rw [List.getElem?_map, hta]
            rfl
          have tl : t < (shp g).length := hg.2.1.2.1 _ (by rw [← gts]; exact List.getElem_mem gi) t (List.mem_of_getElem? ht)
          have ln : (leadB (leadI (shp g) i) i (b.e.ts.take j)).length = (shp g).length := by rw [leadB_len, leadI_len _ (by omega)]
          obtain ⟨L, hL, eL⟩ := l5.get (i := t) (by rw [ln]; exact tl)
          have mL : L ∈ Ls := List.mem_of_getElem? hL
          refine ⟨_, rfl, _, rfl, qx, _, 0, _, rfl, rfl, hqx, atI_nat (j := 0) rfl, F, _, _, .ref L, rfl, rfl, .of l5.at_, atI_nat (by rw [List.getElem?_map, hL]; rfl), .inl ⟨rfl, _, .of eL⟩, _, rfl, L, _, _, rfl, rfl, eL, ?_, ?_⟩
          · have b1 := leadB_lenB i (ts := b.e.ts.take j) (leadI_lenB (shp g) (shp_two g) (j := i) (by omega))
            have b2 := b1 ((leadB (leadI (shp g) i) i (b.e.ts.take j)).getD t []) (by
              have tl2 : t < (leadB (leadI (shp g) i) i (b.e.ts.take j)).length := by rw [ln]; exact tl
              simp [List.getD, tl2])
            have b3 := ts_two b.e
            rw [List.length_map, sizeLine_eq]
            rw [List.length_take] at b2
            rw [shp_len] at gi
            omega
          · refine ⟨same_upd s5 (fr L mL), k5.trans (Kp.upd eL trivial mL), _, ?_, rfl⟩
            have := l5.add (n := i) hL (by rw [ln]; exact tl)
            rw [List.take_succ, ht]
            show LLs _ F Ls (leadB (leadI (shp g) i) i (b.e.ts.take j ++ [t]))
            rw [leadB_snoc]
            exact this
        · rintro σ' H5 ⟨s5, hw5, x4, l5, rfl⟩
          refine ⟨s5, _, _, _, ?_, rfl⟩
          rw [leadI_succ _ gi, gts]
          have : b.e.ts.take xw.length = b.e.ts := List.take_of_length_le (by rw [lw]; simp [En.ts])
          rw [this] at l5
          exact l5
      · rintro σ' H2 ⟨s2, x2, x3, x4, l2, rfl⟩
        rw [lx, ← shp_len g] at l2
        exact ⟨_, rfl, q _ F Ls s2 nF fr l2⟩
end

section
variable {P : Program} {w : World} {K : PySem.W.Frag} {mg : Str → Option Value} {base : Heap}
theorem while_m {c : TT} {tb : TS} {D : Ends} {σ : L2.St} {H : Hp} (Pv : Nat → L2.St → Hp → Prop) (h0 : ∃ m, Pv m σ H)
    (hs : ∀ m σ H, Pv m σ H → c σ H fun b H1 => if b = true then tb { D with nx := fun σ' H' => ∃ m', m' < m ∧ Pv m' σ' H', ct := fun σ' H' => ∃ m', m' < m ∧ Pv m' σ' H', bk := D.nx } σ H1 else D.nx σ H1)
    (mono : ∀ σ H Q Q', (∀ b H1, Q b H1 → Q' b H1) → c σ H Q → c σ H Q') : tWhile c tb D σ H := by
  refine ⟨Pv, h0, ?_⟩
  intro m σ H p
  refine mono σ H _ _ (fun b H1 q => ?_) (hs m σ H p)
  cases b with
  | true => exact ⟨_, fun σ' H' h => h, q⟩
  | false => exact q
theorem lead_lt (s : Shp) : ∀ {j : Nat}, j ≤ s.length → ∀ l ∈ leadI s j, ∀ o ∈ l, o < s.length := by
  have hB : ∀ (n : Nat) (ts : List Nat) (aa : List (List Nat)), n < s.length → (∀ l ∈ aa, ∀ o ∈ l, o < s.length) → ∀ l ∈ leadB aa n ts, ∀ o ∈ l, o < s.length := by
    intro n ts
    induction ts with
    | nil => exact fun aa _ h => h
    | cons t ts ih =>
      intro aa hn h
      refine ih (addAt aa t n) hn fun l hl o ho => ?_
      obtain ⟨i, hi⟩ := List.mem_iff_getElem?.mp hl
      unfold addAt at hi
      rw [List.getElem?_modify] at hi
      cases ha : aa[i]? with
      | none =>
        rw [ha] at hi
        simp at hi
      | some k =>
        have hk := h k (List.mem_of_getElem? ha)
        rw [ha] at hi
        simp at hi
        split at hi
        · subst hi
          rcases List.mem_append.mp ho with z | z
          · exact hk o z
          · rw [List.mem_singleton.mp z]
            exact hn
        · subst hi
          exact hk o ho
  intro j
  induction j with
  | zero =>
    intro _ l hl
    have hl2 : l ∈ List.replicate s.length ([] : List Nat) := hl
    rw [(List.mem_replicate.mp hl2).2]
    exact fun o ho => nomatch ho
  | succ j ih =>
    intro hj
    rw [leadI_succ s hj]
    exact hB j _ _ (by omega) (ih (by omega))
theorem getD_mem {α : Type} {l : List α} {i : Nat} {d : α} (h : i < l.length) : l.getD i d ∈ l := by simp [List.getD, h]
theorem pass_len (aa : List (List Nat)) (w : Int) (fs : List Int) : ∀ j, (passI aa w fs j).1.length = fs.length
  | 0 => rfl
  | j + 1 => by
    unfold passI
    rw [List.range_succ, List.foldl_append]
    show (stepE aa w (passI aa w fs j) (1 + j)).1.length = _
    unfold stepE
    split
    · rw [List.length_set, pass_len aa w fs j]
    · exact pass_len aa w fs j
theorem pass_succ (aa : List (List Nat)) (w : Int) (fs : List Int) (j : Nat) : passI aa w fs (j + 1) = stepE aa w (passI aa w fs j) (1 + j) := by
  unfold passI
  rw [List.range_succ, List.foldl_append]
  rfl
theorem com_succ (aa : List (List Nat)) (fs : List Int) (w : Int) (x : Nat) {j o : Nat} (h : (aa.getD x [])[j]? = some o) : comI aa fs w x (j + 1) = Builtin.bitAnd (comI aa fs w x j) (fs.getD o 0) := by
  unfold comI
  rw [List.take_succ, h, List.foldl_append]
  rfl
theorem set_ints {fs : List Int} {j : Nat} {c : Int} : (fs.map V.int).set j (.int c) = (fs.set j c).map V.int := by rw [List.map_set]
theorem ixN_nat {n j : Nat} (h : j < n) : ixN n (j : Int) = some j := by
  unfold ixN
  rw [if_pos (by omega), if_pos (by omega)]
  simp
def sp_eld (K : PySem.W.Frag) : Sp := fun vs H Q _ => ∃ (v : V) (g : Gr) (R : List Int), vs = [v] ∧ GrAt K H v g ∧ eldP (shp g) = some R ∧ ∀ H' F, Same H H' → H' F = some (.lst (R.map V.int)) → Q (.ref F) H'
theorem ok_elders (T : Top K mg) : FnOk P w K mg base CX0 3 (He.ga K "elders") T.fd_elders ["graph"] (sp_eld K) := by
  have G_leads_to := ok_leads_to (P := P) (w := w) (base := base) T
  refine T.F_elders.ok sc_elders (fun vs H Q E h => ?_) (fun cdv A outer s H vs Q E hr h => ?_)
  · obtain ⟨v, g, R, rfl, _⟩ := h
    rfl
  · obtain ⟨v, g, R, rfl, hg, hR, q⟩ := h
    refine ⟨_, PSs.nox (pss_cons (ps_set (i := 1) sc_elders.nd rfl (Or.inl rfl) (pe_call G_leads_to (hr.mono (by omega)) (by rfl) T.g_leads_to T.F_leads_to.kp T.b_leads_to .nil pass0 (pa_cons (pv 0) pa_nil)))
        (pss_cons (ps_set (i := 2) sc_elders.nd rfl (Or.inl rfl) (pe_op op_sub (pe_op op_shl pe_int (pe_callB call_len_seq (by rfl) T.m_len (by decide +kernel) (pa_cons (pv 0) pa_nil))) pe_int))
        (pss_cons (ps_set (i := 3) sc_elders.nd rfl (Or.inl rfl) (pe_op op_rep (pe_lst (pa_cons (pv 2) pa_nil)) (pe_callB call_len_seq (by rfl) T.m_len (by decide +kernel) (pa_cons (pv 0) pa_nil))))
        (pss_cons (ps_asg pe_int (pg_sub (pv 3) pe_int set_list))
        (pss_cons (ps_set (i := 4) sc_elders.nd rfl (Or.inl rfl) pe_bl)
        (pss_cons (ps_while PassesOwn.never (pt_val (pv 4)) (pss_cons (ps_set (i := 4) sc_elders.nd rfl (Or.inl rfl) pe_bl)
        (pss_one (ps_for PassesOwn.never (by rfl) (pi_range2 (by rfl) T.m_range (pa_cons pe_int (pa_cons (pe_callB call_len_seq (by rfl) T.m_len (by decide +kernel) (pa_cons (pv 0) pa_nil)) pa_nil))) (pg_name (i := 5) sc_elders.nd rfl (Or.inl rfl)) (pss_cons (ps_set (i := 6) sc_elders.nd rfl (Or.inl rfl) (pv 2))
        (pss_cons (ps_for PassesOwn.never (by rfl) (pi_list (pe_ix ix_list (pv 1) (pv 5) (fun _ _ => rfl))) (pg_name (i := 7) sc_elders.nd rfl (Or.inl rfl)) (pss_one (ps_aug (i := 6) sc_elders.nd rfl (Or.inl rfl) (pe_ix ix_list (pv 3) (pv 7) (fun _ _ => rfl)) iop_and)))
        (pss_cons (ps_aug (i := 6) sc_elders.nd rfl (Or.inl rfl) (pe_op op_shl pe_int (pv 5)) iop_or)
        (pss_one (ps_if (pt_cmpR op_ne (pv 6) (pe_ix ix_list (pv 3) (pv 5) (fun _ _ => rfl)) (nomark _)) (pss_cons (ps_asg (pv 6) (pg_sub (pv 3) (pv 5) set_list))
        (pss_one (ps_set (i := 4) sc_elders.nd rfl (Or.inl rfl) pe_bl))) pss_nil)))))))))
        (pss_one (ps_ret (pv 3))))))))), ?_⟩
    have big : ∀ n : Nat, n ≤ 10000 → n ≤ sizeLine := fun n h => by rw [sizeLine_eq]; omega
    obtain ⟨p, xs, rfl, hp, lx, el⟩ := hg.tup
    obtain ⟨l20, tl, pos⟩ := hg.2.1
    have lxs : xs.length = (shp g).length := by rw [lx, shp_len]
    generalize hS : shp g = S at *
    refine ⟨_, rfl, .ref p, g, rfl, hg, fun H1 FA Ls s1 nFA fr ll => ?_⟩
    rw [hS] at ll
    have hp1 := sqT_sm s1 hp
    have al : (leadP S).length = S.length := leadI_len S (Nat.le_refl _)
    refine ⟨_, rfl, p, _, rfl, .inr hp1, _, _, rfl, rfl, ⟨by omega, by omega, by decide⟩, _, _, rfl, rfl, ?_⟩
    refine ⟨_, rfl, big 1 (by decide), fun L0 nL0 => ?_⟩
    have k0 := same_new (o := .lst [.int (1 * 2 ^ ((xs.length : Int)).toNat - 1)]) nL0
    refine ⟨_, rfl, p, _, rfl, .inr (sqT_sm k0 hp1), L0, _, _, rfl, rfl, upd_same, by omega, by omega, ?_, fun F nF => ?_⟩
    · simp only [List.length_singleton, Int.toNat_natCast]
      rw [sizeLine_eq]
      omega
    have rp : (List.replicate ((xs.length : Int)).toNat [V.int (1 * 2 ^ ((xs.length : Int)).toNat - 1)]).flatten = (List.replicate S.length (whole S.length)).map V.int := by
      rw [Int.toNat_natCast, lxs]
      unfold whole
      rw [Int.toNat_natCast]
      generalize (1 : Int) * 2 ^ S.length - 1 = z
      induction S.length with
      | zero => rfl
      | succ n ih => rw [List.replicate_succ, List.flatten_cons, ih, List.replicate_succ, List.map_cons]; rfl
    rw [rp]
    have nFH1 : H1 F = none := k0.free nF
    have hnF := nFH1.symm
    refine ⟨_, rfl, F, _, 0, 0, rfl, rfl, upd_same, ?_, ?_⟩
    · rw [List.length_map, List.length_replicate]
      exact ixN_nat pos
    rw [show (V.int 1) = .int (1 : Int) from rfl, set_ints]
    have wEq : (1 * 2 ^ ((xs.length : Int)).toNat - 1 : Int) = whole S.length := by rw [lxs]; rfl
    dsimp only
    refine seq_by (fun σ' H' => Same H1 H' ∧ H' F = some (.lst (((List.replicate S.length (whole S.length)).set 0 1).map V.int)) ∧ σ' = [some (.ref p), some (.ref FA), some (.int (whole S.length)), some (.ref F), some (.bl true), none, none, none]) ?_ (fun N hN => hN _ _ ⟨same_upd (same_upd k0 nFH1) nFH1, upd_same, by rw [← wEq]; rfl⟩)
    rintro σ' H2 ⟨s2, e2, rfl⟩
    have hE : eldI (leadP S) (whole S.length) S.length 50 ((List.replicate S.length (whole S.length)).set 0 1) = some R := hR
    have l0 : ((List.replicate S.length (whole S.length)).set 0 1).length = S.length := by rw [List.length_set, List.length_replicate]
    generalize (List.replicate S.length (whole S.length)).set 0 1 = fs0 at e2 hE l0
    generalize whole S.length = W at hE
    refine while_m (fun m σ' H' => ∃ (fs : List Int) (ch : Bool) (x5 x6 x7 : Option V), Same H1 H' ∧ H' F = some (.lst (fs.map V.int)) ∧ fs.length = S.length ∧ (ch = true → ∃ k, m = k + 1 ∧ eldI (leadP S) W S.length k fs = some R) ∧ (ch = false → fs = R) ∧ σ' = [some (.ref p), some (.ref FA), some (.int W), some (.ref F), some (.bl ch), x5, x6, x7]) ?_ ?_ ?_
    · exact ⟨51, fs0, true, none, none, none, s2, e2, l0, fun _ => ⟨50, rfl, hE⟩, (fun z => nomatch z), rfl⟩
    · rintro m σ' H3 ⟨fs, ch, x5, x6, x7, s3, e3, l3, hc, hd, rfl⟩
      refine ⟨_, rfl, _, rfl, ?_⟩
      cases ch with
      | false =>
        rw [hd rfl] at e3
        exact ⟨_, rfl, q _ F (s1.trans s3) e3⟩
      | true =>
        obtain ⟨k, rfl, hk⟩ := hc rfl
        cases k with
        | zero => simp [eldI] at hk
        | succ k =>
          rw [eldI] at hk
          refine ⟨_, rfl, p, _, rfl, .inr (sqT_sm s3 hp1), 1, _, rfl, ⟨by decide, by decide, by omega, by omega⟩, ?_⟩
          refine for_range (lo := 1) (n := ((xs.length : Nat) - 1 : Int).toNat) (fun j σ' H' => Same H1 H' ∧ H' F = some (.lst ((passI (leadP S) W fs j).1.map V.int)) ∧ ∃ x5 x6 x7, σ' = [some (.ref p), some (.ref FA), some (.int W), some (.ref F), some (.bl (passI (leadP S) W fs j).2), x5, x6, x7]) ?_ ?_ ?_
          · exact ⟨s3, e3, x5, x6, x7, rfl⟩
          · rintro j σ' H4 hj ⟨s4, e4, x5, x6, x7, rfl⟩
            have jl : 1 + j < S.length := by omega
            have pl := pass_len (leadP S) W fs j
            have ll4 := ll.sm s4
            generalize hps : passI (leadP S) W fs j = ps at e4 pl
            obtain ⟨L, hL, eL⟩ := ll4.get (i := 1 + j) (by rw [al]; exact jl)
            have jc : (1 : Int) + j = ((1 + j : Nat) : Int) := by omega
            refine ⟨_, rfl, _, rfl, _, rfl, FA, _, _, .ref L, rfl, rfl, .of ll4.at_, (by rw [jc]; exact atI_nat (by rw [List.getElem?_map, hL]; rfl)), L, rfl, ⟨_, .of eL⟩, ?_⟩
            refine for_list (K := K) (a := L) (xs := ((leadP S).getD (1 + j) []).map nV) (fun i σ' H' => H4 = H' ∧ ∃ x7, σ' = [some (.ref p), some (.ref FA), some (.int W), some (.ref F), some (.bl ps.2), some (.int (1 + (j : Int))), some (.int (comI (leadP S) ps.1 W (1 + j) i)), x7]) ?_ ?_ ?_ ?_
            · exact ⟨rfl, x7, rfl⟩
            · rintro i σ' H' _ ⟨rfl, _⟩
              exact .of eL
            · rintro i x σ' H' hx ⟨rfl, x7, rfl⟩
              rw [List.getElem?_map] at hx
              obtain ⟨o, ho, rfl⟩ := Option.map_eq_some_iff.mp hx
              have ol : o < S.length := lead_lt S (Nat.le_refl _) _ (getD_mem (by rw [show (leadI S S.length).length = S.length from al]; exact jl)) o (List.mem_of_getElem? ho)
              have hat := at_ints (ns := ps.1) (i := ((o : Nat) : Int)) (by omega) (by rw [pl, l3]; omega)
              rw [Int.toNat_natCast] at hat
              refine ⟨_, rfl, _, rfl, _, rfl, F, _, _, _, rfl, rfl, .of e4, hat, _, _, rfl, rfl, rfl, some (.int (o : Int)), ?_⟩
              rw [com_succ _ _ _ _ ho]
              rfl
            · rintro σ' H' ⟨rfl, x7, rfl⟩
              rw [List.length_map]
              have wx : comI (leadP S) ps.1 W (1 + j) ((leadP S).getD (1 + j) []).length = comI (leadP S) ps.1 W (1 + j) ((leadP S).getD (1 + j) []).length := rfl
              refine ⟨_, rfl, _, rfl, _, _, rfl, rfl, ⟨by omega, by omega, by decide⟩, _, _, rfl, rfl, ?_⟩
              have hat := at_ints (ns := ps.1) (i := 1 + (j : Int)) (by omega) (by rw [pl, l3]; omega)
              refine ⟨_, rfl, _, rfl, _, rfl, F, _, _, _, rfl, rfl, .of e4, hat, rfl, _, rfl, ?_⟩
              have tn : (1 + (j : Int)).toNat = 1 + j := by omega
              have ce : Builtin.bitOr (comI (leadP S) ps.1 W (1 + j) ((leadP S).getD (1 + j) []).length) (1 * 2 ^ (1 + (j : Int)).toNat) = com (leadP S) ps.1 W (1 + j) := by
                unfold com
                rw [tn, Int.toNat_natCast]
              show if (!decide (V.int (Builtin.bitOr (comI (leadP S) ps.1 W (1 + j) ((leadP S).getD (1 + j) []).length) (1 * 2 ^ (1 + (j : Int)).toNat)) = V.int (ps.1.getD (1 + (j : Int)).toNat 0))) = true then _ else _
              have se : passI (leadP S) W fs (j + 1) = stepE (leadP S) W ps (1 + j) := by rw [pass_succ, hps]
              rw [se]
              by_cases h : com (leadP S) ps.1 W (1 + j) = ps.1.getD (1 + j) 0
              · refine ifNF (by rw [ce, tn, h]) ?_
                have s9 : stepE (leadP S) W ps (1 + j) = ps := by
                  unfold stepE
                  rw [if_neg (fun z => z h)]
                rw [s9]
                exact ⟨s4, e4, _, _, _, rfl⟩
              · refine ifNT (fun z => h ?_) ?_
                · have := V.int.inj z
                  rw [ce, tn] at this
                  exact this
                have s9 : stepE (leadP S) W ps (1 + j) = (ps.1.set (1 + j) (com (leadP S) ps.1 W (1 + j)), true) := by
                  unfold stepE
                  rw [if_pos h]
                rw [s9]
                refine ⟨_, rfl, _, rfl, _, rfl, F, _, _, 1 + j, rfl, rfl, e4, (by rw [jc, List.length_map]; exact ixN_nat (by rw [pl, l3]; exact jl)), ?_⟩
                refine ⟨same_upd s4 nFH1, ?_, _, _, _, rfl⟩
                rw [upd_same, ← ce, ← set_ints]
          · rintro σ' H4 ⟨s4, e4, x5, x6, x7, rfl⟩
            have ne : ((xs.length : Nat) - 1 : Int).toNat = S.length - 1 := by omega
            rw [ne] at e4 ⊢
            have pl := pass_len (leadP S) W fs (S.length - 1)
            refine ⟨k + 1, Nat.lt_succ_self _, (passI (leadP S) W fs (S.length - 1)).1, (passI (leadP S) W fs (S.length - 1)).2, x5, x6, x7, s4, e4, by rw [pl, l3], fun z => ⟨k, rfl, ?_⟩, fun z => ?_, rfl⟩
            · rw [if_pos z] at hk
              exact hk
            · rw [if_neg (by rw [z]; exact Bool.false_ne_true)] at hk
              exact Option.some.inj hk
    · intro σ' H' Q1 Q2 h hc
      obtain ⟨v1, e1, b, hb, q1⟩ := hc
      exact ⟨v1, e1, b, hb, h _ _ q1⟩
end

section
variable {P : Program} {w : World} {K : PySem.W.Frag} {mg : Str → Option Value} {base : Heap}
theorem nV_dp {H : Hp} : ∀ l : List Nat, DpAll K H (l.map nV) (l.map fun j : Nat => PyData.int (j : Int))
  | [] => .nil
  | a :: r => .cons (.int _) (nV_dp r)
theorem nV_lay : ∀ l : List Nat, PyData.canLayAll0 (l.map fun j : Nat => PyData.int (j : Int)) = true
  | [] => rfl
  | a :: r => by simp only [List.map_cons, PyData.canLayAll0, nV_lay r]; rfl
/-- a list of numbers != [] -/
theorem ne_nil {H : Hp} {L : Addr} {l : List Nat} {Q : VK} (e : H L = some (.lst (l.map nV))) (q : ∀ H', Same H H' → Q (.bl (decide (l ≠ []))) H') : Nat.zero ≤ sizeLine ∧ ∀ E, H E = none → rNeE K (.ref L) (.ref E) (upd H E (.lst [])) Q := by
  refine ⟨Nat.zero_le _, fun E nE => ?_⟩
  have kE := same_new (o := .lst []) nE
  refine ⟨.list (l.map fun j : Nat => PyData.int (j : Int)), .list [], .lst (.of (kE _ _ e)) (nV_dp l), .lst (.of upd_same) .nil, by simp only [PyData.canLay0]; exact nV_lay l, rfl, by decide, ?_⟩
  have h := q _ kE
  cases l with
  | nil => exact h
  | cons a r => exact h
def sp_bb (K : PySem.W.Frag) : Sp := fun vs H Q _ => ∃ (h : Nat) (B FA : Addr) (bs : List Nat) (Ls : List Addr) (aa : List (List Nat)) (R : Int), vs = [.int (h : Int), .ref B, .ref FA] ∧ h ≤ 1000 ∧ H B = some (.lst (bs.map nV)) ∧ LLs H FA Ls aa ∧ lenB aa 40 ∧ aa.length ≤ 20 ∧ (∀ l ∈ aa, ∀ x ∈ l, x < aa.length) ∧ (∀ x ∈ bs, x < aa.length) ∧ bs.length ≤ 100 ∧
  bbI aa 100 (1 * 2 ^ ((h : Int)).toNat) bs = some R ∧ ∀ H', Same H H' → Q (.int R) H'
theorem ok_blocks_back (T : Top K mg) : FnOk P w K mg base CX0 1 (He.ga K "blocks_back") T.fd_blocks_back ["head", "backs", "ahead"] (sp_bb K) := by
  refine T.F_blocks_back.ok sc_blocks_back (fun vs H Q E h => ?_) (fun cdv A outer s H vs Q E hr h => ?_)
  · obtain ⟨h, B, FA, bs, Ls, aa, R, rfl, _⟩ := h
    rfl
  · obtain ⟨h, B, FA, bs, Ls, aa, R, rfl, h1, eB, ll, lb, l20, la, lbs, b100, hR, q⟩ := h
    refine ⟨_, PSs.nox (pss_cons (ps_set (i := 3) sc_blocks_back.nd rfl (Or.inl rfl) (pe_op op_shl pe_int (pv 0)))
        (pss_cons (ps_set (i := 4) sc_blocks_back.nd rfl (Or.inl rfl) (pe_callTy call_list_of (by rfl) T.m_list (by decide +kernel) (pa_cons (pv 1) pa_nil)))
        (pss_cons (ps_while PassesOwn.never (pt_cmpR (op_neE hr.units) (pv 4) (pe_lst pa_nil) (nomark _)) (pss_cons (ps_set (i := 5) sc_blocks_back.nd rfl (Or.inl rfl) (pe_bm0 PySem.F.plainAttrs_list PySem.F.slot_list_pop PySem.F.type_list_pop mt_pop (pv 4)))
        (pss_one (ps_if (pt_cmpR op_eq (pe_op op_and (pe_op op_shr (pv 3) (pv 5)) pe_int) pe_int (nomark _)) (pss_cons (ps_aug (i := 3) sc_blocks_back.nd rfl (Or.inl rfl) (pe_op op_shl pe_int (pv 5)) iop_or)
        (pss_one (ps_aug (i := 4) sc_blocks_back.nd rfl (Or.inl rfl) (pe_ix ix_list (pv 2) (pv 5) (fun _ _ => rfl)) iop_ext))) pss_nil))))
        (pss_one (ps_ret (pv 3)))))), ?_⟩
    refine ⟨_, rfl, _, _, rfl, rfl, ⟨by omega, by omega, by decide⟩, ?_⟩
    refine ⟨_, rfl, B, _, rfl, .inl (.of eB), fun L nL => ?_⟩
    dsimp only [gName]
    refine while_m (fun m σ' H' => ∃ (f : Int) (l : List Nat) (x5 : Option V), Same H H' ∧ H' L = some (.lst (l.map nV)) ∧ bbI aa m f l = some R ∧ (∀ x ∈ l, x < aa.length) ∧ l.length + 40 * m ≤ 5000 ∧ σ' = [some (.int (h : Int)), some (.ref B), some (.ref FA), some (.int f), some (.ref L), x5]) ?_ ?_ ?_
    · exact ⟨100, _, bs, none, same_new nL, upd_same, hR, lbs, by omega, rfl⟩
    · rintro m σ' H1 ⟨f, l, x5, s1, e1, hb, hl, hz, rfl⟩
      refine ⟨_, rfl, ne_nil e1 fun H2 s2 => ⟨_, rfl, ?_⟩⟩
      by_cases hn : l = []
      · refine ifN (fun z => z hn) ?_
        have : bbI aa m f l = some f := by
          cases m <;> (unfold bbI; rw [if_pos hn])
        rw [this] at hb
        cases hb
        exact ⟨_, rfl, q _ (s1.trans s2)⟩
      · refine ifD hn ?_
        cases m with
        | zero =>
          unfold bbI at hb
          rw [if_neg hn] at hb
          cases hb
        | succ m =>
          unfold bbI at hb
          rw [if_neg hn] at hb
          obtain ⟨l', x, rfl⟩ : ∃ l' x, l = l' ++ [x] := ⟨l.dropLast, l.getLast hn, (List.dropLast_concat_getLast hn).symm⟩
          have e2 := s2 _ _ e1
          have gl : (l' ++ [x]).getLastD 0 = x := by simp
          have dl : (l' ++ [x]).dropLast = l' := List.dropLast_concat
          rw [gl, dl] at hb
          have mp : (l' ++ [x]).map nV = l'.map nV ++ [nV x] := by rw [List.map_append]; rfl
          rw [mp] at e2
          refine ⟨_, rfl, .inl ⟨rfl, _, .of e2⟩, L, _, nV x, rfl, rfl, e2, by simp, ?_⟩
          rw [List.dropLast_concat]
          have s3 : Same H (upd H2 L (.lst (l'.map nV))) := same_upd (s1.trans s2) nL
          have e3 : upd H2 L (.lst (l'.map nV)) L = some (.lst (l'.map nV)) := upd_same
          generalize upd H2 L (.lst (l'.map nV)) = H3 at s3 e3
          have xl : x < aa.length := hl x (by simp)
          rw [List.length_append, List.length_singleton] at hz
          refine ⟨_, rfl, _, rfl, _, _, rfl, rfl, by show (0 : Int) ≤ (x : Int); omega, _, _, rfl, rfl, rfl, _, rfl, ?_⟩
          by_cases hbit : bit f x = 0
          · rw [if_pos hbit] at hb
            refine ifD (congrArg V.int hbit) ?_
            obtain ⟨La, hLa, eLa⟩ := (ll.sm s3).get xl
            have la40 := lb _ (getD_mem (d := []) xl)
            refine ⟨_, rfl, _, rfl, _, _, rfl, rfl, ⟨by omega, by omega, by decide⟩, _, _, rfl, rfl, ?_⟩
            refine ⟨_, rfl, _, rfl, _, rfl, FA, _, _, .ref La, rfl, rfl, .of (ll.sm s3).at_, atI_nat (by rw [List.getElem?_map, hLa]; rfl), L, La, _, _, rfl, rfl, e3, eLa, ?_, ?_⟩
            · rw [List.length_map, List.length_map, sizeLine_eq]
              omega
            · refine ⟨m, Nat.lt_succ_self _, _, l' ++ aa.getD x [], _, same_upd s3 nL, ?_, hb, ?_, ?_, rfl⟩
              · rw [upd_same, List.map_append]
              · intro y hy
                rcases List.mem_append.mp hy with z | z
                · exact hl y (List.mem_append_left _ z)
                · exact la _ (getD_mem xl) y z
              · rw [List.length_append]
                omega
          · rw [if_neg hbit] at hb
            refine ifN (fun z => hbit (V.int.inj z)) ?_
            exact ⟨m, Nat.lt_succ_self _, f, l', _, s3, e3, hb, fun y hy => hl y (List.mem_append_left _ hy), by omega, rfl⟩
    · intro σ' H' Q1 Q2 h hc
      obtain ⟨v1, e1, sz, f⟩ := hc
      exact ⟨v1, e1, sz, fun E nE => by obtain ⟨d, e, a1, a2, a3, a4, a5, b, hb, q⟩ := f E nE; exact ⟨d, e, a1, a2, a3, a4, a5, b, hb, h _ _ q⟩⟩
end

section
variable {P : Program} {w : World} {K : PySem.W.Frag} {mg : Str → Option Value} {base : Heap}
def kvL (lp : List (Nat × Int)) : List (Key × V) := lp.map fun q => (.inl (q.1 : Int), .int q.2)
theorem loopI_pre {aa : List (List Nat)} {ab : List Int} {j : Nat} {l : List (Nat × Int)} (h : loopI aa ab (j + 1) = some l) : ∃ l', loopI aa ab j = some l' := by
  unfold loopI at h
  cases h1 : loopI aa ab j with
  | none => rw [h1] at h; cases h
  | some l' => exact ⟨l', rfl⟩
theorem loopI_le {aa : List (List Nat)} {ab : List Int} : ∀ {n : Nat} {l : List (Nat × Int)}, loopI aa ab n = some l → ∀ {j : Nat}, j ≤ n → ∃ l', loopI aa ab j = some l'
  | 0, l, h, j, hj => by
    have : j = 0 := by omega
    subst this
    exact ⟨l, h⟩
  | n + 1, l, h, j, hj => by
    by_cases e : j = n + 1
    · subst e
      exact ⟨l, h⟩
    · obtain ⟨l', h'⟩ := loopI_pre h
      exact loopI_le h' (by omega)
theorem loopI_keys {aa : List (List Nat)} {ab : List Int} : ∀ {j : Nat} {l : List (Nat × Int)}, loopI aa ab j = some l → (∀ q ∈ l, q.1 < j) ∧ l.length ≤ j
  | 0, l, h => by
    cases h
    exact ⟨(fun q hq => nomatch hq), Nat.le_refl _⟩
  | j + 1, l, h => by
    unfold loopI at h
    cases h1 : loopI aa ab j with
    | none => rw [h1] at h; cases h
    | some l' =>
      rw [h1] at h
      dsimp only at h
      obtain ⟨i1, i2⟩ := loopI_keys h1
      split at h
      · cases h
        exact ⟨fun q hq => Nat.lt_succ_of_lt (i1 q hq), by omega⟩
      · cases h2 : bbI aa 100 (1 * 2 ^ ((j : Int)).toNat) (backs aa ab j) with
        | none => rw [h2] at h; cases h
        | some b =>
          rw [h2] at h
          cases h
          refine ⟨fun q hq => ?_, by rw [List.length_append, List.length_singleton]; omega⟩
          rcases List.mem_append.mp hq with z | z
          · exact Nat.lt_succ_of_lt (i1 q z)
          · rw [List.mem_singleton.mp z]
            exact Nat.lt_succ_self _
theorem kvL_none {lp : List (Nat × Int)} {j : Nat} (h : ∀ q ∈ lp, q.1 < j) : valV (kvL lp) (.inl (j : Int)) = none := by
  unfold valV kvL
  have : ((lp.map fun q => ((.inl (q.1 : Int), .int q.2) : Key × V)).find? fun kv => decide (kv.1 = .inl (j : Int))) = none := by
    rw [List.find?_eq_none]
    intro kv hkv
    obtain ⟨q, hq, rfl⟩ := List.mem_map.mp hkv
    have := h q hq
    simp
    omega
  rw [this]
  rfl
def sp_loops (K : PySem.W.Frag) : Sp := fun vs H Q _ => ∃ (v : V) (g : Gr) (lp : List (Nat × Int)), vs = [v] ∧ GrAt K H v g ∧ loopP (shp g) = some lp ∧ ∀ H' D, Same H H' → H' D = some (.dK (kvL lp)) → Q (.ref D) H'
theorem ok_loops (T : Top K mg) : FnOk P w K mg base CX0 4 (He.ga K "loops") T.fd_loops ["graph"] (sp_loops K) := by
  have G_elders := ok_elders (P := P) (w := w) (base := base) T
  have G_leads_to := ok_leads_to (P := P) (w := w) (base := base) T
  have G_blocks_back := ok_blocks_back (P := P) (w := w) (base := base) T
  refine T.F_loops.ok sc_loops (fun vs H Q E h => ?_) (fun cdv A outer s H vs Q E hr h => ?_)
  · obtain ⟨v, g, lp, rfl, _⟩ := h
    rfl
  · obtain ⟨v, g, lp, rfl, hg, hlp, q⟩ := h
    refine ⟨_, PSs.nox (pss_cons (ps_set (i := 1) sc_loops.nd rfl (Or.inr rfl) (pe_call G_elders (hr.mono (by omega)) (by rfl) T.g_elders T.F_elders.kp T.b_elders .nil pass0 (pa_cons (pv 0) pa_nil)))
        (pss_cons (ps_set (i := 2) sc_loops.nd rfl (Or.inl rfl) (pe_call G_leads_to (hr.mono (by omega)) (by rfl) T.g_leads_to T.F_leads_to.kp T.b_leads_to .nil pass0 (pa_cons (pv 0) pa_nil)))
        (pss_cons (ps_set (i := 3) sc_loops.nd rfl (Or.inl rfl) pe_dnewK)
        (pss_cons (ps_for PassesOwn.never (by rfl) (pi_range1 (by rfl) T.m_range (pa_cons (pe_callB call_len_seq (by rfl) T.m_len (by decide +kernel) (pa_cons (pv 0) pa_nil)) pa_nil)) (pg_name (i := 4) sc_loops.nd rfl (Or.inr rfl)) (pss_cons (ps_setLc (i := 5) (own := [("number", 6)]) (by rfl) sc_loops.nd rfl rfl (sw_true rfl rfl rfl (by decide +kernel)) (pi_list (pe_ix ix_list (pv 2) (pv 4) (fun _ _ => rfl))) (blkOk_by (own := [("number", 6)]) (N := N_loops) (sc := defScope s_loops) (by decide +kernel)) (fun _ _ _ _ _ => (pg_name (i := 6) sc_loops.nd rfl (Or.inl rfl))) (fun _ _ _ _ _ => (pts_one (pt_cmpR op_eq (pe_op op_and (pe_op op_shr (pe_ix (ix_listK (K := K) rfl) (pv 1) (pv 6) (fun _ _ => rfl)) (pv 4)) pe_int) pe_int (nomark _)))) (fun _ _ _ _ _ => (pv 6)))
        (pss_one (ps_if (pt_cmpR (op_neE hr.units) (pv 5) (pe_lst pa_nil) (nomark _)) (pss_one (ps_dput (hu_of hr) (pv 3) (pv 4) (pe_call G_blocks_back (hr.mono (by omega)) (by rfl) T.g_blocks_back T.F_blocks_back.kp T.b_blocks_back .nil pass0 (pa_cons (pv 4) (pa_cons (pv 5) (pa_cons (pv 2) pa_nil)))) (by rfl))) pss_nil))))
        (pss_one (ps_ret (pv 3))))))), ?_⟩
    have big : ∀ n : Nat, n ≤ 10000 → n ≤ sizeLine := fun n h => by rw [sizeLine_eq]; omega
    obtain ⟨p, xs, rfl, hp, lx, el⟩ := hg.tup
    obtain ⟨l20, tl, pos⟩ := hg.2.1
    have lxs : xs.length = (shp g).length := by rw [lx, shp_len]
    have two := shp_two g
    generalize hS : shp g = S at *
    unfold loopP at hlp
    cases hab : eldP S with
    | none => rw [hab] at hlp; cases hlp
    | some ab =>
      rw [hab] at hlp
      dsimp only at hlp
      have abl : ab.length = S.length := by
        have hE : ∀ (k : Nat) (fs R : List Int), fs.length = S.length → eldI (leadP S) (whole S.length) S.length k fs = some R → R.length = S.length := by
          intro k
          induction k with
          | zero => intro fs R _ h; cases h
          | succ k ih =>
            intro fs R hf h
            rw [eldI] at h
            have pl := pass_len (leadP S) (whole S.length) fs (S.length - 1)
            split at h
            · exact ih _ _ (by rw [pl, hf]) h
            · cases h
              rw [pl, hf]
        exact hE 50 _ _ (by rw [List.length_set, List.length_replicate]) hab
      refine ⟨_, rfl, .ref p, g, ab, rfl, hg, by rw [hS]; exact hab, fun H1 FB s1 e1 => ?_⟩
      refine ⟨_, rfl, .ref p, g, rfl, hg.sm s1, fun H2 FA Ls s2 nFA fr ll => ?_⟩
      rw [hS] at ll
      have al : (leadP S).length = S.length := leadI_len S (Nat.le_refl _)
      have s12 := s1.trans s2
      have e2 := s2 _ _ e1
      refine fun D nD => ?_
      have s3 := same_new (o := .dK []) nD
      refine ⟨_, rfl, p, _, rfl, .inr (sqT_sm (s12.trans s3) hp), _, rfl, by omega, by omega, ?_⟩
      refine for_range (lo := 0) (n := ((xs.length : Nat) : Int).toNat) (fun j σ' H' => Same H2 H' ∧ (∃ lj, loopI (leadP S) ab j = some lj ∧ H' D = some (.dK (kvL lj))) ∧ ∃ x4 x5 x6, σ' = [some (.ref p), some (.ref FB), some (.ref FA), some (.ref D), x4, x5, x6]) ?_ ?_ ?_
      · exact ⟨s3, ⟨[], rfl, upd_same⟩, none, none, none, rfl⟩
      · rintro j σ' H4 hj ⟨s4, ⟨lj, hlj, eD⟩, x4, x5, x6, rfl⟩
        have jl : j < S.length := by omega
        have ll4 := ll.sm s4
        obtain ⟨L, hL, eL⟩ := ll4.get (i := j) (by rw [al]; exact jl)
        have jc : (0 : Int) + j = ((j : Nat) : Int) := by omega
        refine ⟨_, rfl, _, rfl, FA, _, _, .ref L, rfl, rfl, .of ll4.at_, (by rw [jc]; exact atI_nat (by rw [List.getElem?_map, hL]; rfl)), L, rfl, ⟨_, .of eL⟩, fun LB nLB => ?_⟩
        refine lc_list (K := K) (a := L) (xs := ((leadP S).getD j []).map nV) (fun i H' => Same H4 H' ∧ H' LB = some (.lst ((((((leadP S).getD j []).take i).filter fun x => decide (bit (ab.getD x 0) j = 1))).map nV))) ?_ ?_ ?_ ?_
        · exact ⟨same_new nLB, upd_same⟩
        · rintro i H' _ ⟨s', _⟩
          exact .of (s' _ _ eL)
        · rintro i x H' hx ⟨s', e'⟩
          rw [List.getElem?_map] at hx
          obtain ⟨o, ho, rfl⟩ := Option.map_eq_some_iff.mp hx
          have ol : o < S.length := lead_lt S (Nat.le_refl _) _ (getD_mem (by rw [show (leadI S S.length).length = S.length from al]; exact jl)) o (List.mem_of_getElem? ho)
          have hat := at_ints (ns := ab) (i := ((o : Nat) : Int)) (by omega) (by rw [abl]; omega)
          rw [Int.toNat_natCast] at hat
          refine ⟨rfl, _, rfl, _, rfl, FB, _, _, _, rfl, rfl, .of (s' _ _ (s4 _ _ e2)), hat, _, rfl, _, _, rfl, rfl, by show (0 : Int) ≤ 0 + (j : Int); omega, _, _, rfl, rfl, rfl, _, rfl, ?_⟩
          have be : Builtin.bitAnd (ab.getD o 0 / 2 ^ (0 + (j : Int)).toNat) 1 = bit (ab.getD o 0) j := by
            unfold bit
            rw [jc]
          have fe : ((((leadP S).getD j []).take (i + 1)).filter fun x => decide (bit (ab.getD x 0) j = 1)) = ((((leadP S).getD j []).take i).filter fun x => decide (bit (ab.getD x 0) j = 1)) ++ ([o].filter fun x => decide (bit (ab.getD x 0) j = 1)) := by
            rw [List.take_succ, ho, List.filter_append]
            rfl
          rw [fe]
          by_cases hb : bit (ab.getD o 0) j = 1
          · refine ifD (by show V.int _ = V.int _; rw [be, hb]) ?_
            refine ⟨_, rfl, _, e', ?_, same_upd s' nLB, ?_⟩
            · rw [List.length_map, sizeLine_eq]
              have h1 := List.length_filter_le (fun x => decide (bit (ab.getD x 0) j = 1)) (((leadP S).getD j []).take i)
              rw [List.length_take] at h1
              have h2 := leadI_lenB S two (Nat.le_refl _) _ (getD_mem (d := []) (i := j) (by rw [show (leadI S S.length).length = S.length from al]; exact jl))
              have h3 : ((leadP S).getD j []).length ≤ 2 * S.length := h2
              omega
            · rw [upd_same, List.filter_cons_of_pos (p := fun x => decide (bit (ab.getD x 0) j = 1)) (decide_eq_true hb), List.map_append]
              rfl
          · refine ifN (fun z => hb ?_) ?_
            · have := V.int.inj z
              rw [be] at this
              exact this
            · refine ⟨s', ?_⟩
              rw [e', List.filter_cons_of_neg (p := fun x => decide (bit (ab.getD x 0) j = 1)) (by rw [decide_eq_true_eq]; exact hb), List.filter_nil, List.append_nil]
        · rintro H5 ⟨s5, e5⟩
          rw [List.length_map, List.take_length] at e5
          have e5' : H5 LB = some (.lst ((backs (leadP S) ab j).map nV)) := e5
          obtain ⟨ln, hln⟩ := loopI_le hlp (j := j + 1) (by omega)
          have hln2 := hln
          unfold loopI at hln2
          rw [hlj] at hln2
          dsimp only at hln2
          dsimp only [gName]
          refine ⟨_, rfl, ne_nil e5' fun H6 s6 => ⟨_, rfl, ?_⟩⟩
          have s46 := (s4.trans s5).trans s6
          have eD6 := s6 _ _ (s5 _ _ eD)
          by_cases hb : backs (leadP S) ab j = []
          · refine ifN (fun z => z hb) ?_
            rw [if_pos hb] at hln2
            cases hln2
            exact ⟨s46, ⟨lj, hln, eD6⟩, _, _, _, rfl⟩
          · refine ifD hb ?_
            rw [if_neg hb] at hln2
            cases hbb : bbI (leadP S) 100 (1 * 2 ^ ((j : Int)).toNat) (backs (leadP S) ab j) with
            | none => rw [hbb] at hln2; cases hln2
            | some b =>
              rw [hbb] at hln2
              cases hln2
              have h2 := leadI_lenB S two (Nat.le_refl _)
              have bl : (backs (leadP S) ab j).length ≤ 40 := by
                have h3 := h2 _ (getD_mem (d := []) (i := j) (by rw [show (leadI S S.length).length = S.length from al]; exact jl))
                have h4 := List.length_filter_le (fun x => decide (bit (ab.getD x 0) j = 1)) ((leadP S).getD j [])
                have h5 : ((leadP S).getD j []).length ≤ 2 * S.length := h3
                unfold backs
                omega
              refine ⟨_, rfl, _, rfl, _, rfl, j, LB, FA, backs (leadP S) ab j, Ls, leadP S, b, (by rw [jc]; rfl), by omega, s6 _ _ e5', ll.sm s46, ?_, by rw [al]; exact l20, ?_, ?_, by omega, hbb, fun H7 s7 => ?_⟩
              · intro l hl
                have := h2 l hl
                omega
              · intro l hl x hx
                rw [al]
                exact lead_lt S (Nat.le_refl _) l hl x hx
              · intro x hx
                rw [al]
                exact lead_lt S (Nat.le_refl _) _ (getD_mem (by rw [show (leadI S S.length).length = S.length from al]; exact jl)) x (List.mem_filter.mp hx).1
              · obtain ⟨ky, kl⟩ := loopI_keys hlj
                have eD7 := s7 _ _ eD6
                refine ⟨_, rfl, _, rfl, D, _, rfl, .inl ⟨_, .inl (j : Int), eD7, (by rw [jc]; rfl), ?_, rfl⟩, same_upd (s46.trans s7) nD, ⟨_, hln, ?_⟩, _, _, _, rfl⟩
                · unfold kvL
                  rw [List.length_map, sizeLine_eq]
                  omega
                · rw [upd_same, putK_new _ (kvL_none ky)]
                  unfold kvL
                  rw [List.map_append]
                  rfl
      · rintro σ' H4 ⟨s4, ⟨lj, hlj, eD⟩, x4, x5, x6, rfl⟩
        rw [Int.toNat_natCast, lxs, hlp] at hlj
        cases hlj
        exact ⟨_, rfl, q _ D (s12.trans s4) eD⟩
end

section
variable {X : Cx} {K : PySem.W.Frag} {pos : Pos}
theorem pg_tupK (h : X.K = K) {es : List Expr} {k : Nat} {t : TGs} {n : Nat} (hc : X.calm = true) (hg : PGs X es t)
    (hn : (assignEach es X.env).length = n := by rfl) (hst : (assignEach es X.env).findIdx? (·.1) = none := by rfl) : PG X (.Tuple es k pos) (gTup K n t) := by
  subst h
  exact pg_tup hc hg hn hst
end

section
variable {P : Program} {w : World} {K : PySem.W.Frag} {mg : Str → Option Value} {base : Heap}
def lens (g : Gr) : List Nat := g.map fun b => b.rs.length
def sp_wgt (K : PySem.W.Frag) : Sp := fun vs H Q _ => ∃ (v : V) (g : Gr) (lp : List (Nat × Int)), vs = [v] ∧ GrAt K H v g ∧ loopP (shp g) = some lp ∧ ∀ H', Same H H' → Q (.int (wgt (lens g) (deepP lp) g.length)) H'
theorem tms_at {d : Nat} : atI [V.int 1, .int 8, .int 64, .int 512, .int 4096] ((min d 4 : Nat) : Int) = some (.int (tms.getD (min d 4) 0)) := by
  have h : ∀ i : Nat, i < 5 → atI [V.int 1, .int 8, .int 64, .int 512, .int 4096] (i : Int) = some (.int (tms.getD i 0)) := by
    intro i hi
    have : i = 0 ∨ i = 1 ∨ i = 2 ∨ i = 3 ∨ i = 4 := by omega
    rcases this with rfl | rfl | rfl | rfl | rfl <;> rfl
  exact h _ (by omega)
theorem min4 (d : Nat) : (if (4 : Int) < (d : Int) then 4 else (d : Int)) = ((min d 4 : Nat) : Int) := by
  by_cases h : 4 < d
  · rw [if_pos (by omega), Nat.min_eq_right (by omega)]
    rfl
  · rw [if_neg (by omega), Nat.min_eq_left (by omega)]
theorem tms_pos (i : Nat) : -(2 ^ 64) < tms.getD (min i 4) 0 ∧ tms.getD (min i 4) 0 < 2 ^ 64 := by
  have h : ∀ k : Nat, k < 5 → -(2 ^ 64) < tms.getD k 0 ∧ tms.getD k 0 < 2 ^ 64 := by decide
  exact h _ (by omega)
theorem wgt_succ (ls : List Nat) (dp : Nat → Nat) (j : Nat) : wgt ls dp (j + 1) = wgt ls dp j + (((ls.getD j 0 : Nat) : Int) + 1) * tms.getD (min (dp j) 4) 0 := by
  unfold wgt
  rw [List.range_succ, List.map_append, List.sum_append]
  simp
theorem ok_weight (T : Top K mg) : FnOk P w K mg base CX0 5 (He.ga K "weight") T.fd_weight ["graph"] (sp_wgt K) := by
  have G_loops := ok_loops (P := P) (w := w) (base := base) T
  refine T.F_weight.ok sc_weight (fun vs H Q E h => ?_) (fun cdv A outer s H vs Q E hr h => ?_)
  · obtain ⟨v, g, lp, rfl, _⟩ := h
    rfl
  · obtain ⟨v, g, lp, rfl, hg, hlp, q⟩ := h
    refine ⟨_, PSs.nox (pss_cons (ps_set (i := 1) sc_weight.nd rfl (Or.inl rfl) (pe_call G_loops (hr.mono (by omega)) (by rfl) T.g_loops T.F_loops.kp T.b_loops .nil pass0 (pa_cons (pv 0) pa_nil)))
        (pss_cons (ps_set (i := 2) sc_weight.nd rfl (Or.inl rfl) pe_int)
        (pss_cons (ps_for PassesOwn.never (by rfl) (EnT.pi_enumT (by rfl) T.m_enumerate (pa_cons (pv 0) pa_nil)) (pg_tup (n := 2) (by rfl) (pgs_cons (pg_name (i := 3) sc_weight.nd rfl (Or.inr rfl)) (pgs_cons (pg_name (i := 4) sc_weight.nd rfl (Or.inl rfl)) pgs_nil))) (pss_cons (ps_set (i := 5) sc_weight.nd rfl (Or.inl rfl) (pe_callB call_len_seq (by rfl) T.m_len (by decide +kernel) (pa_cons (pe_lock (pe_lc (own := [("head", 6), ("blocks", 7)]) (by rfl) sc_weight.nd (pi_items (pv 1)) (blkOk_by (own := [("head", 6), ("blocks", 7)]) (N := N_weight) (sc := defScope s_weight) (by decide +kernel)) (fun _ _ _ _ _ => (pg_tupK (K := K) (n := 2) rfl (by rfl) (pgs_cons (pg_name (i := 6) sc_weight.nd rfl (Or.inl rfl)) (pgs_cons (pg_name (i := 7) sc_weight.nd rfl (Or.inl rfl)) pgs_nil)))) (fun _ _ _ _ _ => (pts_one (pt_cmpR op_eq (pe_op op_and (pe_op op_shr (pv 7) (pv 3)) pe_int) pe_int (nomark _)))) (fun _ _ _ _ _ => (pv 6)))) pa_nil)))
        (pss_one (ps_aug (i := 2) sc_weight.nd rfl (Or.inl rfl) (pe_op op_mul (pe_op op_add (pe_callB call_len_seq (by rfl) T.m_len (by decide +kernel) (pa_cons (pe_ix ix_tup (pv 4) pe_int (fun _ _ => rfl)) pa_nil)) pe_int) (pe_ix ix_tup (pe_glob (v := .ref (He.ga K "TIMES")) (by rfl) T.c_TIMES rfl) (pe_callB (call_min2 rfl) (by rfl) T.m_min (by decide +kernel) (pa_cons (pv 5) (pa_cons pe_int pa_nil))) (fun _ _ => rfl))) ip_add))))
        (pss_one (ps_ret (pv 2)))))), ?_⟩
    obtain ⟨p, xs, rfl, hp, lx, el⟩ := hg.tup
    refine ⟨_, rfl, .ref p, g, lp, rfl, hg, hlp, fun H1 D s1 eD => ?_⟩
    have gl : g.length ≤ 20 := by
      have := hg.2.1.1
      rw [shp_len] at this
      exact this
    have kl : lp.length ≤ 20 := by
      unfold loopP at hlp
      cases hab : eldP (shp g) with
      | none => rw [hab] at hlp; cases hlp
      | some ab =>
        rw [hab] at hlp
        have := (loopI_keys hlp).2
        rw [shp_len] at this
        omega
    dsimp only [gName]
    refine seq_by (fun σ' H' => H1 = H' ∧ σ' = [some (.ref p), some (.ref D), some (.int 0), none, none, none, none, none]) ?_ (fun N hN => hN _ _ ⟨rfl, rfl⟩)
    rintro σ' H' ⟨rfl, rfl⟩
    refine ⟨_, rfl, p, xs, rfl, sqT_sm s1 hp, ?_⟩
    refine for_it (EnT.walk (K := K) (a := p) (xs := xs)) (fun i σ' H' => Same H1 H' ∧ ∃ x3 x4 x5, σ' = [some (.ref p), some (.ref D), some (.int (wgt (lens g) (deepP lp) i)), x3, x4, x5, none, none]) ?_ ?_ ?_ ?_
    · exact ⟨Same.refl _, none, none, none, rfl⟩
    · rintro i σ' H' _ ⟨s', _⟩
      exact sqT_sm (s1.trans s') hp
    · rintro i x σ' H2 H3 hi ⟨s2, x3, x4, x5, rfl⟩ ⟨Tn, y1, y2, rfl, nT, rfl, e1, e2⟩
      cases e1
      obtain ⟨b, mb, hb, q0, pv, rv, ev, rfl, hq, dr, de⟩ := el i y2 e2
      have k3 := same_new (o := .tup [.int (i : Nat), .ref q0]) nT
      have s3 := s2.trans k3
      refine ⟨Tn, _, rfl, .of upd_same, rfl, _, _, rfl, _, _, rfl, rfl, ?_⟩
      have eD3 := s3 _ _ eD
      generalize upd H2 Tn (.tup [.int (i : Nat), .ref q0]) = H3 at s3 eD3 k3
      refine ⟨D, _, eD3, trivial, fun od => ?_⟩
      refine ⟨_, rfl, D, od, kvL lp, rfl, upd_same, fun LB nLB => ?_⟩
      have nLB0 : H3 LB = none := by
        rw [upd_ne (fun z => by rw [z, upd_same] at nLB; cases nLB)] at nLB
        exact nLB
      have nDB : D ≠ LB := fun z => by rw [← z, upd_same] at nLB; cases nLB
      refine lc_it (walk_items (d := D) (o := od) (kvs := kvL lp)) (fun j H' => H' D = some (.frz od (.dK (kvL lp))) ∧ (∀ b o, H3 b = some o → b ≠ D → H' b = some o) ∧ ∃ ns, H' LB = some (.lst ns) ∧ ns.length = ((lp.take j).filter fun q => decide (bit q.2 i = 1)).length) ?_ ?_ ?_ ?_
      · refine ⟨?_, fun b o hb nb => ?_, [], upd_same, rfl⟩
        · rw [upd_ne nDB, upd_same]
        · rw [upd_ne (ne_of_none hb nLB0), upd_ne nb]
          exact hb
      · rintro j H' _ ⟨h, _⟩
        exact h
      · rintro j x H4 H5 hj ⟨eD4, ke, ns, eN, lN⟩ ⟨T5, y1, y2, rfl, nT5, rfl, f1, f2⟩
        have k5 := same_new (o := .tup [y1, y2]) nT5
        unfold kvL at f1 f2
        dsimp only at f1 f2
        rw [List.getElem?_map] at f1 f2
        cases hq2 : lp[j]? with
        | none => rw [hq2] at f1; cases f1
        | some qq =>
          rw [hq2] at f1 f2
          cases f1
          cases f2
          refine ⟨T5, _, rfl, .of upd_same, rfl, _, _, rfl, _, _, rfl, rfl, rfl, ?_⟩
          refine ⟨_, rfl, _, rfl, _, _, rfl, rfl, by show (0 : Int) ≤ (i : Int); omega, _, _, rfl, rfl, rfl, _, rfl, ?_⟩
          have fe : ((lp.take (j + 1)).filter fun q => decide (bit q.2 i = 1)) = ((lp.take j).filter fun q => decide (bit q.2 i = 1)) ++ ([qq].filter fun q => decide (bit q.2 i = 1)) := by
            rw [List.take_succ, hq2, List.filter_append]
            rfl
          by_cases hb : bit qq.2 i = 1
          · refine ifD (congrArg V.int hb) ?_
            refine ⟨_, rfl, _, k5 _ _ eN, ?_, ?_, fun b o hb2 nb => ?_, _, upd_same, ?_⟩
            · rw [lN, sizeLine_eq]
              have h1 := List.length_filter_le (fun q => decide (bit q.2 i = 1)) (lp.take j)
              rw [List.length_take] at h1
              omega
            · rw [upd_ne nDB]
              exact k5 _ _ eD4
            · rw [upd_ne (ne_of_none hb2 nLB0)]
              exact k5 _ _ (ke b o hb2 nb)
            · rw [fe, List.filter_cons_of_pos (p := fun q : Nat × Int => decide (bit q.2 i = 1)) (decide_eq_true hb), List.length_append, List.length_append, lN]
              rfl
          · refine ifN (fun z => hb (V.int.inj z)) ⟨k5 _ _ eD4, fun b o hb2 nb => k5 _ _ (ke b o hb2 nb), ns, k5 _ _ eN, ?_⟩
            rw [fe, List.filter_cons_of_neg (p := fun q : Nat × Int => decide (bit q.2 i = 1)) (by rw [decide_eq_true_eq]; exact hb), List.filter_nil, List.append_nil, lN]
      · rintro H4 ⟨eD4, ke, ns, eN, lN⟩
        have kk : (kvL lp).length = lp.length := by unfold kvL; rw [List.length_map]
        rw [kk, List.take_length] at lN
        refine ⟨eD4, LB, ns, rfl, .inl (.of (by rw [upd_ne nDB.symm]; exact eN)), ?_⟩
        have s5 : Same H3 (upd H4 D (.dK (kvL lp))) := fun b o hb => by
          by_cases nb : b = D
          · rw [nb, upd_same]
            rw [nb, eD3] at hb
            exact hb
          · rw [upd_ne nb]
            exact ke b o hb nb
        have s15 := s3.trans s5
        have ldp : ns.length = deepP lp i := lN
        generalize upd H4 D (.dK (kvL lp)) = H6 at s5 s15
        obtain ⟨pr, ys, rfl, hr9, dr9⟩ := dp_tup dr
        have lr := dpAll_len dr9
        have s06 := s1.trans s15
        have hmn : (if (4 : Int) < ((ns.length : Nat) : Int) then 4 else ((ns.length : Nat) : Int)) = ((min (deepP lp i) 4 : Nat) : Int) := by
          rw [ldp]
          exact min4 _
        refine ⟨_, rfl, _, rfl, q0, _, 1, _, rfl, rfl, sqT_sm s06 hq, atI_nat (j := 1) rfl, pr, _, rfl, .inr (sqT_sm s06 hr9), _, _, rfl, rfl, ?_⟩
        refine ⟨_, rfl, _, _, rfl, He.ga K "TIMES", _, _, _, rfl, rfl, T.q_TIMES _, (by show atI _ (if (4 : Int) < ((ns.length : Nat) : Int) then 4 else ((ns.length : Nat) : Int)) = _; rw [hmn]; exact tms_at), _, _, rfl, rfl, .inr (tms_pos _), _, _, rfl, rfl, s15, some (.int (i : Nat)), some (.ref q0), some (.int (ns.length : Nat)), ?_⟩
        have gl2 : (lens g).getD i 0 = ys.length := by
          unfold lens
          rw [List.getD, List.getElem?_map, hb, lr]
          rfl
        rw [wgt_succ, gl2]
        rfl
    · rintro σ' H2 ⟨s2, x3, x4, x5, rfl⟩
      rw [lx]
      exact ⟨_, rfl, q _ (s1.trans s2)⟩
/-- a works with one helper -/
def Wk (g1 g2 : Gr) : PyData := .tuple [.tuple [.tuple [.str "h", Gr.d g1]], Gr.d g2]
def GrOk (g : Gr) : Prop := okT (shp g) ∧ ∀ b ∈ g, b.rs.length ≤ 1000 ∧ b.e.small = true
def sp_meas (K : PySem.W.Frag) : Sp := fun vs H Q _ => ∃ (v : V) (g1 g2 : Gr) (lp1 lp2 : List (Nat × Int)), vs = [v] ∧ Dp K H v (Wk g1 g2) ∧ GrOk g1 ∧ GrOk g2 ∧ loopP (shp g1) = some lp1 ∧ loopP (shp g2) = some lp2 ∧
  ∀ H', Same H H' → Q (.int (wgt (lens g1) (deepP lp1) g1.length + wgt (lens g2) (deepP lp2) g2.length)) H'
theorem ok_measure (T : Top K mg) : FnOk P w K mg base CX0 6 (He.ga K "measure") T.fd_measure ["works"] (sp_meas K) := by
  have G_weight := ok_weight (P := P) (w := w) (base := base) T
  refine T.F_measure.ok sc_measure (fun vs H Q E h => ?_) (fun cdv A outer s H vs Q E hr h => ?_)
  · obtain ⟨v, g1, g2, lp1, lp2, rfl, _⟩ := h
    rfl
  · obtain ⟨v, g1, g2, lp1, lp2, rfl, dp, o1, o2, h1, h2, q⟩ := h
    refine ⟨_, PSs.nox (pss_one (ps_ret (pe_op op_add (pe_callB (cr_sum (by rfl)) (by rfl) T.m_sum (by decide +kernel) (pa_cons (pe_lc (own := [("name", 1), ("graph", 2)]) (by rfl) sc_measure.nd (pi_tup (pe_ix ix_tup (pv 0) pe_int (fun _ _ => rfl))) (blkOk_by (own := [("name", 1), ("graph", 2)]) (N := N_measure) (sc := defScope s_measure) (by decide +kernel)) (fun _ _ _ _ _ => (pg_tupK (K := K) (n := 2) rfl (by rfl) (pgs_cons (pg_name (i := 1) sc_measure.nd rfl (Or.inl rfl)) (pgs_cons (pg_name (i := 2) sc_measure.nd rfl (Or.inl rfl)) pgs_nil)))) (fun _ _ _ _ _ => pts_nil) (fun _ _ _ _ _ => (pe_call G_weight (hr.mono (by omega)) (by rfl) T.g_weight T.F_weight.kp T.b_weight .nil pass0 (pa_cons (pv 2) pa_nil)))) pa_nil)) (pe_call G_weight (hr.mono (by omega)) (by rfl) T.g_weight T.F_weight.kp T.b_weight .nil pass0 (pa_cons (pe_ix ix_tup (pv 0) pe_int (fun _ _ => rfl)) pa_nil))))), ?_⟩
    obtain ⟨p, xs, rfl, hp, da⟩ := dp_tup dp
    obtain ⟨x0, r0, rfl, d0, e0⟩ := dpAll_cons da
    obtain ⟨x1, r1, rfl, d1, e1⟩ := dpAll_cons e0
    cases dpAll_nil e1
    obtain ⟨p0, ys, rfl, hp0, da0⟩ := dp_tup d0
    obtain ⟨y0, s0, rfl, f0, f1⟩ := dpAll_cons da0
    cases dpAll_nil f1
    obtain ⟨p1, zs, rfl, hp1, da1⟩ := dp_tup f0
    obtain ⟨z0, t0, rfl, i0, i1⟩ := dpAll_cons da1
    obtain ⟨z1, t1, rfl, j0, j1⟩ := dpAll_cons i1
    cases dpAll_nil j1
    refine ⟨_, rfl, p, _, 0, _, rfl, rfl, hp, atI_nat (j := 0) rfl, p0, rfl, ⟨_, hp0⟩, fun D nD => ?_⟩
    refine lc_tup (K := K) (xs := [.ref p1]) (fun i H' => Same H H' ∧ H' D = some (.lst (([wgt (lens g1) (deepP lp1) g1.length].take i).map V.int))) ?_ ?_ ?_ ?_
    · exact ⟨same_new nD, upd_same⟩
    · rintro i H' _ ⟨s', _⟩
      exact sqT_sm s' hp0
    · rintro i x H1 hx ⟨s1, e1⟩
      have i0 : i = 0 := by
        have := (List.getElem?_eq_some_iff.mp hx).1
        simp at this
        exact this
      subst i0
      cases hx
      refine ⟨p1, _, rfl, sqT_sm s1 hp1, rfl, _, _, rfl, _, _, rfl, rfl, rfl, ?_⟩
      refine ⟨_, rfl, _, g1, lp1, rfl, ⟨dp_sm s1 j0, o1⟩, h1, fun H2 s2 => ?_⟩
      exact ⟨_, s2 _ _ e1, by rw [sizeLine_eq]; simp, same_upd (s1.trans s2) nD, upd_same⟩
    · rintro H1 ⟨s1, e1⟩
      refine ⟨D, _, rfl, .of e1, ?_⟩
      refine ⟨_, rfl, p, _, 1, _, rfl, rfl, sqT_sm s1 hp, atI_nat (j := 1) rfl, _, g2, lp2, rfl, ⟨dp_sm s1 d1, o2⟩, h2, fun H2 s2 => ?_⟩
      refine ⟨_, _, rfl, rfl, ?_⟩
      have := q _ (s1.trans s2)
      simpa using this
end

section
variable {X : Cx} {K : PySem.W.Frag}
theorem op_neEK (h : X.K = K) (hu : X.A.units + 64 < cLine) : OpR X (compareOp .NotEq) (rNeE K) := by subst h; exact op_neE hu
end
section
variable {P : Program} {w : World} {K : PySem.W.Frag} {mg : Str → Option Value} {base : Heap}
inductive El where
  | sk (d : PyData) (h : isT d = false)
  | wa (t : Nat) (as : List Int)
  | ar (as : List Int)
def El.d : El → PyData
  | .sk d _ => d
  | .wa t as => wy t as
  | .ar as => .tuple (as.map .int)
def El.t : El → Option Nat
  | .sk _ _ => none
  | .wa t _ => some t
  | .ar _ => none
def En.tl : En → List El
  | .fail n => [.sk (.int n) rfl]
  | .give n => [.sk (.int n) rfl]
  | .jump t as => [.wa t as]
  | .choose c t u as bs => [.sk (.int c) rfl, .wa t as, .wa u bs]
  | .call h as t bs => [.sk (.str h) rfl, .ar as, .wa t bs]
theorem En.tl_d (e : En) : ∃ z, e.d = .tuple (.str z :: e.tl.map El.d) := by cases e <;> exact ⟨_, rfl⟩
theorem En.tl_t (e : En) : e.tl.filterMap El.t = e.ts := by cases e <;> rfl
theorem ints_lay : ∀ as : List Int, PyData.canLayAll0 (as.map PyData.int) = true
  | [] => rfl
  | a :: r => by simp only [List.map_cons, PyData.canLayAll0, ints_lay r]; rfl
theorem wy_lay (t : Nat) (as : List Int) : (wy t as).canLay0 = true := by
  simp only [wy, PyData.canLay0, PyData.canLayAll0, ints_lay as]
  rfl
theorem atI_last {xs : List V} (h : xs ≠ []) : ∃ x, xs[xs.length - 1]? = some x ∧ atI xs (-1) = some x := by
  have hl : 0 < xs.length := List.length_pos_iff.mpr h
  refine ⟨xs[xs.length - 1], List.getElem?_eq_getElem (by omega), ?_⟩
  unfold atI ixN
  rw [if_neg (by omega), if_pos (by omega)]
  have : ((-1 : Int) + (xs.length : Int)).toNat = xs.length - 1 := by omega
  simp only [Option.bind_some, this]
  exact List.getElem?_eq_getElem (by omega)
def sp_lways (K : PySem.W.Frag) : Sp := fun vs H Q _ => ∃ (v : V) (e : En), vs = [v] ∧ Dp K H v e.d ∧ ∀ H' F, Same H H' → H F = none → H' F = some (.lst (e.ts.map nV)) → Q (.ref F) H'
theorem ok__law_ways (T : Top K mg) : FnOk P w K mg base CX0 1 (He.ga K "_law_ways") T.fd__law_ways ["_law_end"] (sp_lways K) := by
  refine T.F__law_ways.ok sc__law_ways (fun vs H Q E h => ?_) (fun cdv A outer s H vs Q E hr h => ?_)
  · obtain ⟨v, e, rfl, _⟩ := h
    rfl
  · obtain ⟨v, e, rfl, dp, q⟩ := h
    refine ⟨_, PSs.nox (pss_one (ps_ret (pe_lc (own := [("_law_one", 1)]) (by rfl) sc__law_ways.nd (pi_tup (pe_slice sl_tupA (pv 0) (po_some pe_int) po_none)) (blkOk_by (own := [("_law_one", 1)]) (N := N__law_ways) (sc := defScope s__law_ways) (by decide +kernel)) (fun _ _ _ _ _ => (pg_name (i := 1) sc__law_ways.nd rfl (Or.inl rfl))) (fun _ _ _ _ _ => (pts_one (PW.pt (pw_and (pt_val (pe_callB (call_isiK (K := K) rfl) (by rfl) T.m_isinstance (by decide +kernel) (pa_cons (pv 1) (pa_cons (pe_bltn (v := .ty "tuple") (by rfl) T.m_tuple (by decide +kernel) rfl) pa_nil)))) (pw_and (pt_cmpR (op_neEK (K := K) rfl hr.units) (pv 1) (pe_tup pa_nil) (nomark _)) (pw_and1 (pt_val (pe_callB (call_isiK (K := K) rfl) (by rfl) T.m_isinstance (by decide +kernel) (pa_cons (pe_ix (ix_tupK (K := K) rfl) (pv 1) (pe_un un_neg pe_int) (fun _ _ => rfl)) (pa_cons (pe_bltn (v := .ty "tuple") (by rfl) T.m_tuple (by decide +kernel) rfl) pa_nil)))))))))) (fun _ _ _ _ _ => (pe_ix (ix_tupK (K := K) rfl) (pv 1) pe_int (fun _ _ => rfl)))))), ?_⟩
    obtain ⟨z, hz⟩ := e.tl_d
    rw [hz] at dp
    obtain ⟨p, xs, rfl, hp, da⟩ := dp_tup dp
    obtain ⟨x0, zs, rfl, d0, dz⟩ := dpAll_cons da
    have tlen : e.tl.length ≤ 3 := by cases e <;> simp [En.tl]
    have zl : zs.length = e.tl.length := by rw [dpAll_len dz, List.length_map]
    refine ⟨_, rfl, 1, rfl, p, _, rfl, hp, fun z => absurd z tail_no, fun _ S nS => ?_⟩
    rw [cut_tail]
    have kS := same_new (o := .tup zs) nS
    refine ⟨S, rfl, ⟨_, .of upd_same⟩, fun D nD => ?_⟩
    refine lc_tup (K := K) (xs := zs) (fun i H' => Same (upd H S (.tup zs)) H' ∧ H' D = some (.lst ((((e.tl.take i).filterMap El.t)).map nV))) ?_ ?_ ?_ ?_
    · exact ⟨same_new nD, upd_same⟩
    · rintro i H' _ ⟨s', _⟩
      exact sqT_sm s' (.of upd_same)
    · rintro i x H1 hx ⟨s1, e1⟩
      obtain ⟨d, hd, dd⟩ := dpAll_getV dz hx
      rw [List.getElem?_map] at hd
      obtain ⟨l, hl, rfl⟩ := Option.map_eq_some_iff.mp hd
      have d1 := dp_sm (kS.trans s1) dd
      have fe : (e.tl.take (i + 1)).filterMap El.t = (e.tl.take i).filterMap El.t ++ (l.t).toList := by
        rw [List.take_succ, hl, List.filterMap_append]
        cases h : l.t <;> simp [h]
      rw [fe]
      have fl : ((e.tl.take i).filterMap El.t).length ≤ 3 := by
        have h1 := List.length_filterMap_le El.t (e.tl.take i)
        rw [List.length_take] at h1
        omega
      refine ⟨rfl, _, rfl, _, _, _, _, isT l.d, rfl, .ty _, dp_ty d1, kit_tup l.d, _, rfl, ?_⟩
      cases l with
      | sk d h =>
        refine ifF h ⟨s1, ?_⟩
        rw [e1]
        simp [El.t]
      | wa t as =>
        refine ifT rfl ?_
        obtain ⟨qx, ys, rfl, hq, dy⟩ := dp_tup d1
        obtain ⟨y0, r0, rfl, dy0, dr0⟩ := dpAll_cons dy
        obtain ⟨y1, r1, rfl, dy1, dr1⟩ := dpAll_cons dr0
        cases dpAll_nil dr1
        cases dp_int dy0
        refine ⟨_, rfl, Nat.zero_le _, fun E nE => ?_⟩
        have kE := same_new (o := .tup []) nE
        refine ⟨wy t as, .tuple [], dp_sm kE d1, .tup (.of upd_same) .nil, wy_lay t as, rfl, by decide, _, rfl, ?_⟩
        refine ifT (by rfl) ?_
        refine ⟨_, rfl, _, rfl, qx, _, _, y1, rfl, rfl, sqT_sm kE hq, rfl, _, _, _, _, true, rfl, .ty _, dp_ty (dp_sm kE dy1), kit_tup _, _, rfl, ?_⟩
        refine ⟨_, rfl, qx, _, 0, _, rfl, rfl, sqT_sm kE hq, atI_nat (j := 0) rfl, _, kE _ _ e1, by rw [List.length_map, sizeLine_eq]; omega, same_upd (s1.trans kE) nD, ?_⟩
        rw [upd_same, List.map_append]
        rfl
      | ar as =>
        refine ifT rfl ?_
        obtain ⟨qx, ys, rfl, hq, dy⟩ := dp_tup d1
        refine ⟨_, rfl, Nat.zero_le _, fun E nE => ?_⟩
        have kE := same_new (o := .tup []) nE
        refine ⟨.tuple (as.map .int), .tuple [], dp_sm kE d1, .tup (.of upd_same) .nil, by simp only [PyData.canLay0]; exact ints_lay as, rfl, by decide, _, rfl, ?_⟩
        have fin : Same (upd H S (.tup zs)) (upd H1 E (.tup [])) ∧ upd H1 E (.tup []) D = some (.lst (((e.tl.take i).filterMap El.t ++ (El.t (.ar as)).toList).map nV)) := ⟨s1.trans kE, by rw [kE _ _ e1]; simp [El.t]⟩
        cases as with
        | nil => exact fin
        | cons a as =>
          refine ifT (by rfl) ?_
          have yn : ys ≠ [] := fun z => by
            rw [z] at dy
            cases dy
          obtain ⟨yl, hyl, hat⟩ := atI_last yn
          obtain ⟨dl, hdl, ddl⟩ := dpAll_getV dy hyl
          rw [List.getElem?_map] at hdl
          obtain ⟨il, hil, rfl⟩ := Option.map_eq_some_iff.mp hdl
          cases dp_int ddl
          exact ⟨_, rfl, _, rfl, qx, _, _, _, rfl, rfl, sqT_sm kE hq, hat, _, _, _, _, false, rfl, .ty _, .base (.int _), kit_tup (.int il), _, rfl, fin⟩
    · rintro H1 ⟨s1, e1⟩
      rw [zl, List.take_length, En.tl_t] at e1
      have nDH : H D = none := kS.free nD
      exact q _ D (kS.trans s1) nDH e1
end

section
variable {P : Program} {w : World} {K : PySem.W.Frag} {mg : Str → Option Value} {base : Heap}
theorem in_nV (o : Nat) (f : List Nat) : inV (nV o) (f.map nV) = decide (o ∈ f) := by
  unfold inV
  rw [List.any_map]
  by_cases h : o ∈ f
  · rw [decide_eq_true h]
    refine List.any_eq_true.mpr ⟨o, h, ?_⟩
    show ((o : Int) == (o : Int)) = true
    exact beq_self_eq_true _
  · rw [decide_eq_false h]
    refine List.any_eq_false.mpr fun x hx e => h ?_
    have e2 : ((x : Int) == (o : Int)) = true := e
    have e3 := eq_of_beq e2
    have e4 : x = o := by omega
    rw [← e4]
    exact hx
theorem flat_nV (f : List Nat) : (f.map nV).all flatV = true := by
  rw [List.all_map]
  exact List.all_eq_true.mpr fun x _ => rfl
theorem comeS_succ (s : Shp) (wo : Nat) (f : List Nat) (x : Nat) {j o : Nat} (h : (s.getD x [])[j]? = some o) : comeS s wo f x (j + 1) = if o ∉ comeS s wo f x j ∧ o ≠ wo then comeS s wo f x j ++ [o] else comeS s wo f x j := by
  unfold comeS
  rw [List.take_succ, h, List.foldl_append]
  rfl
theorem comeS_len (s : Shp) (wo : Nat) (f : List Nat) (x : Nat) : ∀ j, (comeS s wo f x j).length ≤ f.length + j
  | 0 => by simp [comeS]
  | j + 1 => by
    have ih := comeS_len s wo f x j
    cases h : (s.getD x [])[j]? with
    | none =>
      have : comeS s wo f x (j + 1) = comeS s wo f x j := by
        unfold comeS
        rw [List.take_succ, h]
        simp
      rw [this]
      omega
    | some o =>
      rw [comeS_succ s wo f x h]
      split
      · rw [List.length_append, List.length_singleton]
        omega
      · omega
theorem comeS_mem (s : Shp) (wo : Nat) (f : List Nat) (x n : Nat) (hf : ∀ y ∈ f, y < n) (hs : ∀ y ∈ s.getD x [], y < n) : ∀ j, ∀ y ∈ comeS s wo f x j, y < n
  | 0 => hf
  | j + 1 => by
    have ih := comeS_mem s wo f x n hf hs j
    cases h : (s.getD x [])[j]? with
    | none =>
      have : comeS s wo f x (j + 1) = comeS s wo f x j := by
        unfold comeS
        rw [List.take_succ, h]
        simp
      rw [this]
      exact ih
    | some o =>
      rw [comeS_succ s wo f x h]
      split
      · intro y hy
        rcases List.mem_append.mp hy with z | z
        · exact ih y z
        · rw [List.mem_singleton.mp z]
          exact hs o (List.mem_of_getElem? h)
      · exact ih
def sp_come (K : PySem.W.Frag) : Sp := fun vs H Q _ => ∃ (v : V) (g : Gr) (st wo : Nat) (R : List Nat), vs = [v, .int (st : Int), .int (wo : Int)] ∧ GrAt K H v g ∧ st < g.length ∧ come (shp g) st wo = some R ∧ ∀ H' F, Same H H' → H F = none → R.length ≤ 200 → H' F = some (.lst (R.map nV)) → Q (.ref F) H'
theorem ok__law_come (T : Top K mg) : FnOk P w K mg base CX0 2 (He.ga K "_law_come") T.fd__law_come ["_law_graph", "_law_start", "_law_without"] (sp_come K) := by
  have G__law_ways := ok__law_ways (P := P) (w := w) (base := base) T
  refine T.F__law_come.ok sc__law_come (fun vs H Q E h => ?_) (fun cdv A outer s H vs Q E hr h => ?_)
  · obtain ⟨v, g, st, wo, R, rfl, _⟩ := h
    rfl
  · obtain ⟨v, g, st, wo, R, rfl, hg, hst, hR, q⟩ := h
    refine ⟨_, PSs.nox (pss_cons (ps_set (i := 3) sc__law_come.nd rfl (Or.inl rfl) (pe_lst (pa_cons (pv 1) pa_nil)))
        (pss_cons (ps_set (i := 4) sc__law_come.nd rfl (Or.inl rfl) pe_int)
        (pss_cons (ps_while PassesOwn.never (pt_cmpR op_lt (pv 4) (pe_callB call_len_seq (by rfl) T.m_len (by decide +kernel) (pa_cons (pv 3) pa_nil)) (nomark _)) (pss_cons (ps_for PassesOwn.never (by rfl) (pi_list (pe_call G__law_ways (hr.mono (by omega)) (by rfl) T.g__law_ways T.F__law_ways.kp T.b__law_ways .nil pass0 (pa_cons (pe_ix ix_tup (pe_ix ix_tup (pv 0) (pe_ix ix_list (pv 3) (pv 4) (fun _ _ => rfl)) (fun _ _ => rfl)) pe_int (fun _ _ => rfl)) pa_nil))) (pg_name (i := 5) sc__law_come.nd rfl (Or.inl rfl)) (pss_one (ps_if (PW.pt (pw_and (pt_cmpR op_notIn_seq (pv 5) (pv 3) (by rfl)) (pw_and1 (pt_cmpR op_ne (pv 5) (pv 2) (nomark _))))) (pss_one (ps_expr (pe_bm PySem.F.plainAttrs_list PySem.F.slot_list_append PySem.F.type_list_append mt_append (pv 3) (pa_cons (pv 5) pa_nil)))) pss_nil)))
        (pss_one (ps_set (i := 4) sc__law_come.nd rfl (Or.inl rfl) (pe_op op_add (pv 4) pe_int)))))
        (pss_one (ps_ret (pv 3)))))), ?_⟩
    have big : ∀ n : Nat, n ≤ 10000 → n ≤ sizeLine := fun n h => by rw [sizeLine_eq]; omega
    obtain ⟨p, xs, rfl, hp, lx, el⟩ := hg.tup
    obtain ⟨l20, tl, pos⟩ := hg.2.1
    have two := shp_two g
    refine ⟨_, rfl, big 1 (by decide), fun F nF => ?_⟩
    dsimp only [gName]
    refine seq_by (fun σ' H' => Same H H' ∧ H' F = some (.lst ([st].map nV)) ∧ σ' = [some (.ref p), some (.int (st : Int)), some (.int (wo : Int)), some (.ref F), some (.int 0), none]) ?_ (fun N hN => hN _ _ ⟨same_new nF, upd_same, rfl⟩)
    rintro σ' H1 ⟨s1, e1, rfl⟩
    refine while_m (fun m σ' H' => ∃ (a : Nat) (f : List Nat) (x5 : Option V), Same H H' ∧ H' F = some (.lst (f.map nV)) ∧ comeI (shp g) wo m a f = some R ∧ (∀ y ∈ f, y < g.length) ∧ f.length + 2 * m ≤ 200 ∧ σ' = [some (.ref p), some (.int (st : Int)), some (.int (wo : Int)), some (.ref F), some (.int (a : Int)), x5]) ?_ ?_ ?_
    · exact ⟨50, 0, [st], none, s1, e1, hR, fun y hy => by rw [List.mem_singleton.mp hy]; exact hst, by simp, rfl⟩
    · rintro m σ' H2 ⟨a, f, x5, s2, e2, hc, hf, hz, rfl⟩
      refine ⟨_, rfl, _, rfl, F, _, rfl, .inl (.of e2), _, _, rfl, rfl, _, rfl, ?_⟩
      cases m with
      | zero => simp [comeI] at hc
      | succ m =>
        unfold comeI at hc
        by_cases ha : a < f.length
        · rw [if_pos ha] at hc
          refine ifD (by rw [List.length_map]; omega) ?_
          have fa : f.getD a 0 < g.length := hf _ (getD_mem ha)
          have f1 : (f.map nV)[a]? = some (nV (f.getD a 0)) := by
            rw [List.getElem?_map, List.getElem?_eq_getElem ha]
            simp [List.getD, ha]
          generalize f.getD a 0 = x at hc fa f1
          have xl : x < xs.length := by rw [lx]; exact fa
          obtain ⟨b, mb, hb, q0, pv, rv, ev, hxe, hq, dr, de⟩ := el x xs[x] (List.getElem?_eq_getElem xl)
          have hx1 : xs[x]? = some (.ref q0) := by rw [List.getElem?_eq_getElem xl, hxe]
          refine ⟨_, rfl, _, rfl, _, rfl, F, _, _, _, rfl, rfl, .of e2, atI_nat f1, p, _, _, _, rfl, rfl, sqT_sm s2 hp, atI_nat hx1, q0, _, 2, _, rfl, rfl, sqT_sm s2 hq, atI_nat (j := 2) rfl, ev, b.e, rfl, dp_sm s2 de, fun H3 LW s3 nLW eW => ?_⟩
          have gts : (shp g).getD x [] = b.e.ts := by
            rw [List.getD, shp_get hb]
            rfl
          have s23 := s2.trans s3
          have FLW : F ≠ LW := fun z => by
            rw [← z, e2] at nLW
            cases nLW
          have xts : ∀ y ∈ (shp g).getD x [], y < g.length := by
            intro y hy
            have := tl _ (getD_mem (d := []) (by rw [shp_len]; exact fa)) y hy
            rw [shp_len] at this
            exact this
          refine ⟨LW, rfl, ⟨_, .of eW⟩, ?_⟩
          refine for_list (K := K) (a := LW) (xs := b.e.ts.map nV) (fun j σ' H' => Same H H' ∧ H' LW = some (.lst (b.e.ts.map nV)) ∧ H' F = some (.lst ((comeS (shp g) wo f x j).map nV)) ∧ ∃ x5, σ' = [some (.ref p), some (.int (st : Int)), some (.int (wo : Int)), some (.ref F), some (.int (a : Int)), x5]) ?_ ?_ ?_ ?_
          · exact ⟨s23, eW, s3 _ _ e2, x5, rfl⟩
          · rintro j σ' H' _ ⟨_, h, _⟩
            exact .of h
          · rintro j y σ' H4 hy ⟨s4, eW4, e4, x5, rfl⟩
            rw [List.getElem?_map] at hy
            obtain ⟨o, ho, rfl⟩ := Option.map_eq_some_iff.mp hy
            have jl : j < 2 := Nat.lt_of_lt_of_le (List.getElem?_eq_some_iff.mp ho).1 (ts_two b.e)
            have cl := comeS_len (shp g) wo f x j
            rw [comeS_succ (shp g) wo f x (by rw [gts]; exact ho)]
            generalize comeS (shp g) wo f x j = cf at e4 cl
            refine ⟨_, rfl, _, rfl, F, _, rfl, .inl (.of e4), rfl, flat_nV _, _, rfl, ?_⟩
            by_cases h1 : o ∈ cf
            · rw [if_neg (fun z => z.1 h1)]
              refine ifF (by show (!inV (nV o) _) = false; rw [in_nV, decide_eq_true h1]; rfl) ?_
              exact ⟨s4, eW4, e4, _, rfl⟩
            · refine ifT (by show (!inV (nV o) _) = true; rw [in_nV, decide_eq_false h1]; rfl) ?_
              refine ⟨_, rfl, _, rfl, rfl, _, rfl, ?_⟩
              by_cases h2 : o = wo
              · rw [if_neg (fun z => z.2 h2)]
                refine ifNF (by rw [h2]; rfl) ?_
                exact ⟨s4, eW4, e4, _, rfl⟩
              · rw [if_pos ⟨h1, h2⟩]
                refine ifNT (fun z => h2 ?_) ?_
                · have := V.int.inj z
                  omega
                refine ⟨_, rfl, .inl ⟨rfl, _, .of e4⟩, _, rfl, F, _, _, rfl, rfl, e4, ?_, same_upd s4 nF, ?_, ?_, _, rfl⟩
                · rw [List.length_map, sizeLine_eq]
                  omega
                · rw [upd_ne FLW.symm]
                  exact eW4
                · rw [upd_same, List.map_append]
                  rfl
          · rintro σ' H4 ⟨s4, eW4, e4, x5, rfl⟩
            rw [List.length_map] at e4
            rw [gts] at hc
            have cl := comeS_len (shp g) wo f x b.e.ts.length
            have t2 := ts_two b.e
            refine ⟨_, rfl, _, _, rfl, rfl, m, Nat.lt_succ_self _, a + 1, _, x5, s4, e4, hc, comeS_mem _ _ _ _ _ hf xts _, by omega, rfl⟩
        · rw [if_neg ha] at hc
          cases hc
          refine ifN (by rw [List.length_map]; omega) ?_
          exact ⟨_, rfl, q _ F s2 nF (by omega) e2⟩
    · intro σ' H' Q1 Q2 h hc
      obtain ⟨v1, e1, v2, e2, p, ys, e3, hs, i, j, e4, e5, b, hb, q1⟩ := hc
      exact ⟨v1, e1, v2, e2, p, ys, e3, hs, i, j, e4, e5, b, hb, h _ _ q1⟩
end

section
variable {P : Program} {w : World} {K : PySem.W.Frag} {mg : Str → Option Value} {base : Heap}
theorem deepI_pre {s : Shp} {x j d : Nat} (h : deepI s x (j + 1) = some d) : ∃ d' ah, deepI s x j = some d' ∧ come s 0 (1 + j) = some ah := by
  unfold deepI at h
  cases h1 : deepI s x j with
  | none => rw [h1] at h; simp at h
  | some d' =>
    cases h2 : come s 0 (1 + j) with
    | none => rw [h1, h2] at h; simp at h
    | some ah => exact ⟨d', ah, rfl, rfl⟩
theorem deepI_le {s : Shp} {x : Nat} : ∀ {n d : Nat}, deepI s x n = some d → ∀ {j : Nat}, j ≤ n → ∃ d', deepI s x j = some d'
  | 0, d, h, j, hj => by
    have : j = 0 := by omega
    subst this
    exact ⟨d, h⟩
  | n + 1, d, h, j, hj => by
    by_cases e : j = n + 1
    · subst e
      exact ⟨d, h⟩
    · obtain ⟨d', _, h', _⟩ := deepI_pre h
      exact deepI_le h' (by omega)
theorem deepI_bd {s : Shp} {x : Nat} : ∀ {j d : Nat}, deepI s x j = some d → d ≤ j
  | 0, d, h => by cases h; exact Nat.le_refl _
  | j + 1, d, h => by
    obtain ⟨d', ah, h1, h2⟩ := deepI_pre h
    have ih := deepI_bd h1
    unfold deepI at h
    rw [h1, h2] at h
    dsimp only at h
    split at h
    · cases h3 : come s x (1 + j) with
      | none => rw [h3] at h; cases h
      | some ch =>
        rw [h3] at h
        cases h
        split <;> omega
    · cases h
      omega
theorem filt_succ {l : List Nat} {p : Nat → Bool} {i o : Nat} (h : l[i]? = some o) : (l.take (i + 1)).filter p = (l.take i).filter p ++ (if p o = true then [o] else []) := by
  rw [List.take_succ, h, List.filter_append]
  cases hp : p o <;> simp [hp]
def sp_lw (K : PySem.W.Frag) : Sp := fun vs H Q _ => ∃ (v : V) (g : Gr) (dl : Nat → Nat), vs = [v] ∧ GrAt K H v g ∧ (∀ x, x < g.length → deepL (shp g) x = some (dl x)) ∧ ∀ H', Same H H' → Q (.int (wgt (lens g) dl g.length)) H'
theorem ok__law_weight (T : Top K mg) : FnOk P w K mg base CX0 3 (He.ga K "_law_weight") T.fd__law_weight ["_law_graph"] (sp_lw K) := by
  have G__law_ways := ok__law_ways (P := P) (w := w) (base := base) T
  have G__law_come := ok__law_come (P := P) (w := w) (base := base) T
  refine T.F__law_weight.ok sc__law_weight (fun vs H Q E h => ?_) (fun cdv A outer s H vs Q E hr h => ?_)
  · obtain ⟨v, g, dl, rfl, _⟩ := h
    rfl
  · obtain ⟨v, g, dl, rfl, hg, hd, q⟩ := h
    refine ⟨_, PSs.nox (pss_cons (ps_set (i := 1) sc__law_weight.nd rfl (Or.inl rfl) (pe_callB call_len_seq (by rfl) T.m_len (by decide +kernel) (pa_cons (pv 0) pa_nil)))
        (pss_cons (ps_set (i := 2) sc__law_weight.nd rfl (Or.inl rfl) pe_int)
        (pss_cons (ps_for PassesOwn.never (by rfl) (pi_range1 (by rfl) T.m_range (pa_cons (pv 1) pa_nil)) (pg_name (i := 3) sc__law_weight.nd rfl (Or.inr rfl)) (pss_cons (ps_set (i := 4) sc__law_weight.nd rfl (Or.inl rfl) pe_int)
        (pss_cons (ps_for PassesOwn.never (by rfl) (pi_range2 (by rfl) T.m_range (pa_cons pe_int (pa_cons (pv 1) pa_nil))) (pg_name (i := 5) sc__law_weight.nd rfl (Or.inr rfl)) (pss_cons (ps_set (i := 6) sc__law_weight.nd rfl (Or.inr rfl) (pe_call G__law_come (hr.mono (by omega)) (by rfl) T.g__law_come T.F__law_come.kp T.b__law_come .nil pass0 (pa_cons (pv 0) (pa_cons pe_int (pa_cons (pv 5) pa_nil)))))
        (pss_cons (ps_setLc (i := 7) (own := [("_law_one", 10)]) (by rfl) sc__law_weight.nd rfl rfl (sw_true rfl rfl rfl (by decide +kernel)) (pi_range1 (by rfl) T.m_range (pa_cons (pv 1) pa_nil)) (blkOk_by (own := [("_law_one", 10)]) (N := N__law_weight) (sc := defScope s__law_weight) (by decide +kernel)) (fun _ _ _ _ _ => (pg_name (i := 10) sc__law_weight.nd rfl (Or.inl rfl))) (fun _ _ _ _ _ => (pts_one (PW.pt (pw_and (pt_cmpR (op_notIn_seqK (K := K) rfl) (pv 10) (pv 6) (by rfl)) (pw_and1 (pt_cmpR (op_in_seqK (K := K) rfl) (pv 5) (pe_call G__law_ways (hr.mono (by omega)) (by rfl) T.g__law_ways T.F__law_ways.kp T.b__law_ways .nil pass0 (pa_cons (pe_ix (ix_tupK (K := K) rfl) (pe_ix (ix_tupK (K := K) rfl) (pv 0) (pv 10) (fun _ _ => rfl)) pe_int (fun _ _ => rfl)) pa_nil)) (by rfl))))))) (fun _ _ _ _ _ => (pv 10)))
        (pss_one (ps_if (PW.pt (pw_and (pt_cmpR (op_neE hr.units) (pv 7) (pe_lst pa_nil) (nomark _)) (pw_and1 (pt_cmpR op_notIn_seq (pv 3) (pv 6) (by rfl))))) (pss_cons (ps_set (i := 8) sc__law_weight.nd rfl (Or.inr rfl) (pe_call G__law_come (hr.mono (by omega)) (by rfl) T.g__law_come T.F__law_come.kp T.b__law_come .nil pass0 (pa_cons (pv 0) (pa_cons (pv 3) (pa_cons (pv 5) pa_nil)))))
        (pss_cons (ps_setLc (i := 9) (own := [("_law_one", 10)]) (by rfl) sc__law_weight.nd rfl rfl (sw_true rfl rfl rfl (by decide +kernel)) (pi_list (pv 7)) (blkOk_by (own := [("_law_one", 10)]) (N := N__law_weight) (sc := defScope s__law_weight) (by decide +kernel)) (fun _ _ _ _ _ => (pg_name (i := 10) sc__law_weight.nd rfl (Or.inl rfl))) (fun _ _ _ _ _ => (pts_one (PW.pt (pw_or (pt_cmpR op_eq (pv 3) (pv 5) (nomark _)) (pw_or1 (pt_cmpR (op_in_seqK (K := K) rfl) (pv 10) (pv 8) (by rfl))))))) (fun _ _ _ _ _ => (pv 10)))
        (pss_one (ps_set (i := 4) sc__law_weight.nd rfl (Or.inl rfl) (pe_op op_add (pv 4) (pe_callTy call_int1 (by rfl) T.m_int (by decide +kernel) (pa_cons (pe_cmpR (op_neE hr.units) (pv 9) (pe_lst pa_nil) (nomark _)) pa_nil))))))) pss_nil)))))
        (pss_one (ps_set (i := 2) sc__law_weight.nd rfl (Or.inl rfl) (pe_op op_add (pv 2) (pe_op op_mul (pe_op op_add (pe_callB call_len_seq (by rfl) T.m_len (by decide +kernel) (pa_cons (pe_ix ix_tup (pe_ix ix_tup (pv 0) (pv 3) (fun _ _ => rfl)) pe_int (fun _ _ => rfl)) pa_nil)) pe_int) (pe_ix ix_list (pe_lst (pa_cons pe_int (pa_cons pe_int (pa_cons pe_int (pa_cons pe_int (pa_cons pe_int pa_nil)))))) (pe_callB (call_min2 rfl) (by rfl) T.m_min (by decide +kernel) (pa_cons (pv 4) (pa_cons pe_int pa_nil))) (fun _ _ => rfl)))))))))
        (pss_one (ps_ret (pv 2)))))), ?_⟩
    have big : ∀ n : Nat, n ≤ 10000 → n ≤ sizeLine := fun n h => by rw [sizeLine_eq]; omega
    obtain ⟨p, xs, rfl, hp, lx, el⟩ := hg.tup
    obtain ⟨l20, tl, pos⟩ := hg.2.1
    rw [shp_len] at l20 pos
    refine ⟨_, rfl, p, _, rfl, .inr hp, ?_⟩
    rw [lx]
    dsimp only [gName]
    refine seq_by (fun σ' H' => H = H' ∧ σ' = [some (.ref p), some (.int (g.length : Int)), some (.int 0), none, none, none, none, none, none, none, none]) ?_ (fun N hN => hN _ _ ⟨rfl, rfl⟩)
    rintro σ' H' ⟨rfl, rfl⟩
    refine ⟨_, rfl, _, rfl, by omega, by omega, ?_⟩
    refine for_range (lo := 0) (n := ((g.length : Nat) : Int).toNat) (fun i σ' H' => Same H H' ∧ ∃ x3 x4 x5 x6 x7 x8 x9, σ' = [some (.ref p), some (.int (g.length : Int)), some (.int (wgt (lens g) dl i)), x3, x4, x5, x6, x7, x8, x9, none]) ?_ ?_ ?_
    · exact ⟨Same.refl _, none, none, none, none, none, none, none, rfl⟩
    · rintro i σ' H1 hi ⟨s1, x3, x4, x5, x6, x7, x8, x9, rfl⟩
      have il : i < g.length := by omega
      have ic : (0 : Int) + i = ((i : Nat) : Int) := by omega
      have hdi := hd i il
      unfold deepL at hdi
      rw [shp_len] at hdi
      dsimp only [gName]
      refine seq_by (fun σ' H' => H1 = H' ∧ σ' = [some (.ref p), some (.int (g.length : Int)), some (.int (wgt (lens g) dl i)), some (.int (i : Int)), some (.int 0), x5, x6, x7, x8, x9, none]) ?_ (fun N hN => hN _ _ ⟨rfl, by rw [ic]; rfl⟩)
      rintro σ' H' ⟨rfl, rfl⟩
      refine ⟨_, rfl, 1, _, rfl, ⟨by decide, by decide, by omega, by omega⟩, ?_⟩
      refine for_range (lo := 1) (n := ((g.length : Nat) - 1 : Int).toNat) (fun j σ' H' => Same H H' ∧ ∃ d, deepI (shp g) i j = some d ∧ ∃ x5 x6 x7 x8 x9, σ' = [some (.ref p), some (.int (g.length : Int)), some (.int (wgt (lens g) dl i)), some (.int (i : Int)), some (.int (d : Int)), x5, x6, x7, x8, x9, none]) ?_ ?_ ?_
      · exact ⟨s1, 0, rfl, x5, x6, x7, x8, x9, rfl⟩
      · rintro j σ' H2 hj ⟨s2, d, hdj, x5, x6, x7, x8, x9, rfl⟩
        have jl : 1 + j < g.length := by omega
        have jc : (1 : Int) + j = ((1 + j : Nat) : Int) := by omega
        obtain ⟨dn, hdn⟩ := deepI_le hdi (j := j + 1) (by omega)
        obtain ⟨d', ah, h1, h2⟩ := deepI_pre hdn
        rw [hdj] at h1
        cases h1
        have hun := hdn
        unfold deepI at hun
        rw [hdj, h2] at hun
        dsimp only at hun
        refine ⟨_, rfl, _, rfl, .ref p, g, 0, 1 + j, ah, (by show [V.ref p, .int 0, .int (1 + (j : Int))] = _; rw [jc]; rfl), hg.sm s2, pos, h2, fun H3 LA s3 nLA al eA => ?_⟩
        have s03 := s2.trans s3
        refine ⟨_, rfl, _, rfl, by omega, by omega, fun LT nLT => ?_⟩
        refine lc_range (lo := 0) (n := ((g.length : Nat) : Int).toNat) (fun k H' => Same H3 H' ∧ H' LT = some (.lst ((((List.range g.length).take k).filter fun x => decide (x ∉ ah) && decide ((1 + j) ∈ (shp g).getD x [])).map nV))) ?_ ?_ ?_
        · exact ⟨same_new nLT, upd_same⟩
        · rintro k H4 hk ⟨s4, e4⟩
          have kl : k < g.length := by omega
          have kc : (0 : Int) + k = ((k : Nat) : Int) := by omega
          have s04 := s03.trans s4
          rw [filt_succ (l := List.range g.length) (i := k) (o := k) (by rw [List.getElem?_range kl])]
          have fl : (((List.range g.length).take k).filter fun x => decide (x ∉ ah) && decide ((1 + j) ∈ (shp g).getD x [])).length ≤ 100 := by
            have h1 := List.length_filter_le (fun x => decide (x ∉ ah) && decide ((1 + j) ∈ (shp g).getD x [])) ((List.range g.length).take k)
            rw [List.length_take, List.length_range] at h1
            omega
          rw [kc]
          refine ⟨rfl, _, rfl, _, rfl, LA, _, rfl, .inl (.of (s4 _ _ eA)), rfl, flat_nV _, _, rfl, ?_⟩
          by_cases h3 : k ∈ ah
          · refine ifF (by show (!inV (nV k) _) = false; rw [in_nV, decide_eq_true h3]; rfl) ⟨s4, ?_⟩
            rw [e4, if_neg (by simp [h3]), List.append_nil]
          · refine ifT (by show (!inV (nV k) _) = true; rw [in_nV, decide_eq_false h3]; rfl) ?_
            have xl : k < xs.length := by rw [lx]; exact kl
            obtain ⟨b, mb, hb, q0, pv, rv, ev, hxe, hq, dr, de⟩ := el k xs[k] (List.getElem?_eq_getElem xl)
            have hx1 : xs[k]? = some (.ref q0) := by rw [List.getElem?_eq_getElem xl, hxe]
            have gts : (shp g).getD k [] = b.e.ts := by
              rw [List.getD, shp_get hb]
              rfl
            refine ⟨_, rfl, _, rfl, _, rfl, p, _, _, _, rfl, rfl, sqT_sm s04 hp, atI_nat hx1, q0, _, 2, _, rfl, rfl, sqT_sm s04 hq, atI_nat (j := 2) rfl, ev, b.e, rfl, dp_sm s04 de, fun H5 LW s5 nLW eW => ?_⟩
            refine ⟨LW, _, rfl, .inl (.of eW), rfl, flat_nV _, _, rfl, ?_⟩
            have iv : inV (.int (1 + (j : Int))) (b.e.ts.map nV) = decide ((1 + j) ∈ (shp g).getD k []) := by
              rw [gts, jc]
              exact in_nV (1 + j) b.e.ts
            by_cases h4 : (1 + j) ∈ (shp g).getD k []
            · refine ifT (by show inV _ _ = true; rw [iv, decide_eq_true h4]) ?_
              refine ⟨_, rfl, _, s5 _ _ e4, by rw [List.length_map, sizeLine_eq]; omega, same_upd (s4.trans s5) nLT, ?_⟩
              rw [upd_same, if_pos (by rw [decide_eq_true h3, decide_eq_true h4]; rfl), List.map_append]
              rfl
            · refine ifF (by show inV _ _ = false; rw [iv, decide_eq_false h4]) ⟨s4.trans s5, ?_⟩
              rw [s5 _ _ e4, if_neg (by rw [decide_eq_false h4, Bool.and_false]; exact Bool.false_ne_true), List.append_nil]
        · rintro H4 ⟨s4, e4⟩
          rw [Int.toNat_natCast, List.take_of_length_le (by rw [List.length_range]; exact Nat.le_refl _)] at e4
          have e4' : H4 LT = some (.lst ((tails (shp g) ah (1 + j)).map nV)) := by
            rw [e4]
            unfold tails
            rw [shp_len]
          have s04 := s03.trans s4
          have eA4 := s4 _ _ eA
          have tlen : (tails (shp g) ah (1 + j)).length ≤ 100 := by
            have h1 := List.length_filter_le (fun x => decide (x ∉ ah) && decide ((1 + j) ∈ (shp g).getD x [])) (List.range (shp g).length)
            rw [List.length_range, shp_len] at h1
            unfold tails
            rw [shp_len]
            omega
          dsimp only [gName]
          refine ⟨_, rfl, ne_nil e4' fun H5 s5 => ⟨_, rfl, ?_⟩⟩
          generalize tails (shp g) ah (1 + j) = tt at e4' hun tlen
          by_cases h3 : tt = []
          · rw [if_neg (fun z => z.1 h3)] at hun
            cases hun
            refine ifN (fun z => z h3) ⟨s04.trans s5, d, hdn, _, _, _, _, _, rfl⟩
          · refine ifD h3 ?_
            refine ⟨_, rfl, _, rfl, LA, _, rfl, .inl (.of (s5 _ _ eA4)), rfl, flat_nV _, _, rfl, ?_⟩
            by_cases h4 : i ∈ ah
            · rw [if_neg (fun z => z.2 h4)] at hun
              cases hun
              refine ifF (by show (!inV (nV i) _) = false; rw [in_nV, decide_eq_true h4]; rfl) ⟨s04.trans s5, d, hdn, _, _, _, _, _, rfl⟩
            · rw [if_pos ⟨h3, h4⟩] at hun
              refine ifT (by show (!inV (nV i) _) = true; rw [in_nV, decide_eq_false h4]; rfl) ?_
              cases hch : come (shp g) i (1 + j) with
              | none => rw [hch] at hun; cases hun
              | some ch =>
                rw [hch] at hun
                dsimp only at hun
                have s05 := s04.trans s5
                refine ⟨_, rfl, _, rfl, _, rfl, .ref p, g, i, 1 + j, ch, (by show [V.ref p, .int (i : Int), .int (1 + (j : Int))] = _; rw [jc]), hg.sm s05, il, hch, fun H6 LC s6 nLC cl eC => ?_⟩
                have s06 := s05.trans s6
                have eT6 := s6 _ _ (s5 _ _ e4')
                refine ⟨_, rfl, LT, rfl, ⟨_, .of eT6⟩, fun LI nLI => ?_⟩
                refine lc_list (K := K) (a := LT) (xs := tt.map nV) (fun k H' => Same H6 H' ∧ H' LI = some (.lst (((tt.take k).filter fun o => decide (i = 1 + j) || decide (o ∈ ch)).map nV))) ?_ ?_ ?_ ?_
                · exact ⟨same_new nLI, upd_same⟩
                · rintro k H' _ ⟨s', _⟩
                  exact .of (s' _ _ eT6)
                · rintro k y H7 hy ⟨s7, e7⟩
                  rw [List.getElem?_map] at hy
                  obtain ⟨o, ho, rfl⟩ := Option.map_eq_some_iff.mp hy
                  rw [filt_succ ho]
                  have fl : ((tt.take k).filter fun o => decide (i = 1 + j) || decide (o ∈ ch)).length ≤ 100 := by
                    have h1 := List.length_filter_le (fun o => decide (i = 1 + j) || decide (o ∈ ch)) (tt.take k)
                    rw [List.length_take] at h1
                    omega
                  refine ⟨rfl, _, rfl, _, rfl, rfl, _, rfl, ?_⟩
                  have app : ∀ (hp : (decide (i = 1 + j) || decide (o ∈ ch)) = true), ∃ acc, H7 LI = some (.lst acc) ∧ acc.length < sizeLine ∧ Same H6 (upd H7 LI (.lst (acc ++ [nV o]))) ∧ upd H7 LI (.lst (acc ++ [nV o])) LI = some (.lst ((((tt.take k).filter fun o => decide (i = 1 + j) || decide (o ∈ ch)) ++ (if (decide (i = 1 + j) || decide (o ∈ ch)) = true then [o] else [])).map nV)) := fun hp => by
                    refine ⟨_, e7, by rw [List.length_map, sizeLine_eq]; omega, same_upd s7 nLI, ?_⟩
                    rw [upd_same, if_pos hp, List.map_append]
                    rfl
                  by_cases h5 : i = 1 + j
                  · refine ifD (by rw [jc, h5]) ?_
                    exact ⟨_, rfl, app (by simp [h5])⟩
                  · refine ifN (fun z => h5 ?_) ?_
                    · have := V.int.inj z
                      omega
                    refine ⟨_, rfl, _, rfl, LC, _, rfl, .inl (.of (s7 _ _ eC)), rfl, flat_nV _, _, rfl, ?_⟩
                    by_cases h6 : o ∈ ch
                    · refine ifT (by show inV (nV o) _ = true; rw [in_nV, decide_eq_true h6]) ?_
                      exact ⟨_, rfl, app (by simp [h6])⟩
                    · refine ifF (by show inV (nV o) _ = false; rw [in_nV, decide_eq_false h6]) ⟨s7, ?_⟩
                      rw [e7, if_neg (by simp [h5, h6]), List.append_nil]
                · rintro H7 ⟨s7, e7⟩
                  rw [List.length_map, List.take_length] at e7
                  dsimp only [gName]
                  refine ⟨_, rfl, _, rfl, ne_nil e7 fun H8 s8 => .inr ⟨_, rfl, _, _, rfl, rfl, (s06.trans s7).trans s8, dn, hdn, some (.int (1 + (j : Int))), some (.ref LA), some (.ref LT), some (.ref LC), some (.ref LI), ?_⟩⟩
                  have hv : ((d : Int) + (if decide ((tt.filter fun o => decide (i = 1 + j) || decide (o ∈ ch)) ≠ []) = true then 1 else 0)) = (dn : Int) := by
                    have hu := Option.some.inj hun
                    rw [← hu]
                    by_cases h : (tt.filter fun o => decide (i = 1 + j) || decide (o ∈ ch)) ≠ []
                    · rw [if_pos (decide_eq_true h), if_pos h]
                      rfl
                    · rw [if_neg (by rw [decide_eq_true_eq]; exact h), if_neg h]
                      rfl
                  rw [← hv]
                  rfl
      · rintro σ' H2 ⟨s2, d, hdj, x5, x6, x7, x8, x9, rfl⟩
        have ne : (((g.length : Nat) : Int) - 1).toNat = g.length - 1 := by omega
        rw [ne, hdi] at hdj
        cases hdj
        have xl : i < xs.length := by rw [lx]; exact il
        obtain ⟨b, mb, hb, q0, pv, rv, ev, hxe, hq, dr, de⟩ := el i xs[i] (List.getElem?_eq_getElem xl)
        have hx1 : xs[i]? = some (.ref q0) := by rw [List.getElem?_eq_getElem xl, hxe]
        obtain ⟨pr, ys, rfl, hr9, dr9⟩ := dp_tup dr
        have lr := dpAll_len dr9
        refine ⟨_, rfl, _, rfl, _, rfl, p, _, _, _, rfl, rfl, sqT_sm s2 hp, atI_nat hx1, q0, _, 1, _, rfl, rfl, sqT_sm s2 hq, atI_nat (j := 1) rfl, pr, _, rfl, .inr (sqT_sm s2 hr9), _, _, rfl, rfl, ?_⟩
        refine ⟨big 5 (by decide), fun LL nLL => ?_⟩
        refine ⟨_, rfl, _, _, rfl, LL, _, _, _, rfl, rfl, .of upd_same, (by show atI _ (if (4 : Int) < ((dl i : Nat) : Int) then 4 else ((dl i : Nat) : Int)) = _; rw [min4]; exact tms_at), _, _, rfl, rfl, .inr (tms_pos _), _, _, rfl, rfl, s2.trans (same_new nLL), some (.int (i : Int)), some (.int (dl i : Int)), x5, x6, x7, x8, x9, ?_⟩
        have gl2 : (lens g).getD i 0 = ys.length := by
          unfold lens
          rw [List.getD, List.getElem?_map, hb, lr]
          rfl
        rw [wgt_succ, gl2]
        rfl
    · rintro σ' H1 ⟨s1, x3, x4, x5, x6, x7, x8, x9, rfl⟩
      exact ⟨_, rfl, q _ s1⟩
end

section
variable {P : Program} {w : World} {K : PySem.W.Frag} {mg : Str → Option Value} {base : Heap}
def rEqE (K : PySem.W.Frag) : R2 := fun x y H Q => ∃ d e, Dp K H x d ∧ Dp K H y e ∧ d.canLay0 = true ∧ e.canLay0 = true ∧ e.depth ≤ 64 ∧ Q (.bl (PyData.eqv d e)) H
theorem op_eqE {X : Cx} (hu : X.A.units + 64 < cLine) : OpR X (compareOp .Eq) (rEqE X.K) := by
  intro pins s σ H x y v u Q I rx ry h
  obtain ⟨d, e, hd, he, sd, se, de, q⟩ := h
  obtain ⟨as, r1⟩ := Dp.reads I d x v hd rx
  obtain ⟨bs, r2⟩ := Dp.reads I e y u he ry
  refine SeqAt.compareEq_reads r1 r2 sd se ?_ ⟨.bl _, H, I, rfl, q⟩
  have : min d.depth e.depth ≤ e.depth := Nat.min_le_right _ _
  omega
/-- a list == [] -/
theorem eq_nil {H : Hp} {L : Addr} {xs : List V} {ds : List PyData} {Q : VK} (e : H L = some (.lst xs)) (da : DpAll K H xs ds) (lay : PyData.canLayAll0 ds = true) (q : ∀ H', Same H H' → Q (.bl (decide (ds = []))) H') : Nat.zero ≤ sizeLine ∧ ∀ E, H E = none → rEqE K (.ref L) (.ref E) (upd H E (.lst [])) Q := by
  refine ⟨Nat.zero_le _, fun E nE => ?_⟩
  have kE := same_new (o := .lst []) nE
  refine ⟨.list ds, .list [], .lst (.of (kE _ _ e)) (dpAll_sm kE da), .lst (.of upd_same) .nil, by simp only [PyData.canLay0]; exact lay, rfl, by decide, ?_⟩
  have h := q _ kE
  cases ds with
  | nil => exact h
  | cons a r => exact h
def prD (q : Int × Int) : PyData := .tuple [.int q.1, .int q.2]
def hasN (ss : List (Int × Int)) : Prop := ∃ q ∈ ss, q.2 = 0
theorem filtS {α : Type} {l : List α} {p : α → Bool} {i : Nat} {o : α} (h : l[i]? = some o) : (l.take (i + 1)).filter p = (l.take i).filter p ++ (if p o = true then [o] else []) := by
  rw [List.take_succ, h, List.filter_append]
  cases hp : p o <;> simp [hp]
theorem ints_dp {H : Hp} : ∀ l : List Int, DpAll K H (l.map V.int) (l.map PyData.int)
  | [] => .nil
  | a :: r => .cons (.int _) (ints_dp r)
theorem prs_lay : ∀ l : List (Int × Int), PyData.canLayAll0 (l.map prD) = true
  | [] => rfl
  | a :: r => by simp only [List.map_cons, PyData.canLayAll0, prs_lay r]; rfl
/-- a scope in the heap -/
def ScL (K : PySem.W.Frag) (H : Hp) (v : V) (ss : List (Int × Int)) : Prop := ∃ S es, v = .ref S ∧ H S = some (.lst es) ∧ DpAll K H es (ss.map prD) ∧ ss.length ≤ 1000
theorem ScL.sm {H H' : Hp} {v : V} {ss : List (Int × Int)} (h : ScL K H v ss) (s : Same H H') : ScL K H' v ss := by
  obtain ⟨S, es, e, h1, h2, h3⟩ := h
  exact ⟨S, es, e, s _ _ h1, dpAll_sm s h2, h3⟩
theorem pr_at {H : Hp} {es : List V} {ss : List (Int × Int)} {i : Nat} {x : V} (da : DpAll K H es (ss.map prD)) (h : es[i]? = some x) : ∃ (a b : Int) (q : Addr), ss[i]? = some (a, b) ∧ x = .ref q ∧ SqT K H q [.int a, .int b] := by
  obtain ⟨d, hd, dd⟩ := dpAll_getV da h
  rw [List.getElem?_map] at hd
  obtain ⟨⟨a, b⟩, hab, rfl⟩ := Option.map_eq_some_iff.mp hd
  obtain ⟨q, ys, rfl, hq, dy⟩ := dp_tup dd
  obtain ⟨y0, r0, rfl, d0, e0⟩ := dpAll_cons dy
  obtain ⟨y1, r1, rfl, d1, e1⟩ := dpAll_cons e0
  cases dpAll_nil e1
  cases dp_int d0
  cases dp_int d1
  exact ⟨a, b, q, hab, rfl, hq⟩
def nums (ss : List (Int × Int)) : List Int := (ss.filter fun q => decide (q.2 = 0)).map (·.1)
theorem nums_has {ss : List (Int × Int)} : nums ss ≠ [] ↔ hasN ss := by
  unfold nums hasN
  constructor
  · intro h
    cases hf : ss.filter fun q => decide (q.2 = 0) with
    | nil => rw [hf] at h; exact absurd rfl h
    | cons q r =>
      have hq : q ∈ ss.filter fun q => decide (q.2 = 0) := by rw [hf]; exact List.mem_cons_self ..
      exact ⟨q, (List.mem_filter.mp hq).1, of_decide_eq_true (List.mem_filter.mp hq).2⟩
  · rintro ⟨q, hq, h0⟩ z
    have : q ∈ ss.filter fun q => decide (q.2 = 0) := List.mem_filter.mpr ⟨hq, decide_eq_true h0⟩
    rw [List.map_eq_nil_iff.mp z] at this
    exact nomatch this
def sp_nb : Sp := fun vs H Q _ => ∃ m : Int, vs = [.int m] ∧ ∀ H' i, Same H H' → Q (.int i) H'
theorem ok__law_number_by (T : Top K mg) : FnOk P w K mg base CX0 1 (He.ga K "_law_number_by") T.fd__law_number_by ["_law_mark_here"] sp_nb := by
  refine T.F__law_number_by.ok sc__law_number_by (fun vs H Q E h => ?_) (fun cdv A outer s H vs Q E hr h => ?_)
  · obtain ⟨m, rfl, _⟩ := h
    rfl
  · obtain ⟨m, rfl, q⟩ := h
    refine ⟨_, PSs.nox (pss_cons (ps_set (i := 1) sc__law_number_by.nd rfl (Or.inl rfl) (pe_op op_fdivW (pv 0) pe_int))
        (pss_one (ps_ret (pe_ix ix_list (pe_lst (pa_cons (pe_op op_mod (pv 1) pe_int) (pa_cons pe_int (pa_cons pe_int (pa_cons (pe_op op_sub (pe_op op_mod (pv 1) pe_int) pe_int) (pa_cons (pe_op op_sub pe_int (pe_op op_mod (pv 1) pe_int)) (pa_cons (pe_op op_sub (pe_op op_mod (pv 1) pe_int) pe_int) pa_nil))))))) (pe_op op_mod (pv 0) pe_int) (fun _ _ => rfl))))), ?_⟩
    have big : ∀ n : Nat, n ≤ 10000 → n ≤ sizeLine := fun n h => by rw [sizeLine_eq]; omega
    obtain ⟨z, hz⟩ := at_ints2 (ns := [m / 8 % 10, 0, 1, m / 8 % 7 - 3, 2147483647 - m / 8 % 3, m / 8 % 3 - 2147483648]) (i := m % 6) (by omega) (by show m % 6 < 6; omega)
    refine ⟨_, rfl, _, _, rfl, rfl, cd (by decide) (by decide), ?_⟩
    refine ⟨_, rfl, _, _, rfl, rfl, (by show (0 : Int) < 10; decide), _, rfl, _, _, rfl, rfl, (by show (0 : Int) < 7; decide), _, _, rfl, rfl, _, rfl, _, _, rfl, rfl, (by show (0 : Int) < 3; decide), _, _, rfl, rfl, _, rfl, _, _, rfl, rfl, (by show (0 : Int) < 3; decide), _, _, rfl, rfl, big 6 (by decide), fun L nL => ?_⟩
    exact ⟨_, rfl, _, _, rfl, rfl, (by show (0 : Int) < 6; decide), L, _, _, _, rfl, rfl, .of upd_same, hz, q _ _ (same_new nL)⟩
def sp_rb (K : PySem.W.Frag) : Sp := fun vs H Q _ => ∃ (m : Int) (v : V) (x : Int) (ss : List (Int × Int)), vs = [.int m, v, .int x] ∧ ScL K H v ss ∧
  ∀ H' r (own : Bool) (row : List PyData) (sz : Int), Same H H' → Dp K H' r (.tuple [.tuple (.int (if own = true then x else -1) :: row), .int sz]) → (¬ hasN ss → own = true ∧ sz = 0) → nLs row = true → Q r H'
theorem ok__law_row_by (T : Top K mg) : FnOk P w K mg base CX0 2 (He.ga K "_law_row_by") T.fd__law_row_by ["_law_mark_here", "_law_scope", "_law_value"] (sp_rb K) := by
  have G__law_number_by := ok__law_number_by (P := P) (w := w) (base := base) T
  refine T.F__law_row_by.ok sc__law_row_by (fun vs H Q E h => ?_) (fun cdv A outer s H vs Q E hr h => ?_)
  · obtain ⟨m, v, x, ss, rfl, _⟩ := h
    rfl
  · obtain ⟨m, v, x, ss, rfl, hs, q⟩ := h
    refine ⟨_, PSs.nox (pss_cons (ps_setLc (i := 3) (own := [("_law_one", 6), ("_law_size", 10)]) (by rfl) sc__law_row_by.nd rfl rfl (sw_true rfl rfl rfl (by decide +kernel)) (pi_list (pv 1)) (blkOk_by (own := [("_law_one", 6), ("_law_size", 10)]) (N := N__law_row_by) (sc := defScope s__law_row_by) (by decide +kernel)) (fun _ _ _ _ _ => (pg_tupK (K := K) (n := 2) rfl (by rfl) (pgs_cons (pg_name (i := 6) sc__law_row_by.nd rfl (Or.inl rfl)) (pgs_cons (pg_name (i := 10) sc__law_row_by.nd rfl (Or.inl rfl)) pgs_nil)))) (fun _ _ _ _ _ => (pts_one (pt_cmpR op_eq (pv 10) pe_int (nomark _)))) (fun _ _ _ _ _ => (pv 6)))
        (pss_cons (ps_setLc (i := 4) (own := [("_law_pair", 11)]) (by rfl) sc__law_row_by.nd rfl rfl (sw_true rfl rfl rfl (by decide +kernel)) (pi_list (pv 1)) (blkOk_by (own := [("_law_pair", 11)]) (N := N__law_row_by) (sc := defScope s__law_row_by) (by decide +kernel)) (fun _ _ _ _ _ => (pg_name (i := 11) sc__law_row_by.nd rfl (Or.inl rfl))) (fun _ _ _ _ _ => (pts_one (pt_cmpR op_gt (pe_ix (ix_tupK (K := K) rfl) (pv 11) pe_int (fun _ _ => rfl)) pe_int (nomark _)))) (fun _ _ _ _ _ => (pv 11)))
        (pss_cons (ps_set (i := 5) sc__law_row_by.nd rfl (Or.inl rfl) (pe_op op_mod (pv 0) pe_int))
        (pss_cons (ps_set (i := 0) sc__law_row_by.nd rfl (Or.inl rfl) (pe_op op_fdivW (pv 0) pe_int))
        (pss_cons (ps_if (PW.pt (pw_or (pt_cmpR op_lt (pv 5) pe_int (nomark _)) (pw_or1 (pt_cmpR (op_eqE hr.units) (pv 3) (pe_lst pa_nil) (nomark _))))) (pss_one (ps_ret (pe_tup (pa_cons (pe_tup (pa_cons (pv 2) (pa_cons pe_str (pa_cons (pe_call G__law_number_by (hr.mono (by omega)) (by rfl) T.g__law_number_by T.F__law_number_by.kp T.b__law_number_by .nil pass0 (pa_cons (pv 0) pa_nil)) pa_nil)))) (pa_cons pe_int pa_nil))))) pss_nil)
        (pss_cons (ps_set (i := 6) sc__law_row_by.nd rfl (Or.inl rfl) (pe_ix ix_list (pv 3) (pe_op op_mod (pv 0) (pe_callB call_len_seq (by rfl) T.m_len (by decide +kernel) (pa_cons (pv 3) pa_nil))) (fun _ _ => rfl)))
        (pss_cons (ps_set (i := 7) sc__law_row_by.nd rfl (Or.inl rfl) (pe_ix ix_list (pv 3) (pe_op op_mod (pe_op op_fdivW (pv 0) pe_int) (pe_callB call_len_seq (by rfl) T.m_len (by decide +kernel) (pa_cons (pv 3) pa_nil))) (fun _ _ => rfl)))
        (pss_cons (ps_if (pt_cmpR op_lt (pv 5) pe_int (nomark _)) (pss_cons (ps_set (i := 8) sc__law_row_by.nd rfl (Or.inl rfl) (pe_ix ix_list (pe_lst (pa_cons pe_str (pa_cons pe_str (pa_cons pe_str (pa_cons pe_str (pa_cons pe_str (pa_cons pe_str (pa_cons pe_str (pa_cons pe_str (pa_cons pe_str pa_nil)))))))))) (pe_op op_mod (pe_op op_fdivW (pv 0) pe_int) pe_int) (fun _ _ => rfl)))
        (pss_one (ps_ret (pe_tup (pa_cons (pe_tup (pa_cons (pv 2) (pa_cons (pv 8) (pa_cons (pv 6) (pa_cons (pv 7) pa_nil))))) (pa_cons pe_int pa_nil)))))) pss_nil)
        (pss_cons (ps_if (pt_cmpR op_eq (pv 5) pe_int (nomark _)) (pss_one (ps_ret (pe_tup (pa_cons (pe_tup (pa_cons (pv 2) (pa_cons pe_str (pa_cons (pv 6) pa_nil)))) (pa_cons pe_int pa_nil))))) pss_nil)
        (pss_cons (ps_if (pt_cmpR op_eq (pv 5) pe_int (nomark _)) (pss_one (ps_ret (pe_tup (pa_cons (pe_tup (pa_cons (pe_un un_neg pe_int) (pa_cons pe_str (pa_cons (pv 6) pa_nil)))) (pa_cons pe_int pa_nil))))) pss_nil)
        (pss_cons (ps_if (PW.pt (pw_or (pt_cmpR op_eq (pv 5) pe_int (nomark _)) (pw_or1 (pt_cmpR (op_eqE hr.units) (pv 4) (pe_lst pa_nil) (nomark _))))) (pss_one (ps_ret (pe_tup (pa_cons (pe_tup (pa_cons (pv 2) (pa_cons pe_str (pa_cons (pe_op op_add pe_int (pe_op op_mod (pv 0) pe_int)) pa_nil)))) (pa_cons (pe_op op_add pe_int (pe_op op_mod (pv 0) pe_int)) pa_nil))))) pss_nil)
        (pss_cons (ps_asg (pe_ix ix_list (pv 4) (pe_op op_mod (pe_op op_fdivW (pv 0) pe_int) (pe_callB call_len_seq (by rfl) T.m_len (by decide +kernel) (pa_cons (pv 4) pa_nil))) (fun _ _ => rfl)) (pg_tup (n := 2) (by rfl) (pgs_cons (pg_name (i := 9) sc__law_row_by.nd rfl (Or.inl rfl)) (pgs_cons (pg_name (i := 10) sc__law_row_by.nd rfl (Or.inl rfl)) pgs_nil))))
        (pss_cons (ps_if (pt_cmpR op_eq (pv 5) pe_int (nomark _)) (pss_one (ps_ret (pe_tup (pa_cons (pe_tup (pa_cons (pv 2) (pa_cons pe_str (pa_cons (pv 9) (pa_cons (pv 6) pa_nil))))) (pa_cons pe_int pa_nil))))) pss_nil)
        (pss_one (ps_ret (pe_tup (pa_cons (pe_tup (pa_cons (pv 2) (pa_cons pe_str (pa_cons (pv 9) (pa_cons (pv 6) (pa_cons (pv 7) pa_nil)))))) (pa_cons (pv 10) pa_nil)))))))))))))))))), ?_⟩
    have big : ∀ n : Nat, n ≤ 10000 → n ≤ sizeLine := fun n h => by rw [sizeLine_eq]; omega
    obtain ⟨S, es, rfl, hS0, da, sl⟩ := hs
    have hS : SqL K H S es := .of hS0
    have le := dpAll_len da
    rw [List.length_map] at le
    have fin : ∀ (H' : Hp) (y0 : V) (own : Bool) (vs : List V) (row : List PyData) (sz : Int), Same H H' → y0 = .int (if own = true then x else -1) → DpAll K H' vs row → vs.length ≤ 10 → (¬ hasN ss → own = true ∧ sz = 0) → nLs row = true →
        (y0 :: vs).length ≤ sizeLine ∧ ∀ p, H' p = none → [V.ref p, .int sz].length ≤ sizeLine ∧ ∀ p2, upd H' p (.tup (y0 :: vs)) p2 = none → Q (.ref p2) (upd (upd H' p (.tup (y0 :: vs))) p2 (.tup [.ref p, .int sz])) := by
      intro H' y0 own vs row sz s' hy dv lv ho nl9
      refine ⟨by rw [List.length_cons, sizeLine_eq]; omega, fun p np => ⟨big 2 (by decide), fun p2 np2 => ?_⟩⟩
      have k1 := same_new (o := .tup (y0 :: vs)) np
      have k2 := same_new (o := .tup [.ref p, .int sz]) np2
      subst hy
      exact q _ _ own row sz ((s'.trans k1).trans k2) (.tup (.of upd_same) (.cons (dp_sm k2 (.tup (.of upd_same) (.cons (.int _) (dpAll_sm k1 dv)))) (.cons (.int _) .nil))) ho nl9
    refine ⟨_, rfl, S, rfl, ⟨_, hS⟩, fun LN nLN => ?_⟩
    refine lc_list (K := K) (a := S) (xs := es) (fun i H' => Same H H' ∧ H' LN = some (.lst ((nums (ss.take i)).map V.int))) ?_ ?_ ?_ ?_
    · exact ⟨same_new nLN, upd_same⟩
    · rintro i H' _ ⟨s', _⟩
      exact s'.seq hS
    · rintro i y H' hy ⟨s', e'⟩
      obtain ⟨a, b, qq, hab, rfl, hq⟩ := pr_at da hy
      refine ⟨qq, _, rfl, sqT_sm s' hq, rfl, _, _, rfl, _, _, rfl, rfl, rfl, ?_⟩
      refine ⟨_, rfl, rfl, _, rfl, ?_⟩
      have fe : nums (ss.take (i + 1)) = nums (ss.take i) ++ (if decide (b = 0) = true then [a] else []) := by
        unfold nums
        rw [filtS hab, List.map_append]
        by_cases hb : b = 0 <;> simp [hb]
      rw [fe]
      have nl : (nums (ss.take i)).length ≤ 1000 := by
        unfold nums
        rw [List.length_map]
        have h1 := List.length_filter_le (fun q : Int × Int => decide (q.2 = 0)) (ss.take i)
        rw [List.length_take] at h1
        omega
      by_cases hb : b = 0
      · refine ifD (by rw [hb]) ?_
        refine ⟨_, rfl, _, e', by rw [List.length_map, sizeLine_eq]; omega, same_upd s' nLN, ?_⟩
        rw [upd_same, if_pos (decide_eq_true hb), List.map_append]
        rfl
      · refine ifN (fun z => hb (V.int.inj z)) ⟨s', ?_⟩
        rw [e', if_neg (by rw [decide_eq_true_eq]; exact hb), List.append_nil]
    rintro H1 ⟨s1, e1⟩
    rw [le, List.take_length] at e1
    refine ⟨_, rfl, S, rfl, ⟨_, s1.seq hS⟩, fun LH nLH => ?_⟩
    refine lc_list (K := K) (a := S) (xs := es) (fun i H' => Same H1 H' ∧ ∃ (hv : List V) (hd : List (Int × Int)), H' LH = some (.lst hv) ∧ DpAll K H hv (hd.map prD) ∧ hd.length ≤ i) ?_ ?_ ?_ ?_
    · exact ⟨same_new nLH, [], [], upd_same, .nil, Nat.le_refl _⟩
    · rintro i H' _ ⟨s', _⟩
      exact (s1.trans s').seq hS
    · rintro i y H' hy ⟨s', hv, hd, e', d', l'⟩
      obtain ⟨a, b, qq, hab, rfl, hq⟩ := pr_at da hy
      have il := (List.getElem?_eq_some_iff.mp hy).1
      have lh := dpAll_len d'
      rw [List.length_map] at lh
      refine ⟨rfl, _, rfl, qq, _, 1, _, rfl, rfl, sqT_sm (s1.trans s') hq, atI_nat (j := 1) rfl, _, _, rfl, rfl, _, rfl, ite2 (fun _ => ?_) (fun _ => ⟨s', hv, hd, e', d', by omega⟩)⟩
      refine ⟨_, rfl, _, e', by rw [lh, sizeLine_eq]; omega, same_upd s' nLH, hv ++ [.ref qq], hd ++ [(a, b)], upd_same, ?_, by rw [List.length_append, List.length_singleton]; omega⟩
      rw [List.map_append]
      exact dpAll_app d' (.cons (.tup hq (.cons (.int _) (.cons (.int _) .nil))) .nil)
    rintro H2 ⟨s2, hv, hd, e2, d2, l2⟩
    have s02 := s1.trans s2
    have eN := s2 _ _ e1
    refine ⟨_, rfl, _, _, rfl, rfl, (by show (0 : Int) < 12; decide), ?_⟩
    refine ⟨_, rfl, _, _, rfl, rfl, cd (by decide) (by decide), ?_⟩
    dsimp only [gName]
    refine ifs_by (fun σ' H' => Same H H' ∧ H' LN = some (.lst ((nums ss).map V.int)) ∧ H' LH = some (.lst hv) ∧ hasN ss ∧ σ' = [some (.int (m / 12)), some (.ref S), some (.int x), some (.ref LN), some (.ref LH), some (.int (m % 12)), none, none, none, none, none, none]) ?_ ?_
    rotate_left
    · intro N hN
      have num : ∀ H', Same H H' → (tCall sp_nb [] E0 (tCons (tVar 0) tNil)) [some (.int (m / 12)), some (.ref S), some (.int x), some (.ref LN), some (.ref LH), some (.int (m % 12)), none, none, none, none, none, none] H' (fun z H2 => [V.int x, .str "number", z].length ≤ sizeLine ∧ ∀ p, H2 p = none → [V.ref p, .int 0].length ≤ sizeLine ∧ ∀ p2, upd H2 p (.tup [.int x, .str "number", z]) p2 = none → Q (.ref p2) (upd (upd H2 p (.tup [.int x, .str "number", z])) p2 (.tup [.ref p, .int 0]))) := by
        intro H' s'
        refine ⟨_, rfl, _, rfl, fun H3 i s3 => ?_⟩
        exact fin H3 (.int x) true [.str "number", .int i] [.str "number", .int i] 0 (s'.trans s3) rfl (.cons (.str _) (.cons (.int _) .nil)) (by simp) (fun _ => ⟨rfl, rfl⟩) (by simp [nLs, nLd])
      refine ⟨_, rfl, _, _, rfl, rfl, _, rfl, ite2 (fun _ => ?_) (fun _ => ?_)⟩
      · exact ⟨_, rfl, num _ s02⟩
      · refine ⟨_, rfl, eq_nil eN (ints_dp _) (ints_lay _) fun H3 s3 => ⟨_, rfl, ?_⟩⟩
        by_cases h : nums ss = []
        · refine ifD (by rw [h]; rfl) ?_
          exact ⟨_, rfl, num _ (s02.trans s3)⟩
        · refine ifN (fun z => h (List.map_eq_nil_iff.mp z)) (hN _ _ ⟨s02.trans s3, s3 _ _ eN, s3 _ _ e2, nums_has.mp h, rfl⟩)
    rintro σ' H3 ⟨s3, eN3, eH3, hn, rfl⟩
    have nn : nums ss ≠ [] := nums_has.mpr hn
    have nl : 0 < ((nums ss).map V.int).length := by
      rw [List.length_map]
      exact List.length_pos_iff.mpr nn
    have own : ∀ sz : Int, ¬ hasN ss → (true = true) ∧ sz = 0 := fun sz z => absurd hn z
    have own2 : ∀ (b : Bool) (sz : Int), ¬ hasN ss → b = true ∧ sz = 0 := fun b sz z => absurd hn z
    have pick : ∀ k : Int, ∃ z, atI ((nums ss).map V.int) (k % (((nums ss).map V.int).length : Nat)) = some (.int z) := fun k =>
      at_ints2 (Int.emod_nonneg _ (by omega)) (by rw [List.length_map]; rw [List.length_map] at nl; exact Int.emod_lt_of_pos _ (by omega))
    obtain ⟨o1, ho1⟩ := pick (m / 12)
    obtain ⟨o2, ho2⟩ := pick (m / 12 / 64)
    refine ⟨_, rfl, _, rfl, _, rfl, LN, _, rfl, .inl (.of eN3), _, _, rfl, rfl, (by show (0 : Int) < (((nums ss).map V.int).length : Nat); omega), LN, _, _, _, rfl, rfl, .of eN3, ho1, ?_⟩
    refine ⟨_, rfl, _, rfl, _, _, rfl, rfl, cd (by decide) (by decide), _, rfl, LN, _, rfl, .inl (.of eN3), _, _, rfl, rfl, (by show (0 : Int) < (((nums ss).map V.int).length : Nat); omega), LN, _, _, _, rfl, rfl, .of eN3, ho2, ?_⟩
    refine ⟨_, rfl, _, _, rfl, rfl, _, rfl, ite2 (fun _ => ?_) (fun _ => ?_)⟩
    · obtain ⟨z, hz, ez⟩ := strs_at (zs := ["add", "sub", "mul", "less", "same", "div", "rem", "add", "mul"]) (i := m / 12 / 4096 % 9) (by omega) (by show m / 12 / 4096 % 9 < 9; omega)
      refine ⟨big 9 (by decide), fun L nL => ?_⟩
      refine ⟨_, rfl, _, _, rfl, rfl, cd (by decide) (by decide), _, _, rfl, rfl, (by show (0 : Int) < 9; decide), L, _, _, _, rfl, rfl, .of upd_same, ez, ?_⟩
      exact ⟨_, rfl, _, rfl, _, rfl, _, rfl, fin _ (.int x) true [.str z, .int o1, .int o2] [.str z, .int o1, .int o2] 0 (s3.trans (same_new nL)) rfl (.cons (.str _) (.cons (.int _) (.cons (.int _) .nil))) (by simp) (own 0) (by simp [nLs, nLd])⟩
    refine ⟨_, rfl, rfl, _, rfl, ite2 (fun _ => ?_) (fun _ => ?_)⟩
    · exact ⟨_, rfl, _, rfl, fin _ (.int x) true [.str "not", .int o1] [.str "not", .int o1] 0 s3 rfl (.cons (.str _) (.cons (.int _) .nil)) (by simp) (own 0) (by simp [nLs, nLd])⟩
    refine ⟨_, rfl, rfl, _, rfl, ite2 (fun _ => ?_) (fun _ => ?_)⟩
    · exact ⟨_, rfl, _, rfl, fin _ (.int (-1)) false [.str "tell", .int o1] [.str "tell", .int o1] 0 s3 rfl (.cons (.str _) (.cons (.int _) .nil)) (by simp) (own2 false 0) (by simp [nLs, nLd])⟩
    have d3 := dpAll_sm s3 d2
    dsimp only [gName, tNext]
    refine ifs_by (fun σ' H' => Same H H' ∧ H' LH = some (.lst hv) ∧ hd ≠ [] ∧ σ' = [some (.int (m / 12)), some (.ref S), some (.int x), some (.ref LN), some (.ref LH), some (.int (m % 12)), some (.int o1), some (.int o2), none, none, none, none]) ?_ ?_
    rotate_left
    · intro N hN
      refine ⟨_, rfl, rfl, _, rfl, ite2 (fun _ => ?_) (fun _ => ?_)⟩
      · refine ⟨_, rfl, _, rfl, _, _, rfl, rfl, (by show (0 : Int) < 8; decide), _, _, rfl, rfl, ?_⟩
        obtain ⟨fa, ff⟩ := fin H3 (.int x) true [.str "fresh", .int (1 + m / 12 % 8)] [.str "fresh", .int (1 + m / 12 % 8)] (1 + m / 12 % 8) s3 rfl (.cons (.str _) (.cons (.int _) .nil)) (by simp) (own _) (by simp [nLs, nLd])
        exact ⟨fa, fun p np => ⟨_, rfl, _, _, rfl, rfl, (by show (0 : Int) < 8; decide), _, _, rfl, rfl, ff p np⟩⟩
      · refine ⟨_, rfl, eq_nil eH3 d3 (prs_lay _) fun H4 s4 => ⟨_, rfl, ?_⟩⟩
        by_cases h : hd = []
        · refine ifD (by rw [h]; rfl) ?_
          refine ⟨_, rfl, _, rfl, _, _, rfl, rfl, (by show (0 : Int) < 8; decide), _, _, rfl, rfl, ?_⟩
          obtain ⟨fa, ff⟩ := fin H4 (.int x) true [.str "fresh", .int (1 + m / 12 % 8)] [.str "fresh", .int (1 + m / 12 % 8)] (1 + m / 12 % 8) (s3.trans s4) rfl (.cons (.str _) (.cons (.int _) .nil)) (by simp) (own _) (by simp [nLs, nLd])
          exact ⟨fa, fun p np => ⟨_, rfl, _, _, rfl, rfl, (by show (0 : Int) < 8; decide), _, _, rfl, rfl, ff p np⟩⟩
        · exact ifN (fun z => h (List.map_eq_nil_iff.mp z)) (hN _ _ ⟨s3.trans s4, s4 _ _ eH3, h, rfl⟩)
    rintro σ' H4 ⟨s4, eH4, hh, rfl⟩
    have d4 := dpAll_sm s4 d2
    have hl : 0 < hv.length := by
      rw [dpAll_len d4, List.length_map]
      exact List.length_pos_iff.mpr hh
    obtain ⟨y, hy, ey⟩ := at_list (ns := hv) (i := m / 12 / 4096 % (hv.length : Nat)) (Int.emod_nonneg _ (by omega)) (Int.emod_lt_of_pos _ (by omega))
    obtain ⟨j, hj⟩ := List.mem_iff_getElem?.mp hy
    obtain ⟨a, b, qq, hab, rfl, hq⟩ := pr_at d4 hj
    refine ⟨_, rfl, _, rfl, _, _, rfl, rfl, cd (by decide) (by decide), _, rfl, LH, _, rfl, .inl (.of eH4), _, _, rfl, rfl, (by show (0 : Int) < (hv.length : Nat); omega), LH, _, _, _, rfl, rfl, .of eH4, ey, qq, _, rfl, hq, rfl, _, _, rfl, _, _, rfl, rfl, ?_⟩
    refine ⟨_, rfl, rfl, _, rfl, ite2 (fun _ => ?_) (fun _ => ?_)⟩
    · exact ⟨_, rfl, _, rfl, _, rfl, fin _ (.int x) true [.str "get", .int a, .int o1] [.str "get", .int a, .int o1] 0 s4 rfl (.cons (.str _) (.cons (.int _) (.cons (.int _) .nil))) (by simp) (own 0) (by simp [nLs, nLd])⟩
    · refine ⟨_, rfl, _, rfl, _, rfl, _, rfl, ?_⟩
      obtain ⟨fa, ff⟩ := fin H4 (.int x) true [.str "put", .int a, .int o1, .int o2] [.str "put", .int a, .int o1, .int o2] b s4 rfl (.cons (.str _) (.cons (.int _) (.cons (.int _) (.cons (.int _) .nil)))) (by simp) (own _) (by simp [nLs, nLd])
      exact ⟨fa, fun p np => ⟨_, rfl, ff p np⟩⟩
end

section
variable {P : Program} {w : World} {K : PySem.W.Frag} {mg : Str → Option Value} {base : Heap}
theorem prs_nl : ∀ l : List (Int × Int), nLs (l.map prD) = true
  | [] => by simp [nLs]
  | a :: r => by
    rw [List.map_cons, nLs, prs_nl r]
    simp [prD, nLd, nLs]
theorem nLs_app : ∀ {a b : List PyData}, nLs a = true → nLs b = true → nLs (a ++ b) = true
  | [], b, _, h => h
  | x :: a, b, h1, h2 => by
    rw [nLs, Bool.and_eq_true] at h1
    rw [List.cons_append, nLs, h1.1, nLs_app h1.2 h2]
    rfl
def sp_rows (K : PySem.W.Frag) : Sp := fun vs H Q _ => ∃ (a : Addr) (ns : List Int) (at_ : Int) (many : Nat) (v : V) (x : Int) (ss : List (Int × Int)), vs = [.ref a, .int at_, .int (many : Int), v, .int x] ∧ Scp K H a ns ∧ 0 ≤ at_ ∧ at_ + many < 2 ^ 20 ∧ ScL K H v ss ∧ ss.length + many ≤ 1000 ∧ 0 ≤ x ∧
  ∀ H' pr vr LS rd ss' x', Same H H' → SqT K H' pr [vr, .ref LS, .int x'] → Dp K H' vr (.tuple rd) → nLs rd = true → ScL K H' (.ref LS) ss' → H LS = none → rd.length = many → ss'.length ≤ ss.length + many → (hasN ss ∨ 1 ≤ many → hasN ss') → x ≤ x' → Q (.ref pr) H'
theorem ok__law_rows_by (T : Top K mg) : FnOk P w K mg base CX0 3 (He.ga K "_law_rows_by") T.fd__law_rows_by ["_law_script", "_law_at", "_law_many", "_law_scope", "_law_value"] (sp_rows K) := by
  have G__law_mark := ok__law_mark (P := P) (w := w) (base := base) T
  have G__law_row_by := ok__law_row_by (P := P) (w := w) (base := base) T
  refine T.F__law_rows_by.ok sc__law_rows_by (fun vs H Q E h => ?_) (fun cdv A outer s H vs Q E hr h => ?_)
  · obtain ⟨a, ns, at_, many, v, x, ss, rfl, _⟩ := h
    rfl
  · obtain ⟨a, ns, at_, many, v, x, ss, rfl, sc, a0, a1, hs, sl, x0, q⟩ := h
    refine ⟨_, PSs.nox (pss_cons (ps_set (i := 5) sc__law_rows_by.nd rfl (Or.inl rfl) (pe_lst pa_nil))
        (pss_cons (ps_set (i := 3) sc__law_rows_by.nd rfl (Or.inl rfl) (pe_callTy call_list_of (by rfl) T.m_list (by decide +kernel) (pa_cons (pv 3) pa_nil)))
        (pss_cons (ps_for PassesOwn.never (by rfl) (pi_range1 (by rfl) T.m_range (pa_cons (pv 2) pa_nil)) (pg_name (i := 6) sc__law_rows_by.nd rfl (Or.inl rfl)) (pss_cons (ps_asg (pe_call G__law_row_by (hr.mono (by omega)) (by rfl) T.g__law_row_by T.F__law_row_by.kp T.b__law_row_by .nil pass0 (pa_cons (pe_call G__law_mark (hr.mono (by omega)) (by rfl) T.g__law_mark T.F__law_mark.kp T.b__law_mark .nil pass0 (pa_cons (pv 0) (pa_cons (pe_op op_add (pv 1) (pv 6)) pa_nil))) (pa_cons (pv 3) (pa_cons (pv 4) pa_nil)))) (pg_tup (n := 2) (by rfl) (pgs_cons (pg_name (i := 7) sc__law_rows_by.nd rfl (Or.inl rfl)) (pgs_cons (pg_name (i := 8) sc__law_rows_by.nd rfl (Or.inl rfl)) pgs_nil))))
        (pss_cons (ps_expr (pe_bm PySem.F.plainAttrs_list PySem.F.slot_list_append PySem.F.type_list_append mt_append (pv 5) (pa_cons (pv 7) pa_nil)))
        (pss_one (ps_if (pt_cmpR op_ge (pe_ix ix_tup (pv 7) pe_int (fun _ _ => rfl)) pe_int (nomark _)) (pss_cons (ps_expr (pe_bm PySem.F.plainAttrs_list PySem.F.slot_list_append PySem.F.type_list_append mt_append (pv 3) (pa_cons (pe_tup (pa_cons (pv 4) (pa_cons (pv 8) pa_nil))) pa_nil)))
        (pss_one (ps_set (i := 4) sc__law_rows_by.nd rfl (Or.inl rfl) (pe_op op_add (pv 4) pe_int)))) pss_nil)))))
        (pss_one (ps_ret (pe_tup (pa_cons (pe_callTy call_tuple_of (by rfl) T.m_tuple (by decide +kernel) (pa_cons (pv 5) pa_nil)) (pa_cons (pv 3) (pa_cons (pv 4) pa_nil))))))))), ?_⟩
    have big : ∀ n : Nat, n ≤ 10000 → n ≤ sizeLine := fun n h => by rw [sizeLine_eq]; omega
    obtain ⟨S, es, rfl, hS0, da, _⟩ := hs
    have hS : SqL K H S es := .of hS0
    refine ⟨Nat.zero_le _, fun LR nLR => ?_⟩
    have k1 := same_new (o := .lst []) nLR
    refine ⟨_, rfl, S, _, rfl, .inl (k1.seq hS), fun LS nLS => ?_⟩
    have k2 := same_new (o := .lst es) nLS
    have nLS0 : H LS = none := k1.free nLS
    have RS : LR ≠ LS := ne_of_none (show upd H LR (.lst []) LR = some (.lst []) from upd_same) nLS
    refine ⟨_, rfl, _, rfl, by omega, by omega, ?_⟩
    refine for_range (lo := 0) (n := ((many : Nat) : Int).toNat) (fun j σ' H' => ∃ (rv : List V) (rd : List PyData) (ev : List V) (s' : List (Int × Int)) (x' : Int) (x6 x7 x8 : Option V), Same H H' ∧ H' LR = some (.lst rv) ∧ H' LS = some (.lst ev) ∧ DpAll K H' rv rd ∧ nLs rd = true ∧ DpAll K H' ev (s'.map prD) ∧ rd.length = j ∧ s'.length ≤ ss.length + j ∧ (hasN ss ∨ 1 ≤ j → hasN s') ∧ x ≤ x' ∧
        σ' = [some (.ref a), some (.int at_), some (.int (many : Int)), some (.ref LS), some (.int x'), some (.ref LR), x6, x7, x8]) ?_ ?_ ?_
    · exact ⟨[], [], es, ss, x, none, none, none, k1.trans k2, k2 _ _ upd_same, upd_same, .nil, rfl, dpAll_sm (k1.trans k2) da, rfl, Nat.le_refl _, fun h => h.elim id (fun z => absurd z (by decide)), Int.le_refl _, rfl⟩
    · rintro j σ' H1 hj ⟨rv, rd, ev, s', x', x6, x7, x8, s1, eR, eS, dR, nR, dS, lR, lS, hN, xx, rfl⟩
      have jl : j < many := by omega
      have evl := dpAll_len dS
      rw [List.length_map] at evl
      have rvl := dpAll_len dR
      refine ⟨_, rfl, _, rfl, _, rfl, _, _, rfl, rfl, a, ns, _, rfl, (sc.sm s1).1, (sc.sm s1).2.1, (sc.sm s1).2.2, by omega, by omega, fun m m0 m1 => ?_⟩
      refine ⟨_, rfl, _, rfl, m, .ref LS, x', s', rfl, ⟨LS, ev, rfl, eS, dS, by omega⟩, fun H2 r own row sz s2 d2 ho nl2 => ?_⟩
      obtain ⟨pr, ys, rfl, hpr, dy⟩ := dp_tup d2
      obtain ⟨y0, r0, rfl, e0, f0⟩ := dpAll_cons dy
      obtain ⟨y1, r1, rfl, e1, f1⟩ := dpAll_cons f0
      cases dpAll_nil f1
      cases dp_int e1
      refine ⟨pr, _, rfl, hpr, rfl, _, _, rfl, _, _, rfl, rfl, ?_⟩
      have eR2 := s2 _ _ eR
      refine ⟨_, rfl, .inl ⟨rfl, _, .of eR2⟩, _, rfl, LR, _, _, rfl, rfl, eR2, by rw [rvl, sizeLine_eq]; omega, ?_⟩
      have kR : Kp (fun b => b = LR) H2 (upd H2 LR (.lst (rv ++ [y0]))) := Kp.upd eR2 trivial rfl
      have s3 : Same H (upd H2 LR (.lst (rv ++ [y0]))) := same_upd (s1.trans s2) nLR
      have e3 : upd H2 LR (.lst (rv ++ [y0])) LR = some (.lst (rv ++ [y0])) := upd_same
      have eS3 : upd H2 LR (.lst (rv ++ [y0])) LS = some (.lst ev) := by
        rw [upd_ne RS.symm]
        exact s2 _ _ eS
      have nrow : nLd (.tuple (.int (if own = true then x' else -1) :: row)) = true := by simp [nLd, nLs, nl2]
      have dR3 : DpAll K (upd H2 LR (.lst (rv ++ [y0]))) (rv ++ [y0]) (rd ++ [.tuple (.int (if own = true then x' else -1) :: row)]) := dpAll_app (dpAll_kp kR _ _ nR (dpAll_sm s2 dR)) (.cons (dp_kp kR _ _ nrow e0) .nil)
      have dS3 : DpAll K (upd H2 LR (.lst (rv ++ [y0]))) ev (s'.map prD) := dpAll_kp kR _ _ (prs_nl _) (dpAll_sm s2 dS)
      have nR3 : nLs (rd ++ [.tuple (.int (if own = true then x' else -1) :: row)]) = true := nLs_app nR (by rw [nLs, nrow]; simp [nLs])
      have dy3 := dp_kp kR _ _ nrow e0
      generalize upd H2 LR (.lst (rv ++ [y0])) = H3 at s3 e3 eS3 dR3 dS3 dy3
      obtain ⟨p0, zs, rfl, hp0, dz⟩ := dp_tup dy3
      obtain ⟨z0, t0, rfl, g0, _⟩ := dpAll_cons dz
      cases dp_int g0
      refine ⟨_, rfl, p0, _, 0, _, rfl, rfl, hp0, atI_nat (j := 0) rfl, _, _, rfl, rfl, _, rfl, ?_⟩
      cases own with
      | true =>
        refine ifD (by show (0 : Int) ≤ x'; omega) ?_
        refine ⟨_, rfl, .inl ⟨rfl, _, .of eS3⟩, _, rfl, _, rfl, big 2 (by decide), fun pp npp => ?_⟩
        have k4 := same_new (o := .tup [.int x', .int sz]) npp
        have eS4 := k4 _ _ eS3
        refine ⟨LS, _, _, rfl, rfl, eS4, by rw [evl, sizeLine_eq]; omega, ?_⟩
        have kS : Kp (fun b => b = LS) (upd H3 pp (.tup [.int x', .int sz])) (upd (upd H3 pp (.tup [.int x', .int sz])) LS (.lst (ev ++ [.ref pp]))) := Kp.upd eS4 trivial rfl
        refine ⟨_, rfl, _, _, rfl, rfl, rv ++ [.ref p0], _, ev ++ [.ref pp], s' ++ [(x', sz)], x' + 1, _, _, _, same_upd (s3.trans k4) nLS0, ?_, upd_same, dpAll_kp kS _ _ nR3 (dpAll_sm k4 dR3), nR3, ?_, ?_, ?_, ?_, by omega, rfl⟩
        · rw [upd_ne RS]
          exact k4 _ _ e3
        · rw [List.map_append]
          refine dpAll_app (dpAll_kp kS _ _ (prs_nl _) (dpAll_sm k4 dS3)) (.cons (dp_kp kS _ _ (by simp [prD, nLd, nLs]) (.tup (.of upd_same) (.cons (.int _) (.cons (.int _) .nil)))) .nil)
        · rw [List.length_append, lR, List.length_singleton]
        · rw [List.length_append, List.length_singleton]
          omega
        · intro _
          by_cases h : hasN s'
          · obtain ⟨z, hz, hz2⟩ := h
            exact ⟨z, List.mem_append_left _ hz, hz2⟩
          · exact ⟨(x', sz), by simp, (ho h).2⟩
      | false =>
        refine ifN (by show ¬ (0 : Int) ≤ -1; omega) ?_
        refine ⟨_, _, ev, s', x', _, _, _, s3, e3, eS3, dR3, nR3, dS3, ?_, by omega, ?_, xx, rfl⟩
        · rw [List.length_append, lR, List.length_singleton]
        · intro _
          refine Classical.byContradiction fun h => ?_
          exact absurd (ho h).1 (by decide)
    · rintro σ' H1 ⟨rv, rd, ev, s', x', x6, x7, x8, s1, eR, eS, dR, nR, dS, lR, lS, hN, xx, rfl⟩
      rw [Int.toNat_natCast] at lR lS hN
      refine ⟨_, rfl, LR, _, rfl, .inl ⟨.of eR, fun l nl => ?_⟩⟩
      have k3 := same_new (o := .tup rv) nl
      refine ⟨_, rfl, _, rfl, big 3 (by decide), fun p np => ?_⟩
      have k4 := same_new (o := .tup [.ref l, .ref LS, .int x']) np
      exact q _ p (.ref l) LS rd s' x' ((s1.trans k3).trans k4) (.of upd_same) (dp_sm k4 (.tup (.of upd_same) (dpAll_sm k3 dR))) nR ⟨LS, ev, rfl, k4 _ _ (k3 _ _ eS), dpAll_sm (k3.trans k4) dS, by omega⟩ nLS0 lR lS hN xx
def sp_last (K : PySem.W.Frag) : Sp := fun vs H Q _ => ∃ (v : V) (m : Int) (ss : List (Int × Int)), vs = [v, .int m] ∧ ScL K H v ss ∧ hasN ss ∧ ∀ H' i, Same H H' → Q (.int i) H'
theorem ok__law_last (T : Top K mg) : FnOk P w K mg base CX0 1 (He.ga K "_law_last") T.fd__law_last ["_law_scope", "_law_mark_here"] (sp_last K) := by
  refine T.F__law_last.ok sc__law_last (fun vs H Q E h => ?_) (fun cdv A outer s H vs Q E hr h => ?_)
  · obtain ⟨v, m, ss, rfl, _⟩ := h
    rfl
  · obtain ⟨v, m, ss, rfl, hs, hn, q⟩ := h
    refine ⟨_, PSs.nox (pss_cons (ps_setLc (i := 2) (own := [("_law_one", 3), ("_law_size", 4)]) (by rfl) sc__law_last.nd rfl rfl (sw_true rfl rfl rfl (by decide +kernel)) (pi_list (pv 0)) (blkOk_by (own := [("_law_one", 3), ("_law_size", 4)]) (N := N__law_last) (sc := defScope s__law_last) (by decide +kernel)) (fun _ _ _ _ _ => (pg_tupK (K := K) (n := 2) rfl (by rfl) (pgs_cons (pg_name (i := 3) sc__law_last.nd rfl (Or.inl rfl)) (pgs_cons (pg_name (i := 4) sc__law_last.nd rfl (Or.inl rfl)) pgs_nil)))) (fun _ _ _ _ _ => (pts_one (pt_cmpR op_eq (pv 4) pe_int (nomark _)))) (fun _ _ _ _ _ => (pv 3)))
        (pss_one (ps_ret (pe_ix ix_list (pv 2) (pe_op op_sub (pe_op op_sub (pe_callB call_len_seq (by rfl) T.m_len (by decide +kernel) (pa_cons (pv 2) pa_nil)) pe_int) (pe_op op_mod (pv 1) (pe_callB (call_min2 rfl) (by rfl) T.m_min (by decide +kernel) (pa_cons pe_int (pa_cons (pe_callB call_len_seq (by rfl) T.m_len (by decide +kernel) (pa_cons (pv 2) pa_nil)) pa_nil))))) (fun _ _ => rfl))))), ?_⟩
    obtain ⟨S, es, rfl, hS0, da, sl⟩ := hs
    have hS : SqL K H S es := .of hS0
    have le := dpAll_len da
    rw [List.length_map] at le
    refine ⟨_, rfl, S, rfl, ⟨_, hS⟩, fun LN nLN => ?_⟩
    refine lc_list (K := K) (a := S) (xs := es) (fun i H' => Same H H' ∧ H' LN = some (.lst ((nums (ss.take i)).map V.int))) ?_ ?_ ?_ ?_
    · exact ⟨same_new nLN, upd_same⟩
    · rintro i H' _ ⟨s', _⟩
      exact s'.seq hS
    · rintro i y H' hy ⟨s', e'⟩
      obtain ⟨a, b, qq, hab, rfl, hq⟩ := pr_at da hy
      refine ⟨qq, _, rfl, sqT_sm s' hq, rfl, _, _, rfl, _, _, rfl, rfl, rfl, ?_⟩
      refine ⟨_, rfl, rfl, _, rfl, ?_⟩
      have fe : nums (ss.take (i + 1)) = nums (ss.take i) ++ (if decide (b = 0) = true then [a] else []) := by
        unfold nums
        rw [filtS hab, List.map_append]
        by_cases hb : b = 0 <;> simp [hb]
      rw [fe]
      have nl : (nums (ss.take i)).length ≤ 1000 := by
        unfold nums
        rw [List.length_map]
        have h1 := List.length_filter_le (fun q : Int × Int => decide (q.2 = 0)) (ss.take i)
        rw [List.length_take] at h1
        omega
      by_cases hb : b = 0
      · refine ifD (by rw [hb]) ?_
        refine ⟨_, rfl, _, e', by rw [List.length_map, sizeLine_eq]; omega, same_upd s' nLN, ?_⟩
        rw [upd_same, if_pos (decide_eq_true hb), List.map_append]
        rfl
      · refine ifN (fun z => hb (V.int.inj z)) ⟨s', ?_⟩
        rw [e', if_neg (by rw [decide_eq_true_eq]; exact hb), List.append_nil]
    rintro H1 ⟨s1, e1⟩
    rw [le, List.take_length] at e1
    have nl : 0 < (nums ss).length := List.length_pos_iff.mpr (nums_has.mpr hn)
    have mn : 0 < (if ((((nums ss).map V.int).length : Nat) : Int) < 3 then ((((nums ss).map V.int).length : Nat) : Int) else 3) ∧ (if ((((nums ss).map V.int).length : Nat) : Int) < 3 then ((((nums ss).map V.int).length : Nat) : Int) else 3) ≤ ((nums ss).length : Int) := by
      rw [List.length_map]
      split <;> omega
    have r0 := Int.emod_nonneg m (show (if ((((nums ss).map V.int).length : Nat) : Int) < 3 then ((((nums ss).map V.int).length : Nat) : Int) else 3) ≠ 0 by omega)
    have r1 := Int.emod_lt_of_pos m mn.1
    obtain ⟨z, hz⟩ := at_ints2 (ns := nums ss) (i := ((((nums ss).map V.int).length : Nat) : Int) - 1 - m % (if ((((nums ss).map V.int).length : Nat) : Int) < 3 then ((((nums ss).map V.int).length : Nat) : Int) else 3)) (by rw [List.length_map] at *; omega) (by rw [List.length_map] at *; omega)
    refine ⟨_, rfl, _, rfl, LN, _, rfl, .inl (.of e1), _, _, rfl, rfl, _, rfl, _, rfl, LN, _, rfl, .inl (.of e1), _, _, rfl, _, _, rfl, rfl, mn.1, _, _, rfl, rfl, LN, _, _, _, rfl, rfl, .of e1, hz, q _ _ s1⟩
def sp_end (K : PySem.W.Frag) : Sp := fun vs H Q _ => ∃ (m : Int) (v : V) (ss : List (Int × Int)), vs = [.int m, v] ∧ ScL K H v ss ∧ hasN ss ∧ ∀ H' r (e : En), Same H H' → Dp K H' r e.d → e.ts = [] → e.small = true → Q r H'
theorem ok__law_end_by (T : Top K mg) : FnOk P w K mg base CX0 2 (He.ga K "_law_end_by") T.fd__law_end_by ["_law_mark_here", "_law_scope"] (sp_end K) := by
  have G__law_last := ok__law_last (P := P) (w := w) (base := base) T
  refine T.F__law_end_by.ok sc__law_end_by (fun vs H Q E h => ?_) (fun cdv A outer s H vs Q E hr h => ?_)
  · obtain ⟨m, v, ss, rfl, _⟩ := h
    rfl
  · obtain ⟨m, v, ss, rfl, hs, hn, q⟩ := h
    refine ⟨_, PSs.nox (pss_cons (ps_if (pt_cmpR op_eq (pe_op op_mod (pv 0) pe_int) pe_int (nomark _)) (pss_one (ps_ret (pe_tup (pa_cons pe_str (pa_cons (pe_op op_mod (pe_op op_fdivW (pv 0) pe_int) pe_int) pa_nil))))) pss_nil)
        (pss_one (ps_ret (pe_tup (pa_cons pe_str (pa_cons (pe_call G__law_last (hr.mono (by omega)) (by rfl) T.g__law_last T.F__law_last.kp T.b__law_last .nil pass0 (pa_cons (pv 1) (pa_cons (pe_op op_fdivW (pv 0) pe_int) pa_nil))) pa_nil)))))), ?_⟩
    have big : ∀ n : Nat, n ≤ 10000 → n ≤ sizeLine := fun n h => by rw [sizeLine_eq]; omega
    refine ⟨_, rfl, _, _, rfl, rfl, (by show (0 : Int) < 9; decide), rfl, _, rfl, ite2 (fun _ => ?_) (fun _ => ?_)⟩
    · exact ⟨_, rfl, _, _, rfl, rfl, cd (by decide) (by decide), _, _, rfl, rfl, (by show (0 : Int) < 100; decide), big 2 (by decide), fun p np => q _ _ (.fail (m / 9 % 100)) (same_new np) (.tup (.of upd_same) (.cons (.str _) (.cons (.int _) .nil))) rfl rfl⟩
    · refine ⟨_, rfl, _, rfl, _, _, rfl, rfl, cd (by decide) (by decide), v, _, ss, rfl, hs, hn, fun H1 i s1 => ?_⟩
      exact ⟨big 2 (by decide), fun p np => q _ _ (.give i) (s1.trans (same_new np)) (.tup (.of upd_same) (.cons (.str _) (.cons (.int _) .nil))) rfl rfl⟩
end

section
variable {P : Program} {w : World} {K : PySem.W.Frag} {mg : Str → Option Value} {base : Heap}
/-- what an expression makes, as data -/
def Mk (K : PySem.W.Frag) (H0 : Hp) (σ : L2.St) (R : PyData → Prop) (t : TE) : Prop := ∀ (H : Hp) (Q : VK), Same H0 H → (∀ H' x d, Same H H' → Dp K H' x d → R d → Q x H') → t σ H Q
def Mks (K : PySem.W.Frag) (H0 : Hp) (σ : L2.St) (k : Nat) (R : List PyData → Prop) (t : TA) : Prop := ∀ (H : Hp) (Q : List V → Hp → Prop), Same H0 H → (∀ H' xs ds, Same H H' → DpAll K H' xs ds → R ds → xs.length = k → Q xs H') → t σ H Q
section
variable {H0 : Hp} {σ : L2.St}
theorem mks_nil : Mks K H0 σ 0 (fun ds => ds = []) tNil := fun H Q _ q => q H [] [] (Same.refl _) .nil rfl rfl
theorem mks_cons {k : Nat} {R : PyData → Prop} {Rs : List PyData → Prop} {t : TE} {u : TA} (h : Mk K H0 σ R t) (r : Mks K H0 σ k Rs u) : Mks K H0 σ (k + 1) (fun ds => ∃ d r, ds = d :: r ∧ R d ∧ Rs r) (tCons t u) := fun H Q s q =>
  h H _ s fun H1 x d s1 d1 g1 => r H1 _ (s.trans s1) fun H2 xs ds s2 d2 g2 l2 => q H2 (x :: xs) (d :: ds) (s1.trans s2) (.cons (dp_sm s2 d1) d2) ⟨d, ds, rfl, g1, g2⟩ (by rw [List.length_cons, l2])
theorem mk_tup {k : Nat} {Rs : List PyData → Prop} {u : TA} (r : Mks K H0 σ k Rs u) (hk : k ≤ 1000 := by decide) : Mk K H0 σ (fun d => ∃ ds, d = .tuple ds ∧ Rs ds) (tTup u) := fun H Q s q =>
  r H _ s fun H1 xs ds s1 d1 g1 l1 => ⟨by rw [l1, sizeLine_eq]; omega, fun p np => q _ _ (.tuple ds) (s1.trans (same_new np)) (.tup (.of upd_same) (dpAll_sm (same_new np) d1)) ⟨ds, rfl, g1⟩⟩
theorem mk_int {i : Int} : Mk K H0 σ (fun d => d = .int i) (tC (.int i)) := fun H Q _ q => q H _ _ (Same.refl _) (.int i) rfl
theorem mk_str {z : Str} : Mk K H0 σ (fun d => d = .str z) (tC (.str z)) := fun H Q _ q => q H _ _ (Same.refl _) (.str z) rfl
theorem mk_var {i : Nat} {v : V} {d : PyData} (h : σ[i]? = some (some v)) (dp : Dp K H0 v d) : Mk K H0 σ (fun e => e = d) (tVar i) := fun H Q s q => ⟨v, h, q H _ _ (Same.refl _) (dp_sm s dp) rfl⟩
theorem mk_add {i : Nat} {z c : Int} (h : σ[i]? = some (some (.int z))) : Mk K H0 σ (fun e => ∃ j, e = .int j) (tOp (rI0 fun i j => .int (i + j)) (tVar i) (tC (.int c))) := fun H Q s q => ⟨_, h, _, _, rfl, rfl, q H _ _ (Same.refl _) (.int _) ⟨_, rfl⟩⟩
theorem mk_of {R R' : PyData → Prop} {t : TE} (h : Mk K H0 σ R t) (i : ∀ d, R d → R' d) : Mk K H0 σ R' t := fun H Q s q => h H Q s fun H' x d s' d' r => q H' x d s' d' (i d r)
/-- tuple(e), e a scope -/
theorem mk_tuple {i : Nat} {v : V} {ss : List (Int × Int)} (h : σ[i]? = some (some v)) (hs : ScL K H0 v ss) : Mk K H0 σ (fun e => e = .tuple (ss.map prD)) (tCB (fun xs H Q => ∃ p ys, xs = [.ref p] ∧ ((SqL K H p ys ∧ ∀ l, H l = none → Q (.ref l) (upd H l (.tup ys))) ∨ (SqT K H p ys ∧ Q (.ref p) H))) (tCons (tVar i) tNil)) := fun H Q s q => by
  obtain ⟨S, es, rfl, h1, h2, _⟩ := hs
  exact ⟨_, h, S, es, rfl, .inl ⟨.of (s _ _ h1), fun l nl => q _ _ (.tuple (ss.map prD)) (same_new nl) (.tup (.of upd_same) (dpAll_sm (s.trans (same_new nl)) h2)) rfl⟩⟩
/-- _law_last(scope, mark // c) -/
theorem mk_last {i j : Nat} {v : V} {m c : Int} {ss : List (Int × Int)} (h : σ[i]? = some (some v)) (hs : ScL K H0 v ss) (hn : hasN ss) (hm : σ[j]? = some (some (.int m))) (c0 : 0 < c := by decide) (c1 : c < 2 ^ 64 := by decide) :
    Mk K H0 σ (fun e => ∃ i, e = .int i) (tCall (sp_last K) [] E0 (tCons (tVar i) (tCons (tOp (rI CDivW fun i j => .int (i / j)) (tVar j) (tC (.int c))) tNil))) := fun H Q s q =>
  ⟨_, h, _, hm, _, _, rfl, rfl, cd c0 c1, v, _, ss, rfl, hs.sm s, hn, fun H' i s' => q _ _ (.int i) s' (.int i) ⟨i, rfl⟩⟩
end
theorem nl_ints : ∀ as : List Int, nLs (as.map PyData.int) = true
  | [] => by simp [nLs]
  | a :: r => by rw [List.map_cons, nLs, nl_ints r]; simp [nLd]
def Bk.nl (b : Bk) : Bool := nLs b.ps && nLs b.rs && nLd b.e.d
theorem Bk.nl_d {b : Bk} (h : b.nl = true) : nLd b.d = true := by
  unfold Bk.nl at h
  rw [Bool.and_eq_true, Bool.and_eq_true] at h
  simp only [Bk.d, nLd, nLs, h.1.1, h.1.2, h.2, Bool.and_self]
theorem en_nl (e : En) : nLd e.d = true := by
  cases e <;> simp [En.d, wy, nLd, nLs, nl_ints]
theorem blks_nl : ∀ {g : Gr}, (∀ b ∈ g, Bk.nl b = true) → nLs (g.map Bk.d) = true
  | [], _ => by simp [nLs]
  | b :: g, h => by
    rw [List.map_cons, nLs, Bk.nl_d (h b (List.mem_cons_self ..)), blks_nl fun c hc => h c (List.mem_cons_of_mem _ hc)]
    rfl
/-- blocks made so far, in a list of their own -/
structure Bs (K : PySem.W.Frag) (H : Hp) (L : Addr) (g : Gr) : Prop where
  ex : ∃ vs, H L = some (.lst vs) ∧ DpAll K H vs (g.map Bk.d)
  nl : ∀ b ∈ g, Bk.nl b = true
  len : g.length ≤ 100
theorem Bs.sm {H H' : Hp} {L : Addr} {g : Gr} (h : Bs K H L g) (s : Same H H') : Bs K H' L g := by
  obtain ⟨vs, e, d⟩ := h.ex
  exact ⟨⟨vs, s _ _ e, dpAll_sm s d⟩, h.nl, h.len⟩
theorem Bs.add {H : Hp} {L : Addr} {g : Gr} {b : Bk} {v : V} {vs : List V} (h : Bs K H L g) (e : H L = some (.lst vs)) (d : DpAll K H vs (g.map Bk.d)) (dv : Dp K H v b.d) (nb : b.nl = true) (l : g.length < 100) : Bs K (upd H L (.lst (vs ++ [v]))) L (g ++ [b]) := by
  have k : Kp (fun a => a = L) H (upd H L (.lst (vs ++ [v]))) := Kp.upd e trivial rfl
  refine ⟨⟨_, upd_same, ?_⟩, fun c hc => ?_, by rw [List.length_append, List.length_singleton]; omega⟩
  · rw [List.map_append]
    exact dpAll_app (dpAll_kp k _ _ (blks_nl h.nl) d) (.cons (dp_kp k _ _ (Bk.nl_d nb) dv) .nil)
  · rcases List.mem_append.mp hc with z | z
    · exact h.nl c z
    · rw [List.mem_singleton.mp z]
      exact nb
theorem sqL_kp {S : Addr → Prop} {H H' : Hp} {a : Addr} {xs : List V} (k : Kp S H H') (na : ¬ S a) (h : SqL K H a xs) : SqL K H' a xs := by
  rcases h with (e | ⟨o, e⟩) | e
  · exact .inl (.inl (k _ _ e fun z => absurd z na))
  · exact .inl (.inr ⟨o, k _ _ e fun z => absurd z na⟩)
  · exact .inr e
theorem ScL.kp {S : Addr → Prop} {H H' : Hp} {a : Addr} {ss : List (Int × Int)} (k : Kp S H H') (na : ¬ S a) (h : ScL K H (.ref a) ss) : ScL K H' (.ref a) ss := by
  obtain ⟨a', es, e, h1, h2, h3⟩ := h
  cases e
  exact ⟨a, es, rfl, k _ _ h1 fun z => absurd z na, dpAll_kp k _ _ (prs_nl _) h2, h3⟩
/-- a graph that comes out -/
def sp_gr (K : PySem.W.Frag) (sh : Shp) : Sp := fun vs H Q _ => ∃ (a : Addr) (ns : List Int) (at_ : Int) (inp : Nat), vs = [.ref a, .int at_, .int (inp : Int)] ∧ Scp K H a ns ∧ 0 ≤ at_ ∧ at_ ≤ 1000 ∧ inp ≤ 10 ∧
  ∀ H' pr vg vz g, Same H H' → SqT K H' pr [vg, vz] → Dp K H' vg (Gr.d g) → shp g = sh → (∀ b ∈ g, b.rs.length ≤ 1000 ∧ b.e.small = true) → Q (.ref pr) H'
end

section
variable {P : Program} {w : World} {K : PySem.W.Frag} {mg : Str → Option Value} {base : Heap}
def Mv (H0 : Hp) (σ : L2.St) (t : TE) : Prop := ∀ (H : Hp) (Q : VK), Same H0 H → (∀ H' x, Same H H' → Q x H') → t σ H Q
def Mvs (H0 : Hp) (σ : L2.St) (k : Nat) (t : TA) : Prop := ∀ (H : Hp) (Q : List V → Hp → Prop), Same H0 H → (∀ H' xs, Same H H' → xs.length = k → Q xs H') → t σ H Q
section
variable {H0 : Hp} {σ : L2.St}
theorem mv_var {i : Nat} {v : V} (h : σ[i]? = some (some v)) : Mv H0 σ (tVar i) := fun H Q s q => ⟨v, h, q H _ (Same.refl _)⟩
theorem mvs_nil : Mvs H0 σ 0 tNil := fun H Q _ q => q H [] (Same.refl _) rfl
theorem mvs_cons {k : Nat} {t : TE} {u : TA} (h : Mv H0 σ t) (r : Mvs H0 σ k u) : Mvs H0 σ (k + 1) (tCons t u) := fun H Q s q =>
  h H _ s fun H1 x s1 => r H1 _ (s.trans s1) fun H2 xs s2 l => q H2 (x :: xs) (s1.trans s2) (by rw [List.length_cons, l])
theorem mv_lst {k : Nat} {u : TA} (r : Mvs H0 σ k u) (hk : k ≤ 1000 := by decide) : Mv H0 σ (tLst u) := fun H Q s q =>
  r H _ s fun H1 xs s1 l => ⟨by rw [l, sizeLine_eq]; omega, fun p np => q _ _ (s1.trans (same_new np))⟩
theorem mk_pair {R : PyData → Prop} {t1 t2 : TE} (h1 : Mk K H0 σ R t1) (h2 : Mv H0 σ t2) {H : Hp} {Q : VK} (s : Same H0 H) (q : ∀ H' p x y d, Same H H' → SqT K H' p [x, y] → Dp K H' x d → R d → Q (.ref p) H') : tTup (tCons t1 (tCons t2 tNil)) σ H Q :=
  h1 H _ s fun H1 x d s1 d1 r1 => h2 H1 _ (s.trans s1) fun H2 y s2 => ⟨by rw [sizeLine_eq]; simp, fun p np => q _ p x y d ((s1.trans s2).trans (same_new np)) (.of upd_same) (dp_sm (s2.trans (same_new np)) d1) r1⟩
/-- _law_end_by(_law_mark(script, at + c), scope) -/
theorem mk_end {a : Addr} {ns : List Int} {at_ c : Int} {i : Nat} {v : V} {ss : List (Int × Int)} (h0 : σ[0]? = some (some (.ref a))) (h1 : σ[1]? = some (some (.int at_))) (sc : Scp K H0 a ns) (a0 : 0 ≤ at_ + c) (a1 : at_ + c < 2 ^ 20) (h : σ[i]? = some (some v)) (hs : ScL K H0 v ss) (hn : hasN ss) :
    Mk K H0 σ (fun d => ∃ e : En, d = e.d ∧ e.ts = [] ∧ e.small = true) (tCall (sp_end K) [] E0 (tCons (tCall (sp_mark K) [] E0 (tCons (tVar 0) (tCons (tOp (rI0 fun i j => .int (i + j)) (tVar 1) (tC (.int c))) tNil))) (tCons (tVar i) tNil))) := fun H Q s q =>
  ⟨_, h0, _, h1, _, _, rfl, rfl, a, ns, _, rfl, (sc.sm s).1, (sc.sm s).2.1, (sc.sm s).2.2, a0, a1, fun m _ _ => ⟨_, h, m, v, ss, rfl, hs.sm s, hn, fun H' r e s' d' t' m' => q _ _ e.d s' d' ⟨e, rfl, t', m'⟩⟩⟩
end
theorem ok__law_straight (T : Top K mg) : FnOk P w K mg base CX0 4 (He.ga K "_law_straight") T.fd__law_straight ["_law_script", "_law_at", "_law_inputs"] (sp_gr K [[]]) := by
  have G__law_mark := ok__law_mark (P := P) (w := w) (base := base) T
  have G__law_rows_by := ok__law_rows_by (P := P) (w := w) (base := base) T
  have G__law_end_by := ok__law_end_by (P := P) (w := w) (base := base) T
  refine T.F__law_straight.ok sc__law_straight (fun vs H Q E h => ?_) (fun cdv A outer s H vs Q E hr h => ?_)
  · obtain ⟨a, ns, at_, inp, rfl, _⟩ := h
    rfl
  · obtain ⟨a, ns, at_, inp, rfl, sc, a0, a1, i10, q⟩ := h
    refine ⟨_, PSs.nox (pss_cons (ps_setLc (i := 3) (own := [("_law_k", 7)]) (by rfl) sc__law_straight.nd rfl rfl (sw_true rfl rfl rfl (by decide +kernel)) (pi_range1 (by rfl) T.m_range (pa_cons (pv 2) pa_nil)) (blkOk_by (own := [("_law_k", 7)]) (N := N__law_straight) (sc := defScope s__law_straight) (by decide +kernel)) (fun _ _ _ _ _ => (pg_name (i := 7) sc__law_straight.nd rfl (Or.inl rfl))) (fun _ _ _ _ _ => pts_nil) (fun _ _ _ _ _ => (pe_tup (pa_cons (pv 7) (pa_cons pe_int pa_nil)))))
        (pss_cons (ps_asg (pe_call G__law_rows_by (hr.mono (by omega)) (by rfl) T.g__law_rows_by T.F__law_rows_by.kp T.b__law_rows_by .nil pass0 (pa_cons (pv 0) (pa_cons (pe_op op_add (pv 1) pe_int) (pa_cons (pe_op op_add pe_int (pe_op op_mod (pe_call G__law_mark (hr.mono (by omega)) (by rfl) T.g__law_mark T.F__law_mark.kp T.b__law_mark .nil pass0 (pa_cons (pv 0) (pa_cons (pv 1) pa_nil))) pe_int)) (pa_cons (pv 3) (pa_cons (pv 2) pa_nil)))))) (pg_tup (n := 3) (by rfl) (pgs_cons (pg_name (i := 4) sc__law_straight.nd rfl (Or.inl rfl)) (pgs_cons (pg_name (i := 5) sc__law_straight.nd rfl (Or.inl rfl)) (pgs_cons (pg_name (i := 6) sc__law_straight.nd rfl (Or.inl rfl)) pgs_nil)))))
        (pss_one (ps_ret (pe_tup (pa_cons (pe_tup (pa_cons (pe_tup (pa_cons (pe_callTy call_tuple_of (by rfl) T.m_tuple (by decide +kernel) (pa_cons (pv 3) pa_nil)) (pa_cons (pv 4) (pa_cons (pe_call G__law_end_by (hr.mono (by omega)) (by rfl) T.g__law_end_by T.F__law_end_by.kp T.b__law_end_by .nil pass0 (pa_cons (pe_call G__law_mark (hr.mono (by omega)) (by rfl) T.g__law_mark T.F__law_mark.kp T.b__law_mark .nil pass0 (pa_cons (pv 0) (pa_cons (pe_op op_add (pv 1) pe_int) pa_nil))) (pa_cons (pv 5) pa_nil))) pa_nil)))) pa_nil)) (pa_cons (pe_lst (pa_cons (pv 3) pa_nil)) pa_nil))))))), ?_⟩
    have big : ∀ n : Nat, n ≤ 10000 → n ≤ sizeLine := fun n h => by rw [sizeLine_eq]; omega
    refine ⟨_, rfl, (inp : Int), rfl, by omega, by omega, fun LA nLA => ?_⟩
    refine lc_range (lo := 0) (n := ((inp : Nat) : Int).toNat) (fun i H' => Same H H' ∧ ∃ es, H' LA = some (.lst es) ∧ DpAll K H' es (((List.range i).map fun k : Nat => ((k : Int), (0 : Int))).map prD)) ?_ ?_ ?_
    · exact ⟨same_new nLA, [], upd_same, .nil⟩
    · rintro i H' hi ⟨s', es, e', d'⟩
      have le := dpAll_len d'
      rw [List.length_map, List.length_map, List.length_range] at le
      refine ⟨rfl, _, rfl, big 2 (by decide), fun p np => ?_⟩
      have k1 := same_new (o := .tup [.int (0 + (i : Int)), .int 0]) np
      have e2 := k1 _ _ e'
      have kk : Kp (fun a => a = LA) (upd H' p (.tup [.int (0 + (i : Int)), .int 0])) (upd (upd H' p (.tup [.int (0 + (i : Int)), .int 0])) LA (.lst (es ++ [.ref p]))) := Kp.upd e2 trivial rfl
      refine ⟨_, e2, by rw [le, sizeLine_eq]; omega, same_upd (s'.trans k1) nLA, _, upd_same, ?_⟩
      rw [List.range_succ, List.map_append, List.map_append]
      refine dpAll_app (dpAll_kp kk _ _ (prs_nl _) (dpAll_sm k1 d')) (.cons (dp_kp kk _ _ (by simp [prD, nLd, nLs]) (.tup (.of upd_same) (.cons (by rw [Int.zero_add]; exact .int _) (.cons (.int _) .nil)))) .nil)
    rintro H1 ⟨s1, es, eA, dA⟩
    rw [Int.toNat_natCast] at dA
    have sA : ScL K H1 (.ref LA) ((List.range inp).map fun k : Nat => ((k : Int), (0 : Int))) := ⟨LA, es, rfl, eA, dA, by rw [List.length_map, List.length_range]; omega⟩
    have lA : ((List.range inp).map fun k : Nat => ((k : Int), (0 : Int))).length = inp := by rw [List.length_map, List.length_range]
    generalize ((List.range inp).map fun k : Nat => ((k : Int), (0 : Int))) = sa at sA lA dA
    have sc1 := sc.sm s1
    refine ⟨_, rfl, _, rfl, _, _, rfl, rfl, _, rfl, _, rfl, a, ns, at_, rfl, sc1.1, sc1.2.1, sc1.2.2, by omega, by omega, fun m m0 m1 => ?_⟩
    obtain ⟨many, hm⟩ : ∃ k : Nat, 1 + m % 5 = (k : Int) := ⟨(1 + m % 5).toNat, by omega⟩
    refine ⟨_, _, rfl, rfl, (by show (0 : Int) < 5; decide), _, _, rfl, rfl, _, rfl, _, rfl, a, ns, at_ + 1, many, .ref LA, (inp : Int), sa, (by show [V.ref a, .int (at_ + 1), .int (1 + m % 5), .ref LA, .int (inp : Int)] = _; rw [hm]), sc1, by omega, by omega, sA, by omega, by omega, fun H2 pr vr LS rd ss' x' s2 hpr dvr nrd hsc nLS lrd lss hN xx => ?_⟩
    refine ⟨pr, _, rfl, hpr, rfl, _, _, rfl, _, _, rfl, _, _, rfl, rfl, ?_⟩
    dsimp only [gName]
    have hn : hasN ss' := hN (.inr (by omega))
    show tTup (tCons _ (tCons _ tNil)) _ _ _
    refine mk_pair (H0 := H2) (mk_tup (mks_cons (mk_tup (mks_cons (mk_tuple rfl (sA.sm s2)) (mks_cons (mk_var rfl dvr) (mks_cons (mk_end rfl rfl (sc1.sm s2) (by omega) (by omega) rfl hsc hn) mks_nil)))) mks_nil)) (mv_lst (mvs_cons (mv_var rfl) mvs_nil)) (Same.refl _) ?_
    rintro H3 p x y d s3 h3 d3 ⟨ds, rfl, db, r, rfl, ⟨bs, rfl, b0, c1, rfl, rfl, b1, c2, rfl, rfl, b2, c3, rfl, ⟨e, rfl, et, em⟩, rfl⟩, rfl⟩
    refine q H3 p x y [⟨sa.map prD, rd, e⟩] (((s1.trans s2).trans s3)) h3 d3 (by unfold shp; simp [et]) fun b hb => ?_
    rw [List.mem_singleton.mp hb]
    exact ⟨by show rd.length ≤ 1000; omega, em⟩
end

section
variable {P : Program} {w : World} {K : PySem.W.Frag} {mg : Str → Option Value} {base : Heap}
section
variable {H0 : Hp} {σ : L2.St}
theorem mks_of {k : Nat} {R R' : List PyData → Prop} {t : TA} (h : Mks K H0 σ k R t) (i : ∀ d, R d → R' d) : Mks K H0 σ k R' t := fun H Q s q => h H Q s fun H' x d s' d' r l => q H' x d s' d' (i d r) l
/-- scope + [pairs] -/
theorem sc_cat {u : TA} {k : Nat} {R : List (Int × Int) → Prop} {v : V} {ss : List (Int × Int)} {H : Hp} {Q : VK} (hs : ScL K H0 v ss) (hu : Mks K H0 σ k (fun ds => ∃ qs : List (Int × Int), ds = qs.map prD ∧ R qs) u) (l : ss.length + k ≤ 1000) (s : Same H0 H)
    (q : ∀ H' L qs, Same H H' → H L = none → ScL K H' (.ref L) (ss ++ qs) → R qs → qs.length = k → Q (.ref L) H') : tLst u σ H (fun y H2 => rCat v y H2 Q) := by
  refine hu H _ s fun H1 xs ds s1 d1 r1 l1 => ?_
  obtain ⟨qs, rfl, hR⟩ := r1
  have l2 := dpAll_len d1
  rw [List.length_map] at l2
  refine ⟨by rw [l1, sizeLine_eq]; omega, fun b nb => ?_⟩
  have kb := same_new (o := .lst xs) nb
  obtain ⟨S, es, rfl, e, da, _⟩ := hs
  have le := dpAll_len da
  rw [List.length_map] at le
  have eS := kb _ _ (s1 _ _ (s _ _ e))
  refine ⟨S, b, es, xs, rfl, rfl, eS, upd_same, by rw [l1, le, sizeLine_eq]; omega, fun p np => ?_⟩
  have kp := same_new (o := .lst (es ++ xs)) np
  have s3 := (s1.trans kb).trans kp
  refine q _ p qs s3 (s1.free (kb.free np)) ⟨p, _, rfl, upd_same, ?_, by rw [List.length_append]; omega⟩ hR (by omega)
  rw [List.map_append]
  exact dpAll_app (dpAll_sm ((s.trans (s1.trans kb)).trans kp) da) (dpAll_sm (kb.trans kp) d1)
theorem mk_pr {i : Nat} {z : Int} (h : σ[i]? = some (some (.int z))) : Mk K H0 σ (fun d => ∃ j : Int, d = prD (j, 0)) (tTup (tCons (tVar i) (tCons (tC (.int 0)) tNil))) :=
  mk_of (mk_tup (mks_cons (mk_var h (.int z)) (mks_cons mk_int mks_nil))) fun d => by rintro ⟨ds, rfl, _, _, rfl, rfl, _, _, rfl, rfl, rfl⟩; exact ⟨z, rfl⟩
theorem mk_pr1 {i : Nat} {z c : Int} (h : σ[i]? = some (some (.int z))) : Mk K H0 σ (fun d => ∃ j : Int, d = prD (j, 0)) (tTup (tCons (tOp (rI0 fun i j => .int (i + j)) (tVar i) (tC (.int c))) (tCons (tC (.int 0)) tNil))) :=
  mk_of (mk_tup (mks_cons (mk_add h) (mks_cons mk_int mks_nil))) fun d => by rintro ⟨ds, rfl, _, _, rfl, ⟨j, rfl⟩, _, _, rfl, rfl, rfl⟩; exact ⟨j, rfl⟩
theorem mks_pr1 {t : TE} (h : Mk K H0 σ (fun d => ∃ j : Int, d = prD (j, 0)) t) : Mks K H0 σ 1 (fun ds => ∃ qs : List (Int × Int), ds = qs.map prD ∧ qs.length = 1) (tCons t tNil) :=
  mks_of (mks_cons h mks_nil) fun d => by rintro ⟨_, _, rfl, ⟨j, rfl⟩, rfl⟩; exact ⟨[(j, 0)], rfl, rfl⟩
theorem mks_pr2 {t t2 : TE} (h : Mk K H0 σ (fun d => ∃ j : Int, d = prD (j, 0)) t) (h2 : Mk K H0 σ (fun d => ∃ j : Int, d = prD (j, 0)) t2) : Mks K H0 σ 2 (fun ds => ∃ qs : List (Int × Int), ds = qs.map prD ∧ qs.length = 2) (tCons t (tCons t2 tNil)) :=
  mks_of (mks_cons h (mks_cons h2 mks_nil)) fun d => by rintro ⟨_, _, rfl, ⟨j, rfl⟩, _, _, rfl, ⟨i, rfl⟩, rfl⟩; exact ⟨[(j, 0), (i, 0)], rfl, rfl⟩
end
theorem hasN_app {a b : List (Int × Int)} (h : hasN a) : hasN (a ++ b) := by
  obtain ⟨q, hq, h0⟩ := h
  exact ⟨q, List.mem_append_left _ hq, h0⟩
def sp_caller (K : PySem.W.Frag) : Sp := fun vs H Q _ => ∃ (a : Addr) (ns : List Int) (at_ : Int) (inp many : Nat), vs = [.ref a, .int at_, .int (inp : Int), .int (many : Int)] ∧ Scp K H a ns ∧ 0 ≤ at_ ∧ at_ ≤ 1000 ∧ inp ≤ 10 ∧ many ≤ 2 ∧
  ∀ H' pr vg vz g, Same H H' → SqT K H' pr [vg, vz] → Dp K H' vg (Gr.d g) → shp g = [[1], []] → (∀ b ∈ g, b.rs.length ≤ 1000 ∧ b.e.small = true) → Q (.ref pr) H'
theorem ok__law_caller (T : Top K mg) : FnOk P w K mg base CX0 4 (He.ga K "_law_caller") T.fd__law_caller ["_law_script", "_law_at", "_law_inputs", "_law_many"] (sp_caller K) := by
  have G__law_mark := ok__law_mark (P := P) (w := w) (base := base) T
  have G__law_rows_by := ok__law_rows_by (P := P) (w := w) (base := base) T
  have G__law_end_by := ok__law_end_by (P := P) (w := w) (base := base) T
  have G__law_last := ok__law_last (P := P) (w := w) (base := base) T
  refine T.F__law_caller.ok sc__law_caller (fun vs H Q E h => ?_) (fun cdv A outer s H vs Q E hr h => ?_)
  · obtain ⟨a, ns, at_, inp, many, rfl, _⟩ := h
    rfl
  · obtain ⟨a, ns, at_, inp, many, rfl, sc, a0, a1, i10, m2, q⟩ := h
    refine ⟨_, PSs.nox (pss_cons (ps_set (i := 4) sc__law_caller.nd rfl (Or.inr rfl) (pe_call G__law_mark (hr.mono (by omega)) (by rfl) T.g__law_mark T.F__law_mark.kp T.b__law_mark .nil pass0 (pa_cons (pv 0) (pa_cons (pv 1) pa_nil))))
        (pss_cons (ps_setLc (i := 5) (own := [("_law_k", 15)]) (by rfl) sc__law_caller.nd rfl rfl (sw_true rfl rfl rfl (by decide +kernel)) (pi_range1 (by rfl) T.m_range (pa_cons (pv 2) pa_nil)) (blkOk_by (own := [("_law_k", 15)]) (N := N__law_caller) (sc := defScope s__law_caller) (by decide +kernel)) (fun _ _ _ _ _ => (pg_name (i := 15) sc__law_caller.nd rfl (Or.inl rfl))) (fun _ _ _ _ _ => pts_nil) (fun _ _ _ _ _ => (pe_tup (pa_cons (pv 15) (pa_cons pe_int pa_nil)))))
        (pss_cons (ps_asg (pe_call G__law_rows_by (hr.mono (by omega)) (by rfl) T.g__law_rows_by T.F__law_rows_by.kp T.b__law_rows_by .nil pass0 (pa_cons (pv 0) (pa_cons (pe_op op_add (pv 1) pe_int) (pa_cons (pe_op op_add pe_int (pe_op op_mod (pv 4) pe_int)) (pa_cons (pv 5) (pa_cons (pv 2) pa_nil)))))) (pg_tup (n := 3) (by rfl) (pgs_cons (pg_name (i := 6) sc__law_caller.nd rfl (Or.inl rfl)) (pgs_cons (pg_name (i := 7) sc__law_caller.nd rfl (Or.inr rfl)) (pgs_cons (pg_name (i := 8) sc__law_caller.nd rfl (Or.inl rfl)) pgs_nil)))))
        (pss_cons (ps_set (i := 9) sc__law_caller.nd rfl (Or.inl rfl) (pe_callTy call_tuple_of (by rfl) T.m_tuple (by decide +kernel) (pa_cons (pe_lc (own := [("_law_k", 15)]) (by rfl) sc__law_caller.nd (pi_range1 (by rfl) T.m_range (pa_cons (pv 3) pa_nil)) (blkOk_by (own := [("_law_k", 15)]) (N := N__law_caller) (sc := defScope s__law_caller) (by decide +kernel)) (fun _ _ _ _ _ => (pg_name (i := 15) sc__law_caller.nd rfl (Or.inl rfl))) (fun _ _ _ _ _ => pts_nil) (fun _ _ _ _ _ => (pe_call G__law_last (hr.mono (by omega)) (by rfl) T.g__law_last T.F__law_last.kp T.b__law_last .nil pass0 (pa_cons (pv 7) (pa_cons (pe_op op_fdivW (pv 4) (pe_ix (ix_listK (K := K) rfl) (pe_lst (pa_cons pe_int (pa_cons pe_int pa_nil))) (pv 15) (fun _ _ => rfl))) pa_nil))))) pa_nil)))
        (pss_cons (ps_set (i := 10) sc__law_caller.nd rfl (Or.inl rfl) (pe_tup (pa_cons (pe_callTy call_tuple_of (by rfl) T.m_tuple (by decide +kernel) (pa_cons (pv 5) pa_nil)) (pa_cons (pv 6) (pa_cons (pe_tup (pa_cons pe_str (pa_cons pe_str (pa_cons (pv 9) (pa_cons (pe_tup (pa_cons pe_int (pa_cons (pe_tup (pa_cons (pe_call G__law_last (hr.mono (by omega)) (by rfl) T.g__law_last T.F__law_last.kp T.b__law_last .nil pass0 (pa_cons (pv 7) (pa_cons (pe_op op_fdivW (pv 4) pe_int) pa_nil))) pa_nil)) pa_nil))) pa_nil))))) pa_nil)))))
        (pss_cons (ps_set (i := 11) sc__law_caller.nd rfl (Or.inl rfl) (pe_op op_cat (pv 7) (pe_lst (pa_cons (pe_tup (pa_cons (pv 8) (pa_cons pe_int pa_nil))) (pa_cons (pe_tup (pa_cons (pe_op op_add (pv 8) pe_int) (pa_cons pe_int pa_nil))) pa_nil)))))
        (pss_cons (ps_asg (pe_call G__law_rows_by (hr.mono (by omega)) (by rfl) T.g__law_rows_by T.F__law_rows_by.kp T.b__law_rows_by .nil pass0 (pa_cons (pv 0) (pa_cons (pe_op op_add (pv 1) pe_int) (pa_cons (pe_op op_add pe_int (pe_op op_mod (pe_op op_fdivW (pv 4) pe_int) pe_int)) (pa_cons (pv 11) (pa_cons (pe_op op_add (pv 8) pe_int) pa_nil)))))) (pg_tup (n := 3) (by rfl) (pgs_cons (pg_name (i := 6) sc__law_caller.nd rfl (Or.inl rfl)) (pgs_cons (pg_name (i := 12) sc__law_caller.nd rfl (Or.inl rfl)) (pgs_cons (pg_name (i := 13) sc__law_caller.nd rfl (Or.inl rfl)) pgs_nil)))))
        (pss_cons (ps_set (i := 14) sc__law_caller.nd rfl (Or.inl rfl) (pe_call G__law_end_by (hr.mono (by omega)) (by rfl) T.g__law_end_by T.F__law_end_by.kp T.b__law_end_by .nil pass0 (pa_cons (pe_call G__law_mark (hr.mono (by omega)) (by rfl) T.g__law_mark T.F__law_mark.kp T.b__law_mark .nil pass0 (pa_cons (pv 0) (pa_cons (pe_op op_add (pv 1) pe_int) pa_nil))) (pa_cons (pv 12) pa_nil))))
        (pss_one (ps_ret (pe_tup (pa_cons (pe_tup (pa_cons (pv 10) (pa_cons (pe_tup (pa_cons (pe_tup (pa_cons (pe_tup (pa_cons (pv 8) (pa_cons pe_int pa_nil))) (pa_cons (pe_tup (pa_cons (pe_op op_add (pv 8) pe_int) (pa_cons pe_int pa_nil))) pa_nil))) (pa_cons (pv 6) (pa_cons (pv 14) pa_nil)))) pa_nil))) (pa_cons (pe_lst (pa_cons (pv 5) (pa_cons (pv 11) pa_nil))) pa_nil))))))))))))), ?_⟩
    have big : ∀ n : Nat, n ≤ 10000 → n ≤ sizeLine := fun n h => by rw [sizeLine_eq]; omega
    refine ⟨_, rfl, _, rfl, a, ns, at_, rfl, sc.1, sc.2.1, sc.2.2, by omega, by omega, fun m m0 m1 => ?_⟩
    refine ⟨_, rfl, (inp : Int), rfl, by omega, by omega, fun LA nLA => ?_⟩
    refine lc_range (lo := 0) (n := ((inp : Nat) : Int).toNat) (fun i H' => Same H H' ∧ ∃ es, H' LA = some (.lst es) ∧ DpAll K H' es (((List.range i).map fun k : Nat => ((k : Int), (0 : Int))).map prD)) ?_ ?_ ?_
    · exact ⟨same_new nLA, [], upd_same, .nil⟩
    · rintro i H' hi ⟨s', es, e', d'⟩
      have le := dpAll_len d'
      rw [List.length_map, List.length_map, List.length_range] at le
      refine ⟨rfl, _, rfl, big 2 (by decide), fun p np => ?_⟩
      have k1 := same_new (o := .tup [.int (0 + (i : Int)), .int 0]) np
      have e2 := k1 _ _ e'
      have kk : Kp (fun a => a = LA) (upd H' p (.tup [.int (0 + (i : Int)), .int 0])) (upd (upd H' p (.tup [.int (0 + (i : Int)), .int 0])) LA (.lst (es ++ [.ref p]))) := Kp.upd e2 trivial rfl
      refine ⟨_, e2, by rw [le, sizeLine_eq]; omega, same_upd (s'.trans k1) nLA, _, upd_same, ?_⟩
      rw [List.range_succ, List.map_append, List.map_append]
      refine dpAll_app (dpAll_kp kk _ _ (prs_nl _) (dpAll_sm k1 d')) (.cons (dp_kp kk _ _ (by simp [prD, nLd, nLs]) (.tup (.of upd_same) (.cons (by rw [Int.zero_add]; exact .int _) (.cons (.int _) .nil)))) .nil)
    rintro H1 ⟨s1, es, eA, dA⟩
    rw [Int.toNat_natCast] at dA
    have sA : ScL K H1 (.ref LA) ((List.range inp).map fun k : Nat => ((k : Int), (0 : Int))) := ⟨LA, es, rfl, eA, dA, by rw [List.length_map, List.length_range]; omega⟩
    have lA : ((List.range inp).map fun k : Nat => ((k : Int), (0 : Int))).length = inp := by rw [List.length_map, List.length_range]
    generalize ((List.range inp).map fun k : Nat => ((k : Int), (0 : Int))) = sa at sA lA dA
    have sc1 := sc.sm s1
    obtain ⟨k1, hk1⟩ : ∃ k : Nat, 1 + m % 3 = (k : Int) := ⟨(1 + m % 3).toNat, by omega⟩
    refine ⟨_, rfl, _, rfl, _, _, rfl, rfl, _, rfl, _, _, rfl, rfl, (by show (0 : Int) < 3; decide), _, _, rfl, rfl, _, rfl, _, rfl, a, ns, at_ + 1, k1, .ref LA, (inp : Int), sa, (by show [V.ref a, .int (at_ + 1), .int (1 + m % 3), .ref LA, .int (inp : Int)] = _; rw [hk1]), sc1, by omega, by omega, sA, by omega, by omega, fun H2 pr vr LS rd ss' x' s2 hpr dvr nrd hsc nLS lrd lss hN xx => ?_⟩
    refine ⟨pr, _, rfl, hpr, rfl, _, _, rfl, _, _, rfl, _, _, rfl, rfl, ?_⟩
    have hn : hasN ss' := hN (.inr (by omega))
    -- args
    refine ⟨_, rfl, (many : Int), rfl, by omega, by omega, fun LG nLG => ?_⟩
    refine lc_range (lo := 0) (n := ((many : Nat) : Int).toNat) (fun i H' => Same H2 H' ∧ ∃ as : List Int, H' LG = some (.lst (as.map V.int)) ∧ as.length = i) ?_ ?_ ?_
    · exact ⟨same_new nLG, [], upd_same, rfl⟩
    · rintro i H' hi ⟨s', as, e', l'⟩
      have i2 : i < 2 := by omega
      obtain ⟨z, hz, hz0⟩ : ∃ z : Int, atI [V.int 4, V.int 16] (0 + (i : Int)) = some (.int z) ∧ 0 < z ∧ z < 2 ^ 64 := by
        have : i = 0 ∨ i = 1 := by omega
        rcases this with rfl | rfl
        · exact ⟨4, rfl, by decide, by decide⟩
        · exact ⟨16, rfl, by decide, by decide⟩
      refine ⟨rfl, _, rfl, _, rfl, big 2 (by decide), fun L nL => ?_⟩
      have kL := same_new (o := .lst [.int 4, .int 16]) nL
      refine ⟨_, rfl, L, _, _, _, rfl, rfl, .of upd_same, hz, _, _, rfl, rfl, cd hz0.1 hz0.2, .ref LS, _, ss', rfl, hsc.sm (s'.trans kL), hn, fun H4 j s4 => ?_⟩
      refine ⟨_, s4 _ _ (kL _ _ e'), by rw [List.length_map, l', sizeLine_eq]; omega, same_upd ((s'.trans kL).trans s4) nLG, as ++ [j], ?_, by rw [List.length_append, l', List.length_singleton]⟩
      rw [upd_same, List.map_append]
      rfl
    rintro H3 ⟨s3, as, eG, lG⟩
    refine ⟨LG, _, rfl, .inl ⟨.of eG, fun AT nAT => ?_⟩⟩
    have k4 := same_new (o := .tup (as.map V.int)) nAT
    have dA4 : Dp K (upd H3 AT (.tup (as.map V.int))) (.ref AT) (.tuple (as.map .int)) := .tup (.of upd_same) (ints_dp as)
    have s24 := s3.trans k4
    dsimp only [gName]
    generalize upd H3 AT (.tup (as.map V.int)) = H4 at dA4 s24
    refine seq_by (fun σ' H' => ∃ v j, Same H4 H' ∧ Dp K H' v (Bk.d ⟨sa.map prD, rd, .call "h" as 1 [j]⟩) ∧ σ' = [some (.ref a), some (.int at_), some (.int (inp : Int)), some (.int (many : Int)), some (.int m), some (.ref LA), some vr, some (.ref LS), some (.int x'), some (.ref AT), some v, none, none, none, none, none]) ?_ (fun N hN2 => ?_)
    rotate_left
    · show tTup _ _ _ _
      refine (mk_tup (H0 := H4) (mks_cons (mk_tuple rfl ((sA.sm s2).sm s24)) (mks_cons (mk_var rfl (dp_sm s24 dvr)) (mks_cons (mk_tup (mks_cons mk_str (mks_cons mk_str (mks_cons (mk_var rfl dA4) (mks_cons (mk_tup (mks_cons mk_int (mks_cons (mk_tup (mks_cons (mk_last rfl (hsc.sm s24) hn rfl) mks_nil)) mks_nil))) mks_nil))))) mks_nil)))) H4 _ (Same.refl _) ?_
      rintro H5 v d s5 d5 ⟨ds, rfl, b0, c1, rfl, rfl, b1, c2, rfl, rfl, b2, c3, rfl, ⟨es, rfl, _, _, rfl, rfl, _, _, rfl, rfl, _, _, rfl, rfl, _, _, rfl, ⟨ws, rfl, _, _, rfl, rfl, _, _, rfl, ⟨us, rfl, _, _, rfl, ⟨j, rfl⟩, rfl⟩, rfl⟩, rfl⟩, rfl⟩
      exact hN2 _ _ ⟨v, j, s5, d5, rfl⟩
    rintro σ' H5 ⟨v1, j1, s5, d5, rfl⟩
    have s25 := s24.trans s5
    refine ⟨_, rfl, sc_cat (H0 := H5) (hsc.sm s25) (mks_pr2 (mk_pr rfl) (mk_pr1 rfl)) (by omega) (Same.refl _) fun H6 LB qs s6 nLB hb _ lq => ?_⟩
    obtain ⟨k2, hk2⟩ : ∃ k : Nat, 1 + m / 256 % 3 = (k : Int) := ⟨(1 + m / 256 % 3).toNat, by omega⟩
    have sc6 := ((sc1.sm s2).sm s25).sm s6
    refine ⟨_, rfl, _, rfl, _, _, rfl, rfl, _, rfl, _, _, rfl, rfl, cd (by decide) (by decide), _, _, rfl, rfl, (by show (0 : Int) < 3; decide), _, _, rfl, rfl, _, rfl, _, rfl, _, _, rfl, rfl, a, ns, at_ + 4, k2, .ref LB, x' + 2, ss' ++ qs, (by show [V.ref a, .int (at_ + 4), .int (1 + m / 256 % 3), .ref LB, .int (x' + 2)] = _; rw [hk2]), sc6, by omega, by omega, hb, by rw [List.length_append]; omega, by omega, fun H7 pr2 vr2 LS2 rd2 ss2 x2 s7 hpr2 dvr2 nrd2 hsc2 nLS2 lrd2 lss2 hN2 xx2 => ?_⟩
    refine ⟨pr2, _, rfl, hpr2, rfl, _, _, rfl, _, _, rfl, _, _, rfl, rfl, ?_⟩
    have hn2 : hasN ss2 := hN2 (.inl (hasN_app hn))
    dsimp only [gName]
    refine seq_by (fun σ' H' => ∃ v e, Same H7 H' ∧ Dp K H' v (En.d e) ∧ e.ts = [] ∧ e.small = true ∧ σ' = [some (.ref a), some (.int at_), some (.int (inp : Int)), some (.int (many : Int)), some (.int m), some (.ref LA), some vr2, some (.ref LS), some (.int x'), some (.ref AT), some v1, some (.ref LB), some (.ref LS2), some (.int x2), some v, none]) ?_ (fun N hN2 => ?_)
    rotate_left
    · show tCall _ _ _ _ _ _ _
      refine mk_end (H0 := H7) rfl rfl (sc6.sm s7) (by omega) (by omega) rfl hsc2 hn2 H7 _ (Same.refl _) ?_
      rintro H8 v d s8 d8 ⟨e, rfl, et, em⟩
      exact hN2 _ _ ⟨v, e, s8, d8, et, em, rfl⟩
    rintro σ' H8 ⟨ve, e, s8, d8, et, em, rfl⟩
    have s58 := (s6.trans s7).trans s8
    show tTup (tCons _ (tCons _ tNil)) _ _ _
    refine mk_pair (H0 := H8) (mk_tup (mks_cons (mk_var rfl (dp_sm s58 d5)) (mks_cons (mk_tup (mks_cons (mk_tup (mks_cons (mk_pr rfl) (mks_cons (mk_pr1 rfl) mks_nil))) (mks_cons (mk_var rfl (dp_sm s8 dvr2)) (mks_cons (mk_var rfl d8) mks_nil)))) mks_nil))) (mv_lst (mvs_cons (mv_var rfl) (mvs_cons (mv_var rfl) mvs_nil))) (Same.refl _) ?_
    rintro H9 p x y d s9 h9 d9 ⟨ds, rfl, _, _, rfl, rfl, _, _, rfl, ⟨bs, rfl, _, _, rfl, ⟨us, rfl, _, _, rfl, ⟨i1, rfl⟩, _, _, rfl, ⟨i2, rfl⟩, rfl⟩, _, _, rfl, rfl, _, _, rfl, rfl, rfl⟩, rfl⟩
    refine q H9 p x y [⟨sa.map prD, rd, .call "h" as 1 [j1]⟩, ⟨[prD (i1, 0), prD (i2, 0)], rd2, e⟩] ((((s1.trans s2).trans s25).trans s58).trans s9) h9 d9 (by show [[1], e.ts] = _; rw [et]) fun b hb => ?_
    rcases List.mem_cons.mp hb with rfl | hb
    · exact ⟨by show rd.length ≤ 1000; omega, by simp [En.small]; rw [Int.toNat_natCast] at lG; omega⟩
    · rw [List.mem_singleton.mp hb]
      exact ⟨by show rd2.length ≤ 1000; omega, em⟩
end

section
variable {P : Program} {w : World} {K : PySem.W.Frag} {mg : Str → Option Value} {base : Heap}
section
variable {H0 : Hp} {σ : L2.St}
/-- tuple(blocks) -/
theorem mk_blocks {i : Nat} {L : Addr} {g : Gr} (h : σ[i]? = some (some (.ref L))) (hb : Bs K H0 L g) : Mk K H0 σ (fun e => e = Gr.d g) (tCB (fun xs H Q => ∃ p ys, xs = [.ref p] ∧ ((SqL K H p ys ∧ ∀ l, H l = none → Q (.ref l) (upd H l (.tup ys))) ∨ (SqT K H p ys ∧ Q (.ref p) H))) (tCons (tVar i) tNil)) := fun H Q s q => by
  obtain ⟨vs, e, d⟩ := hb.ex
  exact ⟨_, h, L, vs, rfl, .inl ⟨.of (s _ _ e), fun l nl => q _ _ (Gr.d g) (same_new nl) (.tup (.of upd_same) (dpAll_sm (s.trans (same_new nl)) d)) rfl⟩⟩
/-- [e] -/
theorem mk_lst1 {R : PyData → Prop} {t : TE} (h : Mk K H0 σ R t) {H : Hp} {Q : VK} (s : Same H0 H) (q : ∀ H' L x d, Same H H' → H L = none → H' L = some (.lst [x]) → Dp K H' x d → R d → Q (.ref L) H') : tLst (tCons t tNil) σ H Q :=
  h H _ s fun H1 x d s1 d1 r1 => ⟨by rw [sizeLine_eq]; simp, fun L nL => q _ L x d (s1.trans (same_new nL)) (s1.free nL) upd_same (dp_sm (same_new nL) d1) r1⟩
/-- (c, ()) -/
theorem mk_way0 {t : Nat} : Mk K H0 σ (fun d => d = wy t []) (tTup (tCons (tC (.int (t : Int))) (tCons (tTup tNil) tNil))) :=
  mk_of (mk_tup (mks_cons mk_int (mks_cons (mk_tup mks_nil) mks_nil))) fun d => by rintro ⟨ds, rfl, _, _, rfl, rfl, _, _, rfl, ⟨us, rfl, rfl⟩, rfl⟩; rfl
end
/-- _law_last(scope, mark // [c, d][k]) -/
theorem mk_lastL {H0 : Hp} {σ : L2.St} {i j k : Nat} {v : V} {m c d n : Int} {ss : List (Int × Int)} (h : σ[i]? = some (some v)) (hs : ScL K H0 v ss) (hn : hasN ss) (hm : σ[j]? = some (some (.int m))) (hk : σ[k]? = some (some (.int n))) (n2 : n = 0 ∨ n = 1) (c0 : 0 < c := by decide) (c1 : c < 2 ^ 64 := by decide) (d0 : 0 < d := by decide) (d1 : d < 2 ^ 64 := by decide) :
    Mk K H0 σ (fun e => ∃ i, e = .int i) (tCall (sp_last K) [] E0 (tCons (tVar i) (tCons (tOp (rI CDivW fun i j => .int (i / j)) (tVar j) (tOp (rIxL K) (tLst (tCons (tC (.int c)) (tCons (tC (.int d)) tNil))) (tVar k))) tNil))) := fun H Q s q => by
  obtain ⟨z, hz, z0, z1⟩ : ∃ z : Int, atI [V.int c, V.int d] n = some (.int z) ∧ 0 < z ∧ z < 2 ^ 64 := by
    rcases n2 with rfl | rfl
    · exact ⟨c, rfl, c0, c1⟩
    · exact ⟨d, rfl, d0, d1⟩
  refine ⟨_, h, _, hm, by rw [sizeLine_eq]; simp, fun L nL => ⟨_, hk, L, _, _, _, rfl, rfl, .of upd_same, hz, _, _, rfl, rfl, cd z0 z1, v, _, ss, rfl, hs.sm (s.trans (same_new nL)), hn, fun H' i s' => q _ _ (.int i) ((same_new nL).trans s') (.int i) ⟨i, rfl⟩⟩⟩
/-- blocks.append(b): the block comes by an expression -/
theorem app_block {H0 H : Hp} {σ : L2.St} {t : TE} {L : Addr} {g : Gr} {R : Bk → Prop} {N : Hp → Prop} {i : Nat} (h : σ[i]? = some (some (.ref L))) (hb : Bs K H0 L g) (gl : g.length < 100) (ht : Mk K H0 σ (fun d => ∃ b : Bk, d = b.d ∧ b.nl = true ∧ R b) t) (s : Same H0 H)
    (q : ∀ H' b, (∀ G, Same G H → G L = none → Same G H') → Kp (fun a => a = L) H H' → Bs K H' L (g ++ [b]) → R b → N H') : ∃ v, σ[i]? = some (some v) ∧ tyV K "list" v H ∧ t σ H fun x H1 => rAppend v [x] H1 fun _ H2 => N H2 := by
  obtain ⟨vs0, e0, d0⟩ := (hb.sm s).ex
  refine ⟨_, h, .inl ⟨rfl, _, .of e0⟩, ht H _ s fun H1 x d s1 d1 r1 => ?_⟩
  obtain ⟨b, rfl, nb, rb⟩ := r1
  have h1 := (hb.sm s).sm s1
  have e1 := s1 _ _ e0
  have l1 := dpAll_len d0
  rw [List.length_map] at l1
  refine ⟨L, vs0, x, rfl, rfl, e1, by rw [l1, sizeLine_eq]; omega, ?_⟩
  exact q _ b (fun G sg ng => same_upd (sg.trans s1) ng) ((Kp.of_same s1).trans (Kp.upd e1 trivial rfl)) (h1.add e1 (dpAll_sm s1 d0) d1 nb gl) rb
theorem ok__law_diamond (T : Top K mg) : FnOk P w K mg base CX0 4 (He.ga K "_law_diamond") T.fd__law_diamond ["_law_script", "_law_at", "_law_inputs"] (sp_gr K [[1, 2], [3], [3], []]) := by
  have G__law_mark := ok__law_mark (P := P) (w := w) (base := base) T
  have G__law_rows_by := ok__law_rows_by (P := P) (w := w) (base := base) T
  have G__law_end_by := ok__law_end_by (P := P) (w := w) (base := base) T
  have G__law_last := ok__law_last (P := P) (w := w) (base := base) T
  refine T.F__law_diamond.ok sc__law_diamond (fun vs H Q E h => ?_) (fun cdv A outer s H vs Q E hr h => ?_)
  · obtain ⟨a, ns, at_, inp, rfl, _⟩ := h
    rfl
  · obtain ⟨a, ns, at_, inp, rfl, sc, a0, a1, i10, q⟩ := h
    refine ⟨_, PSs.nox (pss_cons (ps_set (i := 3) sc__law_diamond.nd rfl (Or.inl rfl) (pe_call G__law_mark (hr.mono (by omega)) (by rfl) T.g__law_mark T.F__law_mark.kp T.b__law_mark .nil pass0 (pa_cons (pv 0) (pa_cons (pv 1) pa_nil))))
        (pss_cons (ps_setLc (i := 4) (own := [("_law_k", 9)]) (by rfl) sc__law_diamond.nd rfl rfl (sw_true rfl rfl rfl (by decide +kernel)) (pi_range1 (by rfl) T.m_range (pa_cons (pv 2) pa_nil)) (blkOk_by (own := [("_law_k", 9)]) (N := N__law_diamond) (sc := defScope s__law_diamond) (by decide +kernel)) (fun _ _ _ _ _ => (pg_name (i := 9) sc__law_diamond.nd rfl (Or.inl rfl))) (fun _ _ _ _ _ => pts_nil) (fun _ _ _ _ _ => (pe_tup (pa_cons (pv 9) (pa_cons pe_int pa_nil)))))
        (pss_cons (ps_asg (pe_call G__law_rows_by (hr.mono (by omega)) (by rfl) T.g__law_rows_by T.F__law_rows_by.kp T.b__law_rows_by .nil pass0 (pa_cons (pv 0) (pa_cons (pe_op op_add (pv 1) pe_int) (pa_cons (pe_op op_add pe_int (pe_op op_mod (pv 3) pe_int)) (pa_cons (pv 4) (pa_cons (pv 2) pa_nil)))))) (pg_tup (n := 3) (by rfl) (pgs_cons (pg_name (i := 5) sc__law_diamond.nd rfl (Or.inl rfl)) (pgs_cons (pg_name (i := 6) sc__law_diamond.nd rfl (Or.inl rfl)) (pgs_cons (pg_name (i := 7) sc__law_diamond.nd rfl (Or.inl rfl)) pgs_nil)))))
        (pss_cons (ps_set (i := 8) sc__law_diamond.nd rfl (Or.inl rfl) (pe_lst (pa_cons (pe_tup (pa_cons (pe_callTy call_tuple_of (by rfl) T.m_tuple (by decide +kernel) (pa_cons (pv 4) pa_nil)) (pa_cons (pv 5) (pa_cons (pe_tup (pa_cons pe_str (pa_cons (pe_call G__law_last (hr.mono (by omega)) (by rfl) T.g__law_last T.F__law_last.kp T.b__law_last .nil pass0 (pa_cons (pv 6) (pa_cons (pe_op op_fdivW (pv 3) pe_int) pa_nil))) (pa_cons (pe_tup (pa_cons pe_int (pa_cons (pe_tup pa_nil) pa_nil))) (pa_cons (pe_tup (pa_cons pe_int (pa_cons (pe_tup pa_nil) pa_nil))) pa_nil))))) pa_nil)))) pa_nil)))
        (pss_cons (ps_for PassesOwn.never (by rfl) (pi_range1 (by rfl) T.m_range (pa_cons pe_int pa_nil)) (pg_name (i := 9) sc__law_diamond.nd rfl (Or.inl rfl)) (pss_cons (ps_asg (pe_call G__law_rows_by (hr.mono (by omega)) (by rfl) T.g__law_rows_by T.F__law_rows_by.kp T.b__law_rows_by .nil pass0 (pa_cons (pv 0) (pa_cons (pe_op op_add (pe_op op_add (pv 1) pe_int) (pe_op op_mul pe_int (pv 9))) (pa_cons (pe_op op_mod (pe_op op_fdivW (pv 3) (pe_ix ix_list (pe_lst (pa_cons pe_int (pa_cons pe_int pa_nil))) (pv 9) (fun _ _ => rfl))) pe_int) (pa_cons (pv 6) (pa_cons (pv 7) pa_nil)))))) (pg_tup (n := 3) (by rfl) (pgs_cons (pg_name (i := 5) sc__law_diamond.nd rfl (Or.inl rfl)) (pgs_cons (pg_name (i := 10) sc__law_diamond.nd rfl (Or.inl rfl)) (pgs_cons (pg_name (i := 7) sc__law_diamond.nd rfl (Or.inl rfl)) pgs_nil)))))
        (pss_one (ps_expr (pe_bm PySem.F.plainAttrs_list PySem.F.slot_list_append PySem.F.type_list_append mt_append (pv 8) (pa_cons (pe_tup (pa_cons (pe_tup pa_nil) (pa_cons (pv 5) (pa_cons (pe_tup (pa_cons pe_str (pa_cons (pe_tup (pa_cons pe_int (pa_cons (pe_tup (pa_cons (pe_call G__law_last (hr.mono (by omega)) (by rfl) T.g__law_last T.F__law_last.kp T.b__law_last .nil pass0 (pa_cons (pv 10) (pa_cons (pe_op op_fdivW (pv 3) (pe_ix ix_list (pe_lst (pa_cons pe_int (pa_cons pe_int pa_nil))) (pv 9) (fun _ _ => rfl))) pa_nil))) pa_nil)) pa_nil))) pa_nil))) pa_nil)))) pa_nil))))))
        (pss_cons (ps_set (i := 11) sc__law_diamond.nd rfl (Or.inl rfl) (pe_op op_cat (pv 6) (pe_lst (pa_cons (pe_tup (pa_cons (pv 7) (pa_cons pe_int pa_nil))) pa_nil))))
        (pss_cons (ps_asg (pe_call G__law_rows_by (hr.mono (by omega)) (by rfl) T.g__law_rows_by T.F__law_rows_by.kp T.b__law_rows_by .nil pass0 (pa_cons (pv 0) (pa_cons (pe_op op_add (pv 1) pe_int) (pa_cons (pe_op op_mod (pe_op op_fdivW (pv 3) pe_int) pe_int) (pa_cons (pv 11) (pa_cons (pe_op op_add (pv 7) pe_int) pa_nil)))))) (pg_tup (n := 3) (by rfl) (pgs_cons (pg_name (i := 5) sc__law_diamond.nd rfl (Or.inl rfl)) (pgs_cons (pg_name (i := 12) sc__law_diamond.nd rfl (Or.inl rfl)) (pgs_cons (pg_name (i := 13) sc__law_diamond.nd rfl (Or.inl rfl)) pgs_nil)))))
        (pss_cons (ps_expr (pe_bm PySem.F.plainAttrs_list PySem.F.slot_list_append PySem.F.type_list_append mt_append (pv 8) (pa_cons (pe_tup (pa_cons (pe_tup (pa_cons (pe_tup (pa_cons (pv 7) (pa_cons pe_int pa_nil))) pa_nil)) (pa_cons (pv 5) (pa_cons (pe_call G__law_end_by (hr.mono (by omega)) (by rfl) T.g__law_end_by T.F__law_end_by.kp T.b__law_end_by .nil pass0 (pa_cons (pe_call G__law_mark (hr.mono (by omega)) (by rfl) T.g__law_mark T.F__law_mark.kp T.b__law_mark .nil pass0 (pa_cons (pv 0) (pa_cons (pe_op op_add (pv 1) pe_int) pa_nil))) (pa_cons (pv 12) pa_nil))) pa_nil)))) pa_nil)))
        (pss_one (ps_ret (pe_tup (pa_cons (pe_callTy call_tuple_of (by rfl) T.m_tuple (by decide +kernel) (pa_cons (pv 8) pa_nil)) (pa_cons (pe_lst (pa_cons (pv 4) (pa_cons (pv 6) (pa_cons (pv 6) (pa_cons (pv 11) pa_nil))))) pa_nil))))))))))))), ?_⟩
    have big : ∀ n : Nat, n ≤ 10000 → n ≤ sizeLine := fun n h => by rw [sizeLine_eq]; omega
    refine ⟨_, rfl, _, rfl, a, ns, at_, rfl, sc.1, sc.2.1, sc.2.2, by omega, by omega, fun m m0 m1 => ?_⟩
    refine ⟨_, rfl, (inp : Int), rfl, by omega, by omega, fun LA nLA => ?_⟩
    refine lc_range (lo := 0) (n := ((inp : Nat) : Int).toNat) (fun i H' => Same H H' ∧ ∃ es, H' LA = some (.lst es) ∧ DpAll K H' es (((List.range i).map fun k : Nat => ((k : Int), (0 : Int))).map prD)) ?_ ?_ ?_
    · exact ⟨same_new nLA, [], upd_same, .nil⟩
    · rintro i H' hi ⟨s', es, e', d'⟩
      have le := dpAll_len d'
      rw [List.length_map, List.length_map, List.length_range] at le
      refine ⟨rfl, _, rfl, big 2 (by decide), fun p np => ?_⟩
      have k1 := same_new (o := .tup [.int (0 + (i : Int)), .int 0]) np
      have e2 := k1 _ _ e'
      have kk : Kp (fun a => a = LA) (upd H' p (.tup [.int (0 + (i : Int)), .int 0])) (upd (upd H' p (.tup [.int (0 + (i : Int)), .int 0])) LA (.lst (es ++ [.ref p]))) := Kp.upd e2 trivial rfl
      refine ⟨_, e2, by rw [le, sizeLine_eq]; omega, same_upd (s'.trans k1) nLA, _, upd_same, ?_⟩
      rw [List.range_succ, List.map_append, List.map_append]
      refine dpAll_app (dpAll_kp kk _ _ (prs_nl _) (dpAll_sm k1 d')) (.cons (dp_kp kk _ _ (by simp [prD, nLd, nLs]) (.tup (.of upd_same) (.cons (by rw [Int.zero_add]; exact .int _) (.cons (.int _) .nil)))) .nil)
    rintro H1 ⟨s1, es, eA, dA⟩
    rw [Int.toNat_natCast] at dA
    have sA : ScL K H1 (.ref LA) ((List.range inp).map fun k : Nat => ((k : Int), (0 : Int))) := ⟨LA, es, rfl, eA, dA, by rw [List.length_map, List.length_range]; omega⟩
    have lA : ((List.range inp).map fun k : Nat => ((k : Int), (0 : Int))).length = inp := by rw [List.length_map, List.length_range]
    generalize ((List.range inp).map fun k : Nat => ((k : Int), (0 : Int))) = sa at sA lA dA
    have sc1 := sc.sm s1
    obtain ⟨k1, hk1⟩ : ∃ k : Nat, 1 + m % 3 = (k : Int) := ⟨(1 + m % 3).toNat, by omega⟩
    refine ⟨_, rfl, _, rfl, _, _, rfl, rfl, _, rfl, _, _, rfl, rfl, (by show (0 : Int) < 3; decide), _, _, rfl, rfl, _, rfl, _, rfl, a, ns, at_ + 1, k1, .ref LA, (inp : Int), sa, (by show [V.ref a, .int (at_ + 1), .int (1 + m % 3), .ref LA, .int (inp : Int)] = _; rw [hk1]), sc1, by omega, by omega, sA, by omega, by omega, fun H2 pr vr LS rd ss' x' s2 hpr dvr nrd hsc nLS lrd lss hN xx => ?_⟩
    refine ⟨pr, _, rfl, hpr, rfl, _, _, rfl, _, _, rfl, _, _, rfl, rfl, ?_⟩
    have hn : hasN ss' := hN (.inr (by omega))
    dsimp only [gName]
    have sA2 := sA.sm s2
    have sc2 := sc1.sm s2
    refine seq_by (fun σ' H' => ∃ L b, Same H2 H' ∧ H2 L = none ∧ Bs K H' L [b] ∧ b.rs.length ≤ 1000 ∧ b.e.small = true ∧ b.e.ts = [1, 2] ∧ σ' = [some (.ref a), some (.int at_), some (.int (inp : Int)), some (.int m), some (.ref LA), some vr, some (.ref LS), some (.int x'), some (.ref L), none, none, none, none, none]) ?_ (fun N hN2 => ?_)
    rotate_left
    · show tLst (tCons _ tNil) _ _ _
      refine mk_lst1 (H0 := H2) (mk_tup (mks_cons (mk_tuple rfl sA2) (mks_cons (mk_var rfl dvr) (mks_cons (mk_tup (mks_cons mk_str (mks_cons (mk_last rfl hsc hn rfl) (mks_cons (mk_way0 (t := 1)) (mks_cons (mk_way0 (t := 2)) mks_nil))))) mks_nil)))) (Same.refl _) ?_
      rintro H3 L v d s3 nL e3 d3 ⟨ds, rfl, _, _, rfl, rfl, _, _, rfl, rfl, _, _, rfl, ⟨es2, rfl, _, _, rfl, rfl, _, _, rfl, ⟨j, rfl⟩, _, _, rfl, rfl, _, _, rfl, rfl, rfl⟩, rfl⟩
      refine hN2 _ _ ⟨L, ⟨sa.map prD, rd, .choose j 1 2 [] []⟩, s3, nL, ⟨⟨_, e3, .cons d3 .nil⟩, fun b hb => ?_, by simp⟩, by show rd.length ≤ 1000; omega, rfl, rfl, rfl⟩
      rw [List.mem_singleton.mp hb]
      simp only [Bk.nl, prs_nl, nrd, en_nl, Bool.and_self]
    rintro σ' H3 ⟨L, b0, s3, nL, bs3, br0, bm0, bt0, rfl⟩
    -- both sides
    refine ⟨2, rfl, by decide, by decide, ?_⟩
    refine for_range (lo := 0) (n := 2) (fun i σ' H' => ∃ g x7 x5 x9 x10, Same H2 H' ∧ Bs K H' L (b0 :: g) ∧ g.length = i ∧ (∀ b ∈ g, b.rs.length ≤ 1000 ∧ b.e.small = true ∧ b.e.ts = [3]) ∧ 0 ≤ x7 ∧ σ' = [some (.ref a), some (.int at_), some (.int (inp : Int)), some (.int m), some (.ref LA), some x5, some (.ref LS), some (.int x7), some (.ref L), x9, x10, none, none, none]) ?_ ?_ ?_
    · exact ⟨[], x', vr, none, none, s3, bs3, rfl, (fun b hb => nomatch hb), by omega, rfl⟩
    · rintro i σ' H4 hi ⟨g, x7, x5, x9, x10, s4, bs4, gl, gb, x70, rfl⟩
      obtain ⟨z, hz, hz0⟩ : ∃ z : Int, atI [V.int 32, V.int 128] (0 + (i : Int)) = some (.int z) ∧ 0 < z ∧ z < 2 ^ 64 := by
        have : i = 0 ∨ i = 1 := by omega
        rcases this with rfl | rfl
        · exact ⟨32, rfl, by decide, by decide⟩
        · exact ⟨128, rfl, by decide, by decide⟩
      obtain ⟨k2, hk2⟩ : ∃ k : Nat, m / z % 3 = (k : Int) := ⟨(m / z % 3).toNat, by omega⟩
      refine ⟨_, rfl, _, rfl, _, _, rfl, rfl, _, rfl, _, _, rfl, rfl, .inl ⟨by decide, by decide⟩, _, _, rfl, rfl, _, rfl, big 2 (by decide), fun L2 nL2 => ?_⟩
      have kL := same_new (o := .lst [.int 32, .int 128]) nL2
      have s5 := s4.trans kL
      refine ⟨_, rfl, L2, _, _, _, rfl, rfl, .of upd_same, hz, _, _, rfl, rfl, cd hz0.1 hz0.2, _, _, rfl, rfl, (by show (0 : Int) < 3; decide), _, rfl, _, rfl, a, ns, at_ + 4 + 2 * (0 + (i : Int)), k2, .ref LS, x7, ss', (by show [V.ref a, .int (at_ + 4 + 2 * (0 + (i : Int))), .int (m / z % 3), .ref LS, .int x7] = _; rw [hk2]), sc2.sm s5, by omega, by omega, hsc.sm s5, by omega, x70, fun H6 pr2 vr2 LS2 rd2 ss2 x2 s6 hpr2 dvr2 nrd2 hsc2 nLS2 lrd2 lss2 hN2 xx2 => ?_⟩
      refine ⟨pr2, _, rfl, hpr2, rfl, _, _, rfl, _, _, rfl, _, _, rfl, rfl, ?_⟩
      have hn2 : hasN ss2 := hN2 (.inl hn)
      have s26 := s5.trans s6
      dsimp only [gName]
      refine app_block (H0 := H6) (g := b0 :: g) (i := 8) (R := fun b => b.rs.length ≤ 1000 ∧ b.e.small = true ∧ b.e.ts = [3]) rfl ((bs4.sm kL).sm s6) (by rw [List.length_cons]; omega) (mk_of (mk_tup (mks_cons (mk_tup mks_nil) (mks_cons (mk_var rfl dvr2) (mks_cons (mk_tup (mks_cons mk_str (mks_cons (mk_tup (mks_cons mk_int (mks_cons (mk_tup (mks_cons (mk_lastL rfl hsc2 hn2 rfl rfl (by omega)) mks_nil)) mks_nil))) mks_nil))) mks_nil)))) ?_) (Same.refl _) ?_
      · rintro d ⟨ds, rfl, _, _, rfl, ⟨us, rfl, rfl⟩, _, _, rfl, rfl, _, _, rfl, ⟨es2, rfl, _, _, rfl, rfl, _, _, rfl, ⟨ws, rfl, _, _, rfl, rfl, _, _, rfl, ⟨ts, rfl, _, _, rfl, ⟨j, rfl⟩, rfl⟩, rfl⟩, rfl⟩, rfl⟩
        refine ⟨⟨[], rd2, .jump 3 [j]⟩, rfl, ?_, by show rd2.length ≤ 1000; omega, rfl, rfl⟩
        simp only [Bk.nl, nLs, nrd2, en_nl, Bool.and_self]
      · rintro H7 b sg _ bs7 hb7
        refine ⟨g ++ [b], x2, vr2, _, _, sg H2 s26 nL, bs7, by rw [List.length_append, gl, List.length_singleton], fun c hc => ?_, by omega, rfl⟩
        rcases List.mem_append.mp hc with z | z
        · exact gb c z
        · rw [List.mem_singleton.mp z]
          exact hb7
    · rintro σ' H4 ⟨g, x7, x5, x9, x10, s4, bs4, gl, gb, x70, rfl⟩
      refine ⟨_, rfl, sc_cat (H0 := H4) (hsc.sm s4) (mks_pr1 (mk_pr rfl)) (by omega) (Same.refl _) fun H5 LB qs s5 nLB hb _ lq => ?_⟩
      obtain ⟨k3, hk3⟩ : ∃ k : Nat, m / 8192 % 3 = (k : Int) := ⟨(m / 8192 % 3).toNat, by omega⟩
      have sc5 := (sc2.sm s4).sm s5
      refine ⟨_, rfl, _, rfl, _, _, rfl, rfl, _, rfl, _, _, rfl, rfl, cd (by decide) (by decide), _, _, rfl, rfl, (by show (0 : Int) < 3; decide), _, rfl, _, rfl, _, _, rfl, rfl, a, ns, at_ + 8, k3, .ref LB, x7 + 1, ss' ++ qs, (by show [V.ref a, .int (at_ + 8), .int (m / 8192 % 3), .ref LB, .int (x7 + 1)] = _; rw [hk3]), sc5, by omega, by omega, hb, by rw [List.length_append]; omega, by omega, fun H6 pr2 vr2 LS2 rd2 ss2 x2 s6 hpr2 dvr2 nrd2 hsc2 nLS2 lrd2 lss2 hN2 xx2 => ?_⟩
      refine ⟨pr2, _, rfl, hpr2, rfl, _, _, rfl, _, _, rfl, _, _, rfl, rfl, ?_⟩
      have hn2 : hasN ss2 := hN2 (.inl (hasN_app hn))
      dsimp only [gName]
      refine app_block (H0 := H6) (g := b0 :: g) (i := 8) (R := fun b => b.rs.length ≤ 1000 ∧ b.e.small = true ∧ b.e.ts = []) rfl ((bs4.sm s5).sm s6) (by rw [List.length_cons]; omega) (mk_of (mk_tup (mks_cons (mk_tup (mks_cons (mk_pr rfl) mks_nil)) (mks_cons (mk_var rfl dvr2) (mks_cons (mk_end rfl rfl (sc5.sm s6) (by omega) (by omega) rfl hsc2 hn2) mks_nil)))) ?_) (Same.refl _) ?_
      · rintro d ⟨ds, rfl, _, _, rfl, ⟨us, rfl, _, _, rfl, ⟨j, rfl⟩, rfl⟩, _, _, rfl, rfl, _, _, rfl, ⟨e, rfl, et, em⟩, rfl⟩
        refine ⟨⟨[prD (j, 0)], rd2, e⟩, rfl, ?_, by show rd2.length ≤ 1000; omega, em, et⟩
        simp [Bk.nl, nLs, nLd, prD, nrd2, en_nl]
      · rintro H7 b sg _ bs7 ⟨hb1, hb2, hb3⟩
        have s27 := sg H2 ((s4.trans s5).trans s6) nL
        dsimp only
        show tTup (tCons _ (tCons _ tNil)) _ _ _
        refine mk_pair (H0 := H7) (mk_blocks rfl bs7) (mv_lst (mvs_cons (mv_var rfl) (mvs_cons (mv_var rfl) (mvs_cons (mv_var rfl) (mvs_cons (mv_var rfl) mvs_nil))))) (Same.refl _) ?_
        rintro H8 p x y d s8 h8 d8 rfl
        refine q H8 p x y (b0 :: g ++ [b]) (((s1.trans s2).trans s27).trans s8) h8 d8 ?_ fun c hc => ?_
        · obtain ⟨g1, g2, rfl⟩ : ∃ g1 g2, g = [g1, g2] := by
            match g, gl with
            | [g1, g2], _ => exact ⟨g1, g2, rfl⟩
          show [b0.e.ts, g1.e.ts, g2.e.ts, b.e.ts] = _
          rw [bt0, hb3, (gb g1 (by simp)).2.2, (gb g2 (by simp)).2.2]
        · rcases List.mem_append.mp hc with z | z
          · rcases List.mem_cons.mp z with rfl | z
            · exact ⟨br0, bm0⟩
            · exact ⟨(gb c z).1, (gb c z).2.1⟩
          · rw [List.mem_singleton.mp z]
            exact ⟨hb1, hb2⟩
end

section
variable {P : Program} {w : World} {K : PySem.W.Frag} {mg : Str → Option Value} {base : Heap}
/-- rows + (more,) -/
theorem row_cat {H0 H : Hp} {σ : L2.St} {u : TA} {k : Nat} {v : V} {rd : List PyData} {Q : VK} (dv : Dp K H0 v (.tuple rd)) (nrd : nLs rd = true) (hu : Mks K H0 σ k (fun ds => nLs ds = true) u) (k0 : 0 < k) (l : rd.length + k ≤ 1000) (s : Same H0 H)
    (q : ∀ H' r rd', Same H H' → Dp K H' r (.tuple rd') → nLs rd' = true → rd'.length ≤ rd.length + k → Q r H') : tTup u σ H (fun y H2 => rCatA K v y H2 Q) := by
  refine hu H _ s fun H1 xs ds s1 d1 r1 l1 => ?_
  refine ⟨by rw [l1, sizeLine_eq]; omega, fun b nb => ?_⟩
  have kb := same_new (o := .tup xs) nb
  have l2 := dpAll_len d1
  obtain ⟨p, ys, rfl, hp, dy⟩ := dp_tup dv
  have ly := dpAll_len dy
  have sa := (s.trans s1).trans kb
  refine ⟨p, b, ys, xs, rfl, rfl, sqT_sm sa hp, .of upd_same, by rw [l1, ly, sizeLine_eq]; omega, fun z => ?_, fun _ z => ?_, fun _ _ c nc => ?_⟩
  · exact q _ _ ds (s1.trans kb) (.tup (.of upd_same) (dpAll_sm kb d1)) r1 (by omega)
  · rw [z] at l1
    simp at l1
    omega
  · have kc := same_new (o := .tup (ys ++ xs)) nc
    exact q _ _ (rd ++ ds) ((s1.trans kb).trans kc) (.tup (.of upd_same) (dpAll_app (dpAll_sm (sa.trans kc) dy) (dpAll_sm (kb.trans kc) d1))) (nLs_app nrd r1) (by rw [List.length_append]; omega)
theorem ok__law_loop (T : Top K mg) : FnOk P w K mg base CX0 4 (He.ga K "_law_loop") T.fd__law_loop ["_law_script", "_law_at", "_law_inputs"] (sp_gr K [[1], [2, 3], [1], []]) := by
  have G__law_mark := ok__law_mark (P := P) (w := w) (base := base) T
  have G__law_rows_by := ok__law_rows_by (P := P) (w := w) (base := base) T
  have G__law_end_by := ok__law_end_by (P := P) (w := w) (base := base) T
  have G__law_last := ok__law_last (P := P) (w := w) (base := base) T
  refine T.F__law_loop.ok sc__law_loop (fun vs H Q E h => ?_) (fun cdv A outer s H vs Q E hr h => ?_)
  · obtain ⟨a, ns, at_, inp, rfl, _⟩ := h
    rfl
  · obtain ⟨a, ns, at_, inp, rfl, sc, a0, a1, i10, q⟩ := h
    refine ⟨_, PSs.nox (pss_cons (ps_set (i := 3) sc__law_loop.nd rfl (Or.inl rfl) (pe_call G__law_mark (hr.mono (by omega)) (by rfl) T.g__law_mark T.F__law_mark.kp T.b__law_mark .nil pass0 (pa_cons (pv 0) (pa_cons (pv 1) pa_nil))))
        (pss_cons (ps_setLc (i := 4) (own := [("_law_k", 14)]) (by rfl) sc__law_loop.nd rfl rfl (sw_true rfl rfl rfl (by decide +kernel)) (pi_range1 (by rfl) T.m_range (pa_cons (pv 2) pa_nil)) (blkOk_by (own := [("_law_k", 14)]) (N := N__law_loop) (sc := defScope s__law_loop) (by decide +kernel)) (fun _ _ _ _ _ => (pg_name (i := 14) sc__law_loop.nd rfl (Or.inl rfl))) (fun _ _ _ _ _ => pts_nil) (fun _ _ _ _ _ => (pe_tup (pa_cons (pv 14) (pa_cons pe_int pa_nil)))))
        (pss_cons (ps_asg (pe_call G__law_rows_by (hr.mono (by omega)) (by rfl) T.g__law_rows_by T.F__law_rows_by.kp T.b__law_rows_by .nil pass0 (pa_cons (pv 0) (pa_cons (pe_op op_add (pv 1) pe_int) (pa_cons (pe_op op_add pe_int (pe_op op_mod (pv 3) pe_int)) (pa_cons (pv 4) (pa_cons (pv 2) pa_nil)))))) (pg_tup (n := 3) (by rfl) (pgs_cons (pg_name (i := 5) sc__law_loop.nd rfl (Or.inl rfl)) (pgs_cons (pg_name (i := 6) sc__law_loop.nd rfl (Or.inl rfl)) (pgs_cons (pg_name (i := 7) sc__law_loop.nd rfl (Or.inl rfl)) pgs_nil)))))
        (pss_cons (ps_set (i := 5) sc__law_loop.nd rfl (Or.inl rfl) (pe_op op_catA (pv 5) (pe_tup (pa_cons (pe_tup (pa_cons (pv 7) (pa_cons pe_str (pa_cons pe_int pa_nil)))) (pa_cons (pe_tup (pa_cons (pe_op op_add (pv 7) pe_int) (pa_cons pe_str (pa_cons (pe_op op_mod (pe_op op_fdivW (pv 3) pe_int) pe_int) pa_nil)))) pa_nil)))))
        (pss_cons (ps_set (i := 6) sc__law_loop.nd rfl (Or.inl rfl) (pe_op op_cat (pv 6) (pe_lst (pa_cons (pe_tup (pa_cons (pv 7) (pa_cons pe_int pa_nil))) (pa_cons (pe_tup (pa_cons (pe_op op_add (pv 7) pe_int) (pa_cons pe_int pa_nil))) pa_nil)))))
        (pss_cons (ps_set (i := 8) sc__law_loop.nd rfl (Or.inl rfl) (pe_lst (pa_cons (pe_tup (pa_cons (pe_callTy call_tuple_of (by rfl) T.m_tuple (by decide +kernel) (pa_cons (pv 4) pa_nil)) (pa_cons (pv 5) (pa_cons (pe_tup (pa_cons pe_str (pa_cons (pe_tup (pa_cons pe_int (pa_cons (pe_tup (pa_cons (pv 7) (pa_cons (pe_call G__law_last (hr.mono (by omega)) (by rfl) T.g__law_last T.F__law_last.kp T.b__law_last .nil pass0 (pa_cons (pv 6) (pa_cons (pe_op op_fdivW (pv 3) pe_int) pa_nil))) pa_nil))) pa_nil))) pa_nil))) pa_nil)))) pa_nil)))
        (pss_cons (ps_set (i := 9) sc__law_loop.nd rfl (Or.inl rfl) (pe_op op_add (pv 7) pe_int))
        (pss_cons (ps_set (i := 10) sc__law_loop.nd rfl (Or.inl rfl) (pe_op op_cat (pv 6) (pe_lst (pa_cons (pe_tup (pa_cons (pv 9) (pa_cons pe_int pa_nil))) (pa_cons (pe_tup (pa_cons (pe_op op_add (pv 9) pe_int) (pa_cons pe_int pa_nil))) pa_nil)))))
        (pss_cons (ps_set (i := 11) sc__law_loop.nd rfl (Or.inl rfl) (pe_tup (pa_cons (pe_op op_add (pv 9) pe_int) (pa_cons pe_str (pa_cons (pv 9) (pa_cons (pe_op op_add (pv 7) pe_int) pa_nil))))))
        (pss_cons (ps_expr (pe_bm PySem.F.plainAttrs_list PySem.F.slot_list_append PySem.F.type_list_append mt_append (pv 8) (pa_cons (pe_tup (pa_cons (pe_tup (pa_cons (pe_tup (pa_cons (pv 9) (pa_cons pe_int pa_nil))) (pa_cons (pe_tup (pa_cons (pe_op op_add (pv 9) pe_int) (pa_cons pe_int pa_nil))) pa_nil))) (pa_cons (pe_tup (pa_cons (pv 11) pa_nil)) (pa_cons (pe_tup (pa_cons pe_str (pa_cons (pe_op op_add (pv 9) pe_int) (pa_cons (pe_tup (pa_cons pe_int (pa_cons (pe_tup pa_nil) pa_nil))) (pa_cons (pe_tup (pa_cons pe_int (pa_cons (pe_tup pa_nil) pa_nil))) pa_nil))))) pa_nil)))) pa_nil)))
        (pss_cons (ps_set (i := 12) sc__law_loop.nd rfl (Or.inl rfl) (pe_op op_cat (pv 10) (pe_lst (pa_cons (pe_tup (pa_cons (pe_op op_add (pv 9) pe_int) (pa_cons pe_int pa_nil))) pa_nil))))
        (pss_cons (ps_asg (pe_call G__law_rows_by (hr.mono (by omega)) (by rfl) T.g__law_rows_by T.F__law_rows_by.kp T.b__law_rows_by .nil pass0 (pa_cons (pv 0) (pa_cons (pe_op op_add (pv 1) pe_int) (pa_cons (pe_op op_add pe_int (pe_op op_mod (pe_op op_fdivW (pv 3) pe_int) pe_int)) (pa_cons (pv 12) (pa_cons (pe_op op_add (pv 9) pe_int) pa_nil)))))) (pg_tup (n := 3) (by rfl) (pgs_cons (pg_name (i := 5) sc__law_loop.nd rfl (Or.inl rfl)) (pgs_cons (pg_name (i := 13) sc__law_loop.nd rfl (Or.inl rfl)) (pgs_cons (pg_name (i := 7) sc__law_loop.nd rfl (Or.inl rfl)) pgs_nil)))))
        (pss_cons (ps_set (i := 5) sc__law_loop.nd rfl (Or.inl rfl) (pe_op op_catA (pv 5) (pe_tup (pa_cons (pe_tup (pa_cons (pv 7) (pa_cons pe_str (pa_cons pe_int pa_nil)))) (pa_cons (pe_tup (pa_cons (pe_op op_add (pv 7) pe_int) (pa_cons pe_str (pa_cons (pv 9) (pa_cons (pv 7) pa_nil))))) pa_nil)))))
        (pss_cons (ps_expr (pe_bm PySem.F.plainAttrs_list PySem.F.slot_list_append PySem.F.type_list_append mt_append (pv 8) (pa_cons (pe_tup (pa_cons (pe_tup pa_nil) (pa_cons (pv 5) (pa_cons (pe_tup (pa_cons pe_str (pa_cons (pe_tup (pa_cons pe_int (pa_cons (pe_tup (pa_cons (pe_op op_add (pv 7) pe_int) (pa_cons (pe_call G__law_last (hr.mono (by omega)) (by rfl) T.g__law_last T.F__law_last.kp T.b__law_last .nil pass0 (pa_cons (pv 13) (pa_cons (pe_op op_fdivW (pv 3) pe_int) pa_nil))) pa_nil))) pa_nil))) pa_nil))) pa_nil)))) pa_nil)))
        (pss_cons (ps_asg (pe_call G__law_rows_by (hr.mono (by omega)) (by rfl) T.g__law_rows_by T.F__law_rows_by.kp T.b__law_rows_by .nil pass0 (pa_cons (pv 0) (pa_cons (pe_op op_add (pv 1) pe_int) (pa_cons (pe_op op_mod (pe_op op_fdivW (pv 3) pe_int) pe_int) (pa_cons (pv 12) (pa_cons (pe_op op_add (pv 7) pe_int) pa_nil)))))) (pg_tup (n := 3) (by rfl) (pgs_cons (pg_name (i := 5) sc__law_loop.nd rfl (Or.inl rfl)) (pgs_cons (pg_name (i := 13) sc__law_loop.nd rfl (Or.inl rfl)) (pgs_cons (pg_name (i := 7) sc__law_loop.nd rfl (Or.inl rfl)) pgs_nil)))))
        (pss_cons (ps_expr (pe_bm PySem.F.plainAttrs_list PySem.F.slot_list_append PySem.F.type_list_append mt_append (pv 8) (pa_cons (pe_tup (pa_cons (pe_tup pa_nil) (pa_cons (pv 5) (pa_cons (pe_call G__law_end_by (hr.mono (by omega)) (by rfl) T.g__law_end_by T.F__law_end_by.kp T.b__law_end_by .nil pass0 (pa_cons (pe_call G__law_mark (hr.mono (by omega)) (by rfl) T.g__law_mark T.F__law_mark.kp T.b__law_mark .nil pass0 (pa_cons (pv 0) (pa_cons (pe_op op_add (pv 1) pe_int) pa_nil))) (pa_cons (pv 13) pa_nil))) pa_nil)))) pa_nil)))
        (pss_one (ps_ret (pe_tup (pa_cons (pe_callTy call_tuple_of (by rfl) T.m_tuple (by decide +kernel) (pa_cons (pv 8) pa_nil)) (pa_cons (pe_lst (pa_cons (pv 4) (pa_cons (pv 10) (pa_cons (pv 12) (pa_cons (pv 12) pa_nil))))) pa_nil))))))))))))))))))))), ?_⟩
    have big : ∀ n : Nat, n ≤ 10000 → n ≤ sizeLine := fun n h => by rw [sizeLine_eq]; omega
    refine ⟨_, rfl, _, rfl, a, ns, at_, rfl, sc.1, sc.2.1, sc.2.2, by omega, by omega, fun m m0 m1 => ?_⟩
    refine ⟨_, rfl, (inp : Int), rfl, by omega, by omega, fun LA nLA => ?_⟩
    refine lc_range (lo := 0) (n := ((inp : Nat) : Int).toNat) (fun i H' => Same H H' ∧ ∃ es, H' LA = some (.lst es) ∧ DpAll K H' es (((List.range i).map fun k : Nat => ((k : Int), (0 : Int))).map prD)) ?_ ?_ ?_
    · exact ⟨same_new nLA, [], upd_same, .nil⟩
    · rintro i H' hi ⟨s', es, e', d'⟩
      have le := dpAll_len d'
      rw [List.length_map, List.length_map, List.length_range] at le
      refine ⟨rfl, _, rfl, big 2 (by decide), fun p np => ?_⟩
      have k1 := same_new (o := .tup [.int (0 + (i : Int)), .int 0]) np
      have e2 := k1 _ _ e'
      have kk : Kp (fun a => a = LA) (upd H' p (.tup [.int (0 + (i : Int)), .int 0])) (upd (upd H' p (.tup [.int (0 + (i : Int)), .int 0])) LA (.lst (es ++ [.ref p]))) := Kp.upd e2 trivial rfl
      refine ⟨_, e2, by rw [le, sizeLine_eq]; omega, same_upd (s'.trans k1) nLA, _, upd_same, ?_⟩
      rw [List.range_succ, List.map_append, List.map_append]
      refine dpAll_app (dpAll_kp kk _ _ (prs_nl _) (dpAll_sm k1 d')) (.cons (dp_kp kk _ _ (by simp [prD, nLd, nLs]) (.tup (.of upd_same) (.cons (by rw [Int.zero_add]; exact .int _) (.cons (.int _) .nil)))) .nil)
    rintro H1 ⟨s1, es, eA, dA⟩
    rw [Int.toNat_natCast] at dA
    have sA : ScL K H1 (.ref LA) ((List.range inp).map fun k : Nat => ((k : Int), (0 : Int))) := ⟨LA, es, rfl, eA, dA, by rw [List.length_map, List.length_range]; omega⟩
    have lA : ((List.range inp).map fun k : Nat => ((k : Int), (0 : Int))).length = inp := by rw [List.length_map, List.length_range]
    generalize ((List.range inp).map fun k : Nat => ((k : Int), (0 : Int))) = sa at sA lA dA
    have sc1 := sc.sm s1
    obtain ⟨k1, hk1⟩ : ∃ k : Nat, 1 + m % 2 = (k : Int) := ⟨(1 + m % 2).toNat, by omega⟩
    refine ⟨_, rfl, _, rfl, _, _, rfl, rfl, _, rfl, _, _, rfl, rfl, (by show (0 : Int) < 2; decide), _, _, rfl, rfl, _, rfl, _, rfl, a, ns, at_ + 1, k1, .ref LA, (inp : Int), sa, (by show [V.ref a, .int (at_ + 1), .int (1 + m % 2), .ref LA, .int (inp : Int)] = _; rw [hk1]), sc1, by omega, by omega, sA, by omega, by omega, fun H2 pr vr LS rd ss' x' s2 hpr dvr nrd hsc nLS lrd lss hN xx => ?_⟩
    refine ⟨pr, _, rfl, hpr, rfl, _, _, rfl, _, _, rfl, _, _, rfl, rfl, ?_⟩
    have hn : hasN ss' := hN (.inr (by omega))
    -- rows + two
    refine ⟨_, rfl, row_cat (H0 := H2) dvr nrd (mks_of (mks_cons (mk_tup (mks_cons (mk_var rfl (.int x')) (mks_cons mk_str (mks_cons mk_int mks_nil)))) (mks_cons (mk_tup (mks_cons (mk_add rfl) (mks_cons mk_str (mks_cons (R := fun d => ∃ j, d = .int j) (fun H Q s q => ⟨_, rfl, _, _, rfl, rfl, cd (by decide) (by decide), _, _, rfl, rfl, (by show (0 : Int) < 4; decide), q H _ _ (Same.refl _) (.int _) ⟨_, rfl⟩⟩) mks_nil)))) mks_nil)) ?_) (by decide) (by omega) (Same.refl _) fun H3 vr3 rd3 s3 dv3 nr3 lr3 => ?_⟩
    · rintro ds ⟨_, _, rfl, ⟨_, rfl, _, _, rfl, rfl, _, _, rfl, rfl, _, _, rfl, rfl, rfl⟩, _, _, rfl, ⟨_, rfl, _, _, rfl, ⟨_, rfl⟩, _, _, rfl, rfl, _, _, rfl, ⟨_, rfl⟩, rfl⟩, rfl⟩
      simp [nLs, nLd]
    refine ⟨_, rfl, sc_cat (H0 := H3) (hsc.sm s3) (mks_pr2 (mk_pr rfl) (mk_pr1 rfl)) (by omega) (Same.refl _) fun H4 LS4 qs s4 nLS4 hs4 _ lq4 => ?_⟩
    have hn4 : hasN (ss' ++ qs) := hasN_app hn
    have ls4 : (ss' ++ qs).length ≤ 20 := by rw [List.length_append]; omega
    generalize ss' ++ qs = s4' at hs4 hn4 ls4
    have sA4 := ((sA.sm s2).sm s3).sm s4
    have sc4 := ((sc1.sm s2).sm s3).sm s4
    have s14 := (s2.trans s3).trans s4
    dsimp only [gName]
    refine seq_by (fun σ' H' => ∃ L b, Same H4 H' ∧ H4 L = none ∧ Bs K H' L [b] ∧ b.rs.length ≤ 1000 ∧ b.e.small = true ∧ b.e.ts = [1] ∧ σ' = [some (.ref a), some (.int at_), some (.int (inp : Int)), some (.int m), some (.ref LA), some vr3, some (.ref LS4), some (.int x'), some (.ref L), none, none, none, none, none, none]) ?_ (fun N hN2 => ?_)
    rotate_left
    · show tLst (tCons _ tNil) _ _ _
      refine mk_lst1 (H0 := H4) (mk_tup (mks_cons (mk_tuple rfl sA4) (mks_cons (mk_var rfl (dp_sm s4 dv3)) (mks_cons (mk_tup (mks_cons mk_str (mks_cons (mk_tup (mks_cons mk_int (mks_cons (mk_tup (mks_cons (mk_var rfl (.int x')) (mks_cons (mk_last rfl hs4 hn4 rfl) mks_nil))) mks_nil))) mks_nil))) mks_nil)))) (Same.refl _) ?_
      rintro H5 L v d s5 nL e5 d5 ⟨ds, rfl, _, _, rfl, rfl, _, _, rfl, rfl, _, _, rfl, ⟨_, rfl, _, _, rfl, rfl, _, _, rfl, ⟨_, rfl, _, _, rfl, rfl, _, _, rfl, ⟨_, rfl, _, _, rfl, rfl, _, _, rfl, ⟨j, rfl⟩, rfl⟩, rfl⟩, rfl⟩, rfl⟩
      refine hN2 _ _ ⟨L, ⟨sa.map prD, rd3, .jump 1 [x', j]⟩, s5, nL, ⟨⟨_, e5, .cons d5 .nil⟩, fun b hb => ?_, by simp⟩, by show rd3.length ≤ 1000; omega, rfl, rfl, rfl⟩
      rw [List.mem_singleton.mp hb]
      simp only [Bk.nl, prs_nl, nr3, en_nl, Bool.and_self]
    rintro σ' H5 ⟨L, b0, s5, nL, bs5, br0, bm0, bt0, rfl⟩
    refine ⟨_, rfl, _, _, rfl, rfl, ?_⟩
    refine ⟨_, rfl, sc_cat (H0 := H5) (hs4.sm s5) (mks_pr2 (mk_pr rfl) (mk_pr1 rfl)) (by omega) (Same.refl _) fun H6 LT qt s6 nLT hs6 _ lq6 => ?_⟩
    have hn6 : hasN (s4' ++ qt) := hasN_app hn4
    have ls6 : (s4' ++ qt).length ≤ 22 := by rw [List.length_append]; omega
    generalize s4' ++ qt = s6' at hs6 hn6 ls6
    have LTL : LT ≠ L := fun z => by
      obtain ⟨_, e, _⟩ := bs5.ex
      rw [← z, nLT] at e
      cases e
    dsimp only [gName]
    refine seq_by (fun σ' H' => ∃ v d, Same H6 H' ∧ Dp K H' v d ∧ nLd d = true ∧ σ' = [some (.ref a), some (.int at_), some (.int (inp : Int)), some (.int m), some (.ref LA), some vr3, some (.ref LS4), some (.int x'), some (.ref L), some (.int (x' + 2)), some (.ref LT), some v, none, none, none]) ?_ (fun N hN2 => ?_)
    rotate_left
    · show tTup _ _ _ _
      refine (mk_tup (K := K) (H0 := H6) (mks_cons (mk_add rfl) (mks_cons mk_str (mks_cons (mk_var rfl (.int (x' + 2))) (mks_cons (mk_add rfl) mks_nil))))) H6 _ (Same.refl _) ?_
      rintro H7 v d s7 d7 ⟨_, rfl, _, _, rfl, ⟨j1, rfl⟩, _, _, rfl, rfl, _, _, rfl, rfl, _, _, rfl, ⟨j2, rfl⟩, rfl⟩
      exact hN2 _ _ ⟨v, _, s7, d7, by simp [nLd, nLs], rfl⟩
    rintro σ' H7 ⟨vrow, drow, s7, d7, nl7, rfl⟩
    have s47 := (s5.trans s6).trans s7
    refine app_block (H0 := H7) (g := [b0]) (i := 8) (R := fun b => b.rs.length ≤ 1000 ∧ b.e.small = true ∧ b.e.ts = [2, 3]) rfl ((bs5.sm s6).sm s7) (by simp) (mk_of (mk_tup (mks_cons (mk_tup (mks_cons (mk_pr rfl) (mks_cons (mk_pr1 rfl) mks_nil))) (mks_cons (mk_tup (mks_cons (mk_var rfl d7) mks_nil)) (mks_cons (mk_tup (mks_cons mk_str (mks_cons (mk_add rfl) (mks_cons (mk_way0 (t := 2)) (mks_cons (mk_way0 (t := 3)) mks_nil))))) mks_nil)))) ?_) (Same.refl _) ?_
    · rintro d ⟨_, rfl, _, _, rfl, ⟨_, rfl, _, _, rfl, ⟨i1, rfl⟩, _, _, rfl, ⟨i2, rfl⟩, rfl⟩, _, _, rfl, ⟨_, rfl, _, _, rfl, rfl, rfl⟩, _, _, rfl, ⟨_, rfl, _, _, rfl, rfl, _, _, rfl, ⟨j, rfl⟩, _, _, rfl, rfl, _, _, rfl, rfl, rfl⟩, rfl⟩
      refine ⟨⟨[prD (i1, 0), prD (i2, 0)], [_], .choose j 2 3 [] []⟩, rfl, ?_, by simp, rfl, rfl⟩
      simp [Bk.nl, nLs, nLd, prD, nl7, en_nl]
    rintro H8 b1 sg8 kp8 bs8 ⟨br1, bm1, bt1⟩
    have s48 := sg8 H4 s47 nL
    have hs8 : ScL K H8 (.ref LT) s6' := (hs6.sm s7).kp kp8 LTL
    dsimp only
    refine ⟨_, rfl, sc_cat (H0 := H8) hs8 (mks_pr1 (mk_pr1 rfl)) (by omega) (Same.refl _) fun H9 LI qi s9 nLI hs9 _ lq9 => ?_⟩
    have hn9 : hasN (s6' ++ qi) := hasN_app hn6
    have ls9 : (s6' ++ qi).length ≤ 23 := by rw [List.length_append]; omega
    generalize s6' ++ qi = s9' at hs9 hn9 ls9
    have LIL : LI ≠ L := fun z => by
      obtain ⟨_, e, _⟩ := bs8.ex
      rw [← z, nLI] at e
      cases e
    obtain ⟨k2, hk2⟩ : ∃ k : Nat, 1 + m / 64 % 3 = (k : Int) := ⟨(1 + m / 64 % 3).toNat, by omega⟩
    have s49 := s48.trans s9
    refine ⟨_, rfl, _, rfl, _, _, rfl, rfl, _, rfl, _, _, rfl, rfl, cd (by decide) (by decide), _, _, rfl, rfl, (by show (0 : Int) < 3; decide), _, _, rfl, rfl, _, rfl, _, rfl, _, _, rfl, rfl, a, ns, at_ + 3, k2, .ref LI, x' + 2 + 3, s9', (by show [V.ref a, .int (at_ + 3), .int (1 + m / 64 % 3), .ref LI, .int (x' + 2 + 3)] = _; rw [hk2]), sc4.sm s49, by omega, by omega, hs9, by omega, by omega, fun H10 pr2 vr2 LS2 rd2 ss2 x2 s10 hpr2 dvr2 nrd2 hsc2 nLS2 lrd2 lss2 hN2 xx2 => ?_⟩
    refine ⟨pr2, _, rfl, hpr2, rfl, _, _, rfl, _, _, rfl, _, _, rfl, rfl, ?_⟩
    have hn2 : hasN ss2 := hN2 (.inl hn9)
    refine ⟨_, rfl, row_cat (H0 := H10) dvr2 nrd2 (mks_of (mks_cons (mk_tup (mks_cons (mk_var rfl (.int x2)) (mks_cons mk_str (mks_cons mk_int mks_nil)))) (mks_cons (mk_tup (mks_cons (mk_add rfl) (mks_cons mk_str (mks_cons (mk_var rfl (.int (x' + 2))) (mks_cons (mk_var rfl (.int x2)) mks_nil))))) mks_nil)) ?_) (by decide) (by omega) (Same.refl _) fun H11 vr11 rd11 s11 dv11 nr11 lr11 => ?_⟩
    · rintro ds ⟨_, _, rfl, ⟨_, rfl, _, _, rfl, rfl, _, _, rfl, rfl, _, _, rfl, rfl, rfl⟩, _, _, rfl, ⟨_, rfl, _, _, rfl, ⟨_, rfl⟩, _, _, rfl, rfl, _, _, rfl, rfl, _, _, rfl, rfl, rfl⟩, rfl⟩
      simp [nLs, nLd]
    have s9b := s10.trans s11
    dsimp only [gName]
    refine app_block (H0 := H11) (g := [b0] ++ [b1]) (i := 8) (R := fun b => b.rs.length ≤ 1000 ∧ b.e.small = true ∧ b.e.ts = [1]) rfl ((bs8.sm s9).sm s9b) (by simp) (mk_of (mk_tup (mks_cons (mk_tup mks_nil) (mks_cons (mk_var rfl dv11) (mks_cons (mk_tup (mks_cons mk_str (mks_cons (mk_tup (mks_cons mk_int (mks_cons (mk_tup (mks_cons (mk_add rfl) (mks_cons (mk_last rfl (hsc2.sm s11) hn2 rfl) mks_nil))) mks_nil))) mks_nil))) mks_nil)))) ?_) (Same.refl _) ?_
    · rintro d ⟨_, rfl, _, _, rfl, ⟨_, rfl, rfl⟩, _, _, rfl, rfl, _, _, rfl, ⟨_, rfl, _, _, rfl, rfl, _, _, rfl, ⟨_, rfl, _, _, rfl, rfl, _, _, rfl, ⟨_, rfl, _, _, rfl, ⟨j1, rfl⟩, _, _, rfl, ⟨j2, rfl⟩, rfl⟩, rfl⟩, rfl⟩, rfl⟩
      refine ⟨⟨[], rd11, .jump 1 [j1, j2]⟩, rfl, ?_, by show rd11.length ≤ 1000; omega, rfl, rfl⟩
      simp only [Bk.nl, nLs, nr11, en_nl, Bool.and_self]
    rintro H12 b2 sg12 kp12 bs12 ⟨br2, bm2, bt2⟩
    have s412 := sg12 H4 (s49.trans s9b) nL
    have hs12 : ScL K H12 (.ref LI) s9' := (hs9.sm s9b).kp kp12 LIL
    obtain ⟨k3, hk3⟩ : ∃ k : Nat, m / 1024 % 3 = (k : Int) := ⟨(m / 1024 % 3).toNat, by omega⟩
    dsimp only
    refine ⟨_, rfl, _, rfl, _, _, rfl, rfl, _, rfl, _, _, rfl, rfl, cd (by decide) (by decide), _, _, rfl, rfl, (by show (0 : Int) < 3; decide), _, rfl, _, rfl, _, _, rfl, rfl, a, ns, at_ + 6, k3, .ref LI, x2 + 2, s9', (by show [V.ref a, .int (at_ + 6), .int (m / 1024 % 3), .ref LI, .int (x2 + 2)] = _; rw [hk3]), sc4.sm s412, by omega, by omega, hs12, by omega, by omega, fun H13 pr3 vr13 LS3 rd13 ss3 x3 s13 hpr3 dvr3 nrd3 hsc3 nLS3 lrd3 lss3 hN3 xx3 => ?_⟩
    refine ⟨pr3, _, rfl, hpr3, rfl, _, _, rfl, _, _, rfl, _, _, rfl, rfl, ?_⟩
    have hn3 : hasN ss3 := hN3 (.inl hn9)
    dsimp only [gName]
    refine app_block (H0 := H13) (g := [b0] ++ [b1] ++ [b2]) (i := 8) (R := fun b => b.rs.length ≤ 1000 ∧ b.e.small = true ∧ b.e.ts = []) rfl (bs12.sm s13) (by simp) (mk_of (mk_tup (mks_cons (mk_tup mks_nil) (mks_cons (mk_var rfl dvr3) (mks_cons (mk_end rfl rfl (sc4.sm (s412.trans s13)) (by omega) (by omega) rfl hsc3 hn3) mks_nil)))) ?_) (Same.refl _) ?_
    · rintro d ⟨_, rfl, _, _, rfl, ⟨_, rfl, rfl⟩, _, _, rfl, rfl, _, _, rfl, ⟨e, rfl, et, em⟩, rfl⟩
      refine ⟨⟨[], rd13, e⟩, rfl, ?_, by show rd13.length ≤ 1000; omega, em, et⟩
      simp only [Bk.nl, nLs, nrd3, en_nl, Bool.and_self]
    rintro H14 b3 sg14 kp14 bs14 ⟨br3, bm3, bt3⟩
    have s414 := sg14 H4 (s412.trans s13) nL
    dsimp only
    show tTup (tCons _ (tCons _ tNil)) _ _ _
    refine mk_pair (H0 := H14) (mk_blocks rfl bs14) (mv_lst (mvs_cons (mv_var rfl) (mvs_cons (mv_var rfl) (mvs_cons (mv_var rfl) (mvs_cons (mv_var rfl) mvs_nil))))) (Same.refl _) ?_
    rintro H15 p x y d s15 h15 d15 rfl
    refine q H15 p x y ([b0] ++ [b1] ++ [b2] ++ [b3]) (((s1.trans s14).trans s414).trans s15) h15 d15 ?_ fun c hc => ?_
    · show [b0.e.ts, b1.e.ts, b2.e.ts, b3.e.ts] = _
      rw [bt0, bt1, bt2, bt3]
    · simp at hc
      rcases hc with rfl | rfl | rfl | rfl
      · exact ⟨br0, bm0⟩
      · exact ⟨br1, bm1⟩
      · exact ⟨br2, bm2⟩
      · exact ⟨br3, bm3⟩
end

section
variable {P : Program} {w : World} {K : PySem.W.Frag} {mg : Str → Option Value} {base : Heap}
def sp_told (K : PySem.W.Frag) : Sp := fun vs H Q _ => ∃ (n : Nat) (f : Int), vs = [.int (n : Int), .int f] ∧ n ≤ 10 ∧ ∀ H' r rd, Same H H' → Dp K H' r (.tuple rd) → nLs rd = true → rd.length ≤ 10 → Q r H'
theorem ok__law_rows_told (T : Top K mg) : FnOk P w K mg base CX0 1 (He.ga K "_law_rows_told") T.fd__law_rows_told ["_law_many", "_law_first"] (sp_told K) := by
  refine T.F__law_rows_told.ok sc__law_rows_told (fun vs H Q E h => ?_) (fun cdv A outer s H vs Q E hr h => ?_)
  · obtain ⟨n, f, rfl, _⟩ := h
    rfl
  · obtain ⟨n, f, rfl, n10, q⟩ := h
    refine ⟨_, PSs.nox (pss_one (ps_ret (pe_callTy call_tuple_of (by rfl) T.m_tuple (by decide +kernel) (pa_cons (pe_lc (own := [("_law_j", 2)]) (by rfl) sc__law_rows_told.nd (pi_range1 (by rfl) T.m_range (pa_cons (pv 0) pa_nil)) (blkOk_by (own := [("_law_j", 2)]) (N := N__law_rows_told) (sc := defScope s__law_rows_told) (by decide +kernel)) (fun _ _ _ _ _ => (pg_name (i := 2) sc__law_rows_told.nd rfl (Or.inl rfl))) (fun _ _ _ _ _ => pts_nil) (fun _ _ _ _ _ => (pe_tup (pa_cons (pe_op op_add (pv 1) (pv 2)) (pa_cons pe_str (pa_cons (pv 2) pa_nil)))))) pa_nil)))), ?_⟩
    have big : ∀ n : Nat, n ≤ 10000 → n ≤ sizeLine := fun n h => by rw [sizeLine_eq]; omega
    refine ⟨_, rfl, (n : Int), rfl, by omega, by omega, fun L nL => ?_⟩
    refine lc_range (lo := 0) (n := ((n : Nat) : Int).toNat) (fun i H' => Same H H' ∧ ∃ vs rd, H' L = some (.lst vs) ∧ DpAll K H' vs rd ∧ nLs rd = true ∧ rd.length = i) ?_ ?_ ?_
    · exact ⟨same_new nL, [], [], upd_same, .nil, rfl, rfl⟩
    · rintro i H' hi ⟨s', vs, rd, e', d', n', l'⟩
      have lv := dpAll_len d'
      refine ⟨rfl, _, rfl, _, rfl, _, _, rfl, rfl, _, rfl, big 3 (by decide), fun p np => ?_⟩
      have k1 := same_new (o := .tup [.int (f + (0 + (i : Int))), .str "number", .int (0 + (i : Int))]) np
      have e2 := k1 _ _ e'
      have kk : Kp (fun a => a = L) (upd H' p (.tup [.int (f + (0 + (i : Int))), .str "number", .int (0 + (i : Int))])) (upd (upd H' p (.tup [.int (f + (0 + (i : Int))), .str "number", .int (0 + (i : Int))])) L (.lst (vs ++ [.ref p]))) := Kp.upd e2 trivial rfl
      refine ⟨_, e2, by rw [lv, sizeLine_eq]; omega, same_upd (s'.trans k1) nL, _, rd ++ [.tuple [.int (f + (0 + (i : Int))), .str "number", .int (0 + (i : Int))]], upd_same, ?_, nLs_app n' (by simp [nLs, nLd]), by rw [List.length_append, l', List.length_singleton]⟩
      exact dpAll_app (dpAll_kp kk _ _ n' (dpAll_sm k1 d')) (.cons (dp_kp kk _ _ (by simp [nLs, nLd]) (.tup (.of upd_same) (.cons (.int _) (.cons (.str _) (.cons (.int _) .nil))))) .nil)
    · rintro H1 ⟨s1, vs, rd, e1, d1, n1, l1⟩
      refine ⟨L, _, rfl, .inl ⟨.of e1, fun p np => ?_⟩⟩
      exact q _ _ rd (s1.trans (same_new np)) (.tup (.of upd_same) (dpAll_sm (same_new np) d1)) n1 (by omega)
section
variable {H0 : Hp} {σ : L2.St}
/-- more[e] -/
theorem mk_more {L : Addr} {vs : List V} {rr : List (List PyData)} {te : TE} {i : Nat} {j : Nat} (h : σ[j]? = some (some (.ref L))) (e : H0 L = some (.lst vs)) (d : DpAll K H0 vs (rr.map .tuple)) (ok : ∀ rd ∈ rr, nLs rd = true ∧ rd.length ≤ 10) (il : i < rr.length) (hte : ∀ H (Q : VK), Q (.int (i : Int)) H → te σ H Q) :
    Mk K H0 σ (fun d => ∃ rd, d = .tuple rd ∧ nLs rd = true ∧ rd.length ≤ 10) (tOp (rIxL K) (tVar j) te) := fun H Q s q => by
  obtain ⟨v, hv, dv⟩ := dpAll_get (i := i) d (by rw [List.getElem?_map, List.getElem?_eq_getElem il]; rfl)
  refine ⟨_, h, hte _ _ ⟨L, vs, _, v, rfl, rfl, .of (s _ _ e), atI_nat hv, q H _ _ (Same.refl _) (dp_sm s dv) ⟨_, rfl, ok _ (List.getElem_mem il)⟩⟩⟩
/-- (e, ()) -/
theorem mk_wayE {t : Nat} {te : TE} (hte : ∀ H (Q : VK), Q (.int (t : Int)) H → te σ H Q) : Mk K H0 σ (fun d => d = wy t []) (tTup (tCons te (tCons (tTup tNil) tNil))) :=
  mk_of (mk_tup (mks_cons (R := fun d => d = .int (t : Int)) (fun H Q s q => hte _ _ (q H _ _ (Same.refl _) (.int _) rfl)) (mks_cons (mk_tup mks_nil) mks_nil))) fun d => by rintro ⟨ds, rfl, _, _, rfl, rfl, _, _, rfl, ⟨us, rfl, rfl⟩, rfl⟩; rfl
end
def sp_nested (K : PySem.W.Frag) : Sp := fun vs H Q _ => ∃ (a : Addr) (ns : List Int) (at_ : Int), vs = [.ref a, .int at_] ∧ Scp K H a ns ∧ 0 ≤ at_ ∧ at_ ≤ 1000 ∧
  ∀ H' r g, Same H H' → Dp K H' r (Gr.d g) → (∃ d, d < 6 ∧ shp g = nest (d + 1)) → (∀ b ∈ g, b.rs.length ≤ 1000 ∧ b.e.small = true) → Q r H'
theorem ok__law_nested (T : Top K mg) : FnOk P w K mg base CX0 2 (He.ga K "_law_nested") T.fd__law_nested ["_law_script", "_law_at"] (sp_nested K) := by
  have G__law_mark := ok__law_mark (P := P) (w := w) (base := base) T
  have G__law_rows_told := ok__law_rows_told (P := P) (w := w) (base := base) T
  refine T.F__law_nested.ok sc__law_nested (fun vs H Q E h => ?_) (fun cdv A outer s H vs Q E hr h => ?_)
  · obtain ⟨a, ns, at_, rfl, _⟩ := h
    rfl
  · obtain ⟨a, ns, at_, rfl, sc, a0, a1, q⟩ := h
    refine ⟨_, PSs.nox (pss_cons (ps_set (i := 2) sc__law_nested.nd rfl (Or.inl rfl) (pe_call G__law_mark (hr.mono (by omega)) (by rfl) T.g__law_mark T.F__law_mark.kp T.b__law_mark .nil pass0 (pa_cons (pv 0) (pa_cons (pv 1) pa_nil))))
        (pss_cons (ps_set (i := 3) sc__law_nested.nd rfl (Or.inl rfl) (pe_op op_add pe_int (pe_op op_mod (pv 2) pe_int)))
        (pss_cons (ps_setLc (i := 4) (own := [("_law_k", 6)]) (by rfl) sc__law_nested.nd rfl rfl (sw_true rfl rfl rfl (by decide +kernel)) (pi_range1 (by rfl) T.m_range (pa_cons (pe_op op_add (pv 3) pe_int) pa_nil)) (blkOk_by (own := [("_law_k", 6)]) (N := N__law_nested) (sc := defScope s__law_nested) (by decide +kernel)) (fun _ _ _ _ _ => (pg_name (i := 6) sc__law_nested.nd rfl (Or.inl rfl))) (fun _ _ _ _ _ => pts_nil) (fun _ _ _ _ _ => (pe_call G__law_rows_told (hr.mono (by omega)) (by rfl) T.g__law_rows_told T.F__law_rows_told.kp T.b__law_rows_told .nil pass0 (pa_cons (pe_op op_mod (pe_call G__law_mark (hr.mono (by omega)) (by rfl) T.g__law_mark T.F__law_mark.kp T.b__law_mark .nil pass0 (pa_cons (pv 0) (pa_cons (pe_op op_add (pe_op op_add (pv 1) pe_int) (pv 6)) pa_nil))) pe_int) (pa_cons (pe_op op_add pe_int (pe_op op_mul pe_int (pv 6))) pa_nil)))))
        (pss_cons (ps_set (i := 5) sc__law_nested.nd rfl (Or.inl rfl) (pe_lst (pa_cons (pe_tup (pa_cons (pe_tup (pa_cons (pe_tup (pa_cons pe_int (pa_cons pe_int pa_nil))) pa_nil)) (pa_cons (pe_ix ix_list (pv 4) pe_int (fun _ _ => rfl)) (pa_cons (pe_tup (pa_cons pe_str (pa_cons (pe_tup (pa_cons pe_int (pa_cons (pe_tup pa_nil) pa_nil))) pa_nil))) pa_nil)))) pa_nil)))
        (pss_cons (ps_for PassesOwn.never (by rfl) (pi_range2 (by rfl) T.m_range (pa_cons pe_int (pa_cons (pe_op op_add (pv 3) pe_int) pa_nil))) (pg_name (i := 6) sc__law_nested.nd rfl (Or.inl rfl)) (pss_cons (ps_set (i := 7) sc__law_nested.nd rfl (Or.inl rfl) (pe_op op_sub (pv 6) pe_int))
        (pss_cons (ps_if (pt_cmpR op_eq (pv 6) pe_int (nomark _)) (pss_one (ps_set (i := 7) sc__law_nested.nd rfl (Or.inl rfl) (pe_op op_add (pv 3) pe_int))) pss_nil)
        (pss_one (ps_expr (pe_bm PySem.F.plainAttrs_list PySem.F.slot_list_append PySem.F.type_list_append mt_append (pv 5) (pa_cons (pe_tup (pa_cons (pe_tup pa_nil) (pa_cons (pe_ix ix_list (pv 4) (pv 6) (fun _ _ => rfl)) (pa_cons (pe_tup (pa_cons pe_str (pa_cons pe_int (pa_cons (pe_tup (pa_cons (pe_op op_add (pv 6) pe_int) (pa_cons (pe_tup pa_nil) pa_nil))) (pa_cons (pe_tup (pa_cons (pv 7) (pa_cons (pe_tup pa_nil) pa_nil))) pa_nil))))) pa_nil)))) pa_nil)))))))
        (pss_cons (ps_expr (pe_bm PySem.F.plainAttrs_list PySem.F.slot_list_append PySem.F.type_list_append mt_append (pv 5) (pa_cons (pe_tup (pa_cons (pe_tup pa_nil) (pa_cons (pe_ix ix_list (pv 4) (pe_op op_add (pv 3) pe_int) (fun _ _ => rfl)) (pa_cons (pe_tup (pa_cons pe_str (pa_cons (pe_tup (pa_cons (pv 3) (pa_cons (pe_tup pa_nil) pa_nil))) pa_nil))) pa_nil)))) pa_nil)))
        (pss_cons (ps_expr (pe_bm PySem.F.plainAttrs_list PySem.F.slot_list_append PySem.F.type_list_append mt_append (pv 5) (pa_cons (pe_tup (pa_cons (pe_tup pa_nil) (pa_cons (pe_ix ix_list (pv 4) (pe_op op_add (pv 3) pe_int) (fun _ _ => rfl)) (pa_cons (pe_tup (pa_cons pe_str (pa_cons pe_int pa_nil))) pa_nil)))) pa_nil)))
        (pss_one (ps_ret (pe_callTy call_tuple_of (by rfl) T.m_tuple (by decide +kernel) (pa_cons (pv 5) pa_nil))))))))))), ?_⟩
    have big : ∀ n : Nat, n ≤ 10000 → n ≤ sizeLine := fun n h => by rw [sizeLine_eq]; omega
    refine ⟨_, rfl, _, rfl, a, ns, at_, rfl, sc.1, sc.2.1, sc.2.2, by omega, by omega, fun m m0 m1 => ?_⟩
    obtain ⟨d0, hd0⟩ : ∃ k : Nat, 1 + m % 6 = ((k + 1 : Nat) : Int) := ⟨(m % 6).toNat, by omega⟩
    have d6 : d0 < 6 := by omega
    refine ⟨_, rfl, _, _, rfl, rfl, (by show (0 : Int) < 6; decide), _, _, rfl, rfl, ?_⟩
    show gName 3 (.int (1 + m % 6)) _ _ _
    rw [hd0]
    refine ⟨_, rfl, _, _, rfl, rfl, _, rfl, by omega, by omega, fun LM nLM => ?_⟩
    refine lc_range (lo := 0) (n := (((d0 + 1 : Nat) : Int) + 3).toNat) (fun i H' => Same H H' ∧ ∃ (vs : List V) (rr : List (List PyData)), H' LM = some (.lst vs) ∧ DpAll K H' vs (rr.map .tuple) ∧ (∀ rd ∈ rr, nLs rd = true ∧ rd.length ≤ 10) ∧ rr.length = i) ?_ ?_ ?_
    · exact ⟨same_new nLM, [], [], upd_same, .nil, (fun _ h => nomatch h), rfl⟩
    · rintro i H' hi ⟨s', vs, rr, e', d', ok', l'⟩
      have lv := dpAll_len d'
      rw [List.length_map] at lv
      have sc' := sc.sm s'
      refine ⟨rfl, _, rfl, _, rfl, _, _, rfl, rfl, _, rfl, _, _, rfl, rfl, a, ns, _, rfl, sc'.1, sc'.2.1, sc'.2.2, by omega, by omega, fun m2 _ _ => ?_⟩
      obtain ⟨k2, hk2⟩ : ∃ k : Nat, m2 % 4 = (k : Int) := ⟨(m2 % 4).toNat, by omega⟩
      refine ⟨_, _, rfl, rfl, (by show (0 : Int) < 4; decide), _, rfl, _, _, rfl, rfl, .inl ⟨by decide, by decide⟩, _, _, rfl, rfl, k2, _, (by show [V.int (m2 % 4), V.int (10 + 10 * (0 + (i : Int)))] = _; rw [hk2]), by omega, fun H2 r rd s2 d2 n2 l2 => ?_⟩
      have e2 := s2 _ _ e'
      have nlr : ∀ (l : List (List PyData)), (∀ rd ∈ l, nLs rd = true ∧ rd.length ≤ 10) → nLs (l.map PyData.tuple) = true := by
        intro l
        induction l with
        | nil => exact fun _ => rfl
        | cons x xs ih =>
          intro h
          rw [List.map_cons, nLs, ih fun y hy => h y (List.mem_cons_of_mem _ hy), nLd, (h x (List.mem_cons_self ..)).1]
          rfl
      have kk : Kp (fun a => a = LM) H2 (upd H2 LM (.lst (vs ++ [r]))) := Kp.upd e2 trivial rfl
      refine ⟨_, e2, by rw [lv, sizeLine_eq]; omega, same_upd (s'.trans s2) nLM, _, rr ++ [rd], upd_same, ?_, fun x hx => ?_, by rw [List.length_append, l', List.length_singleton]⟩
      · rw [List.map_append]
        exact dpAll_app (dpAll_kp kk _ _ (nlr rr ok') (dpAll_sm s2 d')) (.cons (dp_kp kk _ _ (by rw [nLd]; exact n2) d2) .nil)
      · rcases List.mem_append.mp hx with z | z
        · exact ok' x z
        · rw [List.mem_singleton.mp z]
          exact ⟨n2, l2⟩
    rintro H1 ⟨s1, vs, rr, eM, dM, okM, lM⟩
    have lM2 : rr.length = d0 + 4 := by omega
    dsimp only [gName]
    refine seq_by (fun σ' H' => ∃ L b, Same H1 H' ∧ H1 L = none ∧ Bs K H' L [b] ∧ b.rs.length ≤ 1000 ∧ b.e.small = true ∧ b.e.ts = [1] ∧ σ' = [some (.ref a), some (.int at_), some (.int m), some (.int ((d0 + 1 : Nat) : Int)), some (.ref LM), some (.ref L), none, none]) ?_ (fun N hN2 => ?_)
    rotate_left
    · show tLst (tCons _ tNil) _ _ _
      refine mk_lst1 (H0 := H1) (mk_tup (mks_cons (mk_tup (mks_cons (mk_tup (mks_cons mk_int (mks_cons mk_int mks_nil))) mks_nil)) (mks_cons (mk_more (i := 0) rfl eM dM okM (by omega) (fun _ _ h => h)) (mks_cons (mk_tup (mks_cons mk_str (mks_cons (mk_way0 (t := 1)) mks_nil))) mks_nil)))) (Same.refl _) ?_
      rintro H5 L v d s5 nL e5 d5 ⟨ds, rfl, _, _, rfl, ⟨_, rfl, _, _, rfl, ⟨_, rfl, _, _, rfl, rfl, _, _, rfl, rfl, rfl⟩, rfl⟩, _, _, rfl, ⟨rd, rfl, nrd, lrd⟩, _, _, rfl, ⟨_, rfl, _, _, rfl, rfl, _, _, rfl, rfl, rfl⟩, rfl⟩
      refine hN2 _ _ ⟨L, ⟨[.tuple [.int 0, .int 0]], rd, .jump 1 []⟩, s5, nL, ⟨⟨_, e5, .cons d5 .nil⟩, fun b hb => ?_, by simp⟩, by show rd.length ≤ 1000; omega, rfl, rfl, rfl⟩
      rw [List.mem_singleton.mp hb]
      simp [Bk.nl, nLs, nLd, nrd, en_nl]
    rintro σ' H2 ⟨L, b0, s2, nL, bs2, br0, bm0, bt0, rfl⟩
    refine ⟨_, rfl, _, _, rfl, rfl, 1, _, rfl, ⟨by decide, by decide, by omega, by omega⟩, ?_⟩
    refine for_range (lo := 1) (n := (((d0 + 1 : Nat) : Int) + 1 - 1).toNat) (fun i σ' H' => ∃ g x6 x7, Same H1 H' ∧ Bs K H' L g ∧ g.length = i + 1 ∧ shp g = [[1]] ++ ((List.range i).map fun k => [k + 2, if k = 0 then d0 + 1 + 2 else k]) ∧ (∀ b ∈ g, b.rs.length ≤ 1000 ∧ b.e.small = true) ∧ σ' = [some (.ref a), some (.int at_), some (.int m), some (.int ((d0 + 1 : Nat) : Int)), some (.ref LM), some (.ref L), x6, x7]) ?_ ?_ ?_
    · exact ⟨[b0], none, none, s2, bs2, rfl, by show [b0.e.ts] = _; rw [bt0]; rfl, fun b hb => by rw [List.mem_singleton.mp hb]; exact ⟨br0, bm0⟩, rfl⟩
    · rintro i σ' H3 hi ⟨g, x6, x7, s3, bs3, gl, gs, gb, rfl⟩
      have i7 : i < d0 + 1 := by omega
      refine ⟨_, rfl, _, _, rfl, rfl, ?_⟩
      dsimp only [gName]
      refine ifs_by (fun σ' H' => H3 = H' ∧ σ' = [some (.ref a), some (.int at_), some (.int m), some (.int ((d0 + 1 : Nat) : Int)), some (.ref LM), some (.ref L), some (.int (1 + (i : Int))), some (.int ((if i = 0 then d0 + 1 + 2 else i : Nat) : Int))]) ?_ ?_
      rotate_left
      · intro N hN
        refine ⟨_, rfl, rfl, _, rfl, ?_⟩
        by_cases h : i = 0
        · refine ifD (by rw [h]; rfl) ⟨_, rfl, _, _, rfl, rfl, hN _ _ ⟨rfl, ?_⟩⟩
          rw [if_pos h]
          rfl
        · refine ifN (fun z => h (by have := V.int.inj z; omega)) (hN _ _ ⟨rfl, ?_⟩)
          rw [if_neg h]
          show ([some (.ref a), some (.int at_), some (.int m), some (.int ((d0 + 1 : Nat) : Int)), some (.ref LM), some (.ref L), some (.int (1 + (i : Int))), some (.int (1 + (i : Int) - 1))] : L2.St) = _
          rw [show 1 + (i : Int) - 1 = (i : Int) by omega]
      rintro σ' H4 ⟨rfl, rfl⟩
      refine app_block (H0 := H3) (g := g) (i := 5) (R := fun b => b.rs.length ≤ 1000 ∧ b.e.small = true ∧ b.e.ts = [i + 2, if i = 0 then d0 + 1 + 2 else i]) rfl bs3 (by omega) (mk_of (mk_tup (mks_cons (mk_tup mks_nil) (mks_cons (mk_more (i := 1 + i) rfl (s3 _ _ eM) (dpAll_sm s3 dM) okM (by omega) (fun _ _ h => ⟨_, rfl, by rw [show (1 : Int) + (i : Int) = ((1 + i : Nat) : Int) by omega]; exact h⟩)) (mks_cons (mk_tup (mks_cons mk_str (mks_cons mk_int (mks_cons (mk_wayE (t := i + 2) (fun _ _ h => ⟨_, rfl, _, _, rfl, rfl, by dsimp only; rw [show (1 : Int) + (i : Int) + 1 = ((i + 2 : Nat) : Int) by omega]; exact h⟩)) (mks_cons (mk_wayE (t := if i = 0 then d0 + 1 + 2 else i) (fun _ _ h => ⟨_, rfl, h⟩)) mks_nil))))) mks_nil)))) ?_) (Same.refl _) ?_
      · rintro d ⟨_, rfl, _, _, rfl, ⟨_, rfl, rfl⟩, _, _, rfl, ⟨rd, rfl, nrd, lrd⟩, _, _, rfl, ⟨_, rfl, _, _, rfl, rfl, _, _, rfl, rfl, _, _, rfl, rfl, _, _, rfl, rfl, rfl⟩, rfl⟩
        refine ⟨⟨[], rd, .choose 0 (i + 2) (if i = 0 then d0 + 1 + 2 else i) [] []⟩, rfl, ?_, by show rd.length ≤ 1000; omega, rfl, rfl⟩
        simp only [Bk.nl, nLs, nrd, en_nl, Bool.and_self]
      · rintro H5 b sg _ bs5 ⟨hb1, hb2, hb3⟩
        refine ⟨g ++ [b], _, _, sg H1 s3 nL, bs5, by rw [List.length_append, gl, List.length_singleton], ?_, fun c hc => ?_, rfl⟩
        · unfold shp at gs ⊢
          rw [List.map_append, gs, List.range_succ, List.map_append]
          show _ ++ [b.e.ts] = _
          rw [hb3, List.append_assoc]
          rfl
        · rcases List.mem_append.mp hc with z | z
          · exact gb c z
          · rw [List.mem_singleton.mp z]
            exact ⟨hb1, hb2⟩
    · rintro σ' H3 ⟨g, x6, x7, s3, bs3, gl, gs, gb, rfl⟩
      have ne : (((d0 + 1 : Nat) : Int) + 1 - 1).toNat = d0 + 1 := by omega
      rw [ne] at gl gs
      dsimp only
      refine app_block (H0 := H3) (g := g) (i := 5) (R := fun b => b.rs.length ≤ 1000 ∧ b.e.small = true ∧ b.e.ts = [d0 + 1]) rfl bs3 (by omega) (mk_of (mk_tup (mks_cons (mk_tup mks_nil) (mks_cons (mk_more (i := d0 + 2) rfl (s3 _ _ eM) (dpAll_sm s3 dM) okM (by omega) (fun _ _ h => ⟨_, rfl, _, _, rfl, rfl, by dsimp only; rw [show ((d0 + 1 : Nat) : Int) + 1 = ((d0 + 2 : Nat) : Int) by omega]; exact h⟩)) (mks_cons (mk_tup (mks_cons mk_str (mks_cons (mk_wayE (t := d0 + 1) (fun _ _ h => ⟨_, rfl, h⟩)) mks_nil))) mks_nil)))) ?_) (Same.refl _) ?_
      · rintro d ⟨_, rfl, _, _, rfl, ⟨_, rfl, rfl⟩, _, _, rfl, ⟨rd, rfl, nrd, lrd⟩, _, _, rfl, ⟨_, rfl, _, _, rfl, rfl, _, _, rfl, rfl, rfl⟩, rfl⟩
        refine ⟨⟨[], rd, .jump (d0 + 1) []⟩, rfl, ?_, by show rd.length ≤ 1000; omega, rfl, rfl⟩
        simp only [Bk.nl, nLs, nrd, en_nl, Bool.and_self]
      rintro H4 b1 sg4 _ bs4 ⟨hb1, hb2, hb3⟩
      have s4 := sg4 H1 s3 nL
      dsimp only
      refine app_block (H0 := H4) (g := g ++ [b1]) (i := 5) (R := fun b => b.rs.length ≤ 1000 ∧ b.e.small = true ∧ b.e.ts = []) rfl bs4 (by rw [List.length_append, List.length_singleton]; omega) (mk_of (mk_tup (mks_cons (mk_tup mks_nil) (mks_cons (mk_more (i := d0 + 3) rfl (s4 _ _ eM) (dpAll_sm s4 dM) okM (by omega) (fun _ _ h => ⟨_, rfl, _, _, rfl, rfl, by dsimp only; rw [show ((d0 + 1 : Nat) : Int) + 2 = ((d0 + 3 : Nat) : Int) by omega]; exact h⟩)) (mks_cons (mk_tup (mks_cons mk_str (mks_cons mk_int mks_nil))) mks_nil)))) ?_) (Same.refl _) ?_
      · rintro d ⟨_, rfl, _, _, rfl, ⟨_, rfl, rfl⟩, _, _, rfl, ⟨rd, rfl, nrd, lrd⟩, _, _, rfl, ⟨_, rfl, _, _, rfl, rfl, _, _, rfl, rfl, rfl⟩, rfl⟩
        refine ⟨⟨[], rd, .give 0⟩, rfl, ?_, by show rd.length ≤ 1000; omega, rfl, rfl⟩
        simp only [Bk.nl, nLs, nrd, en_nl, Bool.and_self]
      rintro H5 b2 sg5 _ bs5 ⟨hc1, hc2, hc3⟩
      have s5 := sg5 H1 s4 nL
      dsimp only
      refine mk_blocks (H0 := H5) (i := 5) rfl bs5 H5 _ (Same.refl _) ?_
      rintro H6 x d s6 d6' rfl
      refine q H6 x _ ((s1.trans s5).trans s6) d6' ⟨d0, d6, ?_⟩ fun c hc => ?_
      · unfold shp at gs ⊢
        rw [List.map_append, List.map_append, gs]
        show _ ++ [b1.e.ts] ++ [b2.e.ts] = _
        rw [hb3, hc3]
        unfold nest
        rw [List.append_assoc]
        rfl
      · rcases List.mem_append.mp hc with z | z
        · rcases List.mem_append.mp z with z | z
          · exact gb c z
          · rw [List.mem_singleton.mp z]
            exact ⟨hb1, hb2⟩
        · rw [List.mem_singleton.mp z]
          exact ⟨hc1, hc2⟩
end

section
variable {P : Program} {w : World} {K : PySem.W.Frag} {mg : Str → Option Value} {base : Heap}
def pick2 (K : PySem.W.Frag) (f : Addr) (sp : Sp) : Prop := (f = He.ga K "_law_straight" ∧ sp = sp_gr K [[]]) ∨ (f = He.ga K "_law_diamond" ∧ sp = sp_gr K [[1, 2], [3], [3], []])
def pick3 (K : PySem.W.Frag) (f : Addr) (sp : Sp) : Prop := (f = He.ga K "_law_straight" ∧ sp = sp_gr K [[]]) ∨ (f = He.ga K "_law_diamond" ∧ sp = sp_gr K [[1, 2], [3], [3], []]) ∨ (f = He.ga K "_law_loop" ∧ sp = sp_gr K [[1], [2, 3], [1], []])
theorem okS_use {s : Shp} (h : okS s = true) : okT s ∧ ∃ lp, loopP s = some lp ∧ ∀ x, x < s.length → deepL s x = some (deepP lp x) := by
  unfold okS at h
  rw [Bool.and_eq_true, Bool.and_eq_true, Bool.and_eq_true] at h
  obtain ⟨⟨⟨h1, h2⟩, h3⟩, h4⟩ := h
  refine ⟨⟨of_decide_eq_true h1, fun l hl t ht => ?_, of_decide_eq_true h3⟩, ?_⟩
  · have a := List.all_eq_true.mp h2 l hl
    exact of_decide_eq_true (List.all_eq_true.mp a t ht)
  · cases hl : loopP s with
    | none => rw [hl] at h4; cases h4
    | some lp =>
      rw [hl] at h4
      refine ⟨lp, rfl, fun x hx => ?_⟩
      exact of_decide_eq_true (List.all_eq_true.mp h4 x (List.mem_range.mpr hx))
def GrS (g : Gr) : Prop := okS (shp g) = true ∧ ∀ b ∈ g, b.rs.length ≤ 1000 ∧ b.e.small = true
def sp_works (K : PySem.W.Frag) : Sp := fun vs H Q _ => ∃ (a : Addr) (ns : List Int) (at_ : Int), vs = [.ref a, .int at_] ∧ Scp K H a ns ∧ 0 ≤ at_ ∧ at_ ≤ 500 ∧
  ∀ H' pr vw vz g1 g2, Same H H' → SqT K H' pr [vw, vz] → Dp K H' vw (Wk g1 g2) → GrS g1 → GrS g2 → Q (.ref pr) H'
theorem ok__law_works_by (T : Top K mg) : FnOk P w K mg base CX0 5 (He.ga K "_law_works_by") T.fd__law_works_by ["_law_script", "_law_at"] (sp_works K) := by
  have G__law_mark := ok__law_mark (P := P) (w := w) (base := base) T
  have G__law_straight := ok__law_straight (P := P) (w := w) (base := base) T
  have G__law_diamond := ok__law_diamond (P := P) (w := w) (base := base) T
  have G__law_loop := ok__law_loop (P := P) (w := w) (base := base) T
  have G__law_caller := ok__law_caller (P := P) (w := w) (base := base) T
  refine T.F__law_works_by.ok sc__law_works_by (fun vs H Q E h => ?_) (fun cdv A outer s H vs Q E hr h => ?_)
  · obtain ⟨a, ns, at_, rfl, _⟩ := h
    rfl
  · obtain ⟨a, ns, at_, rfl, sc, a0, a1, q⟩ := h
    refine ⟨_, PSs.nox (pss_cons (ps_set (i := 2) sc__law_works_by.nd rfl (Or.inl rfl) (pe_call G__law_mark (hr.mono (by omega)) (by rfl) T.g__law_mark T.F__law_mark.kp T.b__law_mark .nil pass0 (pa_cons (pv 0) (pa_cons (pv 1) pa_nil))))
        (pss_cons (ps_set (i := 3) sc__law_works_by.nd rfl (Or.inl rfl) (pe_op op_add pe_int (pe_op op_mod (pv 2) pe_int)))
        (pss_cons (ps_set (i := 4) sc__law_works_by.nd rfl (Or.inl rfl) (pe_op op_mod (pe_op op_fdivW (pv 2) pe_int) pe_int))
        (pss_cons (ps_set (i := 5) sc__law_works_by.nd rfl (Or.inl rfl) (pe_pick (C := pick2 K) (fun f sp h => h.elim (fun z => by obtain ⟨rfl, rfl⟩ := z; exact ⟨⟨_, _, _, G__law_straight, hr.mono (by omega), T.F__law_straight.kp, T.b__law_straight⟩⟩) (fun z => by obtain ⟨rfl, rfl⟩ := z; exact ⟨⟨_, _, _, G__law_diamond, hr.mono (by omega), T.F__law_diamond.kp, T.b__law_diamond⟩⟩)) (pe_ix ix_list (pe_lst (pa_cons (pe_glob (v := .ref (He.ga K "_law_straight")) (by rfl) T.g__law_straight rfl) (pa_cons (pe_glob (v := .ref (He.ga K "_law_diamond")) (by rfl) T.g__law_diamond rfl) pa_nil))) (pe_op op_mod (pe_op op_fdivW (pv 2) pe_int) pe_int) (fun _ _ => rfl)) (pa_cons (pv 0) (pa_cons (pe_op op_add (pv 1) pe_int) (pa_cons (pv 3) pa_nil)))))
        (pss_cons (ps_set (i := 6) sc__law_works_by.nd rfl (Or.inl rfl) (pe_op op_mod (pe_op op_fdivW (pv 2) pe_int) pe_int))
        (pss_cons (ps_if (pt_cmpR op_eq (pv 6) pe_int (nomark _)) (pss_one (ps_set (i := 7) sc__law_works_by.nd rfl (Or.inl rfl) (pe_call G__law_caller (hr.mono (by omega)) (by rfl) T.g__law_caller T.F__law_caller.kp T.b__law_caller .nil pass0 (pa_cons (pv 0) (pa_cons (pe_op op_add (pv 1) pe_int) (pa_cons (pv 4) (pa_cons (pv 3) pa_nil))))))) (pss_one (ps_set (i := 7) sc__law_works_by.nd rfl (Or.inl rfl) (pe_pick (C := pick3 K) (fun f sp h => h.elim (fun z => by obtain ⟨rfl, rfl⟩ := z; exact ⟨⟨_, _, _, G__law_straight, hr.mono (by omega), T.F__law_straight.kp, T.b__law_straight⟩⟩) (fun h => h.elim (fun z => by obtain ⟨rfl, rfl⟩ := z; exact ⟨⟨_, _, _, G__law_diamond, hr.mono (by omega), T.F__law_diamond.kp, T.b__law_diamond⟩⟩) (fun z => by obtain ⟨rfl, rfl⟩ := z; exact ⟨⟨_, _, _, G__law_loop, hr.mono (by omega), T.F__law_loop.kp, T.b__law_loop⟩⟩))) (pe_ix ix_list (pe_lst (pa_cons (pe_glob (v := .ref (He.ga K "_law_straight")) (by rfl) T.g__law_straight rfl) (pa_cons (pe_glob (v := .ref (He.ga K "_law_diamond")) (by rfl) T.g__law_diamond rfl) (pa_cons (pe_glob (v := .ref (He.ga K "_law_loop")) (by rfl) T.g__law_loop rfl) pa_nil)))) (pv 6) (fun _ _ => rfl)) (pa_cons (pv 0) (pa_cons (pe_op op_add (pv 1) pe_int) (pa_cons (pv 4) pa_nil)))))))
        (pss_one (ps_ret (pe_tup (pa_cons (pe_tup (pa_cons (pe_tup (pa_cons (pe_tup (pa_cons pe_str (pa_cons (pe_ix ix_tup (pv 5) pe_int (fun _ _ => rfl)) pa_nil))) pa_nil)) (pa_cons (pe_ix ix_tup (pv 7) pe_int (fun _ _ => rfl)) pa_nil))) (pa_cons (pe_lst (pa_cons (pe_ix ix_tup (pv 5) pe_int (fun _ _ => rfl)) (pa_cons (pe_ix ix_tup (pv 7) pe_int (fun _ _ => rfl)) pa_nil))) pa_nil))))))))))), ?_⟩
    have big : ∀ n : Nat, n ≤ 10000 → n ≤ sizeLine := fun n h => by rw [sizeLine_eq]; omega
    refine ⟨_, rfl, _, rfl, a, ns, at_, rfl, sc.1, sc.2.1, sc.2.2, by omega, by omega, fun m m0 m1 => ?_⟩
    obtain ⟨many, hm⟩ : ∃ k : Nat, 1 + m % 2 = (k : Int) := ⟨(1 + m % 2).toNat, by omega⟩
    obtain ⟨inp, hi⟩ : ∃ k : Nat, m / 2 % 3 = (k : Int) := ⟨(m / 2 % 3).toNat, by omega⟩
    refine ⟨_, rfl, _, _, rfl, rfl, (by show (0 : Int) < 2; decide), _, _, rfl, rfl, ?_⟩
    refine ⟨_, rfl, _, _, rfl, rfl, cd (by decide) (by decide), _, _, rfl, rfl, (by show (0 : Int) < 3; decide), ?_⟩
    dsimp only [gName]
    rw [hm, hi]
    -- the helper
    refine seq_by (fun σ' H' => ∃ pr vg vz g, Same H H' ∧ SqT K H' pr [vg, vz] ∧ Dp K H' vg (Gr.d g) ∧ GrS g ∧ σ' = [some (.ref a), some (.int at_), some (.int m), some (.int (many : Int)), some (.int (inp : Int)), some (.ref pr), none, none]) ?_ (fun N hN => ?_)
    rotate_left
    · refine ⟨big 2 (by decide), fun L nL => ?_⟩
      have kL := same_new (o := .lst [.ref (He.ga K "_law_straight"), .ref (He.ga K "_law_diamond")]) nL
      have fin : ∀ (sh : Shp), okS sh = true → sp_gr K sh [.ref a, .int (at_ + 1), .int (many : Int)] (upd H L (.lst [.ref (He.ga K "_law_straight"), .ref (He.ga K "_law_diamond")])) (fun v H' => N [some (.ref a), some (.int at_), some (.int m), some (.int (many : Int)), some (.int (inp : Int)), some v, none, none] H') E0 := by
        intro sh hsh
        refine ⟨a, ns, at_ + 1, many, rfl, sc.sm kL, by omega, by omega, by omega, fun H' pr vg vz g s' h' d' hs' hb' => ?_⟩
        exact hN _ _ ⟨pr, vg, vz, g, kL.trans s', h', d', ⟨by rw [hs']; exact hsh, hb'⟩, rfl⟩
      have ix : ∃ k : Nat, m / 8 % 2 = (k : Int) ∧ k < 2 := ⟨(m / 8 % 2).toNat, by omega, by omega⟩
      obtain ⟨k, hk, k2⟩ := ix
      have : k = 0 ∨ k = 1 := by omega
      rcases this with rfl | rfl
      · exact ⟨_, rfl, _, _, rfl, rfl, cd (by decide) (by decide), _, _, rfl, rfl, (by show (0 : Int) < 2; decide), L, _, _, .ref (He.ga K "_law_straight"), rfl, rfl, .of upd_same, (by show atI _ (m / 8 % 2) = _; rw [hk]; rfl), _, _, rfl, .inl ⟨rfl, rfl⟩, _, rfl, _, rfl, _, _, rfl, rfl, _, rfl, fin _ ok_straight⟩
      · exact ⟨_, rfl, _, _, rfl, rfl, cd (by decide) (by decide), _, _, rfl, rfl, (by show (0 : Int) < 2; decide), L, _, _, .ref (He.ga K "_law_diamond"), rfl, rfl, .of upd_same, (by show atI _ (m / 8 % 2) = _; rw [hk]; rfl), _, _, rfl, .inr ⟨rfl, rfl⟩, _, rfl, _, rfl, _, _, rfl, rfl, _, rfl, fin _ ok_diamond⟩
    rintro σ' H1 ⟨pr1, vg1, vz1, g1, s1, h1, d1, ok1, rfl⟩
    refine ⟨_, rfl, _, _, rfl, rfl, cd (by decide) (by decide), _, _, rfl, rfl, (by show (0 : Int) < 4; decide), ?_⟩
    dsimp only [gName]
    refine ifs_by (fun σ' H' => ∃ pr vg vz g, Same H1 H' ∧ SqT K H' pr [vg, vz] ∧ Dp K H' vg (Gr.d g) ∧ GrS g ∧ σ' = [some (.ref a), some (.int at_), some (.int m), some (.int (many : Int)), some (.int (inp : Int)), some (.ref pr1), some (.int (m / 16 % 4)), some (.ref pr)]) ?_ ?_
    rotate_left
    · intro N hN
      refine ⟨_, rfl, rfl, _, rfl, ite2 (fun _ => ?_) (fun g3 => ?_)⟩
      · refine ⟨_, rfl, _, rfl, _, _, rfl, rfl, _, rfl, _, rfl, a, ns, at_ + 13, inp, many, rfl, sc.sm s1, by omega, by omega, by omega, by omega, fun H' pr vg vz g s' h' d' hs' hb' => ?_⟩
        exact hN _ _ ⟨pr, vg, vz, g, s', h', d', ⟨by rw [hs']; exact ok_caller, hb'⟩, rfl⟩
      · refine ⟨big 3 (by decide), fun L nL => ?_⟩
        have kL := same_new (o := .lst [.ref (He.ga K "_law_straight"), .ref (He.ga K "_law_diamond"), .ref (He.ga K "_law_loop")]) nL
        have fin : ∀ (sh : Shp), okS sh = true → sp_gr K sh [.ref a, .int (at_ + 13), .int (inp : Int)] (upd H1 L (.lst [.ref (He.ga K "_law_straight"), .ref (He.ga K "_law_diamond"), .ref (He.ga K "_law_loop")])) (fun v H' => N [some (.ref a), some (.int at_), some (.int m), some (.int (many : Int)), some (.int (inp : Int)), some (.ref pr1), some (.int (m / 16 % 4)), some v] H') E0 := by
          intro sh hsh
          refine ⟨a, ns, at_ + 13, inp, rfl, (sc.sm s1).sm kL, by omega, by omega, by omega, fun H' pr vg vz g s' h' d' hs' hb' => ?_⟩
          exact hN _ _ ⟨pr, vg, vz, g, kL.trans s', h', d', ⟨by rw [hs']; exact hsh, hb'⟩, rfl⟩
        have n3 : m / 16 % 4 ≠ 3 := fun z => g3 (by rw [show (V.int (m / 16 % 4)) = V.int 3 by rw [z]]; rfl)
        obtain ⟨k, hk, k2⟩ : ∃ k : Nat, m / 16 % 4 = (k : Int) ∧ k < 3 := ⟨(m / 16 % 4).toNat, by omega, by omega⟩
        have : k = 0 ∨ k = 1 ∨ k = 2 := by omega
        rcases this with rfl | rfl | rfl
        · exact ⟨_, rfl, L, _, _, .ref (He.ga K "_law_straight"), rfl, rfl, .of upd_same, (by show atI _ (m / 16 % 4) = _; rw [hk]; rfl), _, _, rfl, .inl ⟨rfl, rfl⟩, _, rfl, _, rfl, _, _, rfl, rfl, _, rfl, fin _ ok_straight⟩
        · exact ⟨_, rfl, L, _, _, .ref (He.ga K "_law_diamond"), rfl, rfl, .of upd_same, (by show atI _ (m / 16 % 4) = _; rw [hk]; rfl), _, _, rfl, .inr (.inl ⟨rfl, rfl⟩), _, rfl, _, rfl, _, _, rfl, rfl, _, rfl, fin _ ok_diamond⟩
        · exact ⟨_, rfl, L, _, _, .ref (He.ga K "_law_loop"), rfl, rfl, .of upd_same, (by show atI _ (m / 16 % 4) = _; rw [hk]; rfl), _, _, rfl, .inr (.inr ⟨rfl, rfl⟩), _, rfl, _, rfl, _, _, rfl, rfl, _, rfl, fin _ ok_loop⟩
    rintro σ' H2 ⟨pr2, vg2, vz2, g2, s2, h2, d2, ok2, rfl⟩
    have mkI : ∀ {i : Nat} {j : Nat} {p : Addr} {x y z : V} {d : PyData} (σ : L2.St), σ[i]? = some (some (.ref p)) → SqT K H2 p [x, y] → [x, y][j]? = some z → Dp K H2 z d → Mk K H2 σ (fun e => e = d) (tOp (rIxT K) (tVar i) (tC (.int (j : Int)))) := fun σ hσ hp hj hd H' Q' s' q' => ⟨_, hσ, _, _, _, _, rfl, rfl, sqT_sm s' hp, atI_nat hj, q' _ _ _ (Same.refl _) (dp_sm s' hd) rfl⟩
    have mvI : ∀ {i : Nat} {j : Nat} {p : Addr} {x y z : V} (σ : L2.St), σ[i]? = some (some (.ref p)) → SqT K H2 p [x, y] → [x, y][j]? = some z → Mv H2 σ (tOp (rIxT K) (tVar i) (tC (.int (j : Int)))) := fun σ hσ hp hj H' Q' s' q' => ⟨_, hσ, _, _, _, _, rfl, rfl, sqT_sm s' hp, atI_nat hj, q' _ _ (Same.refl _)⟩
    show tTup (tCons _ (tCons _ tNil)) _ _ _
    refine mk_pair (H0 := H2) (mk_tup (mks_cons (mk_tup (mks_cons (mk_tup (mks_cons mk_str (mks_cons (mkI (j := 0) _ rfl (sqT_sm s2 h1) rfl (dp_sm s2 d1)) mks_nil))) mks_nil)) (mks_cons (mkI (j := 0) _ rfl h2 rfl d2) mks_nil))) (mv_lst (mvs_cons (mvI (j := 1) _ rfl (sqT_sm s2 h1) rfl) (mvs_cons (mvI (j := 1) _ rfl h2 rfl) mvs_nil))) (Same.refl _) ?_
    rintro H3 p x y d s3 h3 d3 ⟨_, rfl, _, _, rfl, ⟨_, rfl, _, _, rfl, ⟨_, rfl, _, _, rfl, rfl, _, _, rfl, rfl, rfl⟩, rfl⟩, _, _, rfl, rfl, rfl⟩
    exact q H3 p x y g1 g2 ((s1.trans s2).trans s3) h3 d3 ok1 ok2
end

section
variable {P : Program} {w : World} {K : PySem.W.Frag} {mg : Str → Option Value} {base : Heap}
def sp_law (K : PySem.W.Frag) : Sp := fun vs H Q _ => ∃ (a : Addr) (ns : List Int), vs = [.ref a] ∧ Scp K H a ns ∧ ∀ H', Q (.bl true) H'
theorem law_start {K : PySem.W.Frag} {H : Hp} {a : Addr} {ns : List Int} (hl : ns.length ≤ 63) (hb : ∀ z ∈ ns, Builtin.Int.intBits z ≤ 1048576) (hS : SqL K H a (ns.map V.int)) : sp_law K [.ref a] H (fun v _ => v = .bl true) fun _ _ _ => False := ⟨a, ns, rfl, ⟨hl, hb, hS⟩, fun _ => rfl⟩
theorem ok_law (T : Top K mg) : FnOk P w K mg base CX0 60 (He.ga K "law") T.fd_law ["_law_script"] (sp_law K) := by
  have G__law_works_by := ok__law_works_by (P := P) (w := w) (base := base) T
  have G__law_nested := ok__law_nested (P := P) (w := w) (base := base) T
  have G_measure := ok_measure (P := P) (w := w) (base := base) T
  have G__law_weight := ok__law_weight (P := P) (w := w) (base := base) T
  refine T.F_law.ok sc_law (fun vs H Q E h => ?_) (fun cdv A outer s H vs Q E hr h => ?_)
  · obtain ⟨a, ns, rfl, _⟩ := h
    rfl
  · obtain ⟨a, ns, rfl, sc, q⟩ := h
    refine ⟨_, PSs.nox (pss_cons (ps_asg (pe_call G__law_works_by (hr.mono (by omega)) (by rfl) T.g__law_works_by T.F__law_works_by.kp T.b__law_works_by .nil pass0 (pa_cons (pv 0) (pa_cons pe_int pa_nil))) (pg_tup (n := 2) (by rfl) (pgs_cons (pg_name (i := 1) sc_law.nd rfl (Or.inl rfl)) (pgs_cons (pg_name (i := 2) sc_law.nd rfl (Or.inl rfl)) pgs_nil))))
        (pss_cons (ps_set (i := 3) sc_law.nd rfl (Or.inl rfl) (pe_tup (pa_cons (pe_ix ix_tup (pv 1) pe_int (fun _ _ => rfl)) (pa_cons (pe_call G__law_nested (hr.mono (by omega)) (by rfl) T.g__law_nested T.F__law_nested.kp T.b__law_nested .nil pass0 (pa_cons (pv 0) (pa_cons pe_int pa_nil))) pa_nil))))
        (pss_cons (ps_for PassesOwn.never (by rfl) (pi_tup (pe_tup (pa_cons (pv 1) (pa_cons (pv 3) pa_nil)))) (pg_name (i := 4) sc_law.nd rfl (Or.inl rfl)) (pss_cons (ps_set (i := 5) sc_law.nd rfl (Or.inl rfl) (pe_call G_measure (hr.mono (by omega)) (by rfl) T.g_measure T.F_measure.kp T.b_measure .nil pass0 (pa_cons (pv 4) pa_nil)))
        (pss_cons (ps_set (i := 6) sc_law.nd rfl (Or.inl rfl) (pe_op op_add (pe_callB (cr_sum (by rfl)) (by rfl) T.m_sum (by decide +kernel) (pa_cons (pe_lc (own := [("_law_name", 7), ("_law_graph", 8)]) (by rfl) sc_law.nd (pi_tup (pe_ix ix_tup (pv 4) pe_int (fun _ _ => rfl))) (blkOk_by (own := [("_law_name", 7), ("_law_graph", 8)]) (N := N_law) (sc := defScope s_law) (by decide +kernel)) (fun _ _ _ _ _ => (pg_tupK (K := K) (n := 2) rfl (by rfl) (pgs_cons (pg_name (i := 7) sc_law.nd rfl (Or.inl rfl)) (pgs_cons (pg_name (i := 8) sc_law.nd rfl (Or.inl rfl)) pgs_nil)))) (fun _ _ _ _ _ => pts_nil) (fun _ _ _ _ _ => (pe_call G__law_weight (hr.mono (by omega)) (by rfl) T.g__law_weight T.F__law_weight.kp T.b__law_weight .nil pass0 (pa_cons (pv 8) pa_nil)))) pa_nil)) (pe_call G__law_weight (hr.mono (by omega)) (by rfl) T.g__law_weight T.F__law_weight.kp T.b__law_weight .nil pass0 (pa_cons (pe_ix ix_tup (pv 4) pe_int (fun _ _ => rfl)) pa_nil))))
        (pss_one (ps_if (PW.pt (pw_or (pt_not (pt_val (pe_callB call_isi (by rfl) T.m_isinstance (by decide +kernel) (pa_cons (pv 5) (pa_cons (pe_bltn (v := .ty "int") (by rfl) T.m_int (by decide +kernel) rfl) pa_nil))))) (pw_or (pt_val (pe_callB call_isi (by rfl) T.m_isinstance (by decide +kernel) (pa_cons (pv 5) (pa_cons (pe_bltn (v := .ty "bool") (by rfl) T.m_bool (by decide +kernel) rfl) pa_nil)))) (pw_or1 (pt_cmpR op_ne (pv 5) (pv 6) (nomark _)))))) (pss_one (ps_ret pe_bl)) pss_nil)))))
        (pss_one (ps_ret pe_bl))))), ?_⟩
    have big : ∀ n : Nat, n ≤ 10000 → n ≤ sizeLine := fun n h => by rw [sizeLine_eq]; omega
    refine ⟨_, rfl, a, ns, 1, rfl, sc, by decide, by decide, fun H1 pr vw vz g1 g2 s1 h1 d1 ok1 ok2 => ?_⟩
    refine ⟨pr, _, rfl, h1, rfl, _, _, rfl, _, _, rfl, rfl, ?_⟩
    obtain ⟨pw, xs, rfl, hpw, da⟩ := dp_tup d1
    obtain ⟨x0, r0, rfl, d0, e0⟩ := dpAll_cons da
    obtain ⟨x1, r1, rfl, dx1, e1⟩ := dpAll_cons e0
    cases dpAll_nil e1
    refine ⟨_, rfl, pw, _, 0, _, rfl, rfl, hpw, atI_nat (j := 0) rfl, _, rfl, a, ns, 40, rfl, sc.sm s1, by decide, by decide, fun H2 r gN s2 d2 shN bN => ?_⟩
    obtain ⟨dd, dd6, hdd⟩ := shN
    have okN : GrS gN := ⟨by rw [hdd]; exact ok_nest dd dd6, bN⟩
    refine ⟨big 2 (by decide), fun pn npn => ?_⟩
    have k3 := same_new (o := .tup [x0, r]) npn
    have dW : Dp K (upd H2 pn (.tup [x0, r])) (.ref pw) (Wk g1 g2) := dp_sm (s2.trans k3) d1
    have dN : Dp K (upd H2 pn (.tup [x0, r])) (.ref pn) (Wk g1 gN) := .tup (.of upd_same) (.cons (dp_sm (s2.trans k3) d0) (.cons (dp_sm k3 d2) .nil))
    refine ⟨_, rfl, _, rfl, big 2 (by decide), fun T2 nT2 => ⟨T2, rfl, ⟨_, .of upd_same⟩, ?_⟩⟩
    have k4 := same_new (o := .tup [.ref pw, .ref pn]) nT2
    refine for_tup (K := K) (xs := [.ref pw, .ref pn]) (fun j σ' H' => Same (upd (upd H2 pn (.tup [x0, r])) T2 (.tup [.ref pw, .ref pn])) H' ∧ ∃ x4 x5 x6, σ' = [some (.ref a), some (.ref pw), some vz, some (.ref pn), x4, x5, x6, none, none]) ?_ ?_ ?_ ?_
    · exact ⟨Same.refl _, none, none, none, rfl⟩
    · rintro j σ' H' _ ⟨s', _⟩
      exact sqT_sm s' (.of upd_same)
    · rintro j v σ' H4 hv ⟨s4, x4, x5, x6, rfl⟩
      obtain ⟨ga, gb, dv, oka, okb⟩ : ∃ ga gb, Dp K H4 v (Wk ga gb) ∧ GrS ga ∧ GrS gb := by
        have jl := (List.getElem?_eq_some_iff.mp hv).1
        have : j = 0 ∨ j = 1 := by
          simp at jl
          omega
        rcases this with rfl | rfl
        · cases hv
          exact ⟨g1, g2, dp_sm (k4.trans s4) dW, ok1, ok2⟩
        · cases hv
          exact ⟨g1, gN, dp_sm (k4.trans s4) dN, ok1, okN⟩
      obtain ⟨ta, lpa, hla, hda⟩ := okS_use oka.1
      obtain ⟨tb, lpb, hlb, hdb⟩ := okS_use okb.1
      rw [shp_len] at hda hdb
      refine ⟨_, rfl, v, ga, gb, lpa, lpb, rfl, dv, ⟨ta, oka.2⟩, ⟨tb, okb.2⟩, hla, hlb, fun H5 s5 => ?_⟩
      have dv5 := dp_sm s5 dv
      obtain ⟨p, ys, rfl, hp, dy⟩ := dp_tup dv5
      obtain ⟨y0, t0, rfl, f0, m0⟩ := dpAll_cons dy
      obtain ⟨y1, t1, rfl, f1, m1⟩ := dpAll_cons m0
      cases dpAll_nil m1
      obtain ⟨p0, zs, rfl, hp0, dz⟩ := dp_tup f0
      obtain ⟨z0, u0, rfl, i0, i1⟩ := dpAll_cons dz
      cases dpAll_nil i1
      obtain ⟨p1, ws, rfl, hp1, dw⟩ := dp_tup i0
      obtain ⟨w0, v0, rfl, j0, j1⟩ := dpAll_cons dw
      obtain ⟨w1, v1, rfl, l0, l1⟩ := dpAll_cons j1
      cases dpAll_nil l1
      refine ⟨_, rfl, p, _, 0, _, rfl, rfl, hp, atI_nat (j := 0) rfl, p0, rfl, ⟨_, hp0⟩, fun D nD => ?_⟩
      refine lc_tup (K := K) (xs := [.ref p1]) (fun i H' => Same H5 H' ∧ H' D = some (.lst (([wgt (lens ga) (deepP lpa) ga.length].take i).map V.int))) ?_ ?_ ?_ ?_
      · exact ⟨same_new nD, upd_same⟩
      · rintro i H' _ ⟨s', _⟩
        exact sqT_sm s' hp0
      · rintro i x H6 hx ⟨s6, e6⟩
        have i0' : i = 0 := by
          have := (List.getElem?_eq_some_iff.mp hx).1
          simp at this
          exact this
        subst i0'
        cases hx
        refine ⟨p1, _, rfl, sqT_sm s6 hp1, rfl, _, _, rfl, _, _, rfl, rfl, rfl, ?_⟩
        refine ⟨_, rfl, _, ga, deepP lpa, rfl, ⟨dp_sm s6 l0, ta, oka.2⟩, hda, fun H7 s7 => ?_⟩
        exact ⟨_, s7 _ _ e6, by rw [sizeLine_eq]; simp, same_upd (s6.trans s7) nD, upd_same⟩
      · rintro H6 ⟨s6, e6⟩
        refine ⟨D, _, rfl, .of e6, ?_⟩
        refine ⟨_, rfl, p, _, 1, _, rfl, rfl, sqT_sm s6 hp, atI_nat (j := 1) rfl, _, gb, deepP lpb, rfl, ⟨dp_sm s6 f1, tb, okb.2⟩, hdb, fun H7 s7 => ?_⟩
        refine ⟨_, _, rfl, rfl, ?_⟩
        dsimp only [gName]
        have se : (([wgt (lens ga) (deepP lpa) ga.length].take [V.ref p1].length)).sum = wgt (lens ga) (deepP lpa) ga.length := by simp
        refine ⟨_, rfl, _, _, _, _, true, rfl, .ty _, .base (.int _), kit_ty (by decide +kernel), _, rfl, ?_⟩
        refine ⟨_, rfl, _, _, _, _, false, rfl, .ty _, .base (.int _), kit_ty (by decide +kernel), _, rfl, ?_⟩
        refine ⟨_, rfl, _, rfl, rfl, _, rfl, ?_⟩
        refine ifNF (by rw [se]) ?_
        exact ⟨((s4.trans s5).trans s6).trans s7, _, _, _, rfl⟩
    · rintro σ' H4 ⟨s4, x4, x5, x6, rfl⟩
      exact q _
end

def d_ways : He.DefD := ⟨("ways", none), "ways", "ways", defArgs s_ways, defBody s_ways, defScope s_ways, [], []⟩
def d_leads_to : He.DefD := ⟨("leads_to", none), "leads_to", "leads_to", defArgs s_leads_to, defBody s_leads_to, defScope s_leads_to, [], []⟩
def d_elders : He.DefD := ⟨("elders", none), "elders", "elders", defArgs s_elders, defBody s_elders, defScope s_elders, [], []⟩
def d_blocks_back : He.DefD := ⟨("blocks_back", none), "blocks_back", "blocks_back", defArgs s_blocks_back, defBody s_blocks_back, defScope s_blocks_back, [], []⟩
def d_loops : He.DefD := ⟨("loops", none), "loops", "loops", defArgs s_loops, defBody s_loops, defScope s_loops, [], []⟩
def d_weight : He.DefD := ⟨("weight", none), "weight", "weight", defArgs s_weight, defBody s_weight, defScope s_weight, [], []⟩
def d_measure : He.DefD := ⟨("measure", none), "measure", "measure", defArgs s_measure, defBody s_measure, defScope s_measure, [], []⟩
def d__law_mark : He.DefD := ⟨("_law_mark", none), "_law_mark", "_law_mark", defArgs s__law_mark, defBody s__law_mark, defScope s__law_mark, [], []⟩
def d__law_number_by : He.DefD := ⟨("_law_number_by", none), "_law_number_by", "_law_number_by", defArgs s__law_number_by, defBody s__law_number_by, defScope s__law_number_by, [], []⟩
def d__law_row_by : He.DefD := ⟨("_law_row_by", none), "_law_row_by", "_law_row_by", defArgs s__law_row_by, defBody s__law_row_by, defScope s__law_row_by, [], []⟩
def d__law_rows_by : He.DefD := ⟨("_law_rows_by", none), "_law_rows_by", "_law_rows_by", defArgs s__law_rows_by, defBody s__law_rows_by, defScope s__law_rows_by, [], []⟩
def d__law_last : He.DefD := ⟨("_law_last", none), "_law_last", "_law_last", defArgs s__law_last, defBody s__law_last, defScope s__law_last, [], []⟩
def d__law_end_by : He.DefD := ⟨("_law_end_by", none), "_law_end_by", "_law_end_by", defArgs s__law_end_by, defBody s__law_end_by, defScope s__law_end_by, [], []⟩
def d__law_straight : He.DefD := ⟨("_law_straight", none), "_law_straight", "_law_straight", defArgs s__law_straight, defBody s__law_straight, defScope s__law_straight, [], []⟩
def d__law_diamond : He.DefD := ⟨("_law_diamond", none), "_law_diamond", "_law_diamond", defArgs s__law_diamond, defBody s__law_diamond, defScope s__law_diamond, [], []⟩
def d__law_loop : He.DefD := ⟨("_law_loop", none), "_law_loop", "_law_loop", defArgs s__law_loop, defBody s__law_loop, defScope s__law_loop, [], []⟩
def d__law_caller : He.DefD := ⟨("_law_caller", none), "_law_caller", "_law_caller", defArgs s__law_caller, defBody s__law_caller, defScope s__law_caller, [], []⟩
def d__law_works_by : He.DefD := ⟨("_law_works_by", none), "_law_works_by", "_law_works_by", defArgs s__law_works_by, defBody s__law_works_by, defScope s__law_works_by, [], []⟩
def d__law_ways : He.DefD := ⟨("_law_ways", none), "_law_ways", "_law_ways", defArgs s__law_ways, defBody s__law_ways, defScope s__law_ways, [], []⟩
def d__law_come : He.DefD := ⟨("_law_come", none), "_law_come", "_law_come", defArgs s__law_come, defBody s__law_come, defScope s__law_come, [], []⟩
def d__law_weight : He.DefD := ⟨("_law_weight", none), "_law_weight", "_law_weight", defArgs s__law_weight, defBody s__law_weight, defScope s__law_weight, [], []⟩
def d__law_rows_told : He.DefD := ⟨("_law_rows_told", none), "_law_rows_told", "_law_rows_told", defArgs s__law_rows_told, defBody s__law_rows_told, defScope s__law_rows_told, [], []⟩
def d__law_nested : He.DefD := ⟨("_law_nested", none), "_law_nested", "_law_nested", defArgs s__law_nested, defBody s__law_nested, defScope s__law_nested, [], []⟩
def d_law : He.DefD := ⟨("law", none), "law", "law", defArgs s_law, defBody s_law, defScope s_law, [], []⟩
def fn0 : List He.DefD := [d_ways, d_leads_to, d_elders, d_blocks_back, d_loops, d_weight, d_measure, d__law_mark, d__law_number_by, d__law_row_by, d__law_rows_by, d__law_last, d__law_end_by, d__law_straight, d__law_diamond, d__law_loop, d__law_caller, d__law_works_by, d__law_ways, d__law_come, d__law_weight, d__law_rows_told, d__law_nested, d_law]
def fn : List He.DefD := fn0
def fa0 : List He.Fa := [.glo "ways", .glo "leads_to", .glo "elders", .glo "blocks_back", .glo "loops", .glo "weight", .glo "measure", .glo "_law_mark", .glo "_law_number_by", .glo "_law_row_by", .glo "_law_rows_by", .glo "_law_last", .glo "_law_end_by", .glo "_law_straight", .glo "_law_diamond", .glo "_law_loop", .glo "_law_caller", .glo "_law_works_by", .glo "_law_ways", .glo "_law_come", .glo "_law_weight", .glo "_law_rows_told", .glo "_law_nested", .glo "law", .free "bool", .free "enumerate", .free "int", .free "isinstance", .free "len", .free "list"]
def fa1 : List He.Fa := [.free "min", .free "range", .free "sum", .free "tuple", .glo "TIMES"]
def fa : List He.Fa := fa0 ++ fa1
def exB (K : PySem.W.Frag) : Bool := He.tupB K "TIMES" [.int 1, .int 8, .int 64, .int 512, .int 4096]
abbrev hk : PySem.W.Hook := hookE 4 fa fn exB
def ob (s : PySem.W.SharedT) : He.AlD × Bool := obsE 4 fa fn exB (HandSHeadRun.getT s)
theorem ob_eq (s : PySem.W.SharedT) : ob s = hk.obs s.abs := obsE_eq (HandSHeadRun.getT_eq s)
abbrev R : PySem.W.OpenRow := PySem.W.OpenLaw.row PySem.Challenge.rw_passworks_k68_measure
def lo0 : List PySem.Str := ["ways", "leads_to", "elders", "blocks_back", "loops", "TIMES", "weight", "measure", "_law_mark", "_law_number_by", "_law_row_by", "_law_rows_by", "_law_last", "_law_end_by", "_law_straight", "_law_diamond", "_law_loop", "_law_caller", "_law_works_by", "_law_ways", "_law_come", "_law_weight", "_law_rows_told", "_law_nested"]
def lo : List PySem.Str := lo0
theorem run (w : World) : HandSHeadRun.RunEq R (PySem.W.view R.prog [30]) hk ob 4000 lo w := by
  intro os
  kernel_rfl
theorem top_of {K : PySem.W.Frag} {h : Heap} {mg : Str → Option Value} (X : K.In h) (G : h.Ns mainGlobals mg) (c : SaysE fa fn exB K) : Nonempty (Top K mg) := by
  obtain ⟨fd0, F0⟩ := c.1.def_ 0 (d := d_ways) rfl
  obtain ⟨fd1, F1⟩ := c.1.def_ 1 (d := d_leads_to) rfl
  obtain ⟨fd2, F2⟩ := c.1.def_ 2 (d := d_elders) rfl
  obtain ⟨fd3, F3⟩ := c.1.def_ 3 (d := d_blocks_back) rfl
  obtain ⟨fd4, F4⟩ := c.1.def_ 4 (d := d_loops) rfl
  obtain ⟨fd5, F5⟩ := c.1.def_ 5 (d := d_weight) rfl
  obtain ⟨fd6, F6⟩ := c.1.def_ 6 (d := d_measure) rfl
  obtain ⟨fd7, F7⟩ := c.1.def_ 7 (d := d__law_mark) rfl
  obtain ⟨fd8, F8⟩ := c.1.def_ 8 (d := d__law_number_by) rfl
  obtain ⟨fd9, F9⟩ := c.1.def_ 9 (d := d__law_row_by) rfl
  obtain ⟨fd10, F10⟩ := c.1.def_ 10 (d := d__law_rows_by) rfl
  obtain ⟨fd11, F11⟩ := c.1.def_ 11 (d := d__law_last) rfl
  obtain ⟨fd12, F12⟩ := c.1.def_ 12 (d := d__law_end_by) rfl
  obtain ⟨fd13, F13⟩ := c.1.def_ 13 (d := d__law_straight) rfl
  obtain ⟨fd14, F14⟩ := c.1.def_ 14 (d := d__law_diamond) rfl
  obtain ⟨fd15, F15⟩ := c.1.def_ 15 (d := d__law_loop) rfl
  obtain ⟨fd16, F16⟩ := c.1.def_ 16 (d := d__law_caller) rfl
  obtain ⟨fd17, F17⟩ := c.1.def_ 17 (d := d__law_works_by) rfl
  obtain ⟨fd18, F18⟩ := c.1.def_ 18 (d := d__law_ways) rfl
  obtain ⟨fd19, F19⟩ := c.1.def_ 19 (d := d__law_come) rfl
  obtain ⟨fd20, F20⟩ := c.1.def_ 20 (d := d__law_weight) rfl
  obtain ⟨fd21, F21⟩ := c.1.def_ 21 (d := d__law_rows_told) rfl
  obtain ⟨fd22, F22⟩ := c.1.def_ 22 (d := d__law_nested) rfl
  obtain ⟨fd23, F23⟩ := c.1.def_ 23 (d := d_law) rfl
  have hx := c.2
  have hx0 : (He.tupB K "TIMES" [.int 1, .int 8, .int 64, .int 512, .int 4096]) = true := hx
  exact ⟨{ fd_ways := fd0, F_ways := F0, b_ways := FunD.bindsN F0 fun _ _ _ _ _ _ us hl => (match us, hl with | [_], _ => rfl), g_ways := He.glo_ok X G (c.1.fact 0 (f := .glo "ways") rfl), fd_leads_to := fd1, F_leads_to := F1, b_leads_to := FunD.bindsN F1 fun _ _ _ _ _ _ us hl => (match us, hl with | [_], _ => rfl), g_leads_to := He.glo_ok X G (c.1.fact 1 (f := .glo "leads_to") rfl), fd_elders := fd2, F_elders := F2, b_elders := FunD.bindsN F2 fun _ _ _ _ _ _ us hl => (match us, hl with | [_], _ => rfl), g_elders := He.glo_ok X G (c.1.fact 2 (f := .glo "elders") rfl), fd_blocks_back := fd3, F_blocks_back := F3, b_blocks_back := FunD.bindsN F3 fun _ _ _ _ _ _ us hl => (match us, hl with | [_, _, _], _ => rfl), g_blocks_back := He.glo_ok X G (c.1.fact 3 (f := .glo "blocks_back") rfl), fd_loops := fd4, F_loops := F4, b_loops := FunD.bindsN F4 fun _ _ _ _ _ _ us hl => (match us, hl with | [_], _ => rfl), g_loops := He.glo_ok X G (c.1.fact 4 (f := .glo "loops") rfl), fd_weight := fd5, F_weight := F5, b_weight := FunD.bindsN F5 fun _ _ _ _ _ _ us hl => (match us, hl with | [_], _ => rfl), g_weight := He.glo_ok X G (c.1.fact 5 (f := .glo "weight") rfl), fd_measure := fd6, F_measure := F6, b_measure := FunD.bindsN F6 fun _ _ _ _ _ _ us hl => (match us, hl with | [_], _ => rfl), g_measure := He.glo_ok X G (c.1.fact 6 (f := .glo "measure") rfl), fd__law_mark := fd7, F__law_mark := F7, b__law_mark := FunD.bindsN F7 fun _ _ _ _ _ _ us hl => (match us, hl with | [_, _], _ => rfl), g__law_mark := He.glo_ok X G (c.1.fact 7 (f := .glo "_law_mark") rfl), fd__law_number_by := fd8, F__law_number_by := F8, b__law_number_by := FunD.bindsN F8 fun _ _ _ _ _ _ us hl => (match us, hl with | [_], _ => rfl), g__law_number_by := He.glo_ok X G (c.1.fact 8 (f := .glo "_law_number_by") rfl), fd__law_row_by := fd9, F__law_row_by := F9, b__law_row_by := FunD.bindsN F9 fun _ _ _ _ _ _ us hl => (match us, hl with | [_, _, _], _ => rfl), g__law_row_by := He.glo_ok X G (c.1.fact 9 (f := .glo "_law_row_by") rfl), fd__law_rows_by := fd10, F__law_rows_by := F10, b__law_rows_by := FunD.bindsN F10 fun _ _ _ _ _ _ us hl => (match us, hl with | [_, _, _, _, _], _ => rfl), g__law_rows_by := He.glo_ok X G (c.1.fact 10 (f := .glo "_law_rows_by") rfl), fd__law_last := fd11, F__law_last := F11, b__law_last := FunD.bindsN F11 fun _ _ _ _ _ _ us hl => (match us, hl with | [_, _], _ => rfl), g__law_last := He.glo_ok X G (c.1.fact 11 (f := .glo "_law_last") rfl), fd__law_end_by := fd12, F__law_end_by := F12, b__law_end_by := FunD.bindsN F12 fun _ _ _ _ _ _ us hl => (match us, hl with | [_, _], _ => rfl), g__law_end_by := He.glo_ok X G (c.1.fact 12 (f := .glo "_law_end_by") rfl), fd__law_straight := fd13, F__law_straight := F13, b__law_straight := FunD.bindsN F13 fun _ _ _ _ _ _ us hl => (match us, hl with | [_, _, _], _ => rfl), g__law_straight := He.glo_ok X G (c.1.fact 13 (f := .glo "_law_straight") rfl), fd__law_diamond := fd14, F__law_diamond := F14, b__law_diamond := FunD.bindsN F14 fun _ _ _ _ _ _ us hl => (match us, hl with | [_, _, _], _ => rfl), g__law_diamond := He.glo_ok X G (c.1.fact 14 (f := .glo "_law_diamond") rfl), fd__law_loop := fd15, F__law_loop := F15, b__law_loop := FunD.bindsN F15 fun _ _ _ _ _ _ us hl => (match us, hl with | [_, _, _], _ => rfl), g__law_loop := He.glo_ok X G (c.1.fact 15 (f := .glo "_law_loop") rfl), fd__law_caller := fd16, F__law_caller := F16, b__law_caller := FunD.bindsN F16 fun _ _ _ _ _ _ us hl => (match us, hl with | [_, _, _, _], _ => rfl), g__law_caller := He.glo_ok X G (c.1.fact 16 (f := .glo "_law_caller") rfl), fd__law_works_by := fd17, F__law_works_by := F17, b__law_works_by := FunD.bindsN F17 fun _ _ _ _ _ _ us hl => (match us, hl with | [_, _], _ => rfl), g__law_works_by := He.glo_ok X G (c.1.fact 17 (f := .glo "_law_works_by") rfl), fd__law_ways := fd18, F__law_ways := F18, b__law_ways := FunD.bindsN F18 fun _ _ _ _ _ _ us hl => (match us, hl with | [_], _ => rfl), g__law_ways := He.glo_ok X G (c.1.fact 18 (f := .glo "_law_ways") rfl), fd__law_come := fd19, F__law_come := F19, b__law_come := FunD.bindsN F19 fun _ _ _ _ _ _ us hl => (match us, hl with | [_, _, _], _ => rfl), g__law_come := He.glo_ok X G (c.1.fact 19 (f := .glo "_law_come") rfl), fd__law_weight := fd20, F__law_weight := F20, b__law_weight := FunD.bindsN F20 fun _ _ _ _ _ _ us hl => (match us, hl with | [_], _ => rfl), g__law_weight := He.glo_ok X G (c.1.fact 20 (f := .glo "_law_weight") rfl), fd__law_rows_told := fd21, F__law_rows_told := F21, b__law_rows_told := FunD.bindsN F21 fun _ _ _ _ _ _ us hl => (match us, hl with | [_, _], _ => rfl), g__law_rows_told := He.glo_ok X G (c.1.fact 21 (f := .glo "_law_rows_told") rfl), fd__law_nested := fd22, F__law_nested := F22, b__law_nested := FunD.bindsN F22 fun _ _ _ _ _ _ us hl => (match us, hl with | [_, _], _ => rfl), g__law_nested := He.glo_ok X G (c.1.fact 22 (f := .glo "_law_nested") rfl), fd_law := fd23, F_law := F23, b_law := FunD.bindsN F23 fun _ _ _ _ _ _ us hl => (match us, hl with | [_], _ => rfl), g_law := He.glo_ok X G (c.1.fact 23 (f := .glo "law") rfl), m_bool := He.free_ok X G (c.1.fact 24 (f := .free "bool") rfl), m_enumerate := He.free_ok X G (c.1.fact 25 (f := .free "enumerate") rfl), m_int := He.free_ok X G (c.1.fact 26 (f := .free "int") rfl), m_isinstance := He.free_ok X G (c.1.fact 27 (f := .free "isinstance") rfl), m_len := He.free_ok X G (c.1.fact 28 (f := .free "len") rfl), m_list := He.free_ok X G (c.1.fact 29 (f := .free "list") rfl), m_min := He.free_ok X G (c.1.fact 30 (f := .free "min") rfl), m_range := He.free_ok X G (c.1.fact 31 (f := .free "range") rfl), m_sum := He.free_ok X G (c.1.fact 32 (f := .free "sum") rfl), m_tuple := He.free_ok X G (c.1.fact 33 (f := .free "tuple") rfl), c_TIMES := He.glo_ok X G (c.1.fact 34 (f := .glo "TIMES") rfl), q_TIMES := He.tupB_ok hx0 }⟩
theorem law_binds {K : PySem.W.Frag} {mg : Str → Option Value} (T : Top K mg) (s : Shared) (u : Value) : BindsTo s T.fd_law ⟨[u], []⟩ [("_law_script", u)] :=
  FunD.bindsA (ps := ["_law_script"]) T.F_law (fun _ _ _ _ _ _ us hl => (match us, hl with | [_], _ => rfl)) s [u] rfl
end K68
namespace K68
open PySem PySem.Spec PyProof.Rows L2
theorem law_F (w : World) (mg : Str → Option Value) (fa : Addr) (h : Heap) (Y : hk.says w h) (G : h.Ns mainGlobals mg) (hmg : mg "law" = some (.ref fa)) :
    ∃ (K : PySem.W.Frag) (fd : FuncData) (sp : Sp), K.In h ∧ (∀ (s : Shared) (u : Value), BindsTo s fd ⟨[u], []⟩ [("_law_script", u)]) ∧
        (∀ (H : Hp) (a : Addr) (ns : List Int), ns.length ≤ 63 → (∀ z ∈ ns, Builtin.Int.intBits z ≤ 1048576) → Only H → SqL K H a (ns.map V.int) → sp [.ref a] H (fun v _ => v = .bl true) fun _ _ _ => False) ∧
        ∀ base : Heap, K.In base → base.Ns mainGlobals mg → FnOk (PySem.Challenge.rw_passworks_k68_measure).prog w K mg base L2.CX0 60 fa fd ["_law_script"] sp := by
  obtain ⟨K, KX, c⟩ := Y
  obtain ⟨T⟩ := top_of KX G c
  obtain rfl : He.ga K "law" = fa := by
    have e := T.g_law.symm.trans hmg
    injection e with e
    injection e
  exact ⟨K, T.fd_law, sp_law K, KX, law_binds T, fun H a ns hl hb _ hS => law_start hl hb hS, fun base _ _ => ok_law T⟩
end K68
open PySem PySem.W PySem.Calls PyProof.Rows
theorem K68.law_nm : (HandSHeadRun.topDef (OpenLaw.row PySem.Challenge.rw_passworks_k68_measure).prog 30).name = ("law" : PySem.Str) := by kernel_rfl
theorem K68.law_walk : PySem.W.WalkO (view (OpenLaw.row PySem.Challenge.rw_passworks_k68_measure).prog [30]) K68.lo (XL (view (OpenLaw.row PySem.Challenge.rw_passworks_k68_measure).prog [30]) []) K68.hk.says (OpenLaw.row PySem.Challenge.rw_passworks_k68_measure).toRowW (HandSHeadRun.topDef (OpenLaw.row PySem.Challenge.rw_passworks_k68_measure).prog 30) [] (fun f vs => PySem.call f vs) :=
  K68.walk_bits (l := PySem.Challenge.rw_passworks_k68_measure) (n := 63) (k := 60) (x := "_law_script") (CX := L2.CX0) rfl (by decide) (by kernel_rfl) ⟨rfl, by decide, by decide⟩ (fun w mg fa h Y G hmg0 => K68.law_F w mg fa h Y G (K68.law_nm ▸ hmg0)) (fun _ _ _ _ z => z)
theorem PySem.Challenge.cw_passworks_k68_measure_holds : PySem.Challenge.rw_passworks_k68_measure.Holds := by
  w_on; o_law
  refine HandSHeadRun.head_any (r := OpenLaw.row PySem.Challenge.rw_passworks_k68_measure) (q := view (OpenLaw.row PySem.Challenge.rw_passworks_k68_measure).prog [30]) (H := K68.hk) (ob := K68.ob) (M := 4000) (loose := K68.lo) (d := HandSHeadRun.topDef (OpenLaw.row PySem.Challenge.rw_passworks_k68_measure).prog 30) (kwd := []) K68.ob_eq
    (by kernel_rfl) (fun s => by kernel_rfl) K68.run (by kernel_rfl) (by kernel_rfl) (by kernel_rfl) (by rfl) (by first | assumption | decide +kernel) (by decide +kernel) ⟨rfl, rfl, rfl, rfl, rfl, by decide +kernel⟩ ?hw K68.law_walk
  case hw => w_witness2

