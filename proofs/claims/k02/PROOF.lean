import PyProof.Rows.All
import Wide.All
import OpenK.AllK
import Wide.FinOn
import KE.KStateDown
import KE.KRevSl
import Lean
import HandS.ForMost
import HandS.Wide
import HandS.IsInst
import HandS.Flow
import HandS.Defaults
import HandS.EndBits
import HandS.Head0
import HandS.Head1
import HandS.Head2
import HandS.HeadEnd
import HandS.HeadHook1
import HandS.HeadHook2
import PySem.Challenge.RW_passworks_k02_reckoned
set_option Elab.async false
set_option linter.all false
set_option maxRecDepth 100000
set_option maxHeartbeats 4000000
namespace K02
/-! what the head shows: defs, facts by names, one more Bool -/
open PySem PySem.Spec PyProof.Rows L2
def obsE (n : Nat) (fa : List He.Fa) (fn : List He.DefD) (ex : PySem.W.Frag → Bool) (g : Addr → Option Obj) : He.AlD × Bool :=
  (He.obsD fa fn (He.frG g (He.asD g n)), ex (He.frG g (He.asD g n)))
def SaysE (fa : List He.Fa) (fn : List He.DefD) (ex : PySem.W.Frag → Bool) (K : PySem.W.Frag) : Prop := He.SaysD fa fn K ∧ ex K = true
def hookE (n : Nat) (fa : List He.Fa) (fn : List He.DefD) (ex : PySem.W.Frag → Bool) : PySem.W.Hook where
  α := He.AlD × Bool
  obs := fun s => obsE n fa fn ex s.heap.get?
  val := fun _ => (He.valD fn, true)
  says := fun _ h => ∃ K : PySem.W.Frag, K.In h ∧ SaysE fa fn ex K
  of := fun _ _ z => ⟨_, He.frG_in, congrArg Prod.fst z, congrArg Prod.snd z⟩
  keeps := fun _ _ _ ⟨K, a, c⟩ k => ⟨K, a.keeps k, c⟩
theorem obsE_eq {n : Nat} {fa : List He.Fa} {fn : List He.DefD} {ex : PySem.W.Frag → Bool} {g : Addr → Option Obj} {s : Shared} (z : ∀ a, g a = s.heap.get? a) :
    obsE n fa fn ex g = (hookE n fa fn ex).obs s := by
  obtain rfl : g = s.heap.get? := funext z
  rfl
/-- a law's end, the bits of the script's numbers told -/
theorem walk_bits {l : PySem.W.OpenLaw} {n k : Nat} {q : Program} {loose : List Str} {XP : (Str → Option Value) → Heap → Prop} {YP : World → Heap → Prop} {d : DefRec} {CX : CXT} {x : Str}
    (hn : l.most = some n) (hn2 : n ≤ sizeLine) (hdf : d.params.defaults = []) (hr : Room k callerA)
    (F : ∀ (w : World) (mg : Str → Option Value) (fa : Addr) (h : Heap), YP w h → h.Ns mainGlobals mg → mg d.name = some (.ref fa) →
      ∃ (K : PySem.W.Frag) (fd : FuncData) (sp : Sp), K.In h ∧ (∀ (s : Shared) (u : Value), BindsTo s fd ⟨[u], []⟩ [(x, u)]) ∧
        (∀ (H : Hp) (a : Addr) (ns : List Int), ns.length ≤ n → (∀ z ∈ ns, Builtin.Int.intBits z ≤ 1048576) → Only H → SqL K H a (ns.map V.int) →
          sp [.ref a] H (fun v _ => v = .bl true) fun _ _ _ => False) ∧
        ∀ base : Heap, K.In base → base.Ns mainGlobals mg → FnOk l.prog w K mg base CX k fa fd [x] sp)
    (hCX : ∀ (H : Hp) (s : Shared) (e : Value) (s' : Shared), CX [] H s (fun _ _ _ => False) e s' → False) :
    PySem.W.WalkO q loose XP YP l.row.toRowW d [] (fun f vs => PySem.call f vs) := by
  apply Att.attach_callB hn hdf
  intro w s0 s1 mg mb fa o pm cd doc a vs ns G Y ho hd hcd hmg hobj hints hlen hbits hg
  obtain ⟨K, fd, sp, KX, hb, hsp, hF⟩ := F w mg fa _ Y G.T.g hmg
  exact law_call KX G.T.g G.T.b G.T.builtins G.T.nolimit hg hobj hints (Nat.le_trans hlen hn2) hr hF hb (fun H z1 z2 => hsp H a ns hlen hbits z1 z2)
    (fun H e s' => hCX H s1 e s')
/-! heaps -/
theorem same_new {H : Hp} {p : Addr} {o : HO} (z : H p = none) : Same H (upd H p o) := by
  intro b x e
  rw [upd_ne (ne_of_none e z)]
  exact e
theorem at_ints {ns : List Int} {i : Int} (h0 : 0 ≤ i) (h1 : i < ns.length) : atI (ns.map V.int) i = some (.int (ns.getD i.toNat 0)) := by
  obtain ⟨j, rfl⟩ := Int.eq_ofNat_of_zero_le h0
  have hj : j < ns.length := by omega
  refine atI_nat ?_
  rw [List.getElem?_map, List.getElem?_eq_getElem hj]
  simp [List.getD, hj]
/-- what stands behind a statement, once for all its ways -/
theorem seq_by {t u : TS} {D : Ends} {σ : L2.St} {H : Hp} (Pv : L2.St → Hp → Prop) (fin : ∀ σ' H', Pv σ' H' → u D σ' H')
    (first : ∀ N : L2.St → Hp → Prop, (∀ σ' H', Pv σ' H' → N σ' H') → t { D with nx := N } σ H) : tSeq t u D σ H := first _ fin
theorem ifs_by {c : TT} {t1 t2 u : TS} {D : Ends} {σ : L2.St} {H : Hp} (Pv : L2.St → Hp → Prop) (fin : ∀ σ' H', Pv σ' H' → u D σ' H')
    (first : ∀ N : L2.St → Hp → Prop, (∀ σ' H', Pv σ' H' → N σ' H') → tIfS c t1 t2 { D with nx := N } σ H) : tSeq (tIfS c t1 t2) u D σ H := first _ fin
theorem ifD {c A B : Prop} [Decidable c] (hc : c) (h : A) : if decide c = true then A else B := by
  rw [if_pos (decide_eq_true hc)]
  exact h
theorem ifN {c A B : Prop} [Decidable c] (hc : ¬ c) (h : B) : if decide c = true then A else B := by
  rw [if_neg (by rw [decide_eq_true_eq]; exact hc)]
  exact h
theorem blD {c : Prop} [Decidable c] {Q : VK} {H : Hp} (hc : c) (h : Q (.bl true) H) : Q (.bl (decide c)) H := by
  rw [decide_eq_true hc]
  exact h
theorem blN {c : Prop} [Decidable c] {Q : VK} {H : Hp} (hc : ¬ c) (h : Q (.bl false) H) : Q (.bl (decide c)) H := by
  rw [decide_eq_false hc]
  exact h
theorem getD_all {α : Type} {Pr : α → Prop} {ns : List α} {d : α} (h : ∀ x ∈ ns, Pr x) {j : Int} (h0 : 0 ≤ j) (h1 : j < ns.length) : Pr (ns.getD j.toNat d) := by
  have hi : j.toNat < ns.length := by omega
  have e : ns.getD j.toNat d = ns[j.toNat]'hi := by simp [List.getD, hi]
  rw [e]
  exact h _ (List.getElem_mem _)
theorem ifNF {c A B : Prop} [Decidable c] (hc : c) (h : B) : if (!decide c) = true then A else B := by
  rw [decide_eq_true hc]
  exact h
theorem ifNT {c A B : Prop} [Decidable c] (hc : ¬ c) (h : A) : if (!decide c) = true then A else B := by
  rw [decide_eq_false hc]
  exact h

/-! own rules: // and divmod by any divisor of few bits, a list turned about -/
section
variable {X : Cx}
theorem op_fdivG : OpR X (binaryOp .FloorDiv) (rI (fun _ j => j ≠ 0 ∧ j.natAbs.log2 < 9000) fun i j => .int (i.fdiv j)) :=
  opI fun _ _ _ _ _ _ _ hc q => floordiv_int hc.1 q (.inl (PyProof.noPylong_of_log2 hc.2))
theorem call_divmodG : CallR X (.builtin "divmod") (fun xs H Q => ∃ i j, xs = [.int i, .int j] ∧ (j ≠ 0 ∧ j.natAbs.log2 < 9000) ∧ ∀ p, H p = none → Q (.ref p) (upd H p (.tup [.int (i.fdiv j), .int (i.fmod j)]))) := by
  intro pins s σ H xs us Q I r h
  obtain ⟨i, j, rfl, hc, q⟩ := h
  obtain ⟨u1, u2, rfl, ⟨t1, rfl⟩, ⟨t2, rfl⟩⟩ := vals2 r
  refine divmod_int hc.1 ?_ (.inl (PyProof.noPylong_of_log2 hc.2))
  refine ⟨.ref s.heap.objs.size, _, ?_, rfl, q _ (I.hok.fresh (Nat.le_refl _))⟩
  refine I.laid (fun b o e => Heap.get?_push_of_some _ e) (Nat.le_refl _) ⟨by show 2 ≤ sizeLine; rw [sizeLine_eq]; decide, [.int (i.fdiv j) s.toks, .int (i.fmod j) (s.toks + 1)], .cons ⟨_, rfl⟩ (.cons ⟨_, rfl⟩ .nil), ?_⟩
  exact ⟨_, Heap.get?_push_size s.heap rfl, rfl, 0, rfl⟩
def tRevL (K : PySem.W.Frag) (te tk : TE) : TE := fun σ H Q => te σ H fun x H1 => tk σ H1 fun y H2 => y = .int (-1) ∧ ∃ a xs, x = .ref a ∧ SqL K H2 a xs ∧ ∀ p, H2 p = none → Q (.ref p) (upd H2 p (.lst xs.reverse))
theorem vals_rev : ∀ {xs : List V} {us : List Value}, Vals xs us → Vals xs.reverse us.reverse
  | _, _, .nil => .nil
  | _, _, .cons r t => by
    rw [List.reverse_cons, List.reverse_cons]
    exact (vals_rev t).append (.cons r .nil)
theorem pe_revL {e k : Expr} {te tk : TE} {p2 pos : Pos} (he : PE X e te) (hk : PE X k tk) : PE X (.Subscript e (.Slice none none (some k) p2) pos) (tRevL X.K te tk) := by
  refine ⟨fun pins s σ H Q I h => ?_⟩
  refine Subscript_ (thn (he.run pins s σ H _ I h) fun v s1 ⟨x, H1, I1, r1, q1⟩ => ?_)
  refine wpAny_Slice ?_
  rw [evalPart_none]
  refine wpAny_pure (wpAny_pure ?_)
  rw [evalPart_some]
  refine thn (hk.run pins s1 σ H1 _ I1 q1) fun vk s2 ⟨y, H2, I2, r2, ey, a, xs, ex, hx, q⟩ => ?_
  subst ey ex
  obtain ⟨t, rfl⟩ := r2
  cases r1
  have I4 : Inv X pins σ H2 { s2 with heap := s2.heap.push { cls := .type "slice", data := .fields #[.none, .none, .int (-1) t] } } := I2.kept (t' := s2.toks) fun b ob q => Heap.get?_push_of_some _ q
  obtain ⟨its, r, ht, hz⟩ := I4.list hx
  have hlen := r.length
  refine tail_any (ops := [.ref a, .ref s2.heap.objs.size]) ht.isList.typeIs slot_list_getitem.lookup ?_ (by with_unfolding_all rfl)
  refine wpAny_getItem_list_slice ht.isList (Heap.IsSliceOf.new ..) .none .none (.int (-1) t) (by decide) ?_ (by rw [List.size_toArray]; omega)
  rw [PySem.W.krv_pick]
  refine ⟨.ref _, _, I4.laid (t' := s2.toks) (o := .lst xs.reverse) (fun b ob q => Heap.get?_push_of_some _ q) (Nat.le_refl _) ?_, rfl, q _ (I4.hok.fresh (Nat.le_refl _))⟩
  exact ⟨by rw [List.length_reverse]; exact hz, its.reverse, 0, vals_rev r, Heap.get?_push_size _ rfl⟩
end

def topS (i : Nat) : Stmt := PySem.Challenge.pw_passworks_k02_reckoned.main.body.getD i (.Pass ⟨0, 0, 0, 0⟩)
abbrev s_wrapped : Stmt := topS 3
abbrev N_wrapped : List Str := ["n"]
theorem sc_wrapped : FnScope N_wrapped ["n"] (defScope s_wrapped) := ⟨rfl, rfl, rfl, by decide +kernel, rfl, by decide +kernel, by decide +kernel⟩
abbrev s_divided : Stmt := topS 4
abbrev N_divided : List Str := ["word", "one", "other", "quotient", "rest"]
theorem sc_divided : FnScope N_divided ["word", "one", "other"] (defScope s_divided) := ⟨rfl, rfl, rfl, by decide +kernel, rfl, by decide +kernel, by decide +kernel⟩
abbrev s_reckoned : Stmt := topS 5
abbrev N_reckoned : List Str := ["word", "one", "other"]
theorem sc_reckoned : FnScope N_reckoned ["word", "one", "other"] (defScope s_reckoned) := ⟨rfl, rfl, rfl, by decide +kernel, rfl, by decide +kernel, by decide +kernel⟩
abbrev s_denied : Stmt := topS 6
abbrev N_denied : List Str := ["n"]
theorem sc_denied : FnScope N_denied ["n"] (defScope s_denied) := ⟨rfl, rfl, rfl, by decide +kernel, rfl, by decide +kernel, by decide +kernel⟩
abbrev s__law_cell_at : Stmt := topS 8
abbrev N__law_cell_at : List Str := ["_law_script", "_law_k"]
theorem sc__law_cell_at : FnScope N__law_cell_at ["_law_script", "_law_k"] (defScope s__law_cell_at) := ⟨rfl, rfl, rfl, by decide +kernel, rfl, by decide +kernel, by decide +kernel⟩
abbrev s__law_whole : Stmt := topS 9
abbrev N__law_whole : List Str := ["_law_found"]
theorem sc__law_whole : FnScope N__law_whole ["_law_found"] (defScope s__law_whole) := ⟨rfl, rfl, rfl, by decide +kernel, rfl, by decide +kernel, by decide +kernel⟩
abbrev s__law_mixed : Stmt := topS 10
abbrev N__law_mixed : List Str := ["_law_cell", "_law_k", "_law_many", "_law_some", "_law_made"]
theorem sc__law_mixed : FnScope N__law_mixed ["_law_cell", "_law_k", "_law_many"] (defScope s__law_mixed) := ⟨rfl, rfl, rfl, by decide +kernel, rfl, by decide +kernel, by decide +kernel⟩
abbrev s__law_two : Stmt := topS 11
abbrev N__law_two : List Str := ["_law_cell", "_law_k", "_law_some"]
theorem sc__law_two : FnScope N__law_two ["_law_cell", "_law_k"] (defScope s__law_two) := ⟨rfl, rfl, rfl, by decide +kernel, rfl, by decide +kernel, by decide +kernel⟩
abbrev s__law_wrap : Stmt := topS 12
abbrev N__law_wrap : List Str := ["_law_n", "_law_left"]
theorem sc__law_wrap : FnScope N__law_wrap ["_law_n"] (defScope s__law_wrap) := ⟨rfl, rfl, rfl, by decide +kernel, rfl, by decide +kernel, by decide +kernel⟩
abbrev s__law_due : Stmt := topS 13
abbrev N__law_due : List Str := ["_law_word", "_law_one", "_law_other", "_law_quotient", "_law_due_here"]
theorem sc__law_due : FnScope N__law_due ["_law_word", "_law_one", "_law_other"] (defScope s__law_due) := ⟨rfl, rfl, rfl, by decide +kernel, rfl, by decide +kernel, by decide +kernel⟩
abbrev s_law : Stmt := topS 14
abbrev N_law : List Str := ["_law_script", "_law_one", "_law_other", "_law_words", "_law_word", "_law_due_here", "_law_found", "_law_told", "_law_n"]
theorem sc_law : FnScope N_law ["_law_script"] (defScope s_law) := ⟨rfl, rfl, rfl, by decide +kernel, rfl, by decide +kernel, by decide +kernel⟩
abbrev FnP (K : PySem.W.Frag) (x : Str) (st : Stmt) (f : Addr) (fd : FuncData) : Prop := FunD K x x (defArgs st) (defBody st) (defScope st) [] [] f fd
structure Top (K : PySem.W.Frag) (mg : Str → Option Value) where
  fd_wrapped : FuncData
  F_wrapped : FnP K "wrapped" s_wrapped (He.ga K "wrapped") fd_wrapped
  b_wrapped : Binds K fd_wrapped ["n"] []
  g_wrapped : mg "wrapped" = some (.ref (He.ga K "wrapped"))
  fd_divided : FuncData
  F_divided : FnP K "divided" s_divided (He.ga K "divided") fd_divided
  b_divided : Binds K fd_divided ["word", "one", "other"] []
  g_divided : mg "divided" = some (.ref (He.ga K "divided"))
  fd_reckoned : FuncData
  F_reckoned : FnP K "reckoned" s_reckoned (He.ga K "reckoned") fd_reckoned
  b_reckoned : Binds K fd_reckoned ["word", "one", "other"] []
  g_reckoned : mg "reckoned" = some (.ref (He.ga K "reckoned"))
  fd_denied : FuncData
  F_denied : FnP K "denied" s_denied (He.ga K "denied") fd_denied
  b_denied : Binds K fd_denied ["n"] []
  g_denied : mg "denied" = some (.ref (He.ga K "denied"))
  fd__law_cell_at : FuncData
  F__law_cell_at : FnP K "_law_cell_at" s__law_cell_at (He.ga K "_law_cell_at") fd__law_cell_at
  b__law_cell_at : Binds K fd__law_cell_at ["_law_script", "_law_k"] []
  g__law_cell_at : mg "_law_cell_at" = some (.ref (He.ga K "_law_cell_at"))
  fd__law_whole : FuncData
  F__law_whole : FnP K "_law_whole" s__law_whole (He.ga K "_law_whole") fd__law_whole
  b__law_whole : Binds K fd__law_whole ["_law_found"] []
  g__law_whole : mg "_law_whole" = some (.ref (He.ga K "_law_whole"))
  fd__law_mixed : FuncData
  F__law_mixed : FnP K "_law_mixed" s__law_mixed (He.ga K "_law_mixed") fd__law_mixed
  b__law_mixed : Binds K fd__law_mixed ["_law_cell", "_law_k", "_law_many"] []
  g__law_mixed : mg "_law_mixed" = some (.ref (He.ga K "_law_mixed"))
  fd__law_two : FuncData
  F__law_two : FnP K "_law_two" s__law_two (He.ga K "_law_two") fd__law_two
  b__law_two : Binds K fd__law_two ["_law_cell", "_law_k"] []
  g__law_two : mg "_law_two" = some (.ref (He.ga K "_law_two"))
  fd__law_wrap : FuncData
  F__law_wrap : FnP K "_law_wrap" s__law_wrap (He.ga K "_law_wrap") fd__law_wrap
  b__law_wrap : Binds K fd__law_wrap ["_law_n"] []
  g__law_wrap : mg "_law_wrap" = some (.ref (He.ga K "_law_wrap"))
  fd__law_due : FuncData
  F__law_due : FnP K "_law_due" s__law_due (He.ga K "_law_due") fd__law_due
  b__law_due : Binds K fd__law_due ["_law_word", "_law_one", "_law_other"] []
  g__law_due : mg "_law_due" = some (.ref (He.ga K "_law_due"))
  fd_law : FuncData
  F_law : FnP K "law" s_law (He.ga K "law") fd_law
  b_law : Binds K fd_law ["_law_script"] []
  g_law : mg "law" = some (.ref (He.ga K "law"))
  m_all : mg "all" = none
  m_bool : mg "bool" = none
  m_divmod : mg "divmod" = none
  m_int : mg "int" = none
  m_isinstance : mg "isinstance" = none
  m_len : mg "len" = none
  t_HALF : Tok
  c_HALF : mg "HALF" = some (.int 2147483648 t_HALF)
  t_ROUND : Tok
  c_ROUND : mg "ROUND" = some (.int 4294967296 t_ROUND)
section
variable {P : Program} {w : World} {K : PySem.W.Frag} {mg : Str → Option Value} {base : Heap}
def cellA (ns : List Int) (k : Int) : Int := ns.getD k.toNat 0
def sp__law_cell_at (K : PySem.W.Frag) : Sp := fun vs H Q _ => ∃ (a : Addr) (ns : List Int) (k : Int), vs = [.ref a, .int k] ∧ 0 ≤ k ∧ SqL K H a (ns.map V.int) ∧ Q (.int (cellA ns k)) H
theorem ok__law_cell_at (T : Top K mg) : FnOk P w K mg base CX0 1 (He.ga K "_law_cell_at") T.fd__law_cell_at ["_law_script", "_law_k"] (sp__law_cell_at K) := by
  refine T.F__law_cell_at.ok sc__law_cell_at (fun vs H Q E h => ?_) (fun cdv A outer s H vs Q E hr h => ?_)
  · obtain ⟨a, ns, k, rfl, _⟩ := h
    rfl
  · obtain ⟨a, ns, k, rfl, h0, hS, q⟩ := h
    refine ⟨_, PSs.nox (pss_cons (ps_if (pt_cmpR op_lt (pv 1) (pe_callB call_len_seq (by rfl) T.m_len (by decide +kernel) (pa_cons (pv 0) pa_nil)) (nomark _)) (pss_one (ps_ret (pe_ix ix_list (pv 0) (pv 1) (fun _ _ => rfl)))) pss_nil)
        (pss_one (ps_ret pe_int))), ?_⟩
    refine ⟨_, rfl, _, rfl, a, _, rfl, .inl hS, _, _, rfl, rfl, _, rfl, ite2 (fun e => ?_) (fun e => ?_)⟩
    · have e1 : k < (ns.map V.int).length := of_decide_eq_true e
      rw [List.length_map] at e1
      exact ⟨_, rfl, _, rfl, a, _, _, _, rfl, rfl, hS, at_ints h0 e1, q⟩
    · have e1 : ¬ k < (ns.map V.int).length := fun z => e (decide_eq_true z)
      rw [List.length_map] at e1
      have e2 : cellA ns k = 0 := by
        unfold cellA
        have : ns.length ≤ k.toNat := by omega
        simp [List.getD, this]
      rw [e2] at q
      exact q
def sp__law_whole : Sp := fun vs H Q _ => ∃ n : Int, vs = [.int n] ∧ Q (.bl true) H
theorem ok__law_whole (T : Top K mg) : FnOk P w K mg base CX0 1 (He.ga K "_law_whole") T.fd__law_whole ["_law_found"] sp__law_whole := by
  refine T.F__law_whole.ok sc__law_whole (fun vs H Q E h => ?_) (fun cdv A outer s H vs Q E hr h => ?_)
  · obtain ⟨n, rfl, _⟩ := h
    rfl
  · obtain ⟨n, rfl, q⟩ := h
    refine ⟨_, PSs.nox (pss_one (ps_ret (pe_and (pe_callB call_isi (by rfl) T.m_isinstance (by decide +kernel) (pa_cons (pv 0) (pa_cons (pe_bltn (v := .ty "int") (by rfl) T.m_int (by decide +kernel) rfl) pa_nil))) (pe_one (pe_not (pe_callB call_isi (by rfl) T.m_isinstance (by decide +kernel) (pa_cons (pv 0) (pa_cons (pe_bltn (v := .ty "bool") (by rfl) T.m_bool (by decide +kernel) rfl) pa_nil)))))))), ?_⟩
    refine ⟨_, rfl, _, _, _, _, true, rfl, .ty _, .base (.int n), kit_ty (by decide +kernel), true, rfl, iteT ?_⟩
    exact ⟨_, rfl, _, _, _, _, false, rfl, .ty _, .base (.int n), kit_ty (by decide +kernel), false, rfl, q⟩
def mx : List Int := [99991, 99989, 99971, 99961, 99929, 99923, 99907, 99901, 99881, 99877, 99871]
def sp__law_mixed : Sp := fun vs H Q _ => ∃ c k m : Int, vs = [.int c, .int k, .int m] ∧ 0 ≤ k ∧ k < 2 ^ 20 ∧ 0 < m ∧ ∀ H' r, Same H H' → 0 ≤ r → r < m → Q (.int r) H'
theorem ok__law_mixed (T : Top K mg) : FnOk P w K mg base CX0 1 (He.ga K "_law_mixed") T.fd__law_mixed ["_law_cell", "_law_k", "_law_many"] sp__law_mixed := by
  refine T.F__law_mixed.ok sc__law_mixed (fun vs H Q E h => ?_) (fun cdv A outer s H vs Q E hr h => ?_)
  · obtain ⟨c, k, m, rfl, _⟩ := h
    rfl
  · obtain ⟨c, k, m, rfl, h0, h1, hm, q⟩ := h
    refine ⟨_, PSs.nox (pss_cons (ps_set (i := 3) sc__law_mixed.nd rfl (Or.inl rfl) (pe_lst (pa_cons pe_int (pa_cons pe_int (pa_cons pe_int (pa_cons pe_int (pa_cons pe_int (pa_cons pe_int (pa_cons pe_int (pa_cons pe_int (pa_cons pe_int (pa_cons pe_int (pa_cons pe_int pa_nil)))))))))))))
        (pss_cons (ps_set (i := 4) sc__law_mixed.nd rfl (Or.inl rfl) (pe_op op_mod (pe_op op_pow (pe_op op_mod (pe_op op_mul (pe_op op_add (pv 0) (pe_op op_mul pe_int (pv 1))) pe_int) pe_int) pe_int) (pe_ix ix_list (pv 3) (pe_op op_mod (pv 1) pe_int) (fun _ _ => rfl))))
        (pss_one (ps_ret (pe_op op_mod (pe_op op_mod (pe_op op_add (pe_op op_add (pe_op op_mul (pe_op op_mul (pv 4) (pv 4)) pe_int) (pv 4)) (pv 1)) pe_int) (pv 2)))))), ?_⟩
    refine ⟨by decide, fun p np => ?_⟩
    have hL : SqL K (upd H p (.lst (mx.map V.int))) p (mx.map V.int) := .of upd_same
    have r0 : 0 ≤ k % 11 := Int.emod_nonneg _ (by decide)
    have r1 : k % 11 < 11 := Int.emod_lt_of_pos _ (by decide)
    have hy : ∀ i : Nat, i < 11 → 0 < mx.getD i 0 ∧ mx.getD i 0 < 100000 := by decide
    obtain ⟨y0, y1⟩ := hy (k % 11).toNat (by omega)
    generalize hyy : mx.getD (k % 11).toNat 0 = y at y0 y1
    have a0 : 0 ≤ (c + 104729 * k) * 48271 % 2147483647 := Int.emod_nonneg _ (by decide)
    have a1 : (c + 104729 * k) * 48271 % 2147483647 < 2147483647 := Int.emod_lt_of_pos _ (by decide)
    generalize hx : (c + 104729 * k) * 48271 % 2147483647 = x at a0 a1
    have b0 : 0 ≤ x ^ (5 : Int).toNat % y := Int.emod_nonneg _ (by omega)
    have b1 : x ^ (5 : Int).toNat % y < y := Int.emod_lt_of_pos _ y0
    generalize hd : x ^ (5 : Int).toNat % y = d at b0 b1
    have d0 : 0 ≤ d * d := Int.mul_nonneg b0 b0
    have d1 : d * d ≤ 100000 * 100000 := Int.mul_le_mul (by omega) (by omega) b0 (by decide)
    refine ⟨_, rfl, _, rfl, _, _, rfl, rfl, .inl ⟨by decide, by decide⟩, _, _, rfl, rfl, _, _, rfl, rfl, .inr ⟨by decide, by decide⟩, _, _, rfl, rfl, (by show (0 : Int) < 2147483647; decide), _, _, rfl, rfl, ⟨by decide, by decide, ?_⟩, ?_⟩
    · show ((c + 104729 * k) * 48271 % 2147483647).natAbs < 2 ^ 64
      rw [hx]
      omega
    refine ⟨_, rfl, _, rfl, _, _, rfl, rfl, (by show (0 : Int) < 11; decide), p, _, _, _, rfl, rfl, hL, at_ints r0 (by rw [show (mx.length : Int) = 11 from rfl]; exact r1), _, _, rfl, rfl, ?_, ?_⟩
    · show 0 < mx.getD (k % 11).toNat 0
      rw [hyy]
      exact y0
    simp only [hx, hyy, hd]
    refine ⟨_, rfl, _, rfl, _, _, rfl, rfl, .inl ⟨by omega, by omega⟩, _, _, rfl, rfl, .inr ⟨by decide, by decide⟩, _, rfl, _, _, rfl, rfl, _, rfl, _, _, rfl, rfl, _, _, rfl, rfl, (by show (0 : Int) < 1000003; decide), _, rfl, _, _, rfl, rfl, hm, ?_⟩
    exact q _ _ (same_new np) (Int.emod_nonneg _ (by omega)) (Int.emod_lt_of_pos _ hm)
end

section
variable {P : Program} {w : World} {K : PySem.W.Frag} {mg : Str → Option Value} {base : Heap}
def wr (n : Int) : Int := (n + 2147483648) % 4294967296 - 2147483648
def sp_wrapped : Sp := fun vs H Q _ => ∃ n : Int, vs = [.int n] ∧ Q (.int (wr n)) H
theorem ok_wrapped (T : Top K mg) : FnOk P w K mg base CX0 1 (He.ga K "wrapped") T.fd_wrapped ["n"] sp_wrapped := by
  refine T.F_wrapped.ok sc_wrapped (fun vs H Q E h => ?_) (fun cdv A outer s H vs Q E hr h => ?_)
  · obtain ⟨n, rfl, _⟩ := h
    rfl
  · obtain ⟨n, rfl, q⟩ := h
    refine ⟨_, PSs.nox (pss_one (ps_ret (pe_op op_sub (pe_op op_mod (pe_op op_add (pv 0) (pe_glob (v := .int 2147483648) (by rfl) T.c_HALF ⟨_, rfl⟩)) (pe_glob (v := .int 4294967296) (by rfl) T.c_ROUND ⟨_, rfl⟩)) (pe_glob (v := .int 2147483648) (by rfl) T.c_HALF ⟨_, rfl⟩)))), ?_⟩
    exact ⟨_, rfl, _, _, rfl, rfl, _, _, rfl, rfl, (by show (0 : Int) < 4294967296; decide), _, _, rfl, rfl, q⟩
/-- a number of 32 bits -/
def In32 (a : Int) : Prop := -2147483648 ≤ a ∧ a ≤ 2147483647
theorem log_small {j : Int} (h : -2147483648 ≤ j ∧ j ≤ 2147483648) : j.natAbs.log2 < 9000 := by
  have h1 : j.natAbs < 2 ^ 40 := by omega
  have := PySem.Flt.log2_lt_of (show 0 < 40 by decide) h1
  omega
def sp_divided : Sp := fun vs H Q _ => ∃ (wd : Str) (a b : Int), vs = [.str wd, .int a, .int b] ∧ In32 a ∧ In32 b ∧ (b = 0 → Q .non H) ∧
  (b ≠ 0 → ∀ H', Same H H' → (wd = "div" → Q (.int (wr (a.fdiv b))) H') ∧ (wd ≠ "div" → Q (.int (wr (a.fmod b))) H'))
theorem ok_divided (T : Top K mg) : FnOk P w K mg base CX0 2 (He.ga K "divided") T.fd_divided ["word", "one", "other"] sp_divided := by
  have G_wrapped := ok_wrapped (P := P) (w := w) (base := base) T
  refine T.F_divided.ok sc_divided (fun vs H Q E h => ?_) (fun cdv A outer s H vs Q E hr h => ?_)
  · obtain ⟨wd, a, b, rfl, _⟩ := h
    rfl
  · obtain ⟨wd, a, b, rfl, ha, hb, q0, q1⟩ := h
    refine ⟨_, PSs.nox (pss_cons (ps_if (pt_cmpR op_eq (pv 2) pe_int (nomark _)) (pss_one (ps_ret pe_non)) pss_nil)
        (pss_cons (ps_asg (pe_callB call_divmodG (by rfl) T.m_divmod (by decide +kernel) (pa_cons (pv 1) (pa_cons (pv 2) pa_nil))) (pg_tup (by rfl) (pgs_cons (pg_name (i := 3) sc_divided.nd rfl (Or.inl rfl)) (pgs_cons (pg_name (i := 4) sc_divided.nd rfl (Or.inl rfl)) pgs_nil))))
        (pss_one (ps_ret (pe_call G_wrapped (hr.mono (by decide)) (by rfl) T.g_wrapped T.F_wrapped.kp T.b_wrapped .nil pass0 (pa_cons (pe_ifExp (pt_cmpR op_eq (pv 0) pe_str (nomark _)) (pv 3) (pv 4)) pa_nil)))))), ?_⟩
    refine ⟨_, rfl, rfl, _, rfl, ite2 (fun e => ?_) (fun e => ?_)⟩
    · have e1 : b = 0 := V.int.inj (of_decide_eq_true e)
      exact q0 e1
    · have e1 : b ≠ 0 := fun z => e (decide_eq_true (congrArg V.int z))
      refine ⟨_, rfl, _, rfl, a, b, rfl, ⟨e1, log_small ⟨hb.1, by have := hb.2; omega⟩⟩, fun p np => ?_⟩
      refine ⟨p, _, rfl, .of upd_same, rfl, _, _, rfl, _, _, rfl, rfl, ?_⟩
      obtain ⟨qa, qb⟩ := q1 e1 _ (same_new np)
      refine ⟨_, rfl, rfl, _, rfl, ite2 (fun e => ?_) (fun e => ?_)⟩
      · have e2 : wd = "div" := V.str.inj (of_decide_eq_true e)
        exact ⟨_, rfl, _, rfl, qa e2⟩
      · have e2 : wd ≠ "div" := fun z => e (decide_eq_true (congrArg V.str z))
        exact ⟨_, rfl, _, rfl, qb e2⟩
def b2n (b : Bool) : Int := if b then 1 else 0
/-- what a word comes to -/
inductive Due (a b : Int) : Str → V → Prop where
  | div0 (h : b = 0) : Due a b "div" .non
  | rem0 (h : b = 0) : Due a b "rem" .non
  | div (h : b ≠ 0) : Due a b "div" (.int (wr (a.fdiv b)))
  | rem (h : b ≠ 0) : Due a b "rem" (.int (wr (a.fmod b)))
  | add : Due a b "add" (.int (wr (a + b)))
  | sub : Due a b "sub" (.int (wr (a - b)))
  | mul : Due a b "mul" (.int (wr (a * b)))
  | less : Due a b "less" (.int (b2n (decide (a < b))))
  | same : Due a b "same" (.int (b2n (decide (a = b))))
def wds : List Str := ["add", "sub", "mul", "div", "rem", "less", "same"]
def sp_reckoned : Sp := fun vs H Q _ => ∃ (wd : Str) (a b : Int) (v : V), vs = [.str wd, .int a, .int b] ∧ In32 a ∧ In32 b ∧ Due a b wd v ∧ ∀ H', Same H H' → Q v H'
theorem ok_reckoned (T : Top K mg) : FnOk P w K mg base CX0 3 (He.ga K "reckoned") T.fd_reckoned ["word", "one", "other"] sp_reckoned := by
  have G_wrapped := ok_wrapped (P := P) (w := w) (base := base) T
  have G_divided := ok_divided (P := P) (w := w) (base := base) T
  refine T.F_reckoned.ok sc_reckoned (fun vs H Q E h => ?_) (fun cdv A outer s H vs Q E hr h => ?_)
  · obtain ⟨wd, a, b, v, rfl, _⟩ := h
    rfl
  · obtain ⟨wd, a, b, v, rfl, ha, hb, hd, q⟩ := h
    refine ⟨_, PSs.nox (pss_cons (ps_if (pt_cmpR op_in_seq (pv 0) (pe_tup (pa_cons pe_str (pa_cons pe_str pa_nil))) (by rfl)) (pss_one (ps_ret (pe_call G_divided (hr.mono (by decide)) (by rfl) T.g_divided T.F_divided.kp T.b_divided .nil pass0 (pa_cons (pv 0) (pa_cons (pv 1) (pa_cons (pv 2) pa_nil)))))) pss_nil)
        (pss_cons (ps_if (pt_cmpR op_eq (pv 0) pe_str (nomark _)) (pss_one (ps_ret (pe_call G_wrapped (hr.mono (by decide)) (by rfl) T.g_wrapped T.F_wrapped.kp T.b_wrapped .nil pass0 (pa_cons (pe_op op_add (pv 1) (pv 2)) pa_nil)))) pss_nil)
        (pss_cons (ps_if (pt_cmpR op_eq (pv 0) pe_str (nomark _)) (pss_one (ps_ret (pe_call G_wrapped (hr.mono (by decide)) (by rfl) T.g_wrapped T.F_wrapped.kp T.b_wrapped .nil pass0 (pa_cons (pe_op op_sub (pv 1) (pv 2)) pa_nil)))) pss_nil)
        (pss_cons (ps_if (pt_cmpR op_eq (pv 0) pe_str (nomark _)) (pss_one (ps_ret (pe_call G_wrapped (hr.mono (by decide)) (by rfl) T.g_wrapped T.F_wrapped.kp T.b_wrapped .nil pass0 (pa_cons (pe_op op_mul (pv 1) (pv 2)) pa_nil)))) pss_nil)
        (pss_cons (ps_if (pt_cmpR op_eq (pv 0) pe_str (nomark _)) (pss_one (ps_ret (pe_callTy call_int1 (by rfl) T.m_int (by decide +kernel) (pa_cons (pe_cmpR op_lt (pv 1) (pv 2) (nomark _)) pa_nil)))) pss_nil)
        (pss_one (ps_ret (pe_callTy call_int1 (by rfl) T.m_int (by decide +kernel) (pa_cons (pe_cmpR op_eq (pv 1) (pv 2) (nomark _)) pa_nil))))))))), ?_⟩
    refine ⟨_, rfl, by decide, fun p np => ?_⟩
    have sm := same_new (o := .tup [.str "div", .str "rem"]) np
    refine ⟨p, _, rfl, .inr (.of upd_same), rfl, by decide +kernel, _, rfl, ?_⟩
    have ok : ∀ {x : Str} {y : Str} {A B : Prop}, x ≠ y → B → if decide (V.str x = V.str y) = true then A else B := fun h hB => ifN (fun z => h (V.str.inj z)) hB
    have gd : wds ≠ [] := by decide
    cases hd with
    | div0 h => exact ⟨_, rfl, _, rfl, _, rfl, _, a, b, rfl, ha, hb, fun _ => q _ sm, fun z => absurd h z⟩
    | rem0 h => exact ⟨_, rfl, _, rfl, _, rfl, _, a, b, rfl, ha, hb, fun _ => q _ sm, fun z => absurd h z⟩
    | div h => exact ⟨_, rfl, _, rfl, _, rfl, _, a, b, rfl, ha, hb, fun z => absurd z h, fun _ H' s2 => ⟨fun _ => q _ (sm.trans s2), fun z => absurd rfl z⟩⟩
    | rem h => exact ⟨_, rfl, _, rfl, _, rfl, _, a, b, rfl, ha, hb, fun z => absurd z h, fun _ H' s2 => ⟨fun z => absurd z (by decide +kernel), fun _ => q _ (sm.trans s2)⟩⟩
    | add => exact ⟨_, rfl, rfl, _, rfl, ifD rfl ⟨_, rfl, _, rfl, _, _, rfl, rfl, _, rfl, q _ sm⟩⟩
    | sub => exact ⟨_, rfl, rfl, _, rfl, ok (by decide +kernel) ⟨_, rfl, rfl, _, rfl, ifD rfl ⟨_, rfl, _, rfl, _, _, rfl, rfl, _, rfl, q _ sm⟩⟩⟩
    | mul => exact ⟨_, rfl, rfl, _, rfl, ok (by decide +kernel) ⟨_, rfl, rfl, _, rfl, ok (by decide +kernel) ⟨_, rfl, rfl, _, rfl, ifD rfl ⟨_, rfl, _, rfl, _, _, rfl, rfl, .inl ⟨by have := ha.1; omega, by have := ha.2; omega⟩, _, rfl, q _ sm⟩⟩⟩⟩
    | less => exact ⟨_, rfl, rfl, _, rfl, ok (by decide +kernel) ⟨_, rfl, rfl, _, rfl, ok (by decide +kernel) ⟨_, rfl, rfl, _, rfl, ok (by decide +kernel) ⟨_, rfl, rfl, _, rfl, ifD rfl ⟨_, rfl, _, rfl, _, _, rfl, rfl, .inr ⟨_, rfl, q _ sm⟩⟩⟩⟩⟩⟩
    | same => exact ⟨_, rfl, rfl, _, rfl, ok (by decide +kernel) ⟨_, rfl, rfl, _, rfl, ok (by decide +kernel) ⟨_, rfl, rfl, _, rfl, ok (by decide +kernel) ⟨_, rfl, rfl, _, rfl, ok (by decide +kernel) ⟨_, rfl, _, rfl, rfl, .inr ⟨_, rfl, by
        rw [show decide (V.int a = V.int b) = decide (a = b) by by_cases z : a = b <;> simp [z]]
        exact q _ sm⟩⟩⟩⟩⟩⟩
theorem wrap_eq (n : Int) : (if n % 4294967296 > 2147483647 then n % 4294967296 - 4294967296 else n % 4294967296) = wr n := by
  unfold wr
  split <;> omega
def sp__law_wrap : Sp := fun vs H Q _ => ∃ n : Int, vs = [.int n] ∧ Q (.int (wr n)) H
theorem ok__law_wrap (T : Top K mg) : FnOk P w K mg base CX0 1 (He.ga K "_law_wrap") T.fd__law_wrap ["_law_n"] sp__law_wrap := by
  refine T.F__law_wrap.ok sc__law_wrap (fun vs H Q E h => ?_) (fun cdv A outer s H vs Q E hr h => ?_)
  · obtain ⟨n, rfl, _⟩ := h
    rfl
  · obtain ⟨n, rfl, q⟩ := h
    refine ⟨_, PSs.nox (pss_cons (ps_set (i := 1) sc__law_wrap.nd rfl (Or.inl rfl) (pe_op op_mod (pv 0) pe_int))
        (pss_cons (ps_if (pt_cmpR op_gt (pv 1) pe_int (nomark _)) (pss_one (ps_set (i := 1) sc__law_wrap.nd rfl (Or.inl rfl) (pe_op op_sub (pv 1) pe_int))) pss_nil)
        (pss_one (ps_ret (pv 1))))), ?_⟩
    rw [← wrap_eq] at q
    refine ⟨_, rfl, _, _, rfl, rfl, (by show (0 : Int) < 4294967296; decide), ?_⟩
    refine ⟨_, rfl, _, _, rfl, rfl, _, rfl, ite2 (fun e => ?_) (fun e => ?_)⟩
    · have e1 : n % 4294967296 > 2147483647 := of_decide_eq_true e
      rw [if_pos e1] at q
      exact ⟨_, rfl, _, _, rfl, rfl, _, rfl, q⟩
    · have e1 : ¬ n % 4294967296 > 2147483647 := fun z => e (decide_eq_true z)
      rw [if_neg e1] at q
      exact ⟨_, rfl, q⟩
theorem wr_in {n : Int} (h : In32 n) : wr n = n := by
  obtain ⟨h1, h2⟩ := h
  unfold wr
  omega
theorem fdm (a b : Int) : a - a.fdiv b * b = a.fmod b := by
  have := Int.mul_fdiv_add_fmod a b
  rw [Int.mul_comm] at this
  omega
theorem wr_01 (b : Bool) : wr (b2n b) = b2n b := by cases b <;> rfl
theorem less_eq (a b : Int) : wr (if decide (a - b < 0) = true then 1 else 0) = b2n (decide (a < b)) := by
  have e : decide (a - b < 0) = decide (a < b) := by
    by_cases h : a < b
    · rw [decide_eq_true h, decide_eq_true (show a - b < 0 by omega)]
    · rw [decide_eq_false h, decide_eq_false (show ¬ a - b < 0 by omega)]
  rw [e]
  exact wr_01 _
theorem same_eq (a b : Int) : wr (if decide (V.int (a - b) = V.int 0) = true then 1 else 0) = b2n (decide (a = b)) := by
  by_cases h : a = b
  · rw [decide_eq_true h, decide_eq_true (show V.int (a - b) = V.int 0 from congrArg V.int (by omega))]
    rfl
  · rw [decide_eq_false h, decide_eq_false (show ¬ V.int (a - b) = V.int 0 from fun z => h (by have := V.int.inj z; omega))]
    rfl
def sp__law_due : Sp := fun vs H Q _ => ∃ (wd : Str) (a b : Int) (v : V), vs = [.str wd, .int a, .int b] ∧ In32 a ∧ In32 b ∧ Due a b wd v ∧ ∀ H', Same H H' → Q v H'
theorem ok__law_due (T : Top K mg) : FnOk P w K mg base CX0 2 (He.ga K "_law_due") T.fd__law_due ["_law_word", "_law_one", "_law_other"] sp__law_due := by
  have G__law_wrap := ok__law_wrap (P := P) (w := w) (base := base) T
  refine T.F__law_due.ok sc__law_due (fun vs H Q E h => ?_) (fun cdv A outer s H vs Q E hr h => ?_)
  · obtain ⟨wd, a, b, v, rfl, _⟩ := h
    rfl
  · obtain ⟨wd, a, b, v, rfl, ha, hb, hd, q⟩ := h
    refine ⟨_, PSs.nox (pss_cons (ps_if (PW.pt (pw_and (pt_cmpR op_in_seq (pv 0) (pe_lst (pa_cons pe_str (pa_cons pe_str pa_nil))) (by rfl)) (pw_and1 (pt_cmpR op_eq (pv 2) pe_int (nomark _))))) (pss_one (ps_ret pe_non)) pss_nil)
        (pss_cons (ps_set (i := 3) sc__law_due.nd rfl (Or.inl rfl) (pe_op op_fdivG (pv 1) (pe_op op_add (pv 2) (pe_callTy call_int1 (by rfl) T.m_int (by decide +kernel) (pa_cons (pe_cmpR op_eq (pv 2) pe_int (nomark _)) pa_nil)))))
        (pss_cons (ps_set (i := 4) sc__law_due.nd rfl (Or.inl rfl) (pe_disp (pps_cons pe_str (pe_op op_add (pv 1) (pv 2)) (pps_cons pe_str (pe_op op_sub (pv 1) (pv 2)) (pps_cons pe_str (pe_op op_mul (pv 1) (pv 2)) (pps_cons pe_str (pv 3) pps_nil)))) (by rfl) (by rfl) (fun z => by cases z) (by decide)))
        (pss_cons (ps_dput (hu_of hr) (pv 4) pe_str (pe_op op_sub (pv 1) (pe_op op_mul (pv 3) (pv 2))) (by rfl))
        (pss_cons (ps_dput (hu_of hr) (pv 4) pe_str (pe_callTy call_int1 (by rfl) T.m_int (by decide +kernel) (pa_cons (pe_cmpR op_lt (pe_op op_sub (pv 1) (pv 2)) pe_int (nomark _)) pa_nil)) (by rfl))
        (pss_cons (ps_dput (hu_of hr) (pv 4) pe_str (pe_callTy call_int1 (by rfl) T.m_int (by decide +kernel) (pa_cons (pe_cmpR op_eq (pe_op op_sub (pv 1) (pv 2)) pe_int (nomark _)) pa_nil)) (by rfl))
        (pss_one (ps_ret (pe_call G__law_wrap (hr.mono (by decide)) (by rfl) T.g__law_wrap T.F__law_wrap.kp T.b__law_wrap .nil pass0 (pa_cons (pe_dget (hu_of hr) (pv 4) (pv 0) (fun _ _ => rfl)) pa_nil)))))))))), ?_⟩
    dsimp only
    refine ifs_by (fun σ' H' => Same H H' ∧ σ' = [some (.str wd), some (.int a), some (.int b), none, none] ∧ v ≠ .non) ?_ ?_
    · rintro σ' H1 ⟨sm, rfl, nv⟩
      obtain ⟨j, hj, hjd⟩ : ∃ j : Int, j = b + (if decide (V.int b = V.int 0) then 1 else 0) ∧ (b ≠ 0 → j = b) := ⟨_, rfl, fun z => by simp [z]⟩
      have j0 : j ≠ 0 ∧ j.natAbs.log2 < 9000 := by
        by_cases z : b = 0
        · subst z
          have : j = 1 := by simpa using hj
          subst this
          decide
        · have := hjd z
          subst this
          exact ⟨z, log_small ⟨hb.1, by have := hb.2; omega⟩⟩
      refine ⟨_, rfl, _, rfl, _, rfl, rfl, .inr ⟨_, rfl, _, _, rfl, rfl, _, _, rfl, rfl, ?_⟩⟩
      rw [← hj]
      refine ⟨j0, fun d nd => ?_⟩
      have cm : ∀ x : Int, CMul x b := fun x => .inr ⟨by have := hb.1; omega, by have := hb.2; omega⟩
      refine ⟨_, rfl, _, rfl, _, _, rfl, rfl, _, rfl, _, rfl, _, _, rfl, rfl, _, rfl, _, rfl, _, _, rfl, rfl, cm _, _, rfl, ?_⟩
      refine ⟨upd_same, [(.inr "add", .int (a + b)), (.inr "sub", .int (a - b)), (.inr "mul", .int (a * b)), (.inr "div", .int (a.fdiv j))], rfl, (by show 4 ≤ 15; decide), ?_⟩
      have e1 : mergeK [] [(.inr "add", .int (a + b)), (.inr "sub", .int (a - b)), (.inr "mul", .int (a * b)), (.inr "div", .int (a.fdiv j))] = [(.inr "add", .int (a + b)), (.inr "sub", .int (a - b)), (.inr "mul", .int (a * b)), (.inr "div", .int (a.fdiv j))] := by rfl
      rw [e1, upd_upd]
      refine ⟨_, rfl, _, rfl, _, rfl, _, _, rfl, rfl, cm _, _, _, rfl, rfl, _, rfl, d, _, rfl, DPut.k (k := .inr "rem") upd_same (by show 4 < sizeLine; rw [sizeLine_eq]; decide), ?_⟩
      rw [upd_upd]
      refine ⟨_, rfl, _, rfl, _, _, rfl, rfl, _, _, rfl, rfl, .inr ⟨_, rfl, _, rfl, d, _, rfl, DPut.k (k := .inr "less") upd_same (by show 5 < sizeLine; rw [sizeLine_eq]; decide), ?_⟩⟩
      rw [upd_upd]
      refine ⟨_, rfl, _, rfl, _, _, rfl, rfl, rfl, .inr ⟨_, rfl, _, rfl, d, _, rfl, DPut.k (k := .inr "same") upd_same (by show 6 < sizeLine; rw [sizeLine_eq]; decide), ?_⟩⟩
      rw [upd_upd]
      refine ⟨_, rfl, _, rfl, d, ?_⟩
      have s2 : ∀ o, Same H (upd H1 d o) := fun o => sm.trans (same_new nd)
      have fin : ∀ (n : Int) o, v = .int (wr n) → Q (.int (wr n)) (upd H1 d o) := fun n o e => e ▸ q _ (s2 o)
      cases hd with
      | div0 h => exact absurd rfl nv
      | rem0 h => exact absurd rfl nv
      | div h =>
        have := hjd h
        subst this
        exact ⟨_, rfl, DGet.k (k := .inr "div") upd_same, _, rfl, fin _ _ rfl⟩
      | rem h =>
        have := hjd h
        subst this
        exact ⟨_, rfl, DGet.k (k := .inr "rem") upd_same, _, rfl, fin _ _ (by rw [fdm])⟩
      | add => exact ⟨_, rfl, DGet.k (k := .inr "add") upd_same, _, rfl, fin _ _ rfl⟩
      | sub => exact ⟨_, rfl, DGet.k (k := .inr "sub") upd_same, _, rfl, fin _ _ rfl⟩
      | mul => exact ⟨_, rfl, DGet.k (k := .inr "mul") upd_same, _, rfl, fin _ _ rfl⟩
      | less => exact ⟨_, rfl, DGet.k (k := .inr "less") upd_same, _, rfl, fin _ _ (by rw [less_eq])⟩
      | same => exact ⟨_, rfl, DGet.k (k := .inr "same") upd_same, _, rfl, fin _ _ (by rw [same_eq])⟩
    · intro N hN
      refine ⟨_, rfl, by decide, fun p np => ?_⟩
      have sm := same_new (o := .lst [.str "div", .str "rem"]) np
      refine ⟨p, _, rfl, .inl (.of upd_same), rfl, by decide +kernel, _, rfl, ?_⟩
      have out : v ≠ .non → N [some (.str wd), some (.int a), some (.int b), none, none] (upd H p (.lst [.str "div", .str "rem"])) := fun z => hN _ _ ⟨sm, rfl, z⟩
      cases hd with
      | div0 h => exact iteT ⟨_, rfl, rfl, _, rfl, ifD (congrArg V.int h) (q _ sm)⟩
      | rem0 h => exact iteT ⟨_, rfl, rfl, _, rfl, ifD (congrArg V.int h) (q _ sm)⟩
      | div h => exact iteT ⟨_, rfl, rfl, _, rfl, ifN (fun z => h (V.int.inj z)) (out (fun z => nomatch z))⟩
      | rem h => exact iteT ⟨_, rfl, rfl, _, rfl, ifN (fun z => h (V.int.inj z)) (out (fun z => nomatch z))⟩
      | add => exact out (fun z => nomatch z)
      | sub => exact out (fun z => nomatch z)
      | mul => exact out (fun z => nomatch z)
      | less => exact out (fun z => nomatch z)
      | same => exact out (fun z => nomatch z)
def sp_denied : Sp := fun vs H Q _ => ∃ n : Int, vs = [.int n] ∧ Q (.int (b2n (decide (V.int n = V.int 0)))) H
theorem ok_denied (T : Top K mg) : FnOk P w K mg base CX0 1 (He.ga K "denied") T.fd_denied ["n"] sp_denied := by
  refine T.F_denied.ok sc_denied (fun vs H Q E h => ?_) (fun cdv A outer s H vs Q E hr h => ?_)
  · obtain ⟨n, rfl, _⟩ := h
    rfl
  · obtain ⟨n, rfl, q⟩ := h
    refine ⟨_, PSs.nox (pss_one (ps_ret (pe_callTy call_int1 (by rfl) T.m_int (by decide +kernel) (pa_cons (pe_cmpR op_eq (pv 0) pe_int (nomark _)) pa_nil)))), ?_⟩
    exact ⟨_, rfl, rfl, .inr ⟨_, rfl, q⟩⟩
def sp__law_two : Sp := fun vs H Q _ => ∃ c k : Int, vs = [.int c, .int k] ∧ 0 ≤ k ∧ k < 1000 ∧ ∀ H' r, Same H H' → In32 r → Q (.int r) H'
theorem ok__law_two (T : Top K mg) : FnOk P w K mg base CX0 2 (He.ga K "_law_two") T.fd__law_two ["_law_cell", "_law_k"] sp__law_two := by
  have G__law_mixed := ok__law_mixed (P := P) (w := w) (base := base) T
  refine T.F__law_two.ok sc__law_two (fun vs H Q E h => ?_) (fun cdv A outer s H vs Q E hr h => ?_)
  · obtain ⟨c, k, rfl, _⟩ := h
    rfl
  · obtain ⟨c, k, rfl, h0, h1, q⟩ := h
    refine ⟨_, PSs.nox (pss_cons (ps_set (i := 2) sc__law_two.nd rfl (Or.inl rfl) (pe_lst (pa_cons pe_int (pa_cons pe_int (pa_cons (pe_un un_neg pe_int) (pa_cons pe_int (pa_cons (pe_un un_neg pe_int) (pa_cons pe_int (pa_cons pe_int (pa_cons (pe_un un_neg pe_int) (pa_cons pe_int (pa_cons (pe_un un_neg pe_int) (pa_cons pe_int (pa_cons (pe_op op_sub (pe_call G__law_mixed (hr.mono (by decide)) (by rfl) T.g__law_mixed T.F__law_mixed.kp T.b__law_mixed .nil pass0 (pa_cons (pv 0) (pa_cons (pv 1) (pa_cons pe_int pa_nil)))) pe_int) pa_nil))))))))))))))
        (pss_cons (ps_if (pt_cmpR op_eq (pe_call G__law_mixed (hr.mono (by decide)) (by rfl) T.g__law_mixed T.F__law_mixed.kp T.b__law_mixed .nil pass0 (pa_cons (pv 0) (pa_cons (pe_op op_add (pv 1) pe_int) (pa_cons pe_int pa_nil)))) pe_int (nomark _)) (pss_one (ps_ret (pe_op op_sub (pe_op op_mod (pv 0) pe_int) pe_int))) pss_nil)
        (pss_one (ps_ret (pe_ix ix_list (pv 2) (pe_call G__law_mixed (hr.mono (by decide)) (by rfl) T.g__law_mixed T.F__law_mixed.kp T.b__law_mixed .nil pass0 (pa_cons (pv 0) (pa_cons (pe_op op_add (pv 1) pe_int) (pa_cons pe_int pa_nil)))) (fun _ _ => rfl)))))), ?_⟩
    refine ⟨_, rfl, _, rfl, _, rfl, _, rfl, _, rfl, _, rfl, c, k, 200, rfl, h0, by omega, by decide, fun H1 r s1 r0 r1 => ?_⟩
    refine ⟨_, _, rfl, rfl, (by show 12 ≤ sizeLine; rw [sizeLine_eq]; decide), fun p np => ?_⟩
    have s2 : Same H1 _ := same_new (o := .lst (([0, 1, -1, 2, -2, 7, 2147483647, -2147483648, 65536, -65536, 46341, r - 100] : List Int).map V.int)) np
    refine ⟨_, rfl, _, rfl, _, _, rfl, rfl, c, k + 1, 3, rfl, by omega, by omega, by decide, fun H2 r2 s3 _ _ => ?_⟩
    refine ⟨rfl, _, rfl, ite2 (fun _ => ?_) (fun _ => ?_)⟩
    · refine ⟨_, rfl, _, _, rfl, rfl, (by show (0 : Int) < 4294967296; decide), _, _, rfl, rfl, q _ _ (s1.trans (s2.trans s3)) ?_⟩
      have a0 : 0 ≤ c % 4294967296 := Int.emod_nonneg _ (by decide)
      have a1 : c % 4294967296 < 4294967296 := Int.emod_lt_of_pos _ (by decide)
      exact ⟨by omega, by omega⟩
    · refine ⟨_, rfl, _, rfl, _, rfl, _, _, rfl, rfl, c, k + 2, 12, rfl, by omega, by omega, by decide, fun H3 j s4 j0 j1 => ?_⟩
      refine ⟨p, _, j, _, rfl, rfl, .of (s4 _ _ (s3 _ _ upd_same)), at_ints (ns := [0, 1, -1, 2, -2, 7, 2147483647, -2147483648, 65536, -65536, 46341, r - 100]) j0 j1, q _ _ (s1.trans (s2.trans (s3.trans s4))) ?_⟩
      obtain ⟨i, rfl⟩ := Int.eq_ofNat_of_zero_le j0
      have hi : i < 12 := by omega
      have all : ∀ x ∈ ([0, 1, -1, 2, -2, 7, 2147483647, -2147483648, 65536, -65536, 46341, r - 100] : List Int), In32 x := by
        intro x hx
        simp only [List.mem_cons, List.not_mem_nil, or_false] at hx
        unfold In32
        omega
      refine all _ ?_
      have e : ([0, 1, -1, 2, -2, 7, 2147483647, -2147483648, 65536, -65536, 46341, r - 100] : List Int).getD (Int.toNat i) 0 = ([0, 1, -1, 2, -2, 7, 2147483647, -2147483648, 65536, -65536, 46341, r - 100] : List Int)[i]'hi := by simp [List.getD, hi]
      rw [e]
      exact List.getElem_mem _
def sp_law (K : PySem.W.Frag) : Sp := fun vs H Q _ => ∃ (a : Addr) (ns : List Int), vs = [.ref a] ∧ SqL K H a (ns.map V.int) ∧ ∀ H', Q (.bl true) H'
theorem law_start {K : PySem.W.Frag} {H : Hp} {a : Addr} {ns : List Int} (hl : ns.length ≤ 63) (hb : ∀ z ∈ ns, Builtin.Int.intBits z ≤ 1048576) (hS : SqL K H a (ns.map V.int)) : sp_law K [.ref a] H (fun v _ => v = .bl true) fun _ _ _ => False := ⟨a, ns, rfl, hS, fun _ => rfl⟩
theorem eqv_two (x y : Int) : PyData.eqv (.list [.int x, .int y]) (.list [.int x, .int y]) = true := SeqAt.eqv_refl _ rfl
theorem due_of {wd : Str} (h : wd ∈ wds) (a b : Int) : ∃ v, Due a b wd v ∧ (v = .non ∨ ∃ n, v = .int n) := by
  simp only [wds, List.mem_cons, List.not_mem_nil, or_false] at h
  rcases h with rfl | rfl | rfl | rfl | rfl | rfl | rfl
  · exact ⟨_, .add, .inr ⟨_, rfl⟩⟩
  · exact ⟨_, .sub, .inr ⟨_, rfl⟩⟩
  · exact ⟨_, .mul, .inr ⟨_, rfl⟩⟩
  · by_cases z : b = 0
    · exact ⟨_, .div0 z, .inl rfl⟩
    · exact ⟨_, .div z, .inr ⟨_, rfl⟩⟩
  · by_cases z : b = 0
    · exact ⟨_, .rem0 z, .inl rfl⟩
    · exact ⟨_, .rem z, .inr ⟨_, rfl⟩⟩
  · exact ⟨_, .less, .inr ⟨_, rfl⟩⟩
  · exact ⟨_, .same, .inr ⟨_, rfl⟩⟩
theorem ok_law (T : Top K mg) : FnOk P w K mg base CX0 4 (He.ga K "law") T.fd_law ["_law_script"] (sp_law K) := by
  have G__law_cell_at := ok__law_cell_at (P := P) (w := w) (base := base) T
  have G__law_whole := ok__law_whole (P := P) (w := w) (base := base) T
  have G__law_mixed := ok__law_mixed (P := P) (w := w) (base := base) T
  have G__law_two := ok__law_two (P := P) (w := w) (base := base) T
  have G__law_due := ok__law_due (P := P) (w := w) (base := base) T
  have G_reckoned := ok_reckoned (P := P) (w := w) (base := base) T
  have G_denied := ok_denied (P := P) (w := w) (base := base) T
  refine T.F_law.ok sc_law (fun vs H Q E h => ?_) (fun cdv A outer s H vs Q E hr h => ?_)
  · obtain ⟨a, ns, rfl, _⟩ := h
    rfl
  · obtain ⟨a, ns, rfl, hS, q⟩ := h
    refine ⟨_, PSs.nox (pss_cons (ps_set (i := 1) sc_law.nd rfl (Or.inl rfl) (pe_call G__law_two (hr.mono (by decide)) (by rfl) T.g__law_two T.F__law_two.kp T.b__law_two .nil pass0 (pa_cons (pe_call G__law_cell_at (hr.mono (by decide)) (by rfl) T.g__law_cell_at T.F__law_cell_at.kp T.b__law_cell_at .nil pass0 (pa_cons (pv 0) (pa_cons pe_int pa_nil))) (pa_cons pe_int pa_nil))))
        (pss_cons (ps_set (i := 2) sc_law.nd rfl (Or.inl rfl) (pe_call G__law_two (hr.mono (by decide)) (by rfl) T.g__law_two T.F__law_two.kp T.b__law_two .nil pass0 (pa_cons (pe_call G__law_cell_at (hr.mono (by decide)) (by rfl) T.g__law_cell_at T.F__law_cell_at.kp T.b__law_cell_at .nil pass0 (pa_cons (pv 0) (pa_cons pe_int pa_nil))) (pa_cons pe_int pa_nil))))
        (pss_cons (ps_if (pt_cmpR op_eq (pe_op op_mod (pe_call G__law_cell_at (hr.mono (by decide)) (by rfl) T.g__law_cell_at T.F__law_cell_at.kp T.b__law_cell_at .nil pass0 (pa_cons (pv 0) (pa_cons pe_int pa_nil))) pe_int) pe_int (nomark _)) (pss_one (ps_set (i := 2) sc_law.nd rfl (Or.inl rfl) (pv 1))) pss_nil)
        (pss_cons (ps_if (pt_cmpR op_eq (pe_op op_mod (pe_call G__law_cell_at (hr.mono (by decide)) (by rfl) T.g__law_cell_at T.F__law_cell_at.kp T.b__law_cell_at .nil pass0 (pa_cons (pv 0) (pa_cons pe_int pa_nil))) pe_int) pe_int (nomark _)) (pss_cons (ps_set (i := 1) sc_law.nd rfl (Or.inl rfl) (pe_ix ix_list (pe_lst (pa_cons (pe_un un_neg pe_int) (pa_cons (pe_un un_neg pe_int) (pa_cons pe_int (pa_cons (pe_un un_neg pe_int) pa_nil))))) (pe_call G__law_mixed (hr.mono (by decide)) (by rfl) T.g__law_mixed T.F__law_mixed.kp T.b__law_mixed .nil pass0 (pa_cons (pe_call G__law_cell_at (hr.mono (by decide)) (by rfl) T.g__law_cell_at T.F__law_cell_at.kp T.b__law_cell_at .nil pass0 (pa_cons (pv 0) (pa_cons pe_int pa_nil))) (pa_cons pe_int (pa_cons pe_int pa_nil)))) (fun _ _ => rfl)))
        (pss_one (ps_set (i := 2) sc_law.nd rfl (Or.inl rfl) (pe_ix ix_list (pe_lst (pa_cons (pe_un un_neg pe_int) (pa_cons pe_int (pa_cons (pe_un un_neg pe_int) (pa_cons (pe_un un_neg pe_int) pa_nil))))) (pe_call G__law_mixed (hr.mono (by decide)) (by rfl) T.g__law_mixed T.F__law_mixed.kp T.b__law_mixed .nil pass0 (pa_cons (pe_call G__law_cell_at (hr.mono (by decide)) (by rfl) T.g__law_cell_at T.F__law_cell_at.kp T.b__law_cell_at .nil pass0 (pa_cons (pv 0) (pa_cons pe_int pa_nil))) (pa_cons pe_int (pa_cons pe_int pa_nil)))) (fun _ _ => rfl))))) pss_nil)
        (pss_cons (ps_set (i := 3) sc_law.nd rfl (Or.inl rfl) (pe_lst (pa_cons pe_str (pa_cons pe_str (pa_cons pe_str (pa_cons pe_str (pa_cons pe_str (pa_cons pe_str (pa_cons pe_str pa_nil)))))))))
        (pss_cons (ps_if (pt_cmpR op_eq (pe_op op_mod (pe_op op_fdivW (pe_call G__law_cell_at (hr.mono (by decide)) (by rfl) T.g__law_cell_at T.F__law_cell_at.kp T.b__law_cell_at .nil pass0 (pa_cons (pv 0) (pa_cons pe_int pa_nil))) pe_int) pe_int) pe_int (nomark _)) (pss_one (ps_set (i := 3) sc_law.nd rfl (Or.inl rfl) (pe_revL (pv 3) (pe_un un_neg pe_int)))) pss_nil)
        (pss_cons (ps_for PassesOwn.never (by rfl) (pi_list (pv 3)) (pg_name (i := 4) sc_law.nd rfl (Or.inl rfl)) (pss_cons (ps_set (i := 5) sc_law.nd rfl (Or.inl rfl) (pe_call G__law_due (hr.mono (by decide)) (by rfl) T.g__law_due T.F__law_due.kp T.b__law_due .nil pass0 (pa_cons (pv 4) (pa_cons (pv 1) (pa_cons (pv 2) pa_nil)))))
        (pss_cons (ps_set (i := 6) sc_law.nd rfl (Or.inl rfl) (pe_call G_reckoned (hr.mono (by decide)) (by rfl) T.g_reckoned T.F_reckoned.kp T.b_reckoned .nil pass0 (pa_cons (pv 4) (pa_cons (pv 1) (pa_cons (pv 2) pa_nil)))))
        (pss_one (ps_if (PW.pt (pw_or (PW.pt (pw_and (pt_cmpR op_isN (pv 5) pe_non (nomark _)) (pw_and1 (pt_cmpR op_notN (pv 6) pe_non (nomark _))))) (pw_or1 (PW.pt (pw_and (pt_cmpR op_notN (pv 5) pe_non (nomark _)) (pw_and1 (PW.pt (pw_or (pt_not (pt_val (pe_call G__law_whole (hr.mono (by decide)) (by rfl) T.g__law_whole T.F__law_whole.kp T.b__law_whole .nil pass0 (pa_cons (pv 6) pa_nil)))) (pw_or1 (pt_cmpR op_ne (pv 6) (pv 5) (nomark _))))))))))) (pss_one (ps_ret pe_bl)) pss_nil)))))
        (pss_cons (ps_set (i := 7) sc_law.nd rfl (Or.inl rfl) (pe_lst (pa_cons (pe_call G_denied (hr.mono (by decide)) (by rfl) T.g_denied T.F_denied.kp T.b_denied .nil pass0 (pa_cons (pv 1) pa_nil)) (pa_cons (pe_call G_denied (hr.mono (by decide)) (by rfl) T.g_denied T.F_denied.kp T.b_denied .nil pass0 (pa_cons (pv 2) pa_nil)) pa_nil))))
        (pss_one (ps_ret (pe_and (pe_callB (cr_all (by rfl)) (by rfl) T.m_all (by decide +kernel) (pa_cons (pe_lc (own := [("_law_n", 8)]) (by rfl) sc_law.nd (pi_list (pv 7)) (blkOk_by (own := [("_law_n", 8)]) (N := N_law) (sc := defScope s_law) (by decide +kernel)) (fun _ _ _ _ _ => (pg_name (i := 8) sc_law.nd rfl (Or.inl rfl))) (fun _ _ _ _ _ => pts_nil) (fun _ _ _ _ _ => (pe_call G__law_whole (hr.mono (by decide)) (by rfl) T.g__law_whole T.F__law_whole.kp T.b__law_whole .nil pass0 (pa_cons (pv 8) pa_nil)))) pa_nil)) (pe_one (pe_cmpR (op_eqD hr.units) (pv 7) (pe_lst (pa_cons (pe_callTy call_int1 (by rfl) T.m_int (by decide +kernel) (pa_cons (pe_cmpR op_eq (pv 1) pe_int (nomark _)) pa_nil)) (pa_cons (pe_callTy call_int1 (by rfl) T.m_int (by decide +kernel) (pa_cons (pe_cmpR op_eq (pv 2) pe_int (nomark _)) pa_nil)) pa_nil))) (nomark _)))))))))))))), ?_⟩
    refine ⟨_, rfl, a, ns, 0, rfl, by decide, hS, _, 1, rfl, by decide, by decide, fun H1 one s1 i1 => ?_⟩
    refine ⟨_, rfl, a, ns, 1, rfl, by decide, s1.seq hS, _, 4, rfl, by decide, by decide, fun H2 other s2 i2 => ?_⟩
    have sm2 := s1.trans s2
    dsimp only [gName]
    refine ifs_by (fun σ' H' => Same H H' ∧ ∃ o, In32 o ∧ σ' = [some (.ref a), some (.int one), some (.int o), none, none, none, none, none, none]) ?_ ?_
    rotate_left
    · intro N hN
      refine ⟨_, rfl, a, ns, 2, rfl, by decide, sm2.seq hS, _, _, rfl, rfl, (by show (0 : Int) < 5; decide), rfl, _, rfl, ite2 (fun _ => ?_) (fun _ => ?_)⟩
      · exact ⟨_, rfl, hN _ _ ⟨sm2, _, i1, rfl⟩⟩
      · exact hN _ _ ⟨sm2, _, i2, rfl⟩
    rintro σ' H3 ⟨sm3, o, io, rfl⟩
    refine ifs_by (fun σ' H' => Same H H' ∧ ∃ e o, In32 e ∧ In32 o ∧ σ' = [some (.ref a), some (.int e), some (.int o), none, none, none, none, none, none]) ?_ ?_
    rotate_left
    · intro N hN
      refine ⟨_, rfl, a, ns, 2, rfl, by decide, sm3.seq hS, _, _, rfl, rfl, (by show (0 : Int) < 5; decide), rfl, _, rfl, ite2 (fun _ => ?_) (fun _ => ?_)⟩
      · refine ⟨_, rfl, _, rfl, _, rfl, (by show 4 ≤ sizeLine; rw [sizeLine_eq]; decide), fun p np => ?_⟩
        have sm4 := sm3.trans (same_new (o := .lst (([-2147483648, -2147483648, 2147483647, -2147483648] : List Int).map V.int)) np)
        refine ⟨_, rfl, a, ns, 0, rfl, by decide, sm4.seq hS, _, 7, 4, rfl, by decide, by decide, by decide, fun H4 j s5 j0 j1 => ?_⟩
        refine ⟨p, _, j, _, rfl, rfl, .of (s5 _ _ upd_same), at_ints (ns := [-2147483648, -2147483648, 2147483647, -2147483648]) j0 j1, ?_⟩
        have ie : In32 (([-2147483648, -2147483648, 2147483647, -2147483648] : List Int).getD j.toNat 0) := getD_all (by unfold In32; decide) j0 j1
        generalize ([-2147483648, -2147483648, 2147483647, -2147483648] : List Int).getD j.toNat 0 = e at ie
        have sm5 := sm4.trans s5
        refine ⟨_, rfl, _, rfl, _, rfl, (by show 4 ≤ sizeLine; rw [sizeLine_eq]; decide), fun p2 np2 => ?_⟩
        have sm6 := sm5.trans (same_new (o := .lst (([-1, 1, -1, -2147483648] : List Int).map V.int)) np2)
        refine ⟨_, rfl, a, ns, 1, rfl, by decide, sm6.seq hS, _, 8, 4, rfl, by decide, by decide, by decide, fun H6 j2 s7 j20 j21 => ?_⟩
        refine ⟨p2, _, j2, _, rfl, rfl, .of (s7 _ _ upd_same), at_ints (ns := [-1, 1, -1, -2147483648]) j20 j21, ?_⟩
        have io2 : In32 (([-1, 1, -1, -2147483648] : List Int).getD j2.toNat 0) := getD_all (by unfold In32; decide) j20 j21
        exact hN _ _ ⟨sm6.trans s7, _, _, ie, io2, rfl⟩
      · exact hN _ _ ⟨sm3, _, _, i1, io, rfl⟩
    rintro σ' H5 ⟨sm5, e, o, ie, io, rfl⟩
    refine ⟨(by show 7 ≤ sizeLine; rw [sizeLine_eq]; decide), fun p np => ?_⟩
    have sm6 := sm5.trans (same_new (o := .lst (wds.map V.str)) np)
    dsimp only [gName]
    refine ifs_by (fun σ' H' => Same H H' ∧ ∃ (p : Addr) (wl : List Str), SqL K H' p (wl.map V.str) ∧ (∀ x ∈ wl, x ∈ wds) ∧ σ' = [some (.ref a), some (.int e), some (.int o), some (.ref p), none, none, none, none, none]) ?_ ?_
    rotate_left
    · intro N hN
      refine ⟨_, rfl, a, ns, 2, rfl, by decide, sm6.seq hS, _, _, rfl, rfl, ⟨by decide, by decide⟩, _, _, rfl, rfl, (by show (0 : Int) < 2; decide), rfl, _, rfl, ite2 (fun _ => ?_) (fun _ => ?_)⟩
      · refine ⟨_, rfl, _, rfl, rfl, p, _, rfl, .of upd_same, fun p2 np2 => ?_⟩
        exact hN _ _ ⟨sm6.trans (same_new np2), p2, wds.reverse, .of (by rw [List.map_reverse]; exact upd_same), fun x hx => List.mem_reverse.mp hx, rfl⟩
      · exact hN _ _ ⟨sm6, p, wds, .of upd_same, fun x hx => hx, rfl⟩
    rintro σ' H7 ⟨sm7, p, wl, hW, hwl, rfl⟩
    refine ⟨_, rfl, p, rfl, ⟨_, hW⟩, for_list (xs := wl.map V.str) (fun i σ' H' => Same H7 H' ∧ ∃ x4 x5 x6, σ' = [some (.ref a), some (.int e), some (.int o), some (.ref p), x4, x5, x6, none, none]) ?_ ?_ ?_ ?_⟩
    · exact ⟨Same.refl _, none, none, none, rfl⟩
    · rintro i σ' H' _ ⟨s8, _⟩
      exact s8.seq hW
    · rintro i x σ' H8 hx ⟨s8, x4, x5, x6, rfl⟩
      rw [List.getElem?_map] at hx
      obtain ⟨wd, hwd, rfl⟩ := Option.map_eq_some_iff.mp hx
      have hm : wd ∈ wds := hwl _ (List.mem_of_getElem? hwd)
      obtain ⟨v, hv, sh⟩ := due_of hm e o
      refine ⟨_, rfl, _, rfl, _, rfl, wd, e, o, v, rfl, ie, io, hv, fun H9 s9 => ?_⟩
      refine ⟨_, rfl, _, rfl, _, rfl, wd, e, o, v, rfl, ie, io, hv, fun H10 s10 => ?_⟩
      have s11 := s8.trans (s9.trans s10)
      have done : Same H7 H10 ∧ ∃ x4 x5 x6, [some (V.ref a), some (.int e), some (.int o), some (.ref p), some (.str wd), some v, some v, none, none] = [some (.ref a), some (.int e), some (.int o), some (.ref p), x4, x5, x6, none, none] := ⟨s11, _, _, _, rfl⟩
      rcases sh with rfl | ⟨n, rfl⟩
      · refine ⟨_, rfl, rfl, _, rfl, ifD rfl ?_⟩
        refine ⟨_, rfl, rfl, _, rfl, ?_⟩
        refine ifNF rfl ?_
        refine ⟨_, rfl, rfl, _, rfl, ?_⟩
        exact ifNF rfl done
      · refine ⟨_, rfl, rfl, _, rfl, ifN (fun z => nomatch z) ?_⟩
        refine ⟨_, rfl, rfl, _, rfl, ifNT (fun z => nomatch z) ?_⟩
        refine ⟨_, rfl, n, rfl, _, rfl, ?_⟩
        refine iteF ⟨_, rfl, _, rfl, rfl, _, rfl, ?_⟩
        exact ifNF rfl done
    · rintro σ' H8 ⟨s8, x4, x5, x6, rfl⟩
      refine ⟨_, rfl, _, rfl, _, rfl, _, rfl, (by show 2 ≤ sizeLine; rw [sizeLine_eq]; decide), fun L nL => ?_⟩
      generalize hx : b2n (decide (V.int e = V.int 0)) = x
      generalize hy : b2n (decide (V.int o = V.int 0)) = y
      have eL : upd H8 L (HO.lst [V.int x, V.int y]) L = some (.lst [V.int x, V.int y]) := upd_same
      generalize upd H8 L (HO.lst [V.int x, V.int y]) = H9 at eL
      refine ⟨_, rfl, L, rfl, ⟨_, .of eL⟩, fun D nD => ?_⟩
      refine lc_list (K := K) (a := L) (xs := [V.int x, V.int y]) (fun i H' => Same H9 H' ∧ H' D = some (.lst ((List.replicate i true).map V.bl))) ?_ ?_ ?_ ?_
      · exact ⟨same_new nD, upd_same⟩
      · rintro i H' _ ⟨s9, _⟩
        exact .of (s9 _ _ eL)
      · rintro i z H' hz ⟨s9, hD⟩
        have hi : i < 2 := by
          have := (List.getElem?_eq_some_iff.mp hz).1
          exact this
        have nLD : L ≠ D := ne_of_none eL nD
        obtain ⟨n, rfl⟩ : ∃ n, z = .int n := by
          match i, hi, hz with
          | 0, _, hz => exact ⟨_, (Option.some.inj hz).symm⟩
          | 1, _, hz => exact ⟨_, (Option.some.inj hz).symm⟩
        · skip
          refine ⟨rfl, _, rfl, n, rfl, _, hD, ?_, ?_⟩
          · rw [List.length_map, List.length_replicate, sizeLine_eq]
            omega
          · refine ⟨fun b u hb => ?_, ?_⟩
            · rw [upd_ne (ne_of_none hb nD)]
              exact s9 _ _ hb
            · rw [upd_same, List.replicate_succ', List.map_append]
              rfl
      · rintro H' ⟨s9, hD⟩
        refine ⟨D, [true, true], rfl, .of hD, true, rfl, iteT ?_⟩
        refine ⟨_, rfl, _, rfl, rfl, .inr ⟨_, rfl, _, rfl, rfl, .inr ⟨_, rfl, (by show 2 ≤ sizeLine; rw [sizeLine_eq]; decide), fun M nM => ?_⟩⟩⟩
        have e1 : ∀ b : Bool, (if b = true then (1 : Int) else 0) = b2n b := fun b => rfl
        rw [e1, e1, hx, hy]
        refine ⟨.list [.int x, .int y], .list [.int x, .int y], .lst (.of (same_new nM _ _ (s9 _ _ eL))) (.cons (.int _) (.cons (.int _) .nil)), .lst (.of upd_same) (.cons (.int _) (.cons (.int _) .nil)), rfl, rfl, ?_⟩
        rw [show PyData.eqv (.list [.int x, .int y]) (.list [.int x, .int y]) = true from eqv_two x y]
        exact q _
end
def d_wrapped : He.DefD := ⟨("wrapped", none), "wrapped", "wrapped", defArgs s_wrapped, defBody s_wrapped, defScope s_wrapped, [], []⟩
def d_divided : He.DefD := ⟨("divided", none), "divided", "divided", defArgs s_divided, defBody s_divided, defScope s_divided, [], []⟩
def d_reckoned : He.DefD := ⟨("reckoned", none), "reckoned", "reckoned", defArgs s_reckoned, defBody s_reckoned, defScope s_reckoned, [], []⟩
def d_denied : He.DefD := ⟨("denied", none), "denied", "denied", defArgs s_denied, defBody s_denied, defScope s_denied, [], []⟩
def d__law_cell_at : He.DefD := ⟨("_law_cell_at", none), "_law_cell_at", "_law_cell_at", defArgs s__law_cell_at, defBody s__law_cell_at, defScope s__law_cell_at, [], []⟩
def d__law_whole : He.DefD := ⟨("_law_whole", none), "_law_whole", "_law_whole", defArgs s__law_whole, defBody s__law_whole, defScope s__law_whole, [], []⟩
def d__law_mixed : He.DefD := ⟨("_law_mixed", none), "_law_mixed", "_law_mixed", defArgs s__law_mixed, defBody s__law_mixed, defScope s__law_mixed, [], []⟩
def d__law_two : He.DefD := ⟨("_law_two", none), "_law_two", "_law_two", defArgs s__law_two, defBody s__law_two, defScope s__law_two, [], []⟩
def d__law_wrap : He.DefD := ⟨("_law_wrap", none), "_law_wrap", "_law_wrap", defArgs s__law_wrap, defBody s__law_wrap, defScope s__law_wrap, [], []⟩
def d__law_due : He.DefD := ⟨("_law_due", none), "_law_due", "_law_due", defArgs s__law_due, defBody s__law_due, defScope s__law_due, [], []⟩
def d_law : He.DefD := ⟨("law", none), "law", "law", defArgs s_law, defBody s_law, defScope s_law, [], []⟩
def fn0 : List He.DefD := [d_wrapped, d_divided, d_reckoned, d_denied, d__law_cell_at, d__law_whole, d__law_mixed, d__law_two, d__law_wrap, d__law_due, d_law]
def fn : List He.DefD := fn0
def fa0 : List He.Fa := [.glo "wrapped", .glo "divided", .glo "reckoned", .glo "denied", .glo "_law_cell_at", .glo "_law_whole", .glo "_law_mixed", .glo "_law_two", .glo "_law_wrap", .glo "_law_due", .glo "law", .free "all", .free "bool", .free "divmod", .free "int", .free "isinstance", .free "len", .int "HALF" (2147483648), .int "ROUND" (4294967296)]
def fa : List He.Fa := fa0
def exB (K : PySem.W.Frag) : Bool := true
abbrev hk : PySem.W.Hook := hookE 4 fa fn exB
def ob (s : PySem.W.SharedT) : He.AlD × Bool := obsE 4 fa fn exB (HandSHeadRun.getT s)
theorem ob_eq (s : PySem.W.SharedT) : ob s = hk.obs s.abs := obsE_eq (HandSHeadRun.getT_eq s)
abbrev R : PySem.W.OpenRow := PySem.W.OpenLaw.row PySem.Challenge.rw_passworks_k02_reckoned
def lo0 : List PySem.Str := ["HALF", "ROUND", "wrapped", "divided", "reckoned", "denied", "_law_cell_at", "_law_whole", "_law_mixed", "_law_two", "_law_wrap", "_law_due"]
def lo : List PySem.Str := lo0
theorem run (w : World) : HandSHeadRun.RunEq R (PySem.W.view R.prog [14]) hk ob 4000 lo w := by
  intro os
  kernel_rfl
theorem top_of {K : PySem.W.Frag} {h : Heap} {mg : Str → Option Value} (X : K.In h) (G : h.Ns mainGlobals mg) (c : SaysE fa fn exB K) : Nonempty (Top K mg) := by
  obtain ⟨fd0, F0⟩ := c.1.def_ 0 (d := d_wrapped) rfl
  obtain ⟨fd1, F1⟩ := c.1.def_ 1 (d := d_divided) rfl
  obtain ⟨fd2, F2⟩ := c.1.def_ 2 (d := d_reckoned) rfl
  obtain ⟨fd3, F3⟩ := c.1.def_ 3 (d := d_denied) rfl
  obtain ⟨fd4, F4⟩ := c.1.def_ 4 (d := d__law_cell_at) rfl
  obtain ⟨fd5, F5⟩ := c.1.def_ 5 (d := d__law_whole) rfl
  obtain ⟨fd6, F6⟩ := c.1.def_ 6 (d := d__law_mixed) rfl
  obtain ⟨fd7, F7⟩ := c.1.def_ 7 (d := d__law_two) rfl
  obtain ⟨fd8, F8⟩ := c.1.def_ 8 (d := d__law_wrap) rfl
  obtain ⟨fd9, F9⟩ := c.1.def_ 9 (d := d__law_due) rfl
  obtain ⟨fd10, F10⟩ := c.1.def_ 10 (d := d_law) rfl
  obtain ⟨tk_HALF, ck_HALF⟩ := He.int_ok X G (c.1.fact 17 (f := .int "HALF" (2147483648)) rfl)
  obtain ⟨tk_ROUND, ck_ROUND⟩ := He.int_ok X G (c.1.fact 18 (f := .int "ROUND" (4294967296)) rfl)
  exact ⟨{ fd_wrapped := fd0, F_wrapped := F0, b_wrapped := FunD.bindsN F0 fun _ _ _ _ _ _ us hl => (match us, hl with | [_], _ => rfl), g_wrapped := He.glo_ok X G (c.1.fact 0 (f := .glo "wrapped") rfl), fd_divided := fd1, F_divided := F1, b_divided := FunD.bindsN F1 fun _ _ _ _ _ _ us hl => (match us, hl with | [_, _, _], _ => rfl), g_divided := He.glo_ok X G (c.1.fact 1 (f := .glo "divided") rfl), fd_reckoned := fd2, F_reckoned := F2, b_reckoned := FunD.bindsN F2 fun _ _ _ _ _ _ us hl => (match us, hl with | [_, _, _], _ => rfl), g_reckoned := He.glo_ok X G (c.1.fact 2 (f := .glo "reckoned") rfl), fd_denied := fd3, F_denied := F3, b_denied := FunD.bindsN F3 fun _ _ _ _ _ _ us hl => (match us, hl with | [_], _ => rfl), g_denied := He.glo_ok X G (c.1.fact 3 (f := .glo "denied") rfl), fd__law_cell_at := fd4, F__law_cell_at := F4, b__law_cell_at := FunD.bindsN F4 fun _ _ _ _ _ _ us hl => (match us, hl with | [_, _], _ => rfl), g__law_cell_at := He.glo_ok X G (c.1.fact 4 (f := .glo "_law_cell_at") rfl), fd__law_whole := fd5, F__law_whole := F5, b__law_whole := FunD.bindsN F5 fun _ _ _ _ _ _ us hl => (match us, hl with | [_], _ => rfl), g__law_whole := He.glo_ok X G (c.1.fact 5 (f := .glo "_law_whole") rfl), fd__law_mixed := fd6, F__law_mixed := F6, b__law_mixed := FunD.bindsN F6 fun _ _ _ _ _ _ us hl => (match us, hl with | [_, _, _], _ => rfl), g__law_mixed := He.glo_ok X G (c.1.fact 6 (f := .glo "_law_mixed") rfl), fd__law_two := fd7, F__law_two := F7, b__law_two := FunD.bindsN F7 fun _ _ _ _ _ _ us hl => (match us, hl with | [_, _], _ => rfl), g__law_two := He.glo_ok X G (c.1.fact 7 (f := .glo "_law_two") rfl), fd__law_wrap := fd8, F__law_wrap := F8, b__law_wrap := FunD.bindsN F8 fun _ _ _ _ _ _ us hl => (match us, hl with | [_], _ => rfl), g__law_wrap := He.glo_ok X G (c.1.fact 8 (f := .glo "_law_wrap") rfl), fd__law_due := fd9, F__law_due := F9, b__law_due := FunD.bindsN F9 fun _ _ _ _ _ _ us hl => (match us, hl with | [_, _, _], _ => rfl), g__law_due := He.glo_ok X G (c.1.fact 9 (f := .glo "_law_due") rfl), fd_law := fd10, F_law := F10, b_law := FunD.bindsN F10 fun _ _ _ _ _ _ us hl => (match us, hl with | [_], _ => rfl), g_law := He.glo_ok X G (c.1.fact 10 (f := .glo "law") rfl), m_all := He.free_ok X G (c.1.fact 11 (f := .free "all") rfl), m_bool := He.free_ok X G (c.1.fact 12 (f := .free "bool") rfl), m_divmod := He.free_ok X G (c.1.fact 13 (f := .free "divmod") rfl), m_int := He.free_ok X G (c.1.fact 14 (f := .free "int") rfl), m_isinstance := He.free_ok X G (c.1.fact 15 (f := .free "isinstance") rfl), m_len := He.free_ok X G (c.1.fact 16 (f := .free "len") rfl), t_HALF := tk_HALF, c_HALF := ck_HALF, t_ROUND := tk_ROUND, c_ROUND := ck_ROUND }⟩
end K02
open PySem PySem.W PySem.Calls PyProof.Rows
theorem PySem.Challenge.cw_passworks_k02_reckoned_holds : PySem.Challenge.rw_passworks_k02_reckoned.Holds := by
  w_on; o_law
  refine HandSHeadRun.head_any (r := OpenLaw.row PySem.Challenge.rw_passworks_k02_reckoned) (q := view (OpenLaw.row PySem.Challenge.rw_passworks_k02_reckoned).prog [14]) (H := K02.hk) (ob := K02.ob) (M := 4000) (loose := K02.lo) (d := HandSHeadRun.topDef (OpenLaw.row PySem.Challenge.rw_passworks_k02_reckoned).prog 14) (kwd := []) K02.ob_eq
    (by kernel_rfl) (fun s => by kernel_rfl) K02.run (by kernel_rfl) (by kernel_rfl) (by kernel_rfl) (by rfl) (by first | assumption | decide +kernel) (by decide +kernel) ⟨rfl, rfl, rfl, rfl, rfl, by decide +kernel⟩ ?hw ?hc
  case hw => w_witness2
  case hc =>
    refine K02.walk_bits (l := PySem.Challenge.rw_passworks_k02_reckoned) (n := 63) (k := 4) (x := "_law_script") (CX := L2.CX0) rfl (by decide) (by kernel_rfl) ⟨rfl, by decide, by decide⟩ ?F (fun _ _ _ _ z => z)
    intro w mg fa h Y G hmg0
    obtain ⟨K, KX, c⟩ := Y
    have hmg : mg ("law" : PySem.Str) = some (.ref fa) := by
      have e : (HandSHeadRun.topDef (OpenLaw.row PySem.Challenge.rw_passworks_k02_reckoned).prog 14).name = ("law" : PySem.Str) := by kernel_rfl
      rw [← e]
      exact hmg0
    obtain ⟨T⟩ := K02.top_of KX G c
    obtain rfl : He.ga K "law" = fa := by
      have e := T.g_law.symm.trans hmg
      injection e with e
      injection e
    have b := L2.FunD.bindsA (ps := ["_law_script"]) T.F_law fun _ _ _ _ _ _ us hl => match us, hl with | [_], _ => rfl
    exact ⟨K, T.fd_law, K02.sp_law K, KX, fun s v => b s [v] rfl, fun H a ns hl hb _ hS => K02.law_start hl hb hS, fun base _ _ => K02.ok_law T⟩

