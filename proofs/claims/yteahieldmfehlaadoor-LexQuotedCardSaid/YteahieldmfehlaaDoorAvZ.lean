/- Av, part Z: the set of rules by which a region is reckoned ('simp only [go_sem, ..]'). -/
import Derived.Test.YteahieldmfehlaaDoorAvP
namespace Go.Av
theorem upd_at (e : Env) (d t : Nat) (v : AV) : upd e d v t = if t = d then v else e t := rfl
theorem argEnv_at (args : List AV) (t : Nat) : argEnv args t = args.getD t (.sc (.tuple #[])) := rfl
theorem argEnvG_at (n : Nat) (args : List AV) (E : Env) (t : Nat) : argEnvG n args E t = if t < n then args.getD t (.sc (.tuple #[])) else E (t - n) := rfl
theorem argEnvG_up (n : Nat) (args : List AV) (E : Env) (t : Nat) : argEnvG n args E (t + n) = E t := by
  unfold argEnvG
  rw [if_neg (by omega), Nat.add_sub_cancel]
theorem getD_zero {α : Type} (x d : α) (l : List α) : (x :: l).getD 0 d = x := rfl
@[congr] theorem ldV_congr {P : Program} {T : TypeId} {cs cs' : List AV} {K : AV → Prop} (h2 : cs = cs') : ldV P T cs K = ldV P T cs' K := by subst_vars; rfl
@[congr] theorem binI_congr {op : BinOp} {k : IntKind} {a a' : Int} {b b' : Int} {K : AV → Prop} (h2 : a = a') (h3 : b = b') : binI op k a b K = binI op k a' b' K := by subst_vars; rfl
@[congr] theorem shiftI_congr {op : BinOp} {k : IntKind} {a a' : Int} {b b' : Int} {K : AV → Prop} (h2 : a = a') (h3 : b = b') : shiftI op k a b K = shiftI op k a' b' K := by subst_vars; rfl
@[congr] theorem binS_congr {op : BinOp} {a a' : List UInt8} {b b' : List UInt8} {K : AV → Prop} (h1 : a = a') (h2 : b = b') : binS op a b K = binS op a' b' K := by subst_vars; rfl
@[congr] theorem binB_congr {op : BinOp} {a a' : Bool} {b b' : Bool} {K : AV → Prop} (h1 : a = a') (h2 : b = b') : binB op a b K = binB op a' b' K := by subst_vars; rfl
@[congr] theorem slV_congr {P : Program} {T : TypeId} {H H' : List AO} {x x' : AV} {lo lo' : Option AV} {hi hi' : Option AV} {K : AV → Prop} (h2 : H = H') (h3 : x = x') (h4 : lo = lo') (h5 : hi = hi') : slV P T H x lo hi K = slV P T H' x' lo' hi' K := by subst_vars; rfl
@[congr] theorem bytesV_congr {P : Program} {src : TypeId} {dst : TypeId} {H H' : List AO} {x x' : AV} {K : AV → Prop} (h3 : H = H') (h4 : x = x') : bytesV P src dst H x K = bytesV P src dst H' x' K := by subst_vars; rfl
@[congr] theorem convV_congr {P : Program} {src : TypeId} {dst : TypeId} {H H' : List AO} {x x' : AV} {K : AV → Prop} (h3 : H = H') (h4 : x = x') : convV P src dst H x K = convV P src dst H' x' K := by subst_vars; rfl
@[congr] theorem ixV_congr {P : Program} {T : TypeId} {H H' : List AO} {x x' : AV} {i i' : AV} {K : AV → Prop} (h2 : H = H') (h3 : x = x') (h4 : i = i') : ixV P T H x i K = ixV P T H' x' i' K := by subst_vars; rfl
@[congr] theorem paV_congr {p p' : AV} {d d' : Nat} {K : AV → Prop} (h0 : p = p') (h1 : d = d') : paV p d K = paV p' d' K := by subst_vars; rfl
@[congr] theorem faV_congr {P : Program} {H H' : List AO} {T : TypeId} {p p' : AV} {i i' : Nat} {K : AV → Prop} (h1 : H = H') (h3 : p = p') (h4 : i = i') : faV P H T p i K = faV P H' T p' i' K := by subst_vars; rfl
@[congr] theorem lenV_congr {P : Program} {t : TypeId} {H H' : List AO} {x x' : AV} {K : AV → Prop} (h2 : H = H') (h3 : x = x') : lenV P t H x K = lenV P t H' x' K := by subst_vars; rfl
@[congr] theorem eqB_congr {op : BinOp} {b b' : Bool} {K : AV → Prop} (h1 : b = b') : eqB op b K = eqB op b' K := by subst_vars; rfl
@[congr] theorem binP_congr {P : Program} {H H' : List AO} {op : BinOp} {T : TypeId} {x x' : AV} {y y' : AV} {K : AV → Prop} (h1 : H = H') (h4 : x = x') (h5 : y = y') : binP P H op T x y K = binP P H' op T x' y' K := by subst_vars; rfl
@[congr] theorem binV_congr {P : Program} {H H' : List AO} {op : BinOp} {T : TypeId} {x x' : AV} {y y' : AV} {K : AV → Prop} (h1 : H = H') (h4 : x = x') (h5 : y = y') : binV P H op T x y K = binV P H' op T x' y' K := by subst_vars; rfl
@[congr] theorem unV_congr {op : UnOp} {x x' : AV} {K : AV → Prop} (h1 : x = x') : unV op x K = unV op x' K := by subst_vars; rfl
@[congr] theorem ncV_congr {H H' : List AO} {x x' : AV} {K : AV → Prop} (h0 : H = H') (h1 : x = x') : ncV H x K = ncV H' x' K := by subst_vars; rfl
@[congr] theorem usdV_congr {H H' : List AO} {x x' : AV} {K : AV → Prop} (h0 : H = H') (h1 : x = x') : usdV H x K = usdV H' x' K := by subst_vars; rfl
@[congr] theorem sOp_congr {P : Program} {op op' : Op} {env env' : Env} {H H' : List AO} {K : AV → Prop} (h1 : op = op') (h2 : env = env') (h3 : H = H') : sOp P op env H K = sOp P op' env' H' K := by subst_vars; rfl
@[congr] theorem appN_congr {E : TypeId} {s s' : Nat} {H H' : List AO} {ys ys' : List AV} {K : AV → List AO → Prop} (h1 : s = s') (h2 : H = H') (h3 : ys = ys') : appN E s H ys K = appN E s' H' ys' K := by subst_vars; rfl
@[congr] theorem appV_congr {P : Program} {t : TypeId} {t2 : TypeId} {H H' : List AO} {x x' : AV} {y y' : AV} {K : AV → List AO → Prop} (h3 : H = H') (h4 : x = x') (h5 : y = y') : appV P t t2 H x y K = appV P t t2 H' x' y' K := by subst_vars; rfl
@[congr] theorem usV_congr {P : Program} {pt : TypeId} {H H' : List AO} {p p' : AV} {n n' : AV} {K : AV → List AO → Prop} (h2 : H = H') (h3 : p = p') (h4 : n = n') : usV P pt H p n K = usV P pt H' p' n' K := by subst_vars; rfl
@[congr] theorem stoV_congr {P : Program} {T : TypeId} {H H' : List AO} {p p' : AV} {x x' : AV} {K : AV → List AO → Prop} (h2 : H = H') (h3 : p = p') (h4 : x = x') : stoV P T H p x K = stoV P T H' p' x' K := by subst_vars; rfl
@[congr] theorem eOp_congr {P : Program} {op op' : Op} {ty : TypeId} {env env' : Env} {H H' : List AO} {K : AV → List AO → Prop} (h1 : op = op') (h3 : env = env') (h4 : H = H') : eOp P op ty env H K = eOp P op' ty env' H' K := by subst_vars; rfl
@[congr] theorem vOp_congr {P : Program} {q : Bool} {op op' : Op} {ty : TypeId} {env env' : Env} {H H' : List AO} {K : AV → Env → List AO → Prop} (h2 : op = op') (h4 : env = env') (h5 : H = H') : vOp P q op ty env H K = vOp P q op' ty env' H' K := by subst_vars; rfl
@[congr] theorem VO_congr {P : Program} {q : Bool} {ops : Array Oper} {l l' : List Oper} {env env' : Env} {H H' : List AO} {K : Env → List AO → Prop} (h0 : l = l') (h1 : env = env') (h2 : H = H') : VO P q ops l env H K = VO P q ops l' env' H' K := by subst_vars; rfl
@[congr] theorem resK_congr {P : Program} {l : List ResultVar} {env env' : Env} {H H' : List AO} {K : List AV → Prop} (h1 : env = env') (h2 : H = H') : resK P l env H K = resK P l env' H' K := by subst_vars; rfl
@[congr] theorem J_congr {P : Program} {n : Nat} {c : Code} {env env' : Env} {H H' : List AO} {K : Post} (h1 : env = env') (h2 : H = H') : J P n c env H K = J P n c env' H' K := by rw [h1, h2]
@[congr] theorem Then_congr {P : Program} {n : Nat} {c : Code} {ex : Exit} {env env' : Env} {H H' : List AO} {K : Post} (h1 : env = env') (h2 : H = H') : Then P n c K ex env H = Then P n c K ex env' H' := by rw [h1, h2]
@[congr] theorem Block_congr {id : Nat} {ex : Exit} {env env' : Env} {H H' : List AO} {K : Post} (h1 : env = env') (h2 : H = H') : Block id K ex env H = Block id K ex env' H' := by rw [h1, h2]
@[congr] theorem LoopK_congr {σ : Type} {E : σ → Env} {Hs : σ → List AO} {I : σ → Prop} {m : σ → Nat} {s : σ} {ex : Exit} {env env' : Env} {H H' : List AO} {K : Post} (h1 : env = env') (h2 : H = H') : LoopK E Hs I m s K ex env H = LoopK E Hs I m s K ex env' H' := by rw [h1, h2]
@[congr] theorem Fin_congr {P : Program} {rs : List ResultVar} {ret : AV} {objs : List AO} {ex : Exit} {env env' : Env} {H H' : List AO} (h1 : env = env') (h2 : H = H') : Fin P rs ret objs ex env H = Fin P rs ret objs ex env' H' := by rw [h1, h2]
theorem envL_nil (t : Nat) : envL [] t = .dead := rfl
theorem envL_cons (k : Nat) (v : AV) (l : List (Nat × AV)) (t : Nat) : envL ((k, v) :: l) t = if t = k then v else envL l t := by
  unfold envL
  rw [List.lookup_cons]
  by_cases h : t = k
  · subst h; simp
  · have : (t == k) = false := by simpa using h
    simp [this, h]
attribute [go_sem] envL_nil envL_cons
attribute [go_sem] fillA placeA splice elsB List.all_cons List.all_nil AV.one List.range_succ List.range_zero List.take_zero List.take_succ_cons AV.flatT AV.flat beq_self_eq_true
theorem one_nilS : (Value.slice none 0 0).oneCell' = true := rfl
theorem one_nilP : (Value.pointer none).oneCell' = true := rfl
theorem one_nilI : Value.nilIface.oneCell' = true := rfl
theorem one_nilF : Value.nilFunc.oneCell' = true := rfl
theorem one_nilM : (Value.map none).oneCell' = true := rfl
attribute [go_sem] one_nilS one_nilP one_nilI one_nilF one_nilM List.set_cons_zero List.set_cons_succ Nat.le_refl
theorem take_map_len {α β : Type} (f : α → β) (l : List α) : (l.map f).take l.length = l.map f := List.take_of_length_le (Nat.le_of_eq (List.length_map ..))
attribute [go_sem high] argEnvG_up
attribute [go_sem] take_map_len
attribute [go_sem] eqA eqK Bool.and_true Option.map_some binP nilP somP sameP liveB eqB usdV usV Bool.and_false Bool.false_and List.cons_ne_nil guardK_tt guardK_ff guardK_tf guardK_ft intC_u8 intC_i8 intC_i16 intC_i32 intC_i64 intC_u16 intC_u32 intC_u64 constA
attribute [go_sem ↓] VO vOp sOp eOp
attribute [go_sem] effOp binV binI shiftI binS binB unV ldP ldV ixV paV faV lenV slV convV bytesV elemsV stoV ncV nextV iv ivl evO put upd_at AV.cells
  argEnv_at argEnvG_at List.getElem?_toArray List.toList_toArray resK oneOf sh sh2 sh1 shO Bool.false_eq_true Bool.true_eq_false if_false if_true true_and and_true List.getD_cons_zero List.getD_cons_succ Option.bind_some Option.map_some Option.map_none List.map_cons List.map_nil List.append_nil List.nil_append AV.closed AV.closedL Bool.and_true Bool.true_and Bool.not_true Bool.not_false List.getElem?_cons_zero List.getElem?_cons_succ List.drop_zero List.drop_succ_cons List.length_cons List.length_nil Option.isSome_some Option.getD_some List.length_map List.cons_append Nat.zero_add Nat.add_zero
/-! bytes -/
theorem iadd_b (a b : UInt8) : iadd .u8 (b2i a) (b2i b) = b2i (a + b) := by
  simp only [iadd, b2i, UInt8.toNat_add]; show (((a.toNat : Int) + b.toNat) % 256 : Int) = _; omega
theorem isub_b (a b : UInt8) : isub .u8 (b2i a) (b2i b) = b2i (a - b) := by
  have ha := a.toNat_lt; have hb := b.toNat_lt
  simp only [isub, b2i, UInt8.toNat_sub]; show (((a.toNat : Int) - b.toNat) % 256 : Int) = _; omega
def toB (n : Int) : UInt8 := UInt8.ofNat (n % 256).toNat
theorem icv_toB (k : IntKind) (n : Int) : icv k .u8 n = b2i (toB n) := by
  simp only [icv, b2i, toB, UInt8.toNat_ofNat']; show (n % 256 : Int) = _; omega
theorem icv_b64 (b : UInt8) : icv .u8 .i64 (b2i b) = b2i b := by
  have hb := b.toNat_lt
  have : inR .i64 (b2i b) := by simp only [inR, b2i]; omega
  exact wrap_inR this
theorem icv_b32 (b : UInt8) : icv .u8 .i32 (b2i b) = b2i b := by
  have hb := b.toNat_lt
  have : inR .i32 (b2i b) := by simp only [inR, b2i]; omega
  exact wrap_inR this
theorem icv_bu32 (b : UInt8) : icv .u8 .u32 (b2i b) = b2i b := by
  have hb := b.toNat_lt
  have : inR .u32 (b2i b) := by simp only [inR, b2i]; omega
  exact wrap_inR this
theorem icv_bu64 (b : UInt8) : icv .u8 .u64 (b2i b) = b2i b := by
  have hb := b.toNat_lt
  have : inR .u64 (b2i b) := by simp only [inR, b2i]; omega
  exact wrap_inR this
def iand (k : IntKind) (a b : Int) : Int := bitsI .and k a b
def ior (k : IntKind) (a b : Int) : Int := bitsI .or k a b
def ixor (k : IntKind) (a b : Int) : Int := bitsI .xor k a b
def iandn (k : IntKind) (a b : Int) : Int := bitsI .andNot k a b
theorem bitsI_and (k : IntKind) (a b : Int) : bitsI .and k a b = iand k a b := rfl
theorem bitsI_or (k : IntKind) (a b : Int) : bitsI .or k a b = ior k a b := rfl
theorem bitsI_xor (k : IntKind) (a b : Int) : bitsI .xor k a b = ixor k a b := rfl
theorem bitsI_andn (k : IntKind) (a b : Int) : bitsI .andNot k a b = iandn k a b := rfl
theorem ofInt_b (a : UInt8) : BitVec.ofInt IntKind.u8.bits (b2i a) = a.toBitVec := by
  apply BitVec.eq_of_toNat_eq
  have ha := a.toNat_lt
  simp only [b2i, BitVec.toNat_ofInt, IntKind.bits, UInt8.toNat_toBitVec]
  omega
theorem wrapNat_b (n : Nat) (h : n < 256) : IntKind.u8.wrap (n : Int) = n := by show ((n : Int) % 256 : Int) = _; omega
theorem iand_b (a b : UInt8) : iand .u8 (b2i a) (b2i b) = b2i (a &&& b) := by
  simp only [iand, bitsI, ofInt_b]
  exact wrapNat_b _ (BitVec.isLt _)
theorem ior_b (a b : UInt8) : ior .u8 (b2i a) (b2i b) = b2i (a ||| b) := by
  simp only [ior, bitsI, ofInt_b]
  exact wrapNat_b _ (BitVec.isLt _)
theorem ixor_b (a b : UInt8) : ixor .u8 (b2i a) (b2i b) = b2i (a ^^^ b) := by
  simp only [ixor, bitsI, ofInt_b]
  exact wrapNat_b _ (BitVec.isLt _)
theorem encB_b (b : UInt8) : encB b = .int .u8 (b2i b) := rfl
/-! how an element stands in a list -/
def encI (k : IntKind) (n : Int) : AV := .int k n
def encS (s : List UInt8) : AV := .str s
def encO (b : Bool) : AV := .bool b
/-- a slice as an element -/
def encL {α : Type} (s : Nat) (f : α → AV) (l : List α) : AV := .view s (l.map f)
theorem encI_i (k : IntKind) (n : Int) : encI k n = .int k n := rfl
theorem encS_s (s : List UInt8) : encS s = .str s := rfl
theorem encO_o (b : Bool) : encO b = .bool b := rfl
theorem encL_l {α : Type} (s : Nat) (f : α → AV) (l : List α) : encL s f l = .view s (l.map f) := rfl
attribute [go_sem] iadd_b isub_b icv_toB icv_b64 icv_b32 icv_bu32 icv_bu64 bitsI_and bitsI_or bitsI_xor bitsI_andn iand_b ior_b ixor_b encB_b encI_i encS_s encO_o encL_l
end Go.Av
