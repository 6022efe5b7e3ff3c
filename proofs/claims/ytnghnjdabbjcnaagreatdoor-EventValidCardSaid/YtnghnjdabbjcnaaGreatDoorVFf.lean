/-
  Rules for walking code step by step: each value is brought to its head form, eac
-/
import Derived.Test.YtnghnjdabbjcnaaGreatDoorVFe
import Derived.ChangeArms
import Derived.DataReads
import Derived.ChangeSame
noncomputable section
namespace Go.Vm
variable {d es i ix j m n0 off:Nat} {c:Code} {a f v x y:Operand} {ops:Array Oper} {tg:Nat→Nat} {msk:Nat→List Nat} {o:Oper} {H' H1 H1':Heap} {X Y p p':PV} {k:IntKind} {all r:List Oper} {l:List Nat} {caps cs ps:List PV} {b:Bool} {e t ty u yt:TypeId} {pos:String} {grd:Option (Nat×Bool)} {ei ti:TI} {fn:Func} {args:Array Operand} {W w':World} {ats:Array TypeId} {el:List (List PV)} {OP:Op} {hi lo mx:Option Operand} {HI LO MX:Option PV}
structure Wp (E:Env) (P:Program) (own:Tmp→Bool) (n:Nat) (c:Code) (Q:Ex→TM→Heap→Prop) (tm:TM) (H:Heap):Prop where
 out:∃ex tm' H',CodeTo E P own n c tm H ex tm' H'∧Q ex tm' H'
def Ztn (E:Env) (P:Program) (own:Tmp→Bool) (n:Nat) (d:Code) (Q:Ex→TM→Heap→Prop):Ex→TM→Heap→Prop
 | .normal=>Wp E P own n d Q
 | .exit i=>Q (.exit i)
 | .ret=>Q .ret
def Zf8 (i:Nat) (Q:Ex→TM→Heap→Prop):Ex→TM→Heap→Prop
 | .normal=>Q .normal
 | .exit j=>match Nat.beq j i with|true=>Q .normal|false=>Q (.exit j)
 | .ret=>Q .ret
structure SeqQ (E:Env) (P:Program) (own:Tmp→Bool) (n:Nat) (d:Code) (Q:Ex→TM→Heap→Prop) (ex:Ex) (tm:TM) (H:Heap):Prop where
 out:Ztn E P own n d Q ex tm H
structure BlockQ (i:Nat) (Q:Ex→TM→Heap→Prop) (ex:Ex) (tm:TM) (H:Heap):Prop where
 out:Zf8 i Q ex tm H
structure LoopQ (E:Env) (P:Program) (own:Tmp→Bool) (n:Nat) (c:Code) (Q:Ex→TM→Heap→Prop) (ex:Ex) (tm:TM) (H:Heap):Prop where
 out:Ztn E P own n (.loop c) Q ex tm H
structure RegQ (E:Env) (P:Program) (own:Tmp→Bool) (n:Nat) (all l:List Oper) (K:TM→Heap→Prop) (tm:TM) (H:Heap):Prop where
 out:∃tm' H',RegTo E P own n all l tm H tm' H'∧K tm' H'
def Zqn (own:Tmp→Bool) (k:Nat):Nat:=(match own k with|true=>1|false=>0)+((match own (k+1) with|true=>2|false=>0)+((match own (k+2) with|true=>4|false=>0)+((match own (k+3) with|true=>8|false=>0)+((match own (k+4) with|true=>16|false=>0)+(match own (k+5) with|true=>32|false=>0)))))
def tgB (own:Tmp→Bool) (i:Nat):Nat:=Zqn own (50000+8*i)
def rdB (own:Tmp→Bool) (d:Nat):Nat:=Zqn own (40000+8*d)
def ZoV (ops:Array Oper) (i:Nat):Nat:=match nth ops.toList i with
 |some o=>o.dst.getD 0
 |none=>0
def DeadC (E:Env) (own:Tmp→Bool) (ops:Array Oper) (n0 i:Nat) (H:Heap):Prop:=∀k,k∈alL E own ops.toList 0→i≤k→H.bx[n0+k]? = some .dead
def ZrX (E:Env) (own:Tmp→Bool) (ops:Array Oper):Prop:=alL E own ops.toList 0≠ []→∀k,Y7 E own ops k≠ .ef
def ZrE (E:Env) (own:Tmp→Bool) (ops:Array Oper) (n0:Nat) (tg:Nat→Nat) (m:List Nat) (k:Nat):Prop:=
 (Y7 E own ops k= .st→tg k∉m)∧(Y7 E own ops k≠ .st→Y7 E own ops k≠ .sc→Y7 E own ops k≠ .al→∀s,s∈m→(∃j,j∈alL E own ops.toList 0∧k<j∧s=n0+j)∨(Y7 E own ops k= .ld∧own 29999=true∧s≠rdB own (ZoV ops k)))
structure DrwQ (E:Env) (P:Program) (own:Tmp→Bool) (n:Nat) (ops:Array Oper) (n0 i:Nat) (r:List Oper) (K:TM→Heap→Prop) (tm:TM) (H:Heap):Prop where
 out:r=ops.toList.drop i→DeadC E own ops n0 i H→ZrX E own ops→∃tg:Nat→Nat,(∀k,Y7 E own ops k≠ .st→tg k=n0)∧(∀k,i≤k→k<ops.size→Y7 E own ops k= .st→own (30000+k)=Nat.ble n0 (tg k)∧(own 29999=true→tg k=tgB own k))∧
  ∃tm' H',(∀msk:Nat→List Nat,(∀k,k<ops.size→ZrE E own ops n0 tg (msk k) k)→Run E P own n ops n0 (Y7 E own ops) tg msk ((List.range ops.size).drop i) tm H tm' H')∧K tm' H'
section
variable {E:Env} {P:Program} {own:Tmp→Bool} {n:Nat} {Q:Ex→TM→Heap→Prop} {K:TM→Heap→Prop} {tm:TM} {H:Heap}
theorem Wp.skip (h:Q .normal tm H):Wp E P own n .skip Q tm H:=⟨_,_,_,.skip _ _,h⟩
theorem Wp.ret (h:Q .ret tm H):Wp E P own n .ret Q tm H:=⟨_,_,_,.ret _ _,h⟩
theorem Wp.exit {i:Nat} (h:Q (.exit i) tm H):Wp E P own n (.exit i) Q tm H:=⟨_,_,_,.exit _ _ _,h⟩
theorem Wp.seq {c d:Code} (h:Wp E P own n c (SeqQ E P own n d Q) tm H):Wp E P own n (.seq c d) Q tm H:=by
 obtain⟨ex,tm',H',h1,h2⟩:=h.out;cases ex with
 |normal=>obtain⟨ex2,tm2,H2,h3,h4⟩:=(show Wp E P own n d Q tm' H' from h2.out).out;exact⟨ex2,tm2,H2,.seq _ _ _ _ _ _ _ _ _ h1 h3,h4⟩
 |exit i=>exact⟨.exit i,tm',H',.seqOut _ _ _ _ _ _ _ h1 (by simp),h2.out⟩
 |ret=>exact⟨.ret,tm',H',.seqOut _ _ _ _ _ _ _ h1 (by simp),h2.out⟩
theorem SeqQ.go {d:Code} (h:Wp E P own n d Q tm H):SeqQ E P own n d Q .normal tm H:=⟨h⟩
theorem SeqQ.ret {d:Code} (h:Q .ret tm H):SeqQ E P own n d Q .ret tm H:=⟨h⟩
theorem SeqQ.exit {d:Code} {i:Nat} (h:Q (.exit i) tm H):SeqQ E P own n d Q (.exit i) tm H:=⟨h⟩
theorem Wp.block {i:Nat} {c:Code} (h:Wp E P own n c (BlockQ i Q) tm H):Wp E P own n (.block i c) Q tm H:=by
 obtain⟨ex,tm',H',h1,⟨h2⟩⟩:=h.out;cases ex with
 |normal=>exact⟨.normal,tm',H',.block _ _ _ _ _ _ _ h1 (by simp),h2⟩
 |ret=>exact⟨.ret,tm',H',.block _ _ _ _ _ _ _ h1 (by simp),h2⟩
 |exit j=>
  cases e:Nat.beq j i with
  | true=>simp only[Zf8,e]at h2;have:=Nat.eq_of_beq_eq_true e;subst this;exact⟨.normal,tm',H',.blockOut _ _ _ _ _ _ h1,h2⟩
  | false=>simp only[Zf8,e]at h2;exact⟨.exit j,tm',H',.block _ _ _ _ _ _ _ h1 (by intro h;cases h;rw[Nat.beq_refl]at e;cases e),h2⟩
theorem BlockQ.go (h:Q .normal tm H):BlockQ i Q .normal tm H:=⟨h⟩
theorem BlockQ.ret {i:Nat} (h:Q .ret tm H):BlockQ i Q .ret tm H:=⟨h⟩
theorem BlockQ.hit (e:Nat.beq j i=true) (h:Q .normal tm H):BlockQ i Q (.exit j) tm H:=⟨by simp only[Zf8,e];exact h⟩
theorem Wp.loop {c:Code} (h:Wp E P own n c (LoopQ E P own n c Q) tm H):Wp E P own n (.loop c) Q tm H:=by
 obtain⟨ex,tm',H',h1,h2⟩:=h.out;cases ex with
 |normal=>obtain⟨ex2,tm2,H2,h3,h4⟩:=(show Wp E P own n (.loop c) Q tm' H' from h2.out).out;exact⟨ex2,tm2,H2,.loop _ _ _ _ _ _ _ _ h1 h3,h4⟩
 |exit i=>exact⟨.exit i,tm',H',.loopOut _ _ _ _ _ _ h1 (by simp),h2.out⟩
 |ret=>exact⟨.ret,tm',H',.loopOut _ _ _ _ _ _ h1 (by simp),h2.out⟩
theorem LoopQ.go (h:Wp E P own n (.loop c) Q tm H):LoopQ E P own n c Q .normal tm H:=⟨h⟩
theorem LoopQ.ret {c:Code} (h:Q .ret tm H):LoopQ E P own n c Q .ret tm H:=⟨h⟩
theorem LoopQ.exit {c:Code} {i:Nat} (h:Q (.exit i) tm H):LoopQ E P own n c Q (.exit i) tm H:=⟨h⟩
theorem Wp.cond {x:Operand} {c d:Code} {b:Bool} (hx:Zh E tm x= .bool b) (h1:b=true→Wp E P own n c Q tm H) (h2:b=false→Wp E P own n d Q tm H):Wp E P own n (.cond x c d) Q tm H:=by
 cases b with
 |true=>obtain⟨ex,tm',H',h3,h4⟩:=(h1 rfl).out;exact⟨ex,tm',H',.cond x c d true _ _ _ _ _ hx h3,h4⟩
 |false=>obtain⟨ex,tm',H',h3,h4⟩:=(h2 rfl).out;exact⟨ex,tm',H',.cond x c d false _ _ _ _ _ hx h3,h4⟩
theorem Wp.condT {d:Code} (hx:Zh E tm x= .bool true) (h1:Wp E P own n c Q tm H):Wp E P own n (.cond x c d) Q tm H:=
 .cond hx (fun _=>h1) (fun e=>by cases e)
theorem Wp.condF {d:Code} (hx:Zh E tm x= .bool false) (h1:Wp E P own n d Q tm H):Wp E P own n (.cond x c d) Q tm H:=
 .cond hx (fun e=>by cases e) (fun _=>h1)
theorem Wp.region {id:Nat} {ops:Array Oper} (h:RegQ E P own n ops.toList ops.toList (Q .normal) tm H):Wp E P own n (.region id ops false) Q tm H:=by obtain⟨tm',H',h1,h2⟩:=h.out;exact⟨.normal,tm',H',.region _ _ _ _ _ _ h1,h2⟩
theorem RegQ.nil {all:List Oper} (h:K tm H):RegQ E P own n all [] K tm H:=⟨_,_,.nil _ _,h⟩
theorem RegQ.op {all r:List Oper} {o:Oper} {p:PV} {H1:Heap} (hw:Zf all tm o=some true) (hd:X4 n o=true) (h:aOp E (own (o.dst.getD 0)) (Zh E tm) o.op H=some (p,H1)) (hr:RegQ E P own n all r K (ZN tm o.dst p) H1):RegQ E P own n all (o::r) K tm H:=by obtain⟨tm',H',h1,h2⟩:=hr.out;exact⟨tm',H',.op o r tm H p H1 tm' H' hw (.op _ _ h) (XT hd) h1,h2⟩
theorem RegQ.call {all r:List Oper} {o:Oper} {p:PV} {H1:Heap} (hw:Zf all tm o=some true) (hd:X4 n o=true) {f:Operand} {args:Array Operand} {ats:Array TypeId} {k:FuncId} {caps al:List PV} (ho:o.op= .call {callee:= .value f,args:=args,argTypes:=ats}) (hf:Zh E tm f= .fn k caps) (ha:args.toList.map (Zh E tm)++caps=al) (h:CallOk E P k al H p H1) (hr:RegQ E P own n all r K (ZN tm o.dst p) H1):RegQ E P own n all (o::r) K tm H:=by obtain⟨tm',H',h1,h2⟩:=hr.out;exact⟨tm',H',.op o r tm H p H1 tm' H' hw (.call f args ats k caps _ _ ho hf (by rw[ha];exact h)) (XT hd) h1,h2⟩
theorem RegQ.pass {all r:List Oper} {o:Oper} (hw:Zf all tm o=some false) (hd:X4 n o=true) (hr:RegQ E P own n all r K (ZN tm o.dst unset) H):RegQ E P own n all (o::r) K tm H:=by obtain⟨tm',H',h1,h2⟩:=hr.out;exact⟨tm',H',.pass o r tm H tm' H' hw (XT hd) h1,h2⟩
def Ztq (E:Env) (own:Tmp→Bool) (ops:Array Oper) (ms:List Nat) (st:List Nat):Bool:=st.all fun k=>(List.range ops.size).all fun i=>
 Nat.beq k i||(match Y7 E own ops i with| .sc=>true| .al=>bef ms i k|| !own (30000+k)| .st=>bef ms k i||(bef ms i k||(own (30000+k) != own (30000+i)||(own 29999&& !Nat.beq (tgB own k) (tgB own i))))| .ld=>bef ms k i||(bef ms i k||(own 29999&& !Nat.beq (tgB own k) (rdB own (ZoV ops i))))|_=>bef ms k i||bef ms i k)
def Ztk (E:Env) (own:Tmp→Bool) (ops:Array Oper) (ms:List Nat) (al:List Nat):Bool:=al.all fun k=>(List.range ops.size).all fun i=>
 Nat.ble i k||(match Y7 E own ops i with| .sc=>true| .st=>true| .al=>true|_=>bef ms k i)
def Zk3 (E:Env) (own:Tmp→Bool) (ops:Array Oper) (al:List Nat):Bool:=al.isEmpty||ops.toList.all fun o=>match Y2 E own o with| .ef=>false|_=>true
def ZeA (E:Env) (own:Tmp→Bool) (ops:Array Oper):Bool:=
 Zdi ops.toList 0&&Zc2 E own ops (X1 ops.toList []) ops.toList 0&&(Zk3 E own ops (alL E own ops.toList 0)&&Ztk E own ops (X1 ops.toList []) (alL E own ops.toList 0))&&Ztq E own ops (X1 ops.toList []) (stL E own ops.toList 0)
def ZpI (E:Env) (own:Tmp→Bool) (ops:Array Oper):Bool:=
 Zdi ops.toList 0&&Zc2 E own ops (X1 ops.toList []) ops.toList 0&&(alL E own ops.toList 0).isEmpty&&(stL E own ops.toList 0).isEmpty
def ZnK (E:Env) (own:Tmp→Bool) (ops:Array Oper):Bool:=
 Zdi ops.toList 0&&Zc2 E own ops (X1 ops.toList []) ops.toList 0&&(alL E own ops.toList 0).isEmpty&&Ztq E own ops (X1 ops.toList []) (stL E own ops.toList 0)
theorem Hp.congr {cls:Nat→Cls} {tg':Nat→Nat} {msk':Nat→List Nat} {tm:TM} {H:Heap} (e1:tg' i=tg i) (e2:msk' i=msk i) (h:Hp E P own ops n0 cls tg msk i o tm H p H'):Hp E P own ops n0 cls tg' msk' i o tm H p H':=by
 cases h with
 |pass hw=>exact .pass _ hw
 |sc _ hw h=>exact .sc _ _ hw h
 |qu _ hw hc h=>exact .qu _ _ hw hc (by rw[e2];exact h)
 |al e ei hw hc ho he hz hp hdd=>exact .al _ e ei hw hc ho he hz hp hdd
 |bo e x hw hc ho hp hdd=>exact .bo _ e x hw hc ho hp hdd
 |ef _ M hw hc h hl=>rw[← e2];exact .ef _ _ M hw hc (by rw[e2];exact h) hl
 |st _ b hw hc h hs=>rw[← e1];exact .st _ _ b hw hc (by rw[e1,e2];exact h) (by rw[e1,e2];exact hs)
 |ld _ hw hc h=>exact .ld _ _ hw hc (by rw[e1,e2];exact h)
 |tk _ M hw hc h hl=>exact .tk _ _ M hw hc (by rw[e2];exact h) hl
theorem Run.congr {ops:Array Oper} {n0:Nat} {cls:Nat→Cls} {tg tg':Nat→Nat} {msk msk':Nat→List Nat} {l:List Nat} {tm tm':TM} {H H':Heap} (h:Run E P own n ops n0 cls tg msk l tm H tm' H'):(∀j∈l,tg' j=tg j∧msk' j=msk j)→Run E P own n ops n0 cls tg' msk' l tm H tm' H':=by
 induction h with
 |nil tm H=>intro _;exact .nil _ _
 |cons i r o tm H p H1 tm' H' ho hd h hr ih=>intro hl;have:=hl i List.mem_cons_self;exact .cons i r o tm H p H1 tm' H' ho hd (h.congr this.1 this.2) (ih fun j hj=>hl j (List.mem_cons_of_mem _ hj))
theorem Zm4 (h:Zk3 E own ops (alL E own ops.toList 0)=true):ZrX E own ops:=fun hne k=>by
 simp only[Zk3,Bool.or_eq_true]at h
 rcases h with h|h
 · exact absurd (by simpa using h) hne
 · cases ho : ops.toList[k]? with
   | none=>simp[Y7,Zm,ho]
   | some o =>
     have:=List.all_eq_true.1 h o (List.mem_of_getElem? ho)
     simp only[Y7,Zm,ho]
     intro e
     rw[e]at this
     cases this
theorem Zk7 {H:Heap} {k:Nat} (h:k<m):(ZaE H m).bx[H.bx.length+k]? = some .dead:=by simp only[ZaE];rw[List.getElem?_append_right (by omega),List.getElem?_replicate,if_pos (by omega)]
theorem Wp.drawG (hE:TOk E P) (hm:P.follows .mixedOrders=true) {id:Nat} (hs:ZeA E own ops=true) (hst:stL E own ops.toList 0= []∨H.ro=0) (h:DrwQ E P own n ops H.bx.length 0 ops.toList (Q .normal) tm (ZaE H (Wm E own ops))):Wp E P own n (.region id ops true) Q tm H:=by
 simp only[ZeA,Bool.and_eq_true]at hs;obtain⟨⟨⟨b1,b2⟩,b3,b5⟩,b4⟩:=hs;have allt:∀k,k∈alL E own ops.toList 0→k<Wm E own ops:=fun k hk=>by
  obtain⟨o,_,h2,_⟩:=(Zcm _ _ _).1 hk
  have h3:=Zz h2
  have h4:k<ops.size:=by simpa using h3
  unfold Wm
  cases e:alL E own ops.toList 0 with
  | nil=>rw[e]at hk;cases hk
  | cons a r=>exact h4
 obtain⟨tg,htg,hfl,tm',H',h1,h2⟩:=h.out (by simp) (fun k hk _=>Zk7 (allt k hk)) (Zm4 b3);refine⟨.normal,tm',H',.draw _ _ _ _ _ _ fun id g a w Q hr hq=>?_,h2⟩;have hS:=ZfC (tg:=tg) hr.inv.ro b1 b2 (by
  intro k hk
  rcases hst with e|e
  · rw[e]at hk;cases hk
  · rw[e];exact Nat.zero_le _) (fun k hk=>by
  rw[htg k (by rw[hk];simp)]
  exact Nat.le_add_right _ _)
 refine ZlS (own:=own) hE hm hS ?_ id g a w Q hr hq;have stlt:∀k,k∈stL E own ops.toList 0→k<ops.size:=fun k hk=>by obtain⟨o,_,h2,_⟩:=(Ze0 _ _ _).1 hk;have:=Zz h2;simpa using this
 have key:∀i k,i<ops.size→k∈(stL E own ops.toList 0).filter (fun k=> !Nat.beq k i&&(!bef (X1 ops.toList []) k i&& !bef (X1 ops.toList []) i k))→Y7 E own ops i= .sc∨Y7 E own ops i= .al∨(Y7 E own ops i= .st∧(own (30000+k)≠own (30000+i)∨(own 29999=true∧tgB own k≠tgB own i)))∨(Y7 E own ops i= .ld∧own 29999=true∧tgB own k≠rdB own (ZoV ops i)):=fun i k hi hk=>by obtain⟨hk1,hk2⟩:=List.mem_filter.1 hk;have:=List.all_eq_true.1 (List.all_eq_true.1 b4 k hk1) i (List.mem_range.2 hi);simp only[Bool.and_eq_true,Bool.not_eq_true']at hk2;rw[hk2.1,hk2.2.1,hk2.2.2]at this;simp only[Bool.false_or]at this;cases hc:Y7 E own ops i<;>rw[hc]at this<;>simp at this;{exact .inl rfl};{exact .inr (.inl rfl)};{refine .inr (.inr (.inl ⟨rfl,?_⟩));rcases this with h|⟨h1,h2⟩;{exact .inl h};{exact .inr ⟨h1,fun e=>by rw[e,Nat.beq_refl]at h2;cases h2⟩}};{refine .inr (.inr (.inr ⟨rfl,this.1,fun e=>?_⟩));have h2:=this.2;rw[e,Nat.beq_refl]at h2;cases h2}
 have:=h1 (ZqG H.bx.length (X1 ops.toList []) (alL E own ops.toList 0) (stL E own ops.toList 0) tg) (fun i hi=>?_);{simpa using this}
 ·simp only[ZqG,Zsy];refine⟨fun hc hmem=>?_,fun hn1 hn2 hn3 s hs=>?_⟩
  ·rcases List.mem_append.1 hmem with hmem|hmem
   ·obtain⟨k, hk, e⟩ := List.mem_map.1 hmem;obtain⟨hka,hkb⟩:=List.mem_filter.1 hk;have hi2:i∈stL E own ops.toList 0:=QW.1 hc;have:=List.all_eq_true.1 (List.all_eq_true.1 b4 i hi2) k (List.mem_range.2 (by have:=allt k hka;unfold Wm at this;split at this<;>omega));have hck:Y7 E own ops k= .al:=Qc.2 hka;rw[hck]at this;have hne:Nat.beq i k=false:=by
     cases e:Nat.beq i k with
     | false=>rfl
     | true =>
       have:=Nat.eq_of_beq_eq_true e
       subst this
       rw[hc]at hck;cases hck
    simp only[hne,Bool.false_or,Bool.or_eq_true,Bool.not_eq_true']at this;rcases this with h|h;{simp[h]at hkb};{rw[(hfl i (Nat.zero_le _) hi hc).1]at h;have:Nat.ble H.bx.length (tg i)=true:=Nat.ble_eq_true_of_le (by omega);rw[this]at h;cases h}
   {obtain⟨k,hk,e⟩:=List.mem_map.1 hmem;have hks:=(List.mem_filter.1 hk).1;have f1:=hfl k (Nat.zero_le _) (stlt k hks) (QW.2 hks);have f2:=hfl i (Nat.zero_le _) hi hc;rcases key i k hi hk with h|h|⟨_,h|⟨h0,h⟩⟩|⟨h,_⟩;{rw[hc]at h;cases h};{rw[hc]at h;cases h};{refine h ?_;rw[f1.1,f2.1,e]};{exact h (by rw[← f1.2 h0, ← f2.2 h0,e])};{rw[hc]at h;cases h}}
  ·rcases List.mem_append.1 hs with hs|hs
   ·obtain⟨k,hk,e⟩:=List.mem_map.1 hs;obtain⟨hka,hkb⟩:=List.mem_filter.1 hk;refine .inl ⟨k,hka,?_,e.symm⟩;have:=List.all_eq_true.1 (List.all_eq_true.1 b5 k hka) i (List.mem_range.2 hi);simp only[Bool.or_eq_true]at this;(have hnb:bef (X1 ops.toList []) k i=false:=by simpa using hkb);rcases this with h|h;{have hle:=Nat.le_of_ble_eq_true h;rcases Nat.lt_or_eq_of_le hle with h|h;{exact h};{subst h;exact absurd (Qc.2 hka) hn3}}
    ·exfalso;revert h;cases hc:Y7 E own ops i<;>intro h<;>first
      | exact hn2 hc
      | exact hn3 hc
      | exact hn1 hc
      | (simp[hnb]at h;done)
   {obtain⟨k,hk,e⟩:=List.mem_map.1 hs;have hks:=(List.mem_filter.1 hk).1;have f1:=hfl k (Nat.zero_le _) (stlt k hks) (QW.2 hks);rcases key i k hi hk with h|h|⟨h,_⟩|⟨h,h0,h2⟩;{exact absurd h hn2};{exact absurd h hn3};{exact absurd h hn1};{exact .inr ⟨h,h0,by rw[← e,f1.2 h0];exact h2⟩}}
theorem Zfr (h:alL E own ops.toList 0= []):Zk3 E own ops (alL E own ops.toList 0)=true∧Ztk E own ops (X1 ops.toList []) (alL E own ops.toList 0)=true:=by rw[h];exact⟨rfl,rfl⟩
theorem Zgt (h:alL E own ops.toList 0= []):ZaE H (Wm E own ops)=H:=by simp[ZaE,Wm,h]
theorem Wp.draw (hE:TOk E P) (hm:P.follows .mixedOrders=true) {id:Nat} (hs:ZpI E own ops=true) (h:DrwQ E P own n ops H.bx.length 0 ops.toList (Q .normal) tm H):Wp E P own n (.region id ops true) Q tm H:=by
 simp only[ZpI,Bool.and_eq_true]at hs;obtain⟨⟨⟨b1,b2⟩,b3⟩,b4⟩:=hs;have es:stL E own ops.toList 0= []:=by simpa using b4
 have ea:alL E own ops.toList 0= []:=by simpa using b3
 obtain⟨n1,n2⟩:=Zfr ea;exact .drawG hE hm (by simp only[ZeA,b1,b2,n1,n2,es,Bool.true_and];rfl) (.inl es) (by rw[Zgt ea];exact h)
theorem Wp.drawS (hE:TOk E P) (hm:P.follows .mixedOrders=true) {id:Nat} (hs:ZnK E own ops=true) (hro:H.ro=0) (h:DrwQ E P own n ops H.bx.length 0 ops.toList (Q .normal) tm H):Wp E P own n (.region id ops true) Q tm H:=by
 simp only[ZnK,Bool.and_eq_true]at hs;obtain⟨⟨⟨b1,b2⟩,b3⟩,b4⟩:=hs;have ea:alL E own ops.toList 0= []:=by simpa using b3
 obtain⟨n1,n2⟩:=Zfr ea;exact .drawG hE hm (by simp only[ZeA,b1,b2,n1,n2,b4,Bool.true_and]) (.inr hro) (by rw[Zgt ea];exact h)
theorem Wp.drawA (hE:TOk E P) (hm:P.follows .mixedOrders=true) {id:Nat} (hs:ZeA E own ops=true) (hro:H.ro=0) {H0:Heap} (hH:ZaE H (Wm E own ops)=H0) (h:DrwQ E P own n ops H.bx.length 0 ops.toList (Q .normal) tm H0):Wp E P own n (.region id ops true) Q tm H:=by subst hH;exact .drawG hE hm hs (.inr hro) h
theorem DrwQ.nil {ops:Array Oper} {n0 i:Nat} (h:K tm H):DrwQ E P own n ops n0 i [] K tm H:=⟨fun hr _ _=>by
 have h1:ops.size≤i:=by
  rcases Nat.lt_or_ge i ops.size with h|h
  · have:=congrArg List.length hr;simp at this;omega
  · exact h
 rw[List.drop_eq_nil_of_le (by simpa using h1)]
 exact⟨fun _=>n0,fun _ _=>rfl,fun k h2 h3=>by omega,tm,H,fun _ _=> .nil _ _,h⟩⟩
theorem DrwQ.stepT (T : Nat) (hd : X4 n o = true)
  (h:ops[i]? = some o→DeadC E own ops n0 i H→ZrX E own ops→(Y7 E own ops i= .st→own (30000+i)=Nat.ble n0 T∧(own 29999=true→T=tgB own i))∧DeadC E own ops n0 (i+1) H1∧∀(tg:Nat→Nat) (msk:Nat→List Nat),(Y7 E own ops i≠ .st→tg i=n0)→(Y7 E own ops i= .st→tg i=T)→ZrE E own ops n0 tg (msk i) i→Hp E P own ops n0 (Y7 E own ops) tg msk i o tm H p H1)
  (hr:DrwQ E P own n ops n0 (i+1) r K (ZN tm o.dst p) H1):DrwQ E P own n ops n0 i (o::r) K tm H:=⟨fun hl hdc hne=>by
 have ho:ops[i]? = some o:=by
  have:=congrArg List.head? hl
  simp[List.head?_drop]at this
  exact this.symm
 have hi:i<ops.size:=by
  rcases Nat.lt_or_ge i ops.size with h|h
  · exact h
  · rw[Array.getElem?_eq_none h]at ho;cases ho
 have hr':r=ops.toList.drop (i+1):=by
  have:=congrArg List.tail hl
  simpa using this
 have hdr:(List.range ops.size).drop i=i::(List.range ops.size).drop (i+1):=by
  rw[List.drop_eq_getElem_cons (by simpa using hi)]
  simp
 obtain⟨hT,hdc1,hp⟩:=h ho hdc hne
 obtain⟨tg,htg,hfl,tm',H',h1,h2⟩:=hr.out hr' hdc1 hne
 rw[hdr]
 let tg':Nat→Nat:=fun k=>if k=i then(if Y7 E own ops i= .st then T else n0) else tg k
 have tgi:∀k,k≠i→tg' k=tg k:=fun k e=>by simp only[tg',if_neg e]
 refine⟨tg',fun k hk=>?_,fun k hk hks hc=>?_,tm',H',fun msk hmsk=> .cons i _ o _ _ p H1 _ _ ho (XT hd) (hp tg' msk (fun hc=>?_) (fun hc=>?_) (hmsk i hi)) ((h1 (fun k=>if k=i then(if tg i=n0 then(if n0=0 then[1] else[0]) else[n0]) |>.filter (fun _=>decide (Y7 E own ops i= .st)) else msk k) fun k hk=>?_).congr fun j hj=>?_),h2⟩
 · by_cases e : k = i
   · subst e;simp[tg',hk]
   · rw[tgi k e];exact htg k hk
 · by_cases e : k = i
   · subst e;simp only[tg',if_pos,hc];exact hT hc
   · rw[tgi k e];exact hfl k (by omega) hks hc
 · simp[tg',hc]
 · simp[tg',hc]
 · by_cases e : k = i
   · subst e
     refine⟨fun hc=>?_,fun hc _ _ s hs=>?_⟩
     · have ef : ∀l : List Nat, l.filter (fun _ => decide (Y7 E own ops k = .st)) = l := fun l => by simp[hc]
       simp only[if_pos,ef]
       by_cases c1:tg k=n0
       · rw[if_pos c1]
         by_cases c2:n0=0
         · rw[if_pos c2,c1,c2];simp
         · rw[if_neg c2,c1];simpa using c2
       · rw[if_neg c1];simpa using c1
     · simp[hc]at hs
   · simp only[if_neg e]
     have:=hmsk k hk
     unfold ZrE at this ⊢
     rw[tgi k e]at this
     exact this
 · have : i + 1 ≤ j := by
     obtain⟨m,hm,rfl⟩:=List.mem_iff_getElem.1 hj
     simp
   have hne:j≠i:=by omega
   exact⟨tgi j hne,by rw[if_neg hne]⟩⟩
theorem Zbk (h:∀s,s∈l→H.bx[s]? = some .dead):ZQ l H=H:=by refine Heap.ext' (List.ext_getElem? fun i=>?_) rfl rfl rfl;simp only[ZQ,Wz];split;{rename_i hi;exact(h i hi.1).symm};{rfl}
theorem Hp.dead (ht:tg i=n0) (hm:ZQ (msk i) H=H) (he:Y7 E own ops i= .ef→msk i= []) (hst:Y7 E own ops i≠ .st) (h:Hp E P own ops n0 (Y7 E own ops) (fun _=>n0) (fun _=>[]) i o tm H p H1):Hp E P own ops n0 (Y7 E own ops) tg msk i o tm H p H1:=by
 cases h with
 |pass hw=>exact .pass _ hw
 |sc _ hw h=>exact .sc _ _ hw h
 |qu _ hw hc h=>exact .qu _ _ hw hc (by rw[hm];exact h)
 |al e ei hw hc ho he hz hp hdd=>exact .al _ e ei hw hc ho he hz hp hdd
 |bo e x hw hc ho hp hdd=>exact .bo _ e x hw hc ho hp hdd
 |ef _ M hw hc h hl=>have e:=he hc;have:=Hp.ef (E:=E) (P:=P) (own:=own) (ops:=ops) (n0:=n0) (cls:=Y7 E own ops) (tgt:=tg) (msk:=msk) (i:=i) (o:=o) (tm:=tm) H p M hw hc (by rw[e];exact h) hl;rw[e]at this;exact this
 |st _ b hw hc h hs=>exact absurd hc hst
 |ld _ hw hc h=>exact .ld _ _ hw hc (by rw[ht,hm];exact h)
 |tk _ M hw hc h hl=>exact .tk _ _ M hw hc (by rw[hm];exact h) hl
theorem DeadC.next (h:DeadC E own ops n0 i H):DeadC E own ops n0 (i+1) H:=fun k hk hi=>h k hk (by omega)
def LdC (E:Env) (P:Program) (own:Tmp→Bool) (n0:Nat) (tm:TM) (o:Oper) (H:Heap) (p:PV):Prop:=∀K:Heap,(own 29999=false→K.bx.take n0=H.bx.take n0)→(own 29999=true→rdB own (o.dst.getD 0)<n0→K.bx[rdB own (o.dst.getD 0)]? = H.bx[rdB own (o.dst.getD 0)]?)→OpTo E P own tm o K p K
theorem DrwQ.stepN (hd : X4 n o = true) (hH : H1 = H ∨ Y2 E own o = .ef ∨ (Y2 E own o = .tk ∧ ∀(j : Nat) (b : Box), H.bx[j]? = some b → H1.bx[j]? = some b))
  (h : ops[i]? = some o → Y7 E own ops i ≠ .st ∧ ((∀tg : Nat → Nat, ∀msk : Nat → List Nat, Hp E P own ops n0 (Y7 E own ops) tg msk i o tm H p H1) ∨ ((Y7 E own ops i ≠ .sc ∧ Y7 E own ops i ≠ .al ∧ Y7 E own ops i ≠ .ld) ∧ Hp E P own ops n0 (Y7 E own ops) (fun _ => n0) (fun _ => []) i o tm H p H1) ∨
    (Y7 E own ops i= .ld∧Zf ops.toList tm o=some true∧H1=H∧LdC E P own n0 tm o H p)))
  (hr:DrwQ E P own n ops n0 (i+1) r K (ZN tm o.dst p) H1):DrwQ E P own n ops n0 i (o::r) K tm H:=
 .stepT 0 hd (fun ho hdc hne=>by
  have hci:=WR (E:=E) (own:=own) ho
  have hdi:ZoV ops i=o.dst.getD 0:=by
   have e:nth ops.toList i=some o:=by rw[Zm];simpa using ho
   simp only[ZoV,e]
  have hal:Y7 E own ops i= .ef→alL E own ops.toList 0= []:=fun hc=>by
   cases e:alL E own ops.toList 0 with
   | nil=>rfl
   | cons a r=>exact absurd hc (hne (by rw[e];simp) i)
  refine⟨fun hc=>absurd hc (h ho).1,?_,fun tg msk h1 _ h4=>?_⟩
  · rcases hH with rfl | hc | ⟨hc, hg⟩
    · exact hdc.next
    · have := hal (by rw[hci]; exact hc)
      intro k hk;rw[this]at hk;cases hk
    · exact fun k hk hle=>hg _ _ (hdc k hk (by omega))
  · rcases(h ho).2 with h' | h' | ⟨hld, hw, rfl, hL⟩
    · exact h' tg msk
    · refine h'.2.dead (h1 (h ho).1) ?_ ?_ (h ho).1
      · refine Zbk fun s hs => ?_
        rcases h4.2 (h ho).1 h'.1.1 h'.1.2.1 s hs with⟨j,hj,hlt,rfl⟩|⟨hl,_⟩
        · exact hdc j hj (by omega)
        · exact absurd hl h'.1.2.2
      · intro hc
        have e:=hal hc
        cases em:msk i with
        | nil=>rfl
        | cons a r =>
          rcases h4.2 (h ho).1 h'.1.1 h'.1.2.1 a (by rw[em];exact List.mem_cons_self) with⟨j,hj,_⟩|⟨hl,_⟩
          · rw[e]at hj;cases hj
          · exact absurd hl h'.1.2.2
    · refine .ld _ _ hw hld fun K hK => ?_
      rw[h1 (h ho).1]at hK
      have hm:=h4.2 (h ho).1 (by rw[hld];simp) (by rw[hld];simp)
      refine hL K (fun h0=>?_) (fun h0 hr0=>?_)
      · rw[hK, Zbk fun s hs => ?_]
        rcases hm s hs with⟨j,hj,hlt,rfl⟩|⟨_,hl,_⟩
        · exact hdc j hj (by omega)
        · rw[h0]at hl;cases hl
      · have e1 := congrArg (fun l => l[rdB own (o.dst.getD 0)]?) hK
        simp only[List.getElem?_take,hr0,if_true]at e1
        rw[e1]
        simp only[ZQ,Wz]
        split
        · rename_i hmem
          rcases hm _ hmem.1 with⟨j,hj,hlt,hs⟩|⟨_,_,hs⟩
          · omega
          · rw[hdi]at hs;exact absurd rfl hs
        · rfl) hr
theorem DrwQ.al {ops:Array Oper} {n0 i:Nat} {r:List Oper} {d:Nat} {e:TypeId} {ty:TypeId} {pos:String} {aft:Array Edge} {grd:Option (Nat×Bool)} {ei:TI} {H1:Heap} (hw:Zf ops.toList tm ⟨some d,.alloc e,ty,pos,aft,grd⟩=some true) (hn:Nat.blt d n=true) (he:E.T e=some ei) (hz:(Nat.beq ei.zero.cells.length ei.size&&Nat.blt 0 ei.size)=true) (hs:Ym H (n0+i) (.cells ei.size [ei.zero.cells])=H1) (hr:DrwQ E P own n ops n0 (i+1) r K (ZN tm (some d) (.ptr (n0+i) ei.size 0 0)) H1):DrwQ E P own n ops n0 i (⟨some d,.alloc e,ty,pos,aft,grd⟩::r) K tm H:=by subst hs;simp only[Bool.and_eq_true]at hz;have hz1:=Nat.eq_of_beq_eq_true hz.1;have hz2:0<ei.size:=Nat.le_of_ble_eq_true hz.2;refine .stepT (p:= .ptr (n0+i) ei.size 0 0) 0 (by simp only[X4,hn]) (fun ho hdc _=>?_) hr;have hci:Y7 E own ops i= .al:=WR (E:=E) (own:=own) ho;refine⟨fun hc=>(by rw[hci]at hc;cases hc),fun k hk hi=>?_,fun tg msk _ _ _=> .al _ e ei hw hci rfl he hz1 hz2 (hdc i (Qc.1 hci) (Nat.le_refl _))⟩;simp only[Ym];rw[List.getElem?_set_ne (by omega)];exact hdc k hk (by omega)
def ZoY (E:Env) (own:Tmp→Bool) (tm:TM) (o:Oper):Bool:=match o.op with
 | .load _ a => match Zh E tm a with
   | .ptr id _ _ _=>Nat.beq id (rdB own (o.dst.getD 0))
   | _=>true
 |_=>false
def okD (E:Env) (own:Tmp→Bool) (n0:Nat) (tm:TM) (o:Oper) (H H1:Heap):Bool:=
 match Y2 E own o with
 | .sc=>true
 | .qu=>true
 | .ld=>match own 29999 with|false=>ZcH E tm o n0|true=>ZcH E tm o n0&&ZoY E own tm o
 | .ef=>Nat.ble H.bx.length H1.bx.length
 |_=>false
theorem ZmL {s:Nat} (hc:Y2 E own o= .ld) {K:Heap} (h:aOp E (own (o.dst.getD 0)) (Zh E tm) o.op H=some (p,H1)) (hs:ZcH E tm o s=true) (hq:ZoY E own tm o=true) (hK:rdB own (o.dst.getD 0)<s→K.bx[rdB own (o.dst.getD 0)]? = H.bx[rdB own (o.dst.getD 0)]?):aOp E (own (o.dst.getD 0)) (Zh E tm) o.op K=some (p,K):=by
 obtain⟨dst,op,ty,pos,after,guard⟩:=o;simp only at h hK ⊢;cases op;case load t a=>
  simp only[aOp]at h ⊢
  obtain⟨e,rfl⟩:=X6 h
  have e2:ZZ E t (Zh E tm a) K=ZZ E t (Zh E tm a) H1:=by
   unfold ZZ Heap.rd
   simp only[ZcH]at hs
   simp only[ZoY]at hq
   cases ha:Zh E tm a<;>simp only
   rename_i id es ix off
   rw[ha]at hs hq
   have hid:id<s:=Nat.le_of_ble_eq_true hs
   have hq:=Nat.eq_of_beq_eq_true hq
   rw[Zm,Zm,hq,hK (by rw[← hq];exact hid)]
  rw[e2,e]
  rfl
 all_goals
  simp only[ZoY]at hq
  cases hq
theorem DrwQ.op {ops:Array Oper} {n0 i:Nat} {o:Oper} {r:List Oper} {p:PV} {H1:Heap} (hw:Zf ops.toList tm o=some true) (hd:X4 n o=true) (h:aOp E (own (o.dst.getD 0)) (Zh E tm) o.op H=some (p,H1)) (hk:okD E own n0 tm o H H1=true) (hr:DrwQ E P own n ops n0 (i+1) r K (ZN tm o.dst p) H1):DrwQ E P own n ops n0 i (o::r) K tm H:=by
 unfold okD at hk;have hse:Y2 E own o= .ld→ZcH E tm o n0=true∧(own 29999=true→ZoY E own tm o=true):=fun hc=>by
  rw[hc]at hk
  simp only at hk
  cases e:own 29999 with
  | false=>rw[e]at hk;exact⟨hk,fun h=>by cases h⟩
  | true =>
    rw[e]at hk
    simp only[Bool.and_eq_true]at hk
    exact⟨hk.1,fun _=>hk.2⟩
 refine .stepN hd ?_ (fun ho=>?_) hr
 ·cases hcl:Y2 E own o with
  | sc=>have h1:=Zfz hcl h H;rw[h]at h1;exact .inl (by simpa using h1)
  | qu=>exact .inl (Zhc hcl h)
  | ld=>have h1:=Zfv hcl h (hse hcl).1 (K:=H) rfl;rw[h]at h1;exact .inl (by simpa using h1)
  | ef=>exact .inr (.inl rfl)
  | al=>rw[hcl]at hk;cases hk
  | st=>rw[hcl]at hk;cases hk
  | tk=>rw[hcl]at hk;cases hk
 have hci:=WR (E:=E) (own:=own) ho;cases hcl:Y2 E own o with
 |sc=>
  rw[hcl]at hci;have h1:=Zfz hcl h H;rw[h]at h1;have e:H1=H:=by simpa using h1
  subst e;exact⟨by rw[hci];simp,.inl fun _ _=> .sc _ _ hw fun M=> .op _ _ (Zfz hcl h M)⟩
 |qu=>rw[hcl]at hci;have e:=Zhc hcl h;subst e;exact⟨by rw[hci];simp,.inr (.inl ⟨by rw[hci];exact⟨by simp,by simp,by simp⟩,.qu _ _ hw hci (.op _ _ h)⟩)⟩
 |ld=>
  rw[hcl]at hci;have h1:=Zfv hcl h (hse hcl).1 (K:=H) rfl;rw[h]at h1;have e:H1=H:=by simpa using h1
  subst e;refine⟨by rw[hci];simp,.inr (.inr ⟨hci,hw,rfl,fun K h0 h2=>?_⟩)⟩;cases e:own 29999 with
  | false=>exact .op _ _ (Zfv hcl h (hse hcl).1 (h0 e))
  | true=>exact .op _ _ (ZmL hcl h (hse hcl).1 ((hse hcl).2 e) (h2 e))
 |ef=>rw[hcl]at hci hk;exact⟨by rw[hci];simp,.inr (.inl ⟨by rw[hci];exact⟨by simp,by simp,by simp⟩,.ef _ _ H1 hw hci (.op _ _ h) (Nat.le_of_ble_eq_true hk)⟩)⟩
 |al=>rw[hcl]at hk;cases hk
 |st=>rw[hcl]at hk;cases hk
 |tk=>rw[hcl]at hk;cases hk
theorem Zjf {m:List Nat} {H:Heap} {id:Nat} (h:id∉m):nth (ZQ m H).bx id=nth H.bx id:=by rw[Zm,Zm];simp only[ZQ,Wz];rw[if_neg fun h'=>h h'.1]
theorem Znn {m:List Nat} {H M:Heap} {id:Nat} {b:Box} (h:H.wr (.ptr id es ix off) cs=some M) (hb:nth M.bx id=some b) (hm:id∉m):(ZQ m H).wr (.ptr id es ix off) cs=some (Ym (ZQ m H) id b):=by
 have put:∀{x:Box} {M:Heap},H.put id x=some M→nth M.bx id=some b→(ZQ m H).put id x=some (Ym (ZQ m H) id b):=fun {x M} h hb=>by
  unfold Heap.put at h ⊢;split at h;{cases h}
  ·rename_i hro;cases h;have hro':¬ id<(ZQ m H).ro:=hro;rw[if_neg hro'];have hxb:x=b:=by
    rw[Zm]at hb
    rw[List.getElem?_set_self' ]at hb
    cases e:H.bx[id]? with
    | none=>rw[e]at hb;cases hb
    | some y=>rw[e]at hb;simpa using hb
   subst hxb;rfl
 unfold Heap.wr at h ⊢;simp only at h ⊢;rw[Zjf hm];split at h;{split at h;{split at h;{split at h;{rename_i h1 _ _ _ h2;rw[if_pos h1];simp only[*];exact put h hb};{cases h}};{cases h}};{cases h}};{split at h;{rename_i h2;simp only[if_pos h2];exact put h hb};{cases h}};{cases h}
theorem DrwQ.opS {aft:Array Edge} {b:Box} {id:Nat} (hw:Zf ops.toList tm ⟨none,.store t a v,ty,pos,aft,grd⟩=some true) (ht:E.T t=some ti) (ha:Zh E tm a= .ptr id es ix off) (hl:(Zh E tm v).cells.length=ti.size∧0<ti.size∧(Zh E tm v).cells.all ZL=true) (h:H.wr (.ptr id es ix off) (Zh E tm v).cells=some H1) (hb:nth H1.bx id=some b) (hf:own (30000+i)=Nat.ble n0 id) (hq:own 29999=true→id=tgB own i) (hr:DrwQ E P own n ops n0 (i+1) r K tm H1):DrwQ E P own n ops n0 i (⟨none,.store t a v,ty,pos,aft,grd⟩::r) K tm H:=by
 refine .stepT (p:= .undef) id rfl (fun ho hdc _=>?_) hr;have hci:Y7 E own ops i= .st:=WR (E:=E) (own:=own) ho;have hop:aOp E (own 0) (Zh E tm) (.store t a v) H=some (.undef,H1):=by simp only[aOp,ht,ha];rw[if_pos hl,h];rfl
 have hM:H1=Ym H id b:=by have:=ZlR (E:=E) (own:=own) (tm:=tm) (o:=⟨none,.store t a v,ty,pos,aft,grd⟩) rfl hop (b:=b) (by simp only[Zh9,ha];exact hb);simpa only[Zh9,ha] using this
 have hne:H.bx[id]? ≠some .dead:=fun hdd=>by
  have:nth H.bx id=some .dead:=by rw[Zm];exact hdd
  simp only[Heap.wr,this]at h;cases h
 refine⟨fun _=>⟨hf,hq⟩,fun k hk hi=>?_,fun tg msk _ h2 h3=>?_⟩;{have h5:=hdc k hk (by omega);have h6:id≠n0+k:=fun e=>hne (by rw[e];exact h5);rw[hM];simp only[Ym];rw[List.getElem?_set_ne h6];exact h5};have e1:=h2 hci;have h3:=h3.1 hci;rw[e1]at h3;rw[hM, ← e1];refine .st _ _ b hw hci (.op _ _ ?_) (by rw[e1];exact h3);show aOp E (own 0) (Zh E tm) (.store t a v) (ZQ (msk i) H)=_;simp only[aOp,ht,ha];rw[if_pos hl,Znn h hb h3,e1];rfl
theorem DrwQ.call {ops : Array Oper} {n0 i : Nat} {o : Oper} {r : List Oper} {p : PV} (hw : Zf ops.toList tm o = some true) (hd : X4 n o = true) {f : Operand} {args : Array Operand} {ats : Array TypeId} {k : FuncId} {caps al : List PV}
  (ho:o.op= .call {callee:= .value f,args:=args,argTypes:=ats}) (hf:Zh E tm f= .fn k caps) (ha:args.toList.map (Zh E tm)++caps=al) (hc:Y2 E own o= .qu) (h:CallOk E P k al H p H)
  (hr:DrwQ E P own n ops n0 (i+1) r K (ZN tm o.dst p) H):DrwQ E P own n ops n0 i (o::r) K tm H:=
 .stepN hd (.inl rfl) (fun ho'=>by
  have hci:=(WR (E:=E) (own:=own) ho').trans hc
  exact⟨by rw[hci];simp,.inr (.inl ⟨by rw[hci];exact⟨by simp,by simp,by simp⟩,.qu _ _ hw hci (.call f args ats k caps _ _ ho hf (by rw[ha];exact h))⟩)⟩) hr
def ZpA (E:Env) (own:Tmp→Bool) (o:Oper):Bool:=match Y2 E own o with| .st=>false|_=>true
theorem DrwQ.pass {ops:Array Oper} {n0 i:Nat} {o:Oper} {r:List Oper} (hw:Zf ops.toList tm o=some false) (hd:X4 n o=true) (hns:ZpA E own o=true) (hr:DrwQ E P own n ops n0 (i+1) r K (ZN tm o.dst unset) H):DrwQ E P own n ops n0 i (o::r) K tm H:=
 .stepN hd (.inl rfl) (fun ho=>⟨(by rw[WR ho];intro h;rw[ZpA,h]at hns;cases hns),.inl fun _ _=> .pass _ hw⟩) hr
def ovr (base:TM):List (Nat×PV)→TM
 | []=>base
 |(d,v)::r=>ZN (ovr base r) (some d) v
def okL (tm:TM):List (Nat×PV)→Prop
 | []=>True
 |(d,v)::r=>tm d=v∧okL tm r
theorem ZfG:∀{l:List (Nat×PV)},okL tm l→ovr tm l=tm
 | [],_=>rfl
 |(d,v)::r,h=>by funext t;simp only[ovr,ZN];rw[ZfG h.2];split;{rename_i e;subst e;exact h.1.symm};{rfl}
def ZuJ (E:Env) (fn:Func) (r:PV) (ex:Ex) (tm:TM) (H:Heap):Prop:=match ex with
 | .exit _=>False
 |_=>∃ps,U0 E tm H fn.results.toList=some ps∧frz3 0 H (one ps)=some r
structure RetQ (E:Env) (fn:Func) (r:PV) (ex:Ex) (tm:TM) (H:Heap):Prop where
 out:ZuJ E fn r ex tm H
theorem RetQ.ret {fn:Func} {r:PV} {ps:List PV} (h1:U0 E tm H fn.results.toList=some ps) (h2:frz3 0 H (one ps)=some r):RetQ E fn r .ret tm H:=⟨⟨ps,h1,h2⟩⟩
theorem Zgl (h:frz1 p=some p):arg1 p=p:=by cases p<;>simp only[frz1,arg1]at h ⊢ <;> first|rfl|(cases h;rfl)|cases h
theorem Zc6:∀{l:List PV},Vn l=some l→l.map arg1=l
 | [],_=>rfl
 |p::r,h=>by simp only[Vn]at h;split at h;{rename_i p' hp;split at h;{rename_i r' hr;simp only[Option.some.injEq,List.cons.injEq]at h;obtain⟨rfl,rfl⟩:=h;simp only[List.map_cons,Zgl hp,Zc6 hr]};{cases h}};{cases h}
theorem Zk4 (h:frzG p=some p):argV p=p:=by unfold frzG at h;split at h;{rename_i cs;split at h;{rename_i cs' hc;simp only[Option.some.injEq,PV.agg.injEq]at h;subst h;simp only[argV,Zc6 hc]};{cases h}};{simp[argV,arg1]};{rename_i hn _;cases p<;>simp only[argV]<;>first|exact Zgl h|exact(hn _ rfl).elim}
theorem Ze6:∀{l:List PV},ZH l=some l→l.map argV=l
 | [],_=>rfl
 |p::r,h=>by simp only[ZH]at h;split at h;{rename_i p' hp;split at h;{rename_i r' hr;simp only[Option.some.injEq,List.cons.injEq]at h;obtain⟨rfl,rfl⟩:=h;simp only[List.map_cons,Zk4 hp,Ze6 hr]};{cases h}};{cases h}
theorem Yt (hE:TOk E P) {f:FuncId} (hf:FnOk P f fn c) {args:List PV} (ha:ZH args=some args) {r:PV} (hr:frz3 0 hNil r=some r) (h:Wp E P own fn.ntmps c (RetQ E fn r) (tm0 args) hNil) (H:Heap):CallOk E P f args H r H:=by
 obtain⟨ex,tm',H',h1,⟨h2⟩⟩:=h.out;refine Xs ?_ ha hr H;have hx:∀i,ex≠ .exit i:=fun i e=>by subst e;exact h2
 obtain⟨ps,h3,h4⟩:∃ps,U0 E tm' H' fn.results.toList=some ps∧frz3 0 H' (one ps)=some r:=by
  cases ex with
  | normal=>exact h2
  | ret=>exact h2
  | exit i=>exact h2.elim
 exact Q2 (own:=own) hE hf (by rw[Ze6 ha];exact h1) hx h3 h4
end
inductive Sh (T:TypeId→Option TI):TypeId→List PV→Prop
 |bool {t:TypeId} {ti:TI} {b:Bool} (h:T t=some ti) (hk:ti.tk= .bool):Sh T t [.bool b]
 |int {t:TypeId} {ti:TI} {k:IntKind} {n:Int} (h:T t=some ti) (hk:ti.tk= .int k) (hn:(Lit.int k n).wf=true):Sh T t [.int k n]
 |str {t:TypeId} {ti:TI} {s:List UInt8} (h:T t=some ti) (hk:ti.tk= .string) (hs:s.length≤maxLen):Sh T t [.str s]
 |nils {t:TypeId} {ti:TI} {e:TypeId} (h:T t=some ti) (hk:ti.tk= .slice e):Sh T t [.nils]
 |sl {t:TypeId} {ti:TI} {e:TypeId} {ei:TI} {el:List (List PV)} (h:T t=some ti) (hk:ti.tk= .slice e) (he:T e=some ei) (hl:el.length≤maxLen) (hel:∀c,c∈el→Sh T e c):Sh T t [.sl .none ei.size el]
 | struct {t : TypeId} {ti : TI} {fs : List (Nat × TypeId)} {cs : List PV} (h : T t = some ti) (hk : ti.tk = .struct fs) (hlen : cs.length = ti.size)
     (hf:∀o ft fi,(o,ft)∈fs→T ft=some fi→Sh T ft ((cs.drop o).take fi.size)):Sh T t cs
def Qn (T:TypeId→Option TI) (cl:List TypeId):List (Nat×TypeId)→Nat→Nat→Bool
 | [],o,n=>Nat.beq o n
 |(o',ft)::r,o,n=>Nat.beq o' o&&(cl.any (Nat.beq ft)&&match T ft with|some fi=>Qn T cl r (o+fi.size) n|none=>false)
def ZqJ (T:TypeId→Option TI) (cl:List TypeId) (t:TypeId):Bool:=match T t with
 | some ti => match ti.tk with
   | .bool=>Nat.beq ti.size 1
   | .int _=>Nat.beq ti.size 1
   | .string=>Nat.beq ti.size 1
   | .slice e=>Nat.beq ti.size 1&&(cl.any (Nat.beq e)&&match T e with|some ei=>Nat.blt 0 ei.size|none=>false)
   | .struct fs=>Qn T cl fs 0 ti.size
   | _=>false
 |none=>false
def wS (w:World):VN:=fun b o=>w.cell? ⟨b,o,none⟩
def Vl (S:VN) (pcs:List PV) (cs:List Value):Prop:=cs.length=pcs.length∧∀i (hi:i<pcs.length) (hj:i<cs.length),V0 S pcs[i] cs[i]
theorem Zj6 {S:VN} {v:Value} (h:V0 S p v):Vl S [p] [v]:=⟨rfl,fun i hi hj=>by
 obtain rfl:i=0:=by simp at hi;omega
 exact h⟩
theorem ZhZ {x:Nat} (h:l.any (Nat.beq x)=true):x∈l:=by obtain⟨y,hy,e⟩:=List.any_eq_true.1 h;rw[Nat.eq_of_beq_eq_true e];exact hy
theorem ZcF {T:TypeId→Option TI} {cl:List TypeId}:∀{fs:List (Nat×TypeId)} {o n:Nat},Qn T cl fs o n=true→o≤n
 | [],o,n,h=>by simp only[Qn]at h;exact Nat.le_of_eq (Nat.eq_of_beq_eq_true h)
 |(o',ft)::r,o,n,h=>by simp only[Qn,Bool.and_eq_true]at h;obtain⟨_,_,h3⟩:=h;split at h3;{have:=ZcF h3;omega};{cases h3}
theorem Zbn {T : TypeId → Option TI} {cl : List TypeId} {S : VN} {cs : List Value} {n : Nat} (hn : cs.length = n) : ∀(fs : List (Nat × TypeId)) (o : Nat), Qn T cl fs o n = true →
  (∀o' ft fi,(o',ft)∈fs→ft∈cl→T ft=some fi→∃pcs,Sh T ft pcs∧Vl S pcs ((cs.drop o').take fi.size))→
  ∃rest,rest.length+o=n∧Vl S rest (cs.drop o)∧∀pre:List PV,pre.length=o→∀o' ft fi,(o',ft)∈fs→T ft=some fi→Sh T ft (((pre++rest).drop o').take fi.size)
 | [],o,h,_=>by simp only[Qn]at h;have:=Nat.eq_of_beq_eq_true h;subst this;refine⟨[],by simp,⟨by simp[hn],fun i hi=>absurd hi (by simp)⟩,fun _ _ _ _ _ h=>absurd h (by simp)⟩
 |(o1,ft)::r,o,h,hf=>by simp only[Qn,Bool.and_eq_true]at h;obtain⟨h1,h2,h3⟩:=h;have:=Nat.eq_of_beq_eq_true h1;subst this;split at h3;{rename_i fi hfi;obtain⟨pcs,hs,hc⟩:=hf o1 ft fi List.mem_cons_self (ZhZ h2) hfi;have hle:=ZcF h3;obtain⟨rest,r1,r2,r3⟩:=Zbn hn r (o1+fi.size) h3 fun o' ft' fi' hm=>hf o' ft' fi' (List.mem_cons_of_mem _ hm);(have hl:pcs.length=fi.size:=by rw[← hc.1];simp;omega);refine⟨pcs++rest,by simp;omega,⟨by simp;omega,fun i hi hj=>?_⟩,fun pre hp o' ft' fi' hm hfi'=>?_⟩;{by_cases hlt:i<pcs.length;{rw[List.getElem_append_left hlt];have:=hc.2 i hlt (by simp;omega);simpa using this};{rw[List.getElem_append_right (by omega)];have:=r2.2 (i-pcs.length) (by simp at hi;omega) (by simp;simp at hi;omega);(have e:o1+fi.size+(i-pcs.length)=o1+i:=by omega);simpa only[List.getElem_drop,e] using this}};{rcases List.mem_cons.1 hm with e|hm;{cases e;rw[hfi]at hfi';cases hfi';rw[List.drop_append_of_le_length (by omega),List.drop_of_length_le (by omega),List.nil_append,List.take_append_of_le_length (by omega),List.take_of_length_le (by omega)];exact hs};{have:=r3 (pre++pcs) (by simp;omega) o' ft' fi' hm hfi';rwa [List.append_assoc]at this}}};{cases h3}
theorem ZjF {α:Type} {R:Nat→α→Prop}:∀(n:Nat),(∀i,i<n→∃x,R i x)→∃l:List α,l.length=n∧∀i (hi:i<l.length),R i l[i]
 |0,_=>⟨[],rfl,fun i hi=>absurd hi (by simp)⟩
 |n+1,h=>by obtain⟨l,h1,h2⟩:=ZjF n fun i hi=>h i (by omega);obtain⟨x,hx⟩:=h n (by omega);refine⟨l++ [x],by simp[h1],fun i hi=>?_⟩;by_cases e:i<l.length;{rw[List.getElem_append_left e];exact h2 i e};{(have e2:i=n:=by simp at hi;omega);rw[List.getElem_append_right (by omega)];subst e2;simpa using hx}
section
variable {E:Env} {P:Program} {H:Type} {enc:TypeId×Value→H} {w:World} {base:Nat} {spare:Nat→Bool} {held:Bool} {cl:List TypeId}
theorem Zet (hE:TOk E P) (hcl:∀t,t∈cl→ZqJ E.T cl t=true):∀(n:Nat) (t:TypeId) (cs:List Value) (x:DataW H×List MemPlace),t∈cl→DataW.trod enc P w base spare held n t cs=some x→∃pcs,Sh E.T t pcs∧Vl (wS w) pcs cs
 |0,t,cs,x,_,h=>by simp[DataW.trod]at h
 |n+1,t,cs,x,ht,h=>by
  have hk:=hcl t ht;unfold ZqJ at hk;split at hk
  ·rename_i ti hti;obtain⟨i,d,z,h1,h2,h3,rfl⟩:=hE.spec hti;(have hsz:P.cellsOf t=i.size:=by simp[Program.cellsOf,h1]);simp only at hk;split at hk;{rename_i hd;have hd:=ZeI hd;subst hd;obtain⟨b,rfl, -⟩:=DataW.trod_bool h2 h;exact⟨[.bool b],.bool hti rfl,Zj6 (.bool b)⟩};{rename_i k hd;have hd:=QY hd;subst hd;obtain⟨m,rfl, -,hw⟩:=DataW.trod_int h2 h;exact⟨[.int k m],.int hti rfl hw,Zj6 (.int k m)⟩};{rename_i hd;have hd:=YE hd;subst hd;obtain⟨s,rfl, -,hw⟩:=DataW.trod_string h2 h;exact⟨[.str s.data.toList],.str hti rfl (by simpa using hw),Zj6 (.str _ s rfl)⟩}
   ·rename_i e hd;have hd:=Yg hd;subst hd;simp only[Bool.and_eq_true]at hk;obtain⟨_,he,hei⟩:=hk;split at hei
    ·rename_i ei hte;obtain⟨i',d',z',h1',h2',h3',rfl⟩:=hE.spec hte;(have hes:P.cellsOf e=i'.size:=by simp[Program.cellsOf,h1']);have hpos:0<i'.size:=Nat.le_of_ble_eq_true hei;rcases DataW.trod_slice h2 h with⟨rfl, -⟩|⟨a,len,cap,elems,rest,m,hm,rfl, -,hb,hl,hcap,hlen,hel, -, -⟩;{exact⟨[.nils],.nils hti rfl,Zj6 (.nils)⟩}
     ·cases hm;(have each:∀i,i<len→∃p:List PV×List Value,Sh E.T e p.1∧Vl (wS w) p.1 p.2∧w.cells? base (a.add (i*i'.size)) i'.size=some p.2:=fun i hi=>by have hx:=hel i hi;have hy:elems[i]? = some (elems[i]'(by omega)):=List.getElem?_eq_getElem (by omega);rw[hy,Option.bind_eq_some_iff]at hx;obtain⟨cs',hc1,hc2⟩:=hx;obtain⟨pcs,q1,q2⟩:=Zet hE hcl n e cs' _ (ZhZ he) hc2;exact⟨(pcs,cs'),q1,q2,by rw[← hes];exact hc1⟩);obtain⟨L,hL1,hL2⟩:=ZjF len each;(have hcell:∀i (hi:i<L.length) j,j<i'.size→w.cell? ((a.add (i*i'.size)).add j)=(L[i]).2[j]? :=fun i hi j hj=>by have:=(World.cells?_some (hL2 i hi).2.2);exact this.2.2 j hj);have hlen2:∀i (hi:i<L.length),(L[i]).2.length=i'.size:=fun i hi=>(World.cells?_some (hL2 i hi).2.2).2.1;have hspot:0<len→a=⟨a.block,a.off,none⟩:=fun hp=>by
       have h0:=hcell 0 (by omega) 0 hpos
       rw[List.getElem?_eq_getElem (by rw[hlen2 0 (by omega)];exact hpos)]at h0
       simp only[Nat.zero_mul,Addr.add,if_true]at h0
       obtain⟨ab,ao,asp⟩:=a
       cases asp with
       | none=>rfl
       | some z =>
         simp only[World.cell?]at h0
         split at h0
         · simp at h0
         · cases h0
      (have hw':∀i (hi:i<L.length),(L[i]).1.length=i'.size:=fun i hi=>by rw[← (hL2 i hi).2.1.1];exact hlen2 i hi);refine⟨[.sl .none i'.size (L.map (·.1))],.sl hti rfl hte (by simp;omega) (fun c hc=>?_),rfl,fun k hi hj=>?_⟩;{obtain⟨p,hp,rfl⟩:=List.mem_map.1 hc;obtain⟨q,hq,rfl⟩:=List.mem_iff_getElem.1 hp;exact(hL2 q hq).1};{(obtain rfl:k=0:=by simp at hi;omega);(have hLm:(L.map (·.1)).length=len:=by simp[hL1]);simp only[List.getElem_cons_zero];(have key:V0 (wS w) (.sl .none i'.size (L.map (·.1))) (.slice (some a) (L.map (·.1)).length cap):=by refine .sl .none i'.size (L.map (·.1)) a a.block a.off cap (fun x y=>((L[x]?.map (·.2)).getD []).getD y undef) (fun hp=>hspot (by omega)) (.inl rfl) (by omega) (fun x hx=>?_) (fun x y hx hy=>?_) (fun x hx y hy=>?_);{simpa using hw' x (by simpa using hx)};{(have hx':x<L.length:=by simpa using hx);have hcl:=hcell x hx' y hy;have ha:=hspot (by omega);(have e0:∀A:Addr,A=⟨a.block,a.off,none⟩→(A.add (x*i'.size)).add y=⟨a.block,a.off+x*i'.size+y,none⟩:=fun A hA=>by rw[hA,ZV,ZV]);have e1:=e0 a ha;rw[e1]at hcl;simp only[wS];rw[hcl,List.getElem?_eq_getElem hx'];(have:y<(L[x]).2.length:=by rw[hlen2 x hx'];exact hy);simp[this]};{(have hx':x<L.length:=by simpa using hx);(have e1:(L.map (·.1))[x]=(L[x]).1:=by simp);(have hy1:y<(L[x]).1.length:=by rw[← e1];exact hy);have:=(hL2 x hx').2.1.2 y hy1 (by rw[(hL2 x hx').2.1.1];exact hy1);(have hy2:y<(L[x]).2.length:=by rw[(hL2 x hx').2.1.1];exact hy1);simpa[e1,List.getElem?_eq_getElem hx',hy2] using this});rwa [hLm]at key}
    {cases hei}
   {rename_i fs hd;obtain⟨fs',hd,hfs⟩:=Vg hd;subst hd;obtain⟨xs,m,hm, -,hlen,hxl,hf⟩:=DataW.trod_struct h2 h;cases hm;rw[hsz]at hlen;(obtain⟨rest,r1,r2,r3⟩:=Zbn (S:=wS w) hlen fs 0 hk fun o' ft fi hmem hft hfi=>by rw[hfs]at hmem;obtain⟨f,hfm,hfe⟩:=List.mem_map.1 hmem;obtain⟨q,hq,hqe⟩:=List.mem_iff_getElem.1 hfm;cases hfe;obtain⟨i',d',z',h1',h2',h3',rfl⟩:=hE.spec hfi;have hx:=hf q f (by rw[← hqe];simp only[Array.getElem_toList];exact Array.getElem?_eq_getElem (by simpa using hq));(have hq':q<xs.length:=by rw[hxl];simpa using hq);rw[List.getElem?_eq_getElem hq']at hx;(have hs':P.cellsOf f.type=i'.size:=by simp[Program.cellsOf,h1']);rw[hs']at hx;exact Zet hE hcl n f.type _ _ hft hx);refine⟨rest,.struct (fs:=fs) hti (by rw[hfs];rfl) (by simpa using r1) (fun o ft fi hmem hfi=>?_),?_⟩;{have:=r3 [] rfl o ft fi hmem hfi;simpa using this};{simpa using r2}};{cases hk}
  {cases hk}
end
open Go.RowKit
section
variable {E:Env} {P:Program} {w:World}
def wG (w:World):Gh:={S:=wS w,σ:=fun _=>none,τ:=fun _=>none,κ:=fun _=>0,mono:=false}
theorem ZlL (w:World):Inv (wG w) hNil w where
 st _ _ _ h:=h
 bx id es el h:=by simp[hNil]at h
 mp id es h:=by simp[hNil]at h
 sp id T cs h:=by simp[hNil]at h
 inj i j b h:=(Xy h).elim
 sd _ _:=rfl
 td _ _:=rfl
 tk t b lo hi' h:=by simp[hNil]at h
 tinj t t' b lo hi' lo' hi2 h:=by simp[hNil]at h
 nd:=List.nodup_nil
 lt t h:=by simp[hNil]at h
 sz id b h:=by simp[wG]at h
 ro:=Nat.le_refl _
 rm id b c T m h:=(Xy h).elim
structure GrownB (W w':World):Prop where
 kept:W.keptBut w' (fun _=>False)
 fz:∀a,a.block<W.heap.size→w'.frozen? a=W.frozen? a
 size:W.heap.size≤w'.heap.size
theorem GrownB.frame (h:GrownB W w') (may:MemPlace→Prop):W.keptBut w' may:=World.keptBut_mono (fun _ f=>f.elim) h.kept
theorem Zb5 {g g':Gh} (k:Keep g hNil w g' H' w'):GrownB w w':=by
 refine⟨⟨k.so.1,k.so.2.1,fun i hi=>?_⟩,fun a ha=>?_,k.size⟩
 ·rw[k.heap i hi (WL g i)];cases w.heap[i]? with
  | none=>trivial
  | some o=>cases o<;>simp
 {simp only[World.frozen?,k.heap a.block ha (WL g a.block)]}
end
section
open Go.ChangeShapes Go.WideShapes
variable {P:Program} {T:Type} {enc:TypeId×Value→T}
theorem Ziy {f:Func} {s:ChangeSpec} {apart fresh handsOn again:Bool} {W':World} {args:Array Value} {v:Value} {ds gs:List (DataW T)} {before pa pv:List MemPlace} (hW:DataW.Whole enc P f.params.toList s.vars apart W args.toList ds gs before) (hres:∀(b:Nat) (sp:Nat→Bool) (hd:Bool),DataW.TrodAll enc P W' b sp hd f.resultTypes.toList (v.resultList f.resultTypes.size) (s.fn T (ds++gs)).results []) (hargs:∀sp:Nat→Bool,(∀p∈before,sp p.block=true)→DataW.TrodAll enc P W' 0 sp true f.params.toList args.toList (s.fn T (ds++gs)).args pa) (hvars:∀sp:Nat→Bool,(∀p∈before,sp p.block=true)→DataW.TrodVars enc P W' sp s.vars (s.fn T (ds++gs)).vars pv) (hps:before=pa++pv) (hk:W.keptBut W' (· ∈before)) (hfz:∀a,a.block<W.heap.size→W'.frozen? a=W.frozen? a) (hok:∀(j:Nat) (t:TypeId) (r:Value),f.resultTypes[j]? = some t→(v.resultList f.resultTypes.size)[j]? = some r→Value.okWide P W' .any 0 t r):s.post enc P f apart fresh handsOn again W args v W':=by
 have hlt:=hW.lt;have hold:∀p∈before,(fun b=>decide (b<W.heap.size)) p.block=true:=fun p hp=>by simpa using hlt p hp
 refine⟨ds,gs,before,[],pa,pv,hW,hres _ _ _,hargs _ hold,hvars _ hold,World.keptBut_mono (fun p hp=>⟨hp,?_⟩) hk,fun _=>?_⟩;{rw[hps,List.mem_append]at hp;exact Or.inr hp};{obtain⟨_,_,_,_,_,hz,hn⟩:=hW;refine⟨hok,_,_,([]++pa)++pv,⟨[]++pa,pv,trodAll_append (hargs _ (fun _ _=>rfl)) (hres _ _ _),hvars _ (fun _ _=>rfl),rfl,?_,?_⟩,?_⟩;{intro b off hp;(have hb:MemPlace.cell b off∈before:=by rw[hps];simpa using hp);rw[hfz _ (show b<_ from hlt _ hb)];exact hz b off hb};{intro ha;have:=hn ha;rw[hps]at this;simpa using this};{intro p hp _;rw[hps];simpa using hp}}
end
def slV (b:Bool) (es:Nat) (el:List (List PV)):PV:=match el with
 | []=>match b with|true=> .nils|false=> .sl .none es []
 |c::r=> .sl .none es (c::r)
mutual
inductive IsV:PV→PV→Prop
 |bool (b:Bool):IsV (.bool b) (.bool b)
 |int (k:IntKind) (n:Int):IsV (.int k n) (.int k n)
 |str (s:List UInt8):IsV (.str s) (.str s)
 |nilp:IsV .nilp .nilp
 |nils:IsV .nils .nils
 |nilm:IsV .nilm .nilm
 |nilf:IsV .nilf .nilf
 |nili:IsV .nili .nili
 |ifc:IsV .ifc .ifc
 |undef:IsV .undef .undef
 |ptr (a b c d:Nat):IsV (.ptr a b c d) (.ptr a b c d)
 |fptr (cs:List PV) (o:Nat):IsV (.fptr cs o) (.fptr cs o)
 |sl (tl:Tail) (es:Nat) (el:List (List PV)):IsV (.sl tl es el) (.sl tl es el)
 |slV (b:Bool) (es:Nat) (el:List (List PV)):IsV (slV b es el) (slV b es el)
 |own (a b c d:Nat):IsV (.own a b c d) (.own a b c d)
 |map (i:Nat):IsV (.map i) (.map i)
 |fn (f:FuncId) (cs:List PV):IsV (.fn f cs) (.fn f cs)
 |agg (cs cs':List PV) (h:IsL cs cs'):IsV (.agg cs) (.agg cs')
 |tup (cs cs':List PV) (h:IsL cs cs'):IsV (.tup cs) (.tup cs')
 |any (v:PV):IsV v v
inductive IsL:List PV→List PV→Prop
 |nil:IsL [] []
 |cons (a a':PV) (l l':List PV) (h:IsV a a') (hl:IsL l l'):IsL (a::l) (a'::l')
 |any (l:List PV):IsL l l
end
theorem IsV.eq {a b:PV} (h:IsV a b):a=b:=by
 refine @IsV.rec (fun a b _=>a=b) (fun a b _=>a=b) ?_ ?_ ?_ ?_ ?_ ?_ ?_ ?_ ?_ ?_ ?_ ?_ ?_ ?_ ?_ ?_ ?_ ?_ ?_ ?_ ?_ ?_ ?_ a b h;all_goals intros
 all_goals first|rfl|(simp_all;done)
theorem IsL.eq {a b:List PV} (h:IsL a b):a=b:=by have e:=(show IsV (.agg a) (.agg b) from .agg _ _ h).eq;simpa using e
theorem IsV.ptr4 {a b c a' b' c' d':Nat} (h1:a=a') (h2:b=b') (h3:c=c') (h4:d=d'):IsV (.ptr a b c d) (.ptr a' b' c' d'):=by subst h1 h2 h3 h4;exact .ptr _ _ _ _
inductive IsLL:List (List PV)→List (List PV)→Prop
 |nil:IsLL [] []
 |cons (a a':List PV) (l l':List (List PV)) (h:IsL a a') (hl:IsLL l l'):IsLL (a::l) (a'::l')
 |any (l:List (List PV)):IsLL l l
theorem IsLL.eq {a b:List (List PV)} (h:IsLL a b):a=b:=by
 induction h with
 |nil=>rfl
 |cons a a' l l' h _ ih=>rw[h.eq,ih]
 |any=>rfl
inductive IsBL:List Box→List Box→Prop
 |nil:IsBL [] []
 |cells (es es':Nat) (el el':List (List PV)) (l l':List Box) (he:es=es') (h:IsLL el el') (hl:IsBL l l'):IsBL (.cells es el::l) (.cells es' el'::l')
 |cons (b:Box) (l l':List Box) (hl:IsBL l l'):IsBL (b::l) (b::l')
 |any (l:List Box):IsBL l l
theorem IsBL.eq {a b:List Box} (h:IsBL a b):a=b:=by
 induction h with
 |nil=>rfl
 |cells _ _ _ _ _ _ he h _ ih=>rw[he,h.eq,ih]
 |cons _ _ _ _ ih=>rw[ih]
 |any=>rfl
inductive IsH:Heap→Heap→Prop
 |mk (bx bx':List Box) (ro ro' nt nt':Nat) (lv lv':List Nat) (h:IsBL bx bx') (h1:ro=ro') (h2:lv=lv') (h3:nt=nt'):IsH ⟨bx,ro,lv,nt⟩ ⟨bx',ro',lv',nt'⟩
theorem IsH.eq {a b:Heap} (h:IsH a b):a=b:=by cases h with|mk _ _ _ _ _ _ _ _ h h1 h2 h3=>rw[h.eq,h1,h2,h3]
section
variable {E:Env} {P:Program} {own:Tmp→Bool} {n:Nat} {Q:Ex→TM→Heap→Prop} {K:TM→Heap→Prop} {tm:TM} {H:Heap}
theorem Vy (hd:o.dst=some d) (hn:Nat.blt d n=true):X4 n o=true:=by simp only[X4,hd,hn]
theorem RegQ.run (hw : Zf all tm o = some true) (hd : o.dst = some d) (hn : Nat.blt d n = true) (h : aOp E (own d) (Zh E tm) o.op H = some (p, H1)) (hv : IsV p p')
  (hr:RegQ E P own n all r K (ZN tm (some d) p') H1):RegQ E P own n all (o::r) K tm H:=
 .op hw (Vy hd hn) (p:=p) (by rw[hd];exact h) (by rw[hd,hv.eq];exact hr)
theorem RegQ.put (hw : Zf all tm o = some true) (hd : o.dst = none) (h : aOp E (own 0) (Zh E tm) o.op H = some (p, H1))
  (hr:RegQ E P own n all r K tm H1):RegQ E P own n all (o::r) K tm H:=
 .op hw (by simp only[X4,hd]) (p:=p) (by rw[hd];exact h) (by rw[hd];exact hr)
theorem RegQ.runH (hw : Zf all tm o = some true) (hd : o.dst = some d) (hn : Nat.blt d n = true) (h : aOp E (own d) (Zh E tm) o.op H = some (p, H1)) (hv : IsV p p') (hh : IsH H1 H1')
  (hr:RegQ E P own n all r K (ZN tm (some d) p') H1'):RegQ E P own n all (o::r) K tm H:=
 .run hw hd hn h hv (by rw[hh.eq];exact hr)
theorem RegQ.putH (hw : Zf all tm o = some true) (hd : o.dst = none) (h : aOp E (own 0) (Zh E tm) o.op H = some (p, H1)) (hh : IsH H1 H1')
  (hr:RegQ E P own n all r K tm H1'):RegQ E P own n all (o::r) K tm H:=
 .put hw hd h (by rw[hh.eq];exact hr)
theorem RegQ.runB {e:Bool} (hw:Zf all tm o=some true) (hd:o.dst=some d) (hn:Nat.blt d n=true) (h:aOp E (own d) (Zh E tm) o.op H=some (.bool e,H1)) (ht:e=true→RegQ E P own n all r K (ZN tm (some d) (.bool true)) H1) (hf:e=false→RegQ E P own n all r K (ZN tm (some d) (.bool false)) H1):RegQ E P own n all (o::r) K tm H:=by
 cases e with
 |true=>exact .run hw hd hn h (.bool _) (ht rfl)
 |false=>exact .run hw hd hn h (.bool _) (hf rfl)
theorem RegQ.skip (hw:Zf all tm o=some false) (hd:o.dst=some d) (hn:Nat.blt d n=true) (hr:RegQ E P own n all r K (ZN tm (some d) unset) H):RegQ E P own n all (o::r) K tm H:=
 .pass hw (Vy hd hn) (by rw[hd];exact hr)
theorem RegQ.does {k : FuncId} {al : List PV} (hw : Zf all tm o = some true) (hd : o.dst = some d) (hn : Nat.blt d n = true)
  (ho:o.op= .call {callee:= .value f,args:=args,argTypes:=ats}) (hf:Zh E tm f= .fn k caps) (ha:IsL (args.toList.map (Zh E tm)++caps) al) (h:CallOk E P k al H p H1) (hv:IsV p p')
  (hr:RegQ E P own n all r K (ZN tm (some d) p') H1):RegQ E P own n all (o::r) K tm H:=
 .call hw (Vy hd hn) ho hf (show _=al from(show IsV (.agg _) (.agg al) from .agg _ _ ha).eq |> fun e=>by simpa using e) h (by rw[hd,hv.eq];exact hr)
theorem DrwQ.run (hw : Zf ops.toList tm o = some true) (hd : o.dst = some d) (hn : Nat.blt d n = true) (h : aOp E (own d) (Zh E tm) o.op H = some (p, H1)) (hv : IsV p p')
  (hk:okD E own n0 tm o H H1=true) (hr:DrwQ E P own n ops n0 (i+1) r K (ZN tm (some d) p') H1):DrwQ E P own n ops n0 i (o::r) K tm H:=
 .op hw (Vy hd hn) (p:=p) (by rw[hd];exact h) hk (by rw[hd,hv.eq];exact hr)
theorem DrwQ.runH (hw : Zf ops.toList tm o = some true) (hd : o.dst = some d) (hn : Nat.blt d n = true) (h : aOp E (own d) (Zh E tm) o.op H = some (p, H1)) (hv : IsV p p') (hh : IsH H1 H1')
  (hk:okD E own n0 tm o H H1=true) (hr:DrwQ E P own n ops n0 (i+1) r K (ZN tm (some d) p') H1'):DrwQ E P own n ops n0 i (o::r) K tm H:=
 .run hw hd hn h hv hk (by rw[hh.eq];exact hr)
theorem DrwQ.runB {e:Bool} (hw:Zf ops.toList tm o=some true) (hd:o.dst=some d) (hn:Nat.blt d n=true) (h:aOp E (own d) (Zh E tm) o.op H=some (.bool e,H1)) (hk:okD E own n0 tm o H H1=true) (ht:e=true→DrwQ E P own n ops n0 (i+1) r K (ZN tm (some d) (.bool true)) H1) (hf:e=false→DrwQ E P own n ops n0 (i+1) r K (ZN tm (some d) (.bool false)) H1):DrwQ E P own n ops n0 i (o::r) K tm H:=by
 cases e with
 |true=>exact .run hw hd hn h (.bool _) hk (ht rfl)
 |false=>exact .run hw hd hn h (.bool _) hk (hf rfl)
theorem DrwQ.skip (hw:Zf ops.toList tm o=some false) (hd:o.dst=some d) (hn:Nat.blt d n=true) (hns:ZpA E own o=true) (hr:DrwQ E P own n ops n0 (i+1) r K (ZN tm (some d) unset) H):DrwQ E P own n ops n0 i (o::r) K tm H:=
 .pass hw (Vy hd hn) hns (by rw[hd];exact hr)
theorem DrwQ.does {k : FuncId} {al : List PV} (hw : Zf ops.toList tm o = some true) (hd : o.dst = some d) (hn : Nat.blt d n = true)
  (ho:o.op= .call {callee:= .value f,args:=args,argTypes:=ats}) (hf:Zh E tm f= .fn k caps) (ha:IsL (args.toList.map (Zh E tm)++caps) al) (hc:Y2 E own o= .qu) (h:CallOk E P k al H p H) (hv:IsV p p')
  (hr:DrwQ E P own n ops n0 (i+1) r K (ZN tm (some d) p') H):DrwQ E P own n ops n0 i (o::r) K tm H:=
 .call hw (Vy hd hn) ho hf (show _=al from(show IsV (.agg _) (.agg al) from .agg _ _ ha).eq |> fun e=>by simpa using e) hc h (by rw[hd,hv.eq];exact hr)
def Zsp (I:Nat→TM→Heap→Prop) (m:Nat) (Q:Ex→TM→Heap→Prop):Ex→TM→Heap→Prop
 | .normal=>fun tm H=>∃m',m'<m∧I m' tm H
 | .exit i=>Q (.exit i)
 | .ret=>Q .ret
structure LoopI (I:Nat→TM→Heap→Prop) (m:Nat) (Q:Ex→TM→Heap→Prop) (ex:Ex) (tm:TM) (H:Heap):Prop where
 out:Zsp I m Q ex tm H
theorem LoopI.go {I:Nat→TM→Heap→Prop} (m':Nat) (hlt:m'<m) (h:I m' tm H):LoopI I m Q .normal tm H:=⟨⟨m',hlt,h⟩⟩
theorem LoopI.ret {I:Nat→TM→Heap→Prop} {m:Nat} (h:Q .ret tm H):LoopI I m Q .ret tm H:=⟨h⟩
theorem LoopI.exit {I:Nat→TM→Heap→Prop} {m i:Nat} (h:Q (.exit i) tm H):LoopI I m Q (.exit i) tm H:=⟨h⟩
theorem Wp.while (I:Nat→TM→Heap→Prop) (step:∀m tm H,I m tm H→Wp E P own n c (LoopI I m Q) tm H):∀(m:Nat) (tm:TM) (H:Heap),I m tm H→Wp E P own n (.loop c) Q tm H:=by
 intro m;induction m using Nat.strongRecOn with
 |_ m ih=>
  intro tm H h;refine .loop ?_;obtain⟨ex,tm',H',h1,⟨h2⟩⟩:=(step m tm H h).out;refine⟨ex,tm',H',h1,?_⟩;cases ex with
  | normal=>obtain⟨m',hlt,h3⟩:=h2;exact .go (ih m' hlt tm' H' h3)
  | exit i=>exact .exit h2
  | ret=>exact .ret h2
theorem ZX (b:Bool) (es:Nat) (el:List (List PV)):frz1 (slV b es el)=some (slV b es el):=by
 cases el with
 |nil=>cases b<;>rfl
 |cons c r=>rfl
theorem Qz (m:Nat) (H:Heap) (b:Bool) (es:Nat) (el:List (List PV)):frzC m H (slV b es el)=some (slV b es el):=by
 cases el with
 |nil=>cases b<;>rfl
 |cons c r=>rfl
theorem Xu (m:Nat) (H:Heap) (l:List PV):frz3 m H (.tup l)=match Wu m H l with|some l'=>some (.tup l')|none=>none:=rfl
theorem ZbL (m:Nat) (H:Heap) (l:List PV):frz3 m H (.agg l)=match Wr m H l with|some l'=>some (.agg l')|none=>none:=rfl
theorem Zfo (m:Nat) (H:Heap) (b:Bool) (es:Nat) (el:List (List PV)):frz2 m H (slV b es el)=some (slV b es el):=by
 cases el with
 |nil=>cases b<;>rfl
 |cons c r=>rfl
theorem ZJ (m:Nat) (H:Heap) (b:Bool) (es:Nat) (el:List (List PV)):frz3 m H (slV b es el)=some (slV b es el):=by
 cases el with
 |nil=>cases b<;>rfl
 |cons c r=>rfl
theorem Xx (b:Bool) (es:Nat) (el:List (List PV)):frzG (slV b es el)=some (slV b es el):=by
 cases el with
 |nil=>cases b<;>rfl
 |cons c r=>rfl
theorem Zp (b:Bool) (es:Nat) (c:List PV) (r:List (List PV)):slV b es (c::r)= .sl .none es (c::r):=rfl
theorem Zi (es:Nat):slV true es []= .nils:=rfl
theorem ZB (es:Nat):slV false es []= .sl .none es []:=rfl
theorem Zf4 (ht:E.T t=some ti) (hk:ti.tk= .slice e) (b:Bool) (es:Nat) (el:List (List PV)) (H:Heap):Zc0 E t (slV b es el) H=some (.int .i64 (el.length:Int)):=by
 cases el with
 |nil=>cases b<;>simp[slV,Zc0,ht,hk]
 |cons c r=>simp[slV,Zc0,ht,hk]
theorem RetQ.fin {r:PV} {ps':List PV} (h1:U0 E tm H fn.results.toList=some ps) (hp:IsL ps ps') (h2:frz3 0 H (one ps')=some r):RetQ E fn r .ret tm H:=
 .ret h1 (by have e:=(show IsV (.agg ps) (.agg ps') from .agg _ _ hp).eq;simp only[PV.agg.injEq]at e;rw[e];exact h2)
theorem RetQ.end {r v v':PV} (h1:U0 E tm H fn.results.toList=some ps) (h2:frz3 0 H (one ps)=some v) (hv:IsV v v') (he:v'=r):RetQ E fn r .ret tm H:= .ret h1 (by rw[h2,hv.eq,he])
theorem RegQ.lenV {t ti e x ats b es el} (hw : Zf all tm o = some true) (hd : o.dst = some d) (hn : Nat.blt d n = true)
  (ho:o.op= .call {callee:= .builtin .len,args:= #[x],argTypes:=ats}) (hts:ats.toList= [t]) (ht:E.T t=some ti) (hk:ti.tk= .slice e) (hx:Zh E tm x=slV b es el)
  (hr:RegQ E P own n all r K (ZN tm (some d) (.int .i64 (el.length:Int))) H):RegQ E P own n all (o::r) K tm H:=
 .run hw hd hn (p:= .int .i64 (el.length:Int)) (by rw[ho];simp[aOp,Z9,hts,hx,Zf4 ht hk]) (.int _ _) hr
theorem DrwQ.lenV {t ti e x ats b es el} (hw : Zf ops.toList tm o = some true) (hd : o.dst = some d) (hn : Nat.blt d n = true)
  (ho:o.op= .call {callee:= .builtin .len,args:= #[x],argTypes:=ats}) (hts:ats.toList= [t]) (ht:E.T t=some ti) (hk:ti.tk= .slice e) (hx:Zh E tm x=slV b es el) (hc:okD E own n0 tm o H H=true)
  (hr:DrwQ E P own n ops n0 (i+1) r K (ZN tm (some d) (.int .i64 (el.length:Int))) H):DrwQ E P own n ops n0 i (o::r) K tm H:=
 .run hw hd hn (p:= .int .i64 (el.length:Int)) (by rw[ho];simp[aOp,Z9,hts,hx,Zf4 ht hk]) (.int _ _) hc hr
theorem Wd (ht:E.T t=some ti) (hk:ti.tk= .slice e) (he:E.T e=some ei) (hes:ei.size=es) (b:Bool) (hj:el[j]? = some cs):Zy E t (slV b es el) (.int k (j:Int))=some (.fptr cs 0):=by
 cases el with
 |nil=>simp at hj
 |cons c r=>
  have h:nth (c::r) j=some cs:=by rw[Zm];exact hj
  have hn:nat? (.int k (j:Int))=some j:=rfl;simp[slV,Zy,ht,hn,hk,he,hes,h]
theorem RegQ.idxV (hw : Zf all tm o = some true) (hd : o.dst = some d) (hn : Nat.blt d n = true)
  (ho:o.op= .indexAddr t x y) (ht:E.T t=some ti) (hk:ti.tk= .slice e) (he:E.T e=some ei) (hes:ei.size=es) (hx:Zh E tm x=slV b es el) (hy:Zh E tm y= .int k (j:Int)) (hj:el[j]? = some cs)
  (hr:RegQ E P own n all r K (ZN tm (some d) (.fptr cs 0)) H):RegQ E P own n all (o::r) K tm H:=
 .run hw hd hn (p:= .fptr cs 0) (by rw[ho];simp[aOp,hx,hy,Wd ht hk he hes b hj]) (.fptr _ _) hr
theorem DrwQ.idxV (hw : Zf ops.toList tm o = some true) (hd : o.dst = some d) (hn : Nat.blt d n = true)
  (ho:o.op= .indexAddr t x y) (ht:E.T t=some ti) (hk:ti.tk= .slice e) (he:E.T e=some ei) (hes:ei.size=es) (hx:Zh E tm x=slV b es el) (hy:Zh E tm y= .int k (j:Int)) (hj:el[j]? = some cs)
  (hr:DrwQ E P own n ops n0 (i+1) r K (ZN tm (some d) (.fptr cs 0)) H):DrwQ E P own n ops n0 i (o::r) K tm H:=
 .run hw hd hn (p:= .fptr cs 0) (by rw[ho];simp[aOp,hx,hy,Wd ht hk he hes b hj]) (.fptr _ _) (by simp[okD,Y2,ho]) hr
theorem RegQ.rOp {aft : Array Edge} (hw : Zf all tm ⟨some d, OP, ty, pos, aft, grd⟩ = some true) (hn : Nat.blt d n = true) (h : aOp E (own d) (Zh E tm) OP H = some (p, H1)) (hv : IsV p p')
  (hr:RegQ E P own n all r K (ZN tm (some d) p') H1):RegQ E P own n all (⟨some d,OP,ty,pos,aft,grd⟩::r) K tm H:= .run hw rfl hn h hv hr
theorem RegQ.rOpH {aft : Array Edge} (hw : Zf all tm ⟨some d, OP, ty, pos, aft, grd⟩ = some true) (hn : Nat.blt d n = true) (h : aOp E (own d) (Zh E tm) OP H = some (p, H1)) (hv : IsV p p') (hh : IsH H1 H1')
  (hr:RegQ E P own n all r K (ZN tm (some d) p') H1'):RegQ E P own n all (⟨some d,OP,ty,pos,aft,grd⟩::r) K tm H:= .runH hw rfl hn h hv hh hr
theorem RegQ.rB {aft : Array Edge} {e : Bool} (hw : Zf all tm ⟨some d, OP, ty, pos, aft, grd⟩ = some true) (hn : Nat.blt d n = true) (h : aOp E (own d) (Zh E tm) OP H = some (.bool e, H1))
  (ht:e=true→RegQ E P own n all r K (ZN tm (some d) (.bool true)) H1) (hf:e=false→RegQ E P own n all r K (ZN tm (some d) (.bool false)) H1):RegQ E P own n all (⟨some d,OP,ty,pos,aft,grd⟩::r) K tm H:= .runB hw rfl hn h ht hf
theorem RegQ.rSkip {aft : Array Edge} {w : Bool} (hw : Zf all tm ⟨some d, OP, ty, pos, aft, some (j, w)⟩ = some false) (hn : Nat.blt d n = true)
  (hr:RegQ E P own n all r K (ZN tm (some d) unset) H):RegQ E P own n all (⟨some d,OP,ty,pos,aft,some (j,w)⟩::r) K tm H:= .skip hw rfl hn hr
theorem Yd (b:Bool) (es:Nat) (el:List (List PV)):ZL (slV b es el)=true:=by
 cases el with
 |nil=>cases b<;>rfl
 |cons c r=>rfl
theorem RegQ.rSt {aft:Array Edge} {cs':List PV} (hw:Zf all tm ⟨none,.store t a v,ty,pos,aft,grd⟩=some true) (ht:E.T t=some ti) (hcs:(Zh E tm v).cells=cs) (hn:IsL cs cs') (hl:(Nat.beq cs'.length ti.size&&Nat.blt 0 ti.size)=true) (hc:cs'.all ZL=true) (hwr:H.wr (Zh E tm a) cs'=some H1) (hh:IsH H1 H1') (hr:RegQ E P own n all r K tm H1'):RegQ E P own n all (⟨none,.store t a v,ty,pos,aft,grd⟩::r) K tm H:=by have e:=hn.eq;subst e;subst hcs;simp only[Bool.and_eq_true]at hl;have h1:=Nat.eq_of_beq_eq_true hl.1;have h2:0<ti.size:=Nat.le_of_ble_eq_true hl.2;refine .putH (p:= .undef) hw rfl ?_ hh hr;simp only[aOp,ht];rw[if_pos ⟨h1,h2,hc⟩,hwr];rfl
theorem RegQ.rLen {aft : Array Edge} (hw : Zf all tm ⟨some d, .call { callee := .builtin .len, args := #[x], argTypes := #[t] }, ty, pos, aft, grd⟩ = some true)
  (hn:Nat.blt d n=true) (hx:Zh E tm x=slV b es el) (ht:E.T t=some ti) (hk:ti.tk= .slice e) (hr:RegQ E P own n all r K (ZN tm (some d) (.int .i64 (el.length:Int))) H) :
  RegQ E P own n all (⟨some d,.call {callee:= .builtin .len,args:= #[x],argTypes:= #[t]},ty,pos,aft,grd⟩::r) K tm H:= .lenV hw rfl hn rfl rfl ht hk hx hr
theorem RegQ.rIdx {aft : Array Edge} (hw : Zf all tm ⟨some d, .indexAddr t x y, ty, pos, aft, grd⟩ = some true) (hn : Nat.blt d n = true)
  (hx:Zh E tm x=slV b es el) (ht:E.T t=some ti) (hk:ti.tk= .slice e) (he:E.T e=some ei) (hes:ei.size=es) (hy:Zh E tm y= .int k (j:Int)) (hj:el[j]? = some cs)
  (hr:RegQ E P own n all r K (ZN tm (some d) (.fptr cs 0)) H):RegQ E P own n all (⟨some d,.indexAddr t x y,ty,pos,aft,grd⟩::r) K tm H:= .idxV hw rfl hn rfl ht hk he hes hx hy hj hr
theorem RegQ.rCall {aft : Array Edge} {k : FuncId} {al : List PV}
  (hw:Zf all tm ⟨some d,.call {callee:= .value f,args:=args,argTypes:=ats},ty,pos,aft,grd⟩=some true) (hn:Nat.blt d n=true) (hf:Zh E tm f= .fn k caps) (ha:args.toList.map (Zh E tm)++caps=al) (h:CallOk E P k al H p H1) (hv:IsV p p')
  (hr:RegQ E P own n all r K (ZN tm (some d) p') H1):RegQ E P own n all (⟨some d,.call {callee:= .value f,args:=args,argTypes:=ats},ty,pos,aft,grd⟩::r) K tm H:=
 .does hw rfl hn rfl hf (by rw[ha];exact .any _) h hv hr
theorem DrwQ.rOp {aft : Array Edge} (hw : Zf ops.toList tm ⟨some d, OP, ty, pos, aft, grd⟩ = some true) (hn : Nat.blt d n = true) (h : aOp E (own d) (Zh E tm) OP H = some (p, H1)) (hv : IsV p p')
  (hk:okD E own n0 tm ⟨some d,OP,ty,pos,aft,grd⟩ H H1=true) (hr:DrwQ E P own n ops n0 (i+1) r K (ZN tm (some d) p') H1):DrwQ E P own n ops n0 i (⟨some d,OP,ty,pos,aft,grd⟩::r) K tm H:= .run hw rfl hn h hv hk hr
theorem DrwQ.rOpH {aft : Array Edge} (hw : Zf ops.toList tm ⟨some d, OP, ty, pos, aft, grd⟩ = some true) (hn : Nat.blt d n = true) (h : aOp E (own d) (Zh E tm) OP H = some (p, H1)) (hv : IsV p p') (hh : IsH H1 H1')
  (hk:okD E own n0 tm ⟨some d,OP,ty,pos,aft,grd⟩ H H1=true) (hr:DrwQ E P own n ops n0 (i+1) r K (ZN tm (some d) p') H1'):DrwQ E P own n ops n0 i (⟨some d,OP,ty,pos,aft,grd⟩::r) K tm H:= .runH hw rfl hn h hv hh hk hr
theorem DrwQ.rB {aft : Array Edge} {e : Bool} (hw : Zf ops.toList tm ⟨some d, OP, ty, pos, aft, grd⟩ = some true) (hn : Nat.blt d n = true) (h : aOp E (own d) (Zh E tm) OP H = some (.bool e, H1))
  (hk:okD E own n0 tm ⟨some d,OP,ty,pos,aft,grd⟩ H H1=true) (ht:e=true→DrwQ E P own n ops n0 (i+1) r K (ZN tm (some d) (.bool true)) H1) (hf:e=false→DrwQ E P own n ops n0 (i+1) r K (ZN tm (some d) (.bool false)) H1):DrwQ E P own n ops n0 i (⟨some d,OP,ty,pos,aft,grd⟩::r) K tm H:= .runB hw rfl hn h hk ht hf
theorem DrwQ.rSkip {aft : Array Edge} {w : Bool} (hw : Zf ops.toList tm ⟨some d, OP, ty, pos, aft, some (j, w)⟩ = some false) (hn : Nat.blt d n = true) (hns : ZpA E own ⟨some d, OP, ty, pos, aft, some (j, w)⟩ = true)
  (hr:DrwQ E P own n ops n0 (i+1) r K (ZN tm (some d) unset) H):DrwQ E P own n ops n0 i (⟨some d,OP,ty,pos,aft,some (j,w)⟩::r) K tm H:= .skip hw rfl hn hns hr
theorem DrwQ.rLen {aft : Array Edge} (hw : Zf ops.toList tm ⟨some d, .call { callee := .builtin .len, args := #[x], argTypes := #[t] }, ty, pos, aft, grd⟩ = some true)
  (hn:Nat.blt d n=true) (hx:Zh E tm x=slV b es el) (ht:E.T t=some ti) (hk:ti.tk= .slice e) (hr:DrwQ E P own n ops n0 (i+1) r K (ZN tm (some d) (.int .i64 (el.length:Int))) H) :
  DrwQ E P own n ops n0 i (⟨some d,.call {callee:= .builtin .len,args:= #[x],argTypes:= #[t]},ty,pos,aft,grd⟩::r) K tm H:= .lenV hw rfl hn rfl rfl ht hk hx (by simp[okD,Y2,Zov,ht,hk]) hr
theorem DrwQ.rIdx {aft : Array Edge} (hw : Zf ops.toList tm ⟨some d, .indexAddr t x y, ty, pos, aft, grd⟩ = some true) (hn : Nat.blt d n = true)
  (hx:Zh E tm x=slV b es el) (ht:E.T t=some ti) (hk:ti.tk= .slice e) (he:E.T e=some ei) (hes:ei.size=es) (hy:Zh E tm y= .int k (j:Int)) (hj:el[j]? = some cs)
  (hr:DrwQ E P own n ops n0 (i+1) r K (ZN tm (some d) (.fptr cs 0)) H):DrwQ E P own n ops n0 i (⟨some d,.indexAddr t x y,ty,pos,aft,grd⟩::r) K tm H:= .idxV hw rfl hn rfl ht hk he hes hx hy hj hr
theorem DrwQ.rCall {aft : Array Edge} {k : FuncId} {al : List PV}
  (hw:Zf ops.toList tm ⟨some d,.call {callee:= .value f,args:=args,argTypes:=ats},ty,pos,aft,grd⟩=some true) (hn:Nat.blt d n=true) (hf:Zh E tm f= .fn k caps) (ha:args.toList.map (Zh E tm)++caps=al) (hc:Y2 E own ⟨some d,.call {callee:= .value f,args:=args,argTypes:=ats},ty,pos,aft,grd⟩= .qu) (h:CallOk E P k al H p H) (hv:IsV p p')
  (hr:DrwQ E P own n ops n0 (i+1) r K (ZN tm (some d) p') H):DrwQ E P own n ops n0 i (⟨some d,.call {callee:= .value f,args:=args,argTypes:=ats},ty,pos,aft,grd⟩::r) K tm H:=
 .does hw rfl hn rfl hf (by rw[ha];exact .any _) hc h hv hr
theorem RegQ.rBs {ps:Array (Nat×Operand)} {aft:Array Edge} {el':List (List PV)} (hw:Zf all tm ⟨some d,.buildSlice t m ps,ty,pos,aft,grd⟩=some true) (hn:Nat.blt d n=true) (ho:own d=false) (h:Z1 E t m (ps.toList.map fun p=>(p.1,Zh E tm p.2))=some (es,el)) (hl:IsLL el el') (hf:Yo el'=some el') (hr:RegQ E P own n all r K (ZN tm (some d) (.sl .full es el')) H):RegQ E P own n all (⟨some d,.buildSlice t m ps,ty,pos,aft,grd⟩::r) K tm H:=by have e:=hl.eq;subst e;refine .run hw rfl hn (p:= .sl .full es el) ?_ (.any _) hr;simp only[aOp,h,ho,Bool.false_eq_true,if_false,hf]
theorem RegQ.rSl {aft : Array Edge} (hw : Zf all tm ⟨some d, .slice t x lo hi mx, ty, pos, aft, grd⟩ = some true) (hn : Nat.blt d n = true) (hx : Zh E tm x = X) (h1 : ZbE (Zh E tm) lo = LO) (h2 : ZbE (Zh E tm) hi = HI) (h3 : ZbE (Zh E tm) mx = MX) (h : Yf E t X LO HI MX = some p) (hv : IsV p p')
  (hr:RegQ E P own n all r K (ZN tm (some d) p') H):RegQ E P own n all (⟨some d,.slice t x lo hi mx,ty,pos,aft,grd⟩::r) K tm H:= .run hw rfl hn (p:=p) (by simp only[aOp,hx,h1,h2,h3,h,Option.map_some]) hv hr
theorem DrwQ.rSl {aft : Array Edge} (hw : Zf ops.toList tm ⟨some d, .slice t x lo hi mx, ty, pos, aft, grd⟩ = some true) (hn : Nat.blt d n = true) (hx : Zh E tm x = X) (h1 : ZbE (Zh E tm) lo = LO) (h2 : ZbE (Zh E tm) hi = HI) (h3 : ZbE (Zh E tm) mx = MX) (h : Yf E t X LO HI MX = some p) (hv : IsV p p')
  (hk:okD E own n0 tm ⟨some d,.slice t x lo hi mx,ty,pos,aft,grd⟩ H H=true) (hr:DrwQ E P own n ops n0 (i+1) r K (ZN tm (some d) p') H):DrwQ E P own n ops n0 i (⟨some d,.slice t x lo hi mx,ty,pos,aft,grd⟩::r) K tm H:= .run hw rfl hn (p:=p) (by simp only[aOp,hx,h1,h2,h3,h,Option.map_some]) hv hk hr
theorem RegQ.rBi {aft : Array Edge} {op : BinOp} (hw : Zf all tm ⟨some d, .binOp op t x y yt, ty, pos, aft, grd⟩ = some true) (hn : Nat.blt d n = true) (hx : Zh E tm x = X) (hy : Zh E tm y = Y) (h : XM E op t X Y = some p) (hv : IsV p p')
  (hr:RegQ E P own n all r K (ZN tm (some d) p') H):RegQ E P own n all (⟨some d,.binOp op t x y yt,ty,pos,aft,grd⟩::r) K tm H:= .run hw rfl hn (p:=p) (by simp only[aOp,hx,hy,Zmq h,Option.map_some]) hv hr
theorem DrwQ.rBi {aft : Array Edge} {op : BinOp} (hw : Zf ops.toList tm ⟨some d, .binOp op t x y yt, ty, pos, aft, grd⟩ = some true) (hn : Nat.blt d n = true) (hx : Zh E tm x = X) (hy : Zh E tm y = Y) (h : XM E op t X Y = some p) (hv : IsV p p')
  (hk:okD E own n0 tm ⟨some d,.binOp op t x y yt,ty,pos,aft,grd⟩ H H=true) (hr:DrwQ E P own n ops n0 (i+1) r K (ZN tm (some d) p') H):DrwQ E P own n ops n0 i (⟨some d,.binOp op t x y yt,ty,pos,aft,grd⟩::r) K tm H:= .run hw rfl hn (p:=p) (by simp only[aOp,hx,hy,Zmq h,Option.map_some]) hv hk hr
theorem RegQ.rIx {aft : Array Edge} (hw : Zf all tm ⟨some d, .index t x y, ty, pos, aft, grd⟩ = some true) (hn : Nat.blt d n = true) (hx : Zh E tm x = X) (hy : Zh E tm y = Y) (h : UH E t X Y = some p) (hv : IsV p p')
  (hr:RegQ E P own n all r K (ZN tm (some d) p') H):RegQ E P own n all (⟨some d,.index t x y,ty,pos,aft,grd⟩::r) K tm H:= .run hw rfl hn (p:=p) (by simp only[aOp,hx,hy,h,Option.map_some]) hv hr
theorem DrwQ.rIx {aft : Array Edge} (hw : Zf ops.toList tm ⟨some d, .index t x y, ty, pos, aft, grd⟩ = some true) (hn : Nat.blt d n = true) (hx : Zh E tm x = X) (hy : Zh E tm y = Y) (h : UH E t X Y = some p) (hv : IsV p p')
  (hk:okD E own n0 tm ⟨some d,.index t x y,ty,pos,aft,grd⟩ H H=true) (hr:DrwQ E P own n ops n0 (i+1) r K (ZN tm (some d) p') H):DrwQ E P own n ops n0 i (⟨some d,.index t x y,ty,pos,aft,grd⟩::r) K tm H:= .run hw rfl hn (p:=p) (by simp only[aOp,hx,hy,h,Option.map_some]) hv hk hr
theorem RegQ.rMk {aft : Array Edge} {l c : Operand} (hw : Zf all tm ⟨some d, .makeSlice t l c, ty, pos, aft, grd⟩ = some true) (hn : Nat.blt d n = true) (ho : own d = true)
  (hx:Zh E tm l=X) (hy:Zh E tm c=Y) (h:Xn E t X Y H=some (p,H1)) (hr:RegQ E P own n all r K (ZN tm (some d) p) H1):RegQ E P own n all (⟨some d,.makeSlice t l c,ty,pos,aft,grd⟩::r) K tm H:=
 .run hw rfl hn (p:=p) (by simp only[aOp,ho,if_true,hx,hy,h]) (.any _) hr
theorem RegQ.rAp {aft : Array Edge} (hw : Zf all tm ⟨some d, .call { callee := .builtin .append, args := #[x, y], argTypes := #[t, u] }, ty, pos, aft, grd⟩ = some true) (hn : Nat.blt d n = true) (ho : own d = false)
  (hx:Zh E tm x=X) (hy:Zh E tm y=Y) (h:ZP E t u X Y H=some (p,H1)) (hr:RegQ E P own n all r K (ZN tm (some d) p) H1):RegQ E P own n all (⟨some d,.call {callee:= .builtin .append,args:= #[x,y],argTypes:= #[t,u]},ty,pos,aft,grd⟩::r) K tm H:=
 .run hw rfl hn (p:=p) (by simp[aOp,Z9,ho,hx,hy,h]) (.any _) hr
theorem DrwQ.rAp {aft : Array Edge} (hw : Zf ops.toList tm ⟨some d, .call { callee := .builtin .append, args := #[x, y], argTypes := #[t, u] }, ty, pos, aft, grd⟩ = some true) (hn : Nat.blt d n = true) (ho : own d = false)
  (hx:Zh E tm x=X) (hy:Zh E tm y=Y) (h:ZP E t u X Y H=some (p,H1)) (hk:okD E own n0 tm ⟨some d,.call {callee:= .builtin .append,args:= #[x,y],argTypes:= #[t,u]},ty,pos,aft,grd⟩ H H1=true)
  (hr:DrwQ E P own n ops n0 (i+1) r K (ZN tm (some d) p) H1):DrwQ E P own n ops n0 i (⟨some d,.call {callee:= .builtin .append,args:= #[x,y],argTypes:= #[t,u]},ty,pos,aft,grd⟩::r) K tm H:=
 .run hw rfl hn (p:=p) (by simp[aOp,Z9,ho,hx,hy,h]) (.any _) hk hr
theorem RegQ.rIa {aft : Array Edge} (hw : Zf all tm ⟨some d, .indexAddr t x y, ty, pos, aft, grd⟩ = some true) (hn : Nat.blt d n = true) (hx : Zh E tm x = X) (hy : Zh E tm y = Y) (h : Zy E t X Y = some p) (hv : IsV p p')
  (hr:RegQ E P own n all r K (ZN tm (some d) p') H):RegQ E P own n all (⟨some d,.indexAddr t x y,ty,pos,aft,grd⟩::r) K tm H:= .run hw rfl hn (p:=p) (by simp only[aOp,hx,hy,h,Option.map_some]) hv hr
theorem RegQ.rLd {aft : Array Edge} (hw : Zf all tm ⟨some d, .load t x, ty, pos, aft, grd⟩ = some true) (hn : Nat.blt d n = true) (hx : Zh E tm x = X) (h : ZZ E t X H = some p) (hv : IsV p p')
  (hr:RegQ E P own n all r K (ZN tm (some d) p') H):RegQ E P own n all (⟨some d,.load t x,ty,pos,aft,grd⟩::r) K tm H:= .run hw rfl hn (p:=p) (by simp only[aOp,hx,h,Option.map_some]) hv hr
theorem RegQ.rAl {aft : Array Edge} (hw : Zf all tm ⟨some d, .alloc t, ty, pos, aft, grd⟩ = some true) (hn : Nat.blt d n = true) (h : ∀ρ, aOp E (own d) ρ (.alloc t) H = some (p, H1))
  (hr:RegQ E P own n all r K (ZN tm (some d) p) H1):RegQ E P own n all (⟨some d,.alloc t,ty,pos,aft,grd⟩::r) K tm H:= .run hw rfl hn (p:=p) (h _) (.any _) hr
end
attribute [irreducible] slV
