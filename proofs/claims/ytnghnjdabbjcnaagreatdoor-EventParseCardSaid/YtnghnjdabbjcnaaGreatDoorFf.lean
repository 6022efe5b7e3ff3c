/-
  More rules by the type of what comes out: operations in drawn regions, and lengt
-/
import Derived.Test.YtnghnjdabbjcnaaGreatDoorFe
import Derived.ChangeArms
import Derived.DataReads
import Derived.ChangeSame
noncomputable section
namespace Go.Vm
variable {d es i ix j m n0 off:Nat} {c:Code} {a f v x y:Operand} {ops:Array Oper} {tg:Nat→Nat} {msk:Nat→List Nat} {o:Oper} {H' H1 H1':Heap} {X Y p p':PV} {k:IntKind} {all r:List Oper} {caps cs ps:List PV} {b:Bool} {e t ty u yt:TypeId} {pos:String} {aft:Array Edge} {grd:Option (Nat×Bool)} {ei ti:TI} {fn:Func} {args:Array Operand} {W w':World} {ats:Array TypeId} {el el':List (List PV)} {OP:Op} {hi lo mx:Option Operand} {HI LO MX:Option PV}
structure Wp (E:Env) (P:Program) (own:Tmp→Bool) (n:Nat) (c:Code) (Q:Ex→TM→Heap→Prop) (tm:TM) (H:Heap):Prop where
 out:∃ex tm' H',CodeTo E P own n c tm H ex tm' H'∧Q ex tm' H'
def ZuK (E:Env) (P:Program) (own:Tmp→Bool) (n:Nat) (d:Code) (Q:Ex→TM→Heap→Prop):Ex→TM→Heap→Prop
 | .normal=>Wp E P own n d Q
 | .exit i=>Q (.exit i)
 | .ret=>Q .ret
def Zdl (i:Nat) (Q:Ex→TM→Heap→Prop):Ex→TM→Heap→Prop
 | .normal=>Q .normal
 | .exit j=>match Nat.beq j i with|true=>Q .normal|false=>Q (.exit j)
 | .ret=>Q .ret
structure SeqQ (E:Env) (P:Program) (own:Tmp→Bool) (n:Nat) (d:Code) (Q:Ex→TM→Heap→Prop) (ex:Ex) (tm:TM) (H:Heap):Prop where
 out:ZuK E P own n d Q ex tm H
structure BlockQ (i:Nat) (Q:Ex→TM→Heap→Prop) (ex:Ex) (tm:TM) (H:Heap):Prop where
 out:Zdl i Q ex tm H
structure LoopQ (E:Env) (P:Program) (own:Tmp→Bool) (n:Nat) (c:Code) (Q:Ex→TM→Heap→Prop) (ex:Ex) (tm:TM) (H:Heap):Prop where
 out:ZuK E P own n (.loop c) Q ex tm H
structure RegQ (E:Env) (P:Program) (own:Tmp→Bool) (n:Nat) (all l:List Oper) (K:TM→Heap→Prop) (tm:TM) (H:Heap):Prop where
 out:∃tm' H',RegTo E P own n all l tm H tm' H'∧K tm' H'
def ZpO (own:Tmp→Bool) (k:Nat):Nat:=(match own k with|true=>1|false=>0)+((match own (k+1) with|true=>2|false=>0)+((match own (k+2) with|true=>4|false=>0)+((match own (k+3) with|true=>8|false=>0)+((match own (k+4) with|true=>16|false=>0)+(match own (k+5) with|true=>32|false=>0)))))
def tgB (own:Tmp→Bool) (i:Nat):Nat:=ZpO own (50000+8*i)
def rdB (own:Tmp→Bool) (d:Nat):Nat:=ZpO own (40000+8*d)
def Zqo (ops:Array Oper) (i:Nat):Nat:=match nth ops.toList i with
 |some o=>o.dst.getD 0
 |none=>0
def DeadC (E:Env) (own:Tmp→Bool) (ops:Array Oper) (n0 i:Nat) (H:Heap):Prop:=∀k,k∈alL E own ops.toList 0→i≤k→H.bx[n0+k]? = some .dead
def Zs3 (E:Env) (own:Tmp→Bool) (ops:Array Oper):Prop:=alL E own ops.toList 0≠ []→∀k,Xa E own ops k≠ .ef
def ZtB (E:Env) (own:Tmp→Bool) (ops:Array Oper) (n0:Nat) (tg:Nat→Nat) (m:List Nat) (k:Nat):Prop:=
 (Xa E own ops k= .st→tg k∉m)∧(Xa E own ops k≠ .st→Xa E own ops k≠ .sc→Xa E own ops k≠ .al→∀s,s∈m→(∃j,j∈alL E own ops.toList 0∧k<j∧s=n0+j)∨(Xa E own ops k= .ld∧own 29999=true∧s≠rdB own (Zqo ops k)))
structure DrwQ (E:Env) (P:Program) (own:Tmp→Bool) (n:Nat) (ops:Array Oper) (n0 i:Nat) (r:List Oper) (K:TM→Heap→Prop) (tm:TM) (H:Heap):Prop where
 out:r=ops.toList.drop i→DeadC E own ops n0 i H→Zs3 E own ops→∃tg:Nat→Nat,(∀k,Xa E own ops k≠ .st→tg k=n0)∧(∀k,i≤k→k<ops.size→Xa E own ops k= .st→own (30000+k)=Nat.ble n0 (tg k)∧(own 29999=true→tg k=tgB own k))∧
  ∃tm' H',(∀msk:Nat→List Nat,(∀k,k<ops.size→ZtB E own ops n0 tg (msk k) k)→Run E P own n ops n0 (Xa E own ops) tg msk ((List.range ops.size).drop i) tm H tm' H')∧K tm' H'
section
variable {E:Env} {P:Program} {own:Tmp→Bool} {n:Nat} {Q:Ex→TM→Heap→Prop} {K:TM→Heap→Prop} {tm:TM} {H:Heap}
theorem Wp.skip (h:Q .normal tm H):Wp E P own n .skip Q tm H:=⟨_,_,_,.skip _ _,h⟩
theorem Wp.ret (h:Q .ret tm H):Wp E P own n .ret Q tm H:=⟨_,_,_,.ret _ _,h⟩
theorem Wp.exit {i:Nat} (h:Q (.exit i) tm H):Wp E P own n (.exit i) Q tm H:=⟨_,_,_,.exit _ _ _,h⟩
theorem Wp.seq {c d:Code} (h:Wp E P own n c (SeqQ E P own n d Q) tm H):Wp E P own n (.seq c d) Q tm H:=by
 obtain⟨ex,tm',H',h1,h2⟩:=h.out;cases ex with
 |normal=>obtain⟨ex2,tm2,H2,h3,h4⟩:=(show Wp E P own n d Q tm' H' from h2.out).out;exact⟨ex2,tm2,H2,.seq _ _ _ _ _ _ _ _ _ h1 h3,h4⟩
 |exit i=>exact⟨.exit i,tm',H',.seqOut _ _ _ _ _ _ _ h1 (by simp),h2.out⟩
 |ret=>exact⟨.ret,tm',H',.seqOut _ _ _ _ _ _ _ h1 (by simp),h2.out⟩
theorem SeqQ.go {d:Code} (h:Wp E P own n d Q tm H):SeqQ E P own n d Q .normal tm H:=⟨h⟩
theorem SeqQ.ret {d:Code} (h:Q .ret tm H):SeqQ E P own n d Q .ret tm H:=⟨h⟩
theorem SeqQ.exit {d:Code} {i:Nat} (h:Q (.exit i) tm H):SeqQ E P own n d Q (.exit i) tm H:=⟨h⟩
theorem Wp.block {i:Nat} {c:Code} (h:Wp E P own n c (BlockQ i Q) tm H):Wp E P own n (.block i c) Q tm H:=by
 obtain⟨ex,tm',H',h1,⟨h2⟩⟩:=h.out;cases ex with
 |normal=>exact⟨.normal,tm',H',.block _ _ _ _ _ _ _ h1 (by simp),h2⟩
 |ret=>exact⟨.ret,tm',H',.block _ _ _ _ _ _ _ h1 (by simp),h2⟩
 |exit j=>
  cases e:Nat.beq j i with
  | true=>simp only[Zdl,e]at h2;have:=Nat.eq_of_beq_eq_true e;subst this;exact⟨.normal,tm',H',.blockOut _ _ _ _ _ _ h1,h2⟩
  | false=>simp only[Zdl,e]at h2;exact⟨.exit j,tm',H',.block _ _ _ _ _ _ _ h1 (by intro h;cases h;rw[Nat.beq_refl]at e;cases e),h2⟩
theorem BlockQ.go (h:Q .normal tm H):BlockQ i Q .normal tm H:=⟨h⟩
theorem BlockQ.ret {i:Nat} (h:Q .ret tm H):BlockQ i Q .ret tm H:=⟨h⟩
theorem BlockQ.hit (e:Nat.beq j i=true) (h:Q .normal tm H):BlockQ i Q (.exit j) tm H:=⟨by simp only[Zdl,e];exact h⟩
theorem Wp.loop {c:Code} (h:Wp E P own n c (LoopQ E P own n c Q) tm H):Wp E P own n (.loop c) Q tm H:=by
 obtain⟨ex,tm',H',h1,h2⟩:=h.out;cases ex with
 |normal=>obtain⟨ex2,tm2,H2,h3,h4⟩:=(show Wp E P own n (.loop c) Q tm' H' from h2.out).out;exact⟨ex2,tm2,H2,.loop _ _ _ _ _ _ _ _ h1 h3,h4⟩
 |exit i=>exact⟨.exit i,tm',H',.loopOut _ _ _ _ _ _ h1 (by simp),h2.out⟩
 |ret=>exact⟨.ret,tm',H',.loopOut _ _ _ _ _ _ h1 (by simp),h2.out⟩
theorem LoopQ.go (h:Wp E P own n (.loop c) Q tm H):LoopQ E P own n c Q .normal tm H:=⟨h⟩
theorem LoopQ.ret {c:Code} (h:Q .ret tm H):LoopQ E P own n c Q .ret tm H:=⟨h⟩
theorem LoopQ.exit {c:Code} {i:Nat} (h:Q (.exit i) tm H):LoopQ E P own n c Q (.exit i) tm H:=⟨h⟩
theorem Wp.cond {x:Operand} {c d:Code} {b:Bool} (hx:Zh E tm x= .bool b) (h1:b=true→Wp E P own n c Q tm H) (h2:b=false→Wp E P own n d Q tm H):Wp E P own n (.cond x c d) Q tm H:=by
 cases b with
 |true=>obtain⟨ex,tm',H',h3,h4⟩:=(h1 rfl).out;exact⟨ex,tm',H',.cond x c d true _ _ _ _ _ hx h3,h4⟩
 |false=>obtain⟨ex,tm',H',h3,h4⟩:=(h2 rfl).out;exact⟨ex,tm',H',.cond x c d false _ _ _ _ _ hx h3,h4⟩
theorem Wp.condT {d:Code} (hx:Zh E tm x= .bool true) (h1:Wp E P own n c Q tm H):Wp E P own n (.cond x c d) Q tm H:=
 .cond hx (fun _=>h1) (fun e=>by cases e)
theorem Wp.condF {d:Code} (hx:Zh E tm x= .bool false) (h1:Wp E P own n d Q tm H):Wp E P own n (.cond x c d) Q tm H:=
 .cond hx (fun e=>by cases e) (fun _=>h1)
theorem Wp.region {id:Nat} {ops:Array Oper} (h:RegQ E P own n ops.toList ops.toList (Q .normal) tm H):Wp E P own n (.region id ops false) Q tm H:=by obtain⟨tm',H',h1,h2⟩:=h.out;exact⟨.normal,tm',H',.region _ _ _ _ _ _ h1,h2⟩
theorem RegQ.nil {all:List Oper} (h:K tm H):RegQ E P own n all [] K tm H:=⟨_,_,.nil _ _,h⟩
theorem RegQ.op {all r:List Oper} {o:Oper} {p:PV} {H1:Heap} (hw:Zf all tm o=some true) (hd:XR n o=true) (h:aOp E (own (o.dst.getD 0)) (Zh E tm) o.op H=some (p,H1)) (hr:RegQ E P own n all r K (ZO tm o.dst p) H1):RegQ E P own n all (o::r) K tm H:=by obtain⟨tm',H',h1,h2⟩:=hr.out;exact⟨tm',H',.op o r tm H p H1 tm' H' hw (.op _ _ h) (XV hd) h1,h2⟩
theorem RegQ.call {all r:List Oper} {o:Oper} {p:PV} {H1:Heap} (hw:Zf all tm o=some true) (hd:XR n o=true) {f:Operand} {args:Array Operand} {ats:Array TypeId} {k:FuncId} {caps al:List PV} (ho:o.op= .call {callee:= .value f,args:=args,argTypes:=ats}) (hf:Zh E tm f= .fn k caps) (ha:args.toList.map (Zh E tm)++caps=al) (h:CallOk E P k al H p H1) (hr:RegQ E P own n all r K (ZO tm o.dst p) H1):RegQ E P own n all (o::r) K tm H:=by obtain⟨tm',H',h1,h2⟩:=hr.out;exact⟨tm',H',.op o r tm H p H1 tm' H' hw (.call f args ats k caps _ _ ho hf (by rw[ha];exact h)) (XV hd) h1,h2⟩
theorem RegQ.pass {all r:List Oper} {o:Oper} (hw:Zf all tm o=some false) (hd:XR n o=true) (hr:RegQ E P own n all r K (ZO tm o.dst unset) H):RegQ E P own n all (o::r) K tm H:=by obtain⟨tm',H',h1,h2⟩:=hr.out;exact⟨tm',H',.pass o r tm H tm' H' hw (XV hd) h1,h2⟩
def ZuG (E:Env) (own:Tmp→Bool) (ops:Array Oper) (ms:List Nat) (st:List Nat):Bool:=st.all fun k=>(List.range ops.size).all fun i=>
 Nat.beq k i||(match Xa E own ops i with| .sc=>true| .al=>bef ms i k|| !own (30000+k)| .st=>bef ms k i||(bef ms i k||(own (30000+k) != own (30000+i)||(own 29999&& !Nat.beq (tgB own k) (tgB own i))))| .ld=>bef ms k i||(bef ms i k||(own 29999&& !Nat.beq (tgB own k) (rdB own (Zqo ops i))))|_=>bef ms k i||bef ms i k)
def Zui (E:Env) (own:Tmp→Bool) (ops:Array Oper) (ms:List Nat) (al:List Nat):Bool:=al.all fun k=>(List.range ops.size).all fun i=>
 Nat.ble i k||(match Xa E own ops i with| .sc=>true| .st=>true| .al=>true|_=>bef ms k i)
def ZlS (E:Env) (own:Tmp→Bool) (ops:Array Oper) (al:List Nat):Bool:=al.isEmpty||ops.toList.all fun o=>match Y0 E own o with| .ef=>false|_=>true
def Ze0 (E:Env) (own:Tmp→Bool) (ops:Array Oper):Bool:=
 Zem ops.toList 0&&Zeh E own ops (X9 ops.toList []) ops.toList 0&&(ZlS E own ops (alL E own ops.toList 0)&&Zui E own ops (X9 ops.toList []) (alL E own ops.toList 0))&&ZuG E own ops (X9 ops.toList []) (stL E own ops.toList 0)
def Zrt (E:Env) (own:Tmp→Bool) (ops:Array Oper):Bool:=
 Zem ops.toList 0&&Zeh E own ops (X9 ops.toList []) ops.toList 0&&(alL E own ops.toList 0).isEmpty&&(stL E own ops.toList 0).isEmpty
def ZnK (E:Env) (own:Tmp→Bool) (ops:Array Oper):Bool:=
 Zem ops.toList 0&&Zeh E own ops (X9 ops.toList []) ops.toList 0&&(alL E own ops.toList 0).isEmpty&&ZuG E own ops (X9 ops.toList []) (stL E own ops.toList 0)
theorem Hp.congr {cls:Nat→Cls} {tg':Nat→Nat} {msk':Nat→List Nat} {tm:TM} {H:Heap} (e1:tg' i=tg i) (e2:msk' i=msk i) (h:Hp E P own ops n0 cls tg msk i o tm H p H'):Hp E P own ops n0 cls tg' msk' i o tm H p H':=by
 cases h with
 |pass hw=>exact .pass _ hw
 |sc _ hw h=>exact .sc _ _ hw h
 |qu _ hw hc h=>exact .qu _ _ hw hc (by rw[e2];exact h)
 |al e ei hw hc ho he hz hp hdd=>exact .al _ e ei hw hc ho he hz hp hdd
 |bo e x hw hc ho hp hdd=>exact .bo _ e x hw hc ho hp hdd
 |ef _ M hw hc h hl=>rw[← e2];exact .ef _ _ M hw hc (by rw[e2];exact h) hl
 |st _ b hw hc h hs=>rw[← e1];exact .st _ _ b hw hc (by rw[e1,e2];exact h) (by rw[e1,e2];exact hs)
 |ld _ hw hc h=>exact .ld _ _ hw hc (by rw[e1,e2];exact h)
 |tk _ M hw hc h hl=>exact .tk _ _ M hw hc (by rw[e2];exact h) hl
theorem Run.congr {ops:Array Oper} {n0:Nat} {cls:Nat→Cls} {tg tg':Nat→Nat} {msk msk':Nat→List Nat} {l:List Nat} {tm tm':TM} {H H':Heap} (h:Run E P own n ops n0 cls tg msk l tm H tm' H'):(∀j∈l,tg' j=tg j∧msk' j=msk j)→Run E P own n ops n0 cls tg' msk' l tm H tm' H':=by
 induction h with
 |nil tm H=>intro _;exact .nil _ _
 |cons i r o tm H p H1 tm' H' ho hd h hr ih=>intro hl;have:=hl i List.mem_cons_self;exact .cons i r o tm H p H1 tm' H' ho hd (h.congr this.1 this.2) (ih fun j hj=>hl j (List.mem_cons_of_mem _ hj))
theorem Zoy (h:ZlS E own ops (alL E own ops.toList 0)=true):Zs3 E own ops:=fun hne k=>by
 simp only[ZlS,Bool.or_eq_true]at h
 rcases h with h|h
 · exact absurd (by simpa using h) hne
 · cases ho : ops.toList[k]? with
   | none=>simp[Xa,Zj,ho]
   | some o =>
     have:=List.all_eq_true.1 h o (List.mem_of_getElem? ho)
     simp only[Xa,Zj,ho]
     intro e
     rw[e]at this
     cases this
theorem Zms {H:Heap} {k:Nat} (h:k<m):(Za1 H m).bx[H.bx.length+k]? = some .dead:=by simp only[Za1];rw[List.getElem?_append_right (by omega),List.getElem?_replicate,if_pos (by omega)]
theorem Wp.drawG (hE:TOk E P) (hm:P.follows .mixedOrders=true) {id:Nat} (hs:Ze0 E own ops=true) (hst:stL E own ops.toList 0= []∨H.ro=0) (h:DrwQ E P own n ops H.bx.length 0 ops.toList (Q .normal) tm (Za1 H (WD E own ops))):Wp E P own n (.region id ops true) Q tm H:=by
 simp only[Ze0,Bool.and_eq_true]at hs;obtain⟨⟨⟨b1,b2⟩,b3,b5⟩,b4⟩:=hs;have allt:∀k,k∈alL E own ops.toList 0→k<WD E own ops:=fun k hk=>by
  obtain⟨o,_,h2,_⟩:=(ZcM _ _ _).1 hk
  have h3:=Zy h2
  have h4:k<ops.size:=by simpa using h3
  unfold WD
  cases e:alL E own ops.toList 0 with
  | nil=>rw[e]at hk;cases hk
  | cons a r=>exact h4
 obtain⟨tg,htg,hfl,tm',H',h1,h2⟩:=h.out (by simp) (fun k hk _=>Zms (allt k hk)) (Zoy b3);refine⟨.normal,tm',H',.draw _ _ _ _ _ _ fun id g a w Q hr hq=>?_,h2⟩;have hS:=Zg8 (tg:=tg) hr.inv.ro b1 b2 (by
  intro k hk
  rcases hst with e|e
  · rw[e]at hk;cases hk
  · rw[e];exact Nat.zero_le _) (fun k hk=>by
  rw[htg k (by rw[hk];simp)]
  exact Nat.le_add_right _ _)
 refine Zm5 (own:=own) hE hm hS ?_ id g a w Q hr hq;have stlt:∀k,k∈stL E own ops.toList 0→k<ops.size:=fun k hk=>by obtain⟨o,_,h2,_⟩:=(ZeH _ _ _).1 hk;have:=Zy h2;simpa using this
 have key:∀i k,i<ops.size→k∈(stL E own ops.toList 0).filter (fun k=> !Nat.beq k i&&(!bef (X9 ops.toList []) k i&& !bef (X9 ops.toList []) i k))→Xa E own ops i= .sc∨Xa E own ops i= .al∨(Xa E own ops i= .st∧(own (30000+k)≠own (30000+i)∨(own 29999=true∧tgB own k≠tgB own i)))∨(Xa E own ops i= .ld∧own 29999=true∧tgB own k≠rdB own (Zqo ops i)):=fun i k hi hk=>by obtain⟨hk1,hk2⟩:=List.mem_filter.1 hk;have:=List.all_eq_true.1 (List.all_eq_true.1 b4 k hk1) i (List.mem_range.2 hi);simp only[Bool.and_eq_true,Bool.not_eq_true']at hk2;rw[hk2.1,hk2.2.1,hk2.2.2]at this;simp only[Bool.false_or]at this;cases hc:Xa E own ops i<;>rw[hc]at this<;>simp at this;{exact .inl rfl};{exact .inr (.inl rfl)};{refine .inr (.inr (.inl ⟨rfl,?_⟩));rcases this with h|⟨h1,h2⟩;{exact .inl h};{exact .inr ⟨h1,fun e=>by rw[e,Nat.beq_refl]at h2;cases h2⟩}};{refine .inr (.inr (.inr ⟨rfl,this.1,fun e=>?_⟩));have h2:=this.2;rw[e,Nat.beq_refl]at h2;cases h2}
 have:=h1 (ZrF H.bx.length (X9 ops.toList []) (alL E own ops.toList 0) (stL E own ops.toList 0) tg) (fun i hi=>?_);{simpa using this}
 ·simp only[ZrF,ZtS];refine⟨fun hc hmem=>?_,fun hn1 hn2 hn3 s hs=>?_⟩
  ·rcases List.mem_append.1 hmem with hmem|hmem
   ·obtain⟨k, hk, e⟩ := List.mem_map.1 hmem;obtain⟨hka,hkb⟩:=List.mem_filter.1 hk;have hi2:i∈stL E own ops.toList 0:=Zat.1 hc;have:=List.all_eq_true.1 (List.all_eq_true.1 b4 i hi2) k (List.mem_range.2 (by have:=allt k hka;unfold WD at this;split at this<;>omega));have hck:Xa E own ops k= .al:=Qu.2 hka;rw[hck]at this;have hne:Nat.beq i k=false:=by
     cases e:Nat.beq i k with
     | false=>rfl
     | true =>
       have:=Nat.eq_of_beq_eq_true e
       subst this
       rw[hc]at hck;cases hck
    simp only[hne,Bool.false_or,Bool.or_eq_true,Bool.not_eq_true']at this;rcases this with h|h;{simp[h]at hkb};{rw[(hfl i (Nat.zero_le _) hi hc).1]at h;have:Nat.ble H.bx.length (tg i)=true:=Nat.ble_eq_true_of_le (by omega);rw[this]at h;cases h}
   {obtain⟨k,hk,e⟩:=List.mem_map.1 hmem;have hks:=(List.mem_filter.1 hk).1;have f1:=hfl k (Nat.zero_le _) (stlt k hks) (Zat.2 hks);have f2:=hfl i (Nat.zero_le _) hi hc;rcases key i k hi hk with h|h|⟨_,h|⟨h0,h⟩⟩|⟨h,_⟩;{rw[hc]at h;cases h};{rw[hc]at h;cases h};{refine h ?_;rw[f1.1,f2.1,e]};{exact h (by rw[← f1.2 h0, ← f2.2 h0,e])};{rw[hc]at h;cases h}}
  ·rcases List.mem_append.1 hs with hs|hs
   ·obtain⟨k,hk,e⟩:=List.mem_map.1 hs;obtain⟨hka,hkb⟩:=List.mem_filter.1 hk;refine .inl ⟨k,hka,?_,e.symm⟩;have:=List.all_eq_true.1 (List.all_eq_true.1 b5 k hka) i (List.mem_range.2 hi);simp only[Bool.or_eq_true]at this;(have hnb:bef (X9 ops.toList []) k i=false:=by simpa using hkb);rcases this with h|h;{have hle:=Nat.le_of_ble_eq_true h;rcases Nat.lt_or_eq_of_le hle with h|h;{exact h};{subst h;exact absurd (Qu.2 hka) hn3}}
    ·exfalso;revert h;cases hc:Xa E own ops i<;>intro h<;>first
      | exact hn2 hc
      | exact hn3 hc
      | exact hn1 hc
      | (simp[hnb]at h;done)
   {obtain⟨k,hk,e⟩:=List.mem_map.1 hs;have hks:=(List.mem_filter.1 hk).1;have f1:=hfl k (Nat.zero_le _) (stlt k hks) (Zat.2 hks);rcases key i k hi hk with h|h|⟨h,_⟩|⟨h,h0,h2⟩;{exact absurd h hn2};{exact absurd h hn3};{exact absurd h hn1};{exact .inr ⟨h,h0,by rw[← e,f1.2 h0];exact h2⟩}}
theorem Zge (h:alL E own ops.toList 0= []):ZlS E own ops (alL E own ops.toList 0)=true∧Zui E own ops (X9 ops.toList []) (alL E own ops.toList 0)=true:=by rw[h];exact⟨rfl,rfl⟩
theorem ZfR (h:alL E own ops.toList 0= []):Za1 H (WD E own ops)=H:=by simp[Za1,WD,h]
theorem Wp.draw (hE:TOk E P) (hm:P.follows .mixedOrders=true) {id:Nat} (hs:Zrt E own ops=true) (h:DrwQ E P own n ops H.bx.length 0 ops.toList (Q .normal) tm H):Wp E P own n (.region id ops true) Q tm H:=by
 simp only[Zrt,Bool.and_eq_true]at hs;obtain⟨⟨⟨b1,b2⟩,b3⟩,b4⟩:=hs;have es:stL E own ops.toList 0= []:=by simpa using b4
 have ea:alL E own ops.toList 0= []:=by simpa using b3
 obtain⟨n1,n2⟩:=Zge ea;exact .drawG hE hm (by simp only[Ze0,b1,b2,n1,n2,es,Bool.true_and];rfl) (.inl es) (by rw[ZfR ea];exact h)
theorem Wp.drawS (hE:TOk E P) (hm:P.follows .mixedOrders=true) {id:Nat} (hs:ZnK E own ops=true) (hro:H.ro=0) (h:DrwQ E P own n ops H.bx.length 0 ops.toList (Q .normal) tm H):Wp E P own n (.region id ops true) Q tm H:=by
 simp only[ZnK,Bool.and_eq_true]at hs;obtain⟨⟨⟨b1,b2⟩,b3⟩,b4⟩:=hs;have ea:alL E own ops.toList 0= []:=by simpa using b3
 obtain⟨n1,n2⟩:=Zge ea;exact .drawG hE hm (by simp only[Ze0,b1,b2,n1,n2,b4,Bool.true_and]) (.inr hro) (by rw[ZfR ea];exact h)
theorem Wp.drawA (hE:TOk E P) (hm:P.follows .mixedOrders=true) {id:Nat} (hs:Ze0 E own ops=true) (hro:H.ro=0) {H0:Heap} (hH:Za1 H (WD E own ops)=H0) (h:DrwQ E P own n ops H.bx.length 0 ops.toList (Q .normal) tm H0):Wp E P own n (.region id ops true) Q tm H:=by subst hH;exact .drawG hE hm hs (.inr hro) h
theorem DrwQ.nil {ops:Array Oper} {n0 i:Nat} (h:K tm H):DrwQ E P own n ops n0 i [] K tm H:=⟨fun hr _ _=>by
 have h1:ops.size≤i:=by
  rcases Nat.lt_or_ge i ops.size with h|h
  · have:=congrArg List.length hr;simp at this;omega
  · exact h
 rw[List.drop_eq_nil_of_le (by simpa using h1)]
 exact⟨fun _=>n0,fun _ _=>rfl,fun k h2 h3=>by omega,tm,H,fun _ _=> .nil _ _,h⟩⟩
theorem DrwQ.stepT (T : Nat) (hd : XR n o = true)
  (h:ops[i]? = some o→DeadC E own ops n0 i H→Zs3 E own ops→(Xa E own ops i= .st→own (30000+i)=Nat.ble n0 T∧(own 29999=true→T=tgB own i))∧DeadC E own ops n0 (i+1) H1∧∀(tg:Nat→Nat) (msk:Nat→List Nat),(Xa E own ops i≠ .st→tg i=n0)→(Xa E own ops i= .st→tg i=T)→ZtB E own ops n0 tg (msk i) i→Hp E P own ops n0 (Xa E own ops) tg msk i o tm H p H1)
  (hr:DrwQ E P own n ops n0 (i+1) r K (ZO tm o.dst p) H1):DrwQ E P own n ops n0 i (o::r) K tm H:=⟨fun hl hdc hne=>by
 have ho:ops[i]? = some o:=by
  have:=congrArg List.head? hl
  simp[List.head?_drop]at this
  exact this.symm
 have hi:i<ops.size:=by
  rcases Nat.lt_or_ge i ops.size with h|h
  · exact h
  · rw[Array.getElem?_eq_none h]at ho;cases ho
 have hr':r=ops.toList.drop (i+1):=by
  have:=congrArg List.tail hl
  simpa using this
 have hdr:(List.range ops.size).drop i=i::(List.range ops.size).drop (i+1):=by
  rw[List.drop_eq_getElem_cons (by simpa using hi)]
  simp
 obtain⟨hT,hdc1,hp⟩:=h ho hdc hne
 obtain⟨tg,htg,hfl,tm',H',h1,h2⟩:=hr.out hr' hdc1 hne
 rw[hdr]
 let tg':Nat→Nat:=fun k=>if k=i then(if Xa E own ops i= .st then T else n0) else tg k
 have tgi:∀k,k≠i→tg' k=tg k:=fun k e=>by simp only[tg',if_neg e]
 refine⟨tg',fun k hk=>?_,fun k hk hks hc=>?_,tm',H',fun msk hmsk=> .cons i _ o _ _ p H1 _ _ ho (XV hd) (hp tg' msk (fun hc=>?_) (fun hc=>?_) (hmsk i hi)) ((h1 (fun k=>if k=i then(if tg i=n0 then(if n0=0 then[1] else[0]) else[n0]) |>.filter (fun _=>decide (Xa E own ops i= .st)) else msk k) fun k hk=>?_).congr fun j hj=>?_),h2⟩
 · by_cases e : k = i
   · subst e;simp[tg',hk]
   · rw[tgi k e];exact htg k hk
 · by_cases e : k = i
   · subst e;simp only[tg',if_pos,hc];exact hT hc
   · rw[tgi k e];exact hfl k (by omega) hks hc
 · simp[tg',hc]
 · simp[tg',hc]
 · by_cases e : k = i
   · subst e
     refine⟨fun hc=>?_,fun hc _ _ s hs=>?_⟩
     · have ef : ∀l : List Nat, l.filter (fun _ => decide (Xa E own ops k = .st)) = l := fun l => by simp[hc]
       simp only[if_pos,ef]
       by_cases c1:tg k=n0
       · rw[if_pos c1]
         by_cases c2:n0=0
         · rw[if_pos c2,c1,c2];simp
         · rw[if_neg c2,c1];simpa using c2
       · rw[if_neg c1];simpa using c1
     · simp[hc]at hs
   · simp only[if_neg e]
     have:=hmsk k hk
     unfold ZtB at this ⊢
     rw[tgi k e]at this
     exact this
 · have : i + 1 ≤ j := by
     obtain⟨m,hm,rfl⟩:=List.mem_iff_getElem.1 hj
     simp
   have hne:j≠i:=by omega
   exact⟨tgi j hne,by rw[if_neg hne]⟩⟩
theorem Zbo {l:List Nat} (h:∀s,s∈l→H.bx[s]? = some .dead):ZR l H=H:=by refine Heap.ext' (List.ext_getElem? fun i=>?_) rfl rfl rfl;simp only[ZR,Wy];split;{rename_i hi;exact(h i hi.1).symm};{rfl}
theorem Hp.dead (ht:tg i=n0) (hm:ZR (msk i) H=H) (he:Xa E own ops i= .ef→msk i= []) (hst:Xa E own ops i≠ .st) (h:Hp E P own ops n0 (Xa E own ops) (fun _=>n0) (fun _=>[]) i o tm H p H1):Hp E P own ops n0 (Xa E own ops) tg msk i o tm H p H1:=by
 cases h with
 |pass hw=>exact .pass _ hw
 |sc _ hw h=>exact .sc _ _ hw h
 |qu _ hw hc h=>exact .qu _ _ hw hc (by rw[hm];exact h)
 |al e ei hw hc ho he hz hp hdd=>exact .al _ e ei hw hc ho he hz hp hdd
 |bo e x hw hc ho hp hdd=>exact .bo _ e x hw hc ho hp hdd
 |ef _ M hw hc h hl=>have e:=he hc;have:=Hp.ef (E:=E) (P:=P) (own:=own) (ops:=ops) (n0:=n0) (cls:=Xa E own ops) (tgt:=tg) (msk:=msk) (i:=i) (o:=o) (tm:=tm) H p M hw hc (by rw[e];exact h) hl;rw[e]at this;exact this
 |st _ b hw hc h hs=>exact absurd hc hst
 |ld _ hw hc h=>exact .ld _ _ hw hc (by rw[ht,hm];exact h)
 |tk _ M hw hc h hl=>exact .tk _ _ M hw hc (by rw[hm];exact h) hl
theorem DeadC.next (h:DeadC E own ops n0 i H):DeadC E own ops n0 (i+1) H:=fun k hk hi=>h k hk (by omega)
def LdC (E:Env) (P:Program) (own:Tmp→Bool) (n0:Nat) (tm:TM) (o:Oper) (H:Heap) (p:PV):Prop:=∀K:Heap,(own 29999=false→K.bx.take n0=H.bx.take n0)→(own 29999=true→rdB own (o.dst.getD 0)<n0→K.bx[rdB own (o.dst.getD 0)]? = H.bx[rdB own (o.dst.getD 0)]?)→OpTo E P own tm o K p K
theorem DrwQ.stepN (hd : XR n o = true) (hH : H1 = H ∨ Y0 E own o = .ef ∨ (Y0 E own o = .tk ∧ ∀(j : Nat) (b : Box), H.bx[j]? = some b → H1.bx[j]? = some b))
  (h : ops[i]? = some o → Xa E own ops i ≠ .st ∧ ((∀tg : Nat → Nat, ∀msk : Nat → List Nat, Hp E P own ops n0 (Xa E own ops) tg msk i o tm H p H1) ∨ ((Xa E own ops i ≠ .sc ∧ Xa E own ops i ≠ .al ∧ Xa E own ops i ≠ .ld) ∧ Hp E P own ops n0 (Xa E own ops) (fun _ => n0) (fun _ => []) i o tm H p H1) ∨
    (Xa E own ops i= .ld∧Zf ops.toList tm o=some true∧H1=H∧LdC E P own n0 tm o H p)))
  (hr:DrwQ E P own n ops n0 (i+1) r K (ZO tm o.dst p) H1):DrwQ E P own n ops n0 i (o::r) K tm H:=
 .stepT 0 hd (fun ho hdc hne=>by
  have hci:=Ws (E:=E) (own:=own) ho
  have hdi:Zqo ops i=o.dst.getD 0:=by
   have e:nth ops.toList i=some o:=by rw[Zj];simpa using ho
   simp only[Zqo,e]
  have hal:Xa E own ops i= .ef→alL E own ops.toList 0= []:=fun hc=>by
   cases e:alL E own ops.toList 0 with
   | nil=>rfl
   | cons a r=>exact absurd hc (hne (by rw[e];simp) i)
  refine⟨fun hc=>absurd hc (h ho).1,?_,fun tg msk h1 _ h4=>?_⟩
  · rcases hH with rfl | hc | ⟨hc, hg⟩
    · exact hdc.next
    · have := hal (by rw[hci]; exact hc)
      intro k hk;rw[this]at hk;cases hk
    · exact fun k hk hle=>hg _ _ (hdc k hk (by omega))
  · rcases(h ho).2 with h' | h' | ⟨hld, hw, rfl, hL⟩
    · exact h' tg msk
    · refine h'.2.dead (h1 (h ho).1) ?_ ?_ (h ho).1
      · refine Zbo fun s hs => ?_
        rcases h4.2 (h ho).1 h'.1.1 h'.1.2.1 s hs with⟨j,hj,hlt,rfl⟩|⟨hl,_⟩
        · exact hdc j hj (by omega)
        · exact absurd hl h'.1.2.2
      · intro hc
        have e:=hal hc
        cases em:msk i with
        | nil=>rfl
        | cons a r =>
          rcases h4.2 (h ho).1 h'.1.1 h'.1.2.1 a (by rw[em];exact List.mem_cons_self) with⟨j,hj,_⟩|⟨hl,_⟩
          · rw[e]at hj;cases hj
          · exact absurd hl h'.1.2.2
    · refine .ld _ _ hw hld fun K hK => ?_
      rw[h1 (h ho).1]at hK
      have hm:=h4.2 (h ho).1 (by rw[hld];simp) (by rw[hld];simp)
      refine hL K (fun h0=>?_) (fun h0 hr0=>?_)
      · rw[hK, Zbo fun s hs => ?_]
        rcases hm s hs with⟨j,hj,hlt,rfl⟩|⟨_,hl,_⟩
        · exact hdc j hj (by omega)
        · rw[h0]at hl;cases hl
      · have e1 := congrArg (fun l => l[rdB own (o.dst.getD 0)]?) hK
        simp only[List.getElem?_take,hr0,if_true]at e1
        rw[e1]
        simp only[ZR,Wy]
        split
        · rename_i hmem
          rcases hm _ hmem.1 with⟨j,hj,hlt,hs⟩|⟨_,_,hs⟩
          · omega
          · rw[hdi]at hs;exact absurd rfl hs
        · rfl) hr
theorem DrwQ.al {ops:Array Oper} {n0 i:Nat} {r:List Oper} {d:Nat} {e:TypeId} {ty:TypeId} {pos:String} {aft:Array Edge} {grd:Option (Nat×Bool)} {ei:TI} {H1:Heap} (hw:Zf ops.toList tm ⟨some d,.alloc e,ty,pos,aft,grd⟩=some true) (hn:Nat.blt d n=true) (he:E.T e=some ei) (hz:(Nat.beq ei.zero.cells.length ei.size&&Nat.blt 0 ei.size)=true) (hs:Yq H (n0+i) (.cells ei.size [ei.zero.cells])=H1) (hr:DrwQ E P own n ops n0 (i+1) r K (ZO tm (some d) (.ptr (n0+i) ei.size 0 0)) H1):DrwQ E P own n ops n0 i (⟨some d,.alloc e,ty,pos,aft,grd⟩::r) K tm H:=by subst hs;simp only[Bool.and_eq_true]at hz;have hz1:=Nat.eq_of_beq_eq_true hz.1;have hz2:0<ei.size:=Nat.le_of_ble_eq_true hz.2;refine .stepT (p:= .ptr (n0+i) ei.size 0 0) 0 (by simp only[XR,hn]) (fun ho hdc _=>?_) hr;have hci:Xa E own ops i= .al:=Ws (E:=E) (own:=own) ho;refine⟨fun hc=>(by rw[hci]at hc;cases hc),fun k hk hi=>?_,fun tg msk _ _ _=> .al _ e ei hw hci rfl he hz1 hz2 (hdc i (Qu.1 hci) (Nat.le_refl _))⟩;simp only[Yq];rw[List.getElem?_set_ne (by omega)];exact hdc k hk (by omega)
def ZqY (E:Env) (own:Tmp→Bool) (tm:TM) (o:Oper):Bool:=match o.op with
 | .load _ a => match Zh E tm a with
   | .ptr id _ _ _=>Nat.beq id (rdB own (o.dst.getD 0))
   | _=>true
 |_=>false
def okD (E:Env) (own:Tmp→Bool) (n0:Nat) (tm:TM) (o:Oper) (H H1:Heap):Bool:=
 match Y0 E own o with
 | .sc=>true
 | .qu=>true
 | .ld=>match own 29999 with|false=>ZdM E tm o n0|true=>ZdM E tm o n0&&ZqY E own tm o
 | .ef=>Nat.ble H.bx.length H1.bx.length
 |_=>false
theorem Zo8 {s:Nat} (hc:Y0 E own o= .ld) {K:Heap} (h:aOp E (own (o.dst.getD 0)) (Zh E tm) o.op H=some (p,H1)) (hs:ZdM E tm o s=true) (hq:ZqY E own tm o=true) (hK:rdB own (o.dst.getD 0)<s→K.bx[rdB own (o.dst.getD 0)]? = H.bx[rdB own (o.dst.getD 0)]?):aOp E (own (o.dst.getD 0)) (Zh E tm) o.op K=some (p,K):=by
 obtain⟨dst,op,ty,pos,after,guard⟩:=o;simp only at h hK ⊢;cases op;case load t a=>
  simp only[aOp]at h ⊢
  obtain⟨e,rfl⟩:=Wb h
  have e2:Z2 E t (Zh E tm a) K=Z2 E t (Zh E tm a) H1:=by
   unfold Z2 Heap.rd
   simp only[ZdM]at hs
   simp only[ZqY]at hq
   cases ha:Zh E tm a<;>simp only
   rename_i id es ix off
   rw[ha]at hs hq
   have hid:id<s:=Nat.le_of_ble_eq_true hs
   have hq:=Nat.eq_of_beq_eq_true hq
   rw[Zj,Zj,hq,hK (by rw[← hq];exact hid)]
  rw[e2,e]
  rfl
 all_goals
  simp only[ZqY]at hq
  cases hq
theorem DrwQ.op {ops:Array Oper} {n0 i:Nat} {o:Oper} {r:List Oper} {p:PV} {H1:Heap} (hw:Zf ops.toList tm o=some true) (hd:XR n o=true) (h:aOp E (own (o.dst.getD 0)) (Zh E tm) o.op H=some (p,H1)) (hk:okD E own n0 tm o H H1=true) (hr:DrwQ E P own n ops n0 (i+1) r K (ZO tm o.dst p) H1):DrwQ E P own n ops n0 i (o::r) K tm H:=by
 unfold okD at hk;have hse:Y0 E own o= .ld→ZdM E tm o n0=true∧(own 29999=true→ZqY E own tm o=true):=fun hc=>by
  rw[hc]at hk
  simp only at hk
  cases e:own 29999 with
  | false=>rw[e]at hk;exact⟨hk,fun h=>by cases h⟩
  | true =>
    rw[e]at hk
    simp only[Bool.and_eq_true]at hk
    exact⟨hk.1,fun _=>hk.2⟩
 refine .stepN hd ?_ (fun ho=>?_) hr
 ·cases hcl:Y0 E own o with
  | sc=>have h1:=ZfP hcl h H;rw[h]at h1;exact .inl (by simpa using h1)
  | qu=>exact .inl (Zkp hcl h)
  | ld=>have h1:=Zgx hcl h (hse hcl).1 (K:=H) rfl;rw[h]at h1;exact .inl (by simpa using h1)
  | ef=>exact .inr (.inl rfl)
  | al=>rw[hcl]at hk;cases hk
  | st=>rw[hcl]at hk;cases hk
  | tk=>rw[hcl]at hk;cases hk
 have hci:=Ws (E:=E) (own:=own) ho;cases hcl:Y0 E own o with
 |sc=>
  rw[hcl]at hci;have h1:=ZfP hcl h H;rw[h]at h1;have e:H1=H:=by simpa using h1
  subst e;exact⟨by rw[hci];simp,.inl fun _ _=> .sc _ _ hw fun M=> .op _ _ (ZfP hcl h M)⟩
 |qu=>rw[hcl]at hci;have e:=Zkp hcl h;subst e;exact⟨by rw[hci];simp,.inr (.inl ⟨by rw[hci];exact⟨by simp,by simp,by simp⟩,.qu _ _ hw hci (.op _ _ h)⟩)⟩
 |ld=>
  rw[hcl]at hci;have h1:=Zgx hcl h (hse hcl).1 (K:=H) rfl;rw[h]at h1;have e:H1=H:=by simpa using h1
  subst e;refine⟨by rw[hci];simp,.inr (.inr ⟨hci,hw,rfl,fun K h0 h2=>?_⟩)⟩;cases e:own 29999 with
  | false=>exact .op _ _ (Zgx hcl h (hse hcl).1 (h0 e))
  | true=>exact .op _ _ (Zo8 hcl h (hse hcl).1 ((hse hcl).2 e) (h2 e))
 |ef=>rw[hcl]at hci hk;exact⟨by rw[hci];simp,.inr (.inl ⟨by rw[hci];exact⟨by simp,by simp,by simp⟩,.ef _ _ H1 hw hci (.op _ _ h) (Nat.le_of_ble_eq_true hk)⟩)⟩
 |al=>rw[hcl]at hk;cases hk
 |st=>rw[hcl]at hk;cases hk
 |tk=>rw[hcl]at hk;cases hk
theorem Zjk {m:List Nat} {H:Heap} {id:Nat} (h:id∉m):nth (ZR m H).bx id=nth H.bx id:=by rw[Zj,Zj];simp only[ZR,Wy];rw[if_neg fun h'=>h h'.1]
theorem Zn4 {m:List Nat} {H M:Heap} {id:Nat} {b:Box} (h:H.wr (.ptr id es ix off) cs=some M) (hb:nth M.bx id=some b) (hm:id∉m):(ZR m H).wr (.ptr id es ix off) cs=some (Yq (ZR m H) id b):=by
 have put:∀{x:Box} {M:Heap},H.put id x=some M→nth M.bx id=some b→(ZR m H).put id x=some (Yq (ZR m H) id b):=fun {x M} h hb=>by
  unfold Heap.put at h ⊢;split at h;{cases h}
  ·rename_i hro;cases h;have hro':¬ id<(ZR m H).ro:=hro;rw[if_neg hro'];have hxb:x=b:=by
    rw[Zj]at hb
    rw[List.getElem?_set_self' ]at hb
    cases e:H.bx[id]? with
    | none=>rw[e]at hb;cases hb
    | some y=>rw[e]at hb;simpa using hb
   subst hxb;rfl
 unfold Heap.wr at h ⊢;simp only at h ⊢;rw[Zjk hm];split at h;{split at h;{split at h;{split at h;{rename_i h1 _ _ _ h2;rw[if_pos h1];simp only[*];exact put h hb};{cases h}};{cases h}};{cases h}};{split at h;{rename_i h2;simp only[if_pos h2];exact put h hb};{cases h}};{cases h}
theorem DrwQ.opS {b:Box} {id:Nat} (hw:Zf ops.toList tm ⟨none,.store t a v,ty,pos,aft,grd⟩=some true) (ht:E.T t=some ti) (ha:Zh E tm a= .ptr id es ix off) (hl:(Zh E tm v).cells.length=ti.size∧0<ti.size∧(Zh E tm v).cells.all ZP=true) (h:H.wr (.ptr id es ix off) (Zh E tm v).cells=some H1) (hb:nth H1.bx id=some b) (hf:own (30000+i)=Nat.ble n0 id) (hq:own 29999=true→id=tgB own i) (hr:DrwQ E P own n ops n0 (i+1) r K tm H1):DrwQ E P own n ops n0 i (⟨none,.store t a v,ty,pos,aft,grd⟩::r) K tm H:=by
 refine .stepT (p:= .undef) id rfl (fun ho hdc _=>?_) hr;have hci:Xa E own ops i= .st:=Ws (E:=E) (own:=own) ho;have hop:aOp E (own 0) (Zh E tm) (.store t a v) H=some (.undef,H1):=by simp only[aOp,ht,ha];rw[if_pos hl,h];rfl
 have hM:H1=Yq H id b:=by have:=Znn (E:=E) (own:=own) (tm:=tm) (o:=⟨none,.store t a v,ty,pos,aft,grd⟩) rfl hop (b:=b) (by simp only[ZiP,ha];exact hb);simpa only[ZiP,ha] using this
 have hne:H.bx[id]? ≠some .dead:=fun hdd=>by
  have:nth H.bx id=some .dead:=by rw[Zj];exact hdd
  simp only[Heap.wr,this]at h;cases h
 refine⟨fun _=>⟨hf,hq⟩,fun k hk hi=>?_,fun tg msk _ h2 h3=>?_⟩;{have h5:=hdc k hk (by omega);have h6:id≠n0+k:=fun e=>hne (by rw[e];exact h5);rw[hM];simp only[Yq];rw[List.getElem?_set_ne h6];exact h5};have e1:=h2 hci;have h3:=h3.1 hci;rw[e1]at h3;rw[hM, ← e1];refine .st _ _ b hw hci (.op _ _ ?_) (by rw[e1];exact h3);show aOp E (own 0) (Zh E tm) (.store t a v) (ZR (msk i) H)=_;simp only[aOp,ht,ha];rw[if_pos hl,Zn4 h hb h3,e1];rfl
theorem DrwQ.call {ops : Array Oper} {n0 i : Nat} {o : Oper} {r : List Oper} {p : PV} (hw : Zf ops.toList tm o = some true) (hd : XR n o = true) {f : Operand} {args : Array Operand} {ats : Array TypeId} {k : FuncId} {caps al : List PV}
  (ho:o.op= .call {callee:= .value f,args:=args,argTypes:=ats}) (hf:Zh E tm f= .fn k caps) (ha:args.toList.map (Zh E tm)++caps=al) (hc:Y0 E own o= .qu) (h:CallOk E P k al H p H)
  (hr:DrwQ E P own n ops n0 (i+1) r K (ZO tm o.dst p) H):DrwQ E P own n ops n0 i (o::r) K tm H:=
 .stepN hd (.inl rfl) (fun ho'=>by
  have hci:=(Ws (E:=E) (own:=own) ho').trans hc
  exact⟨by rw[hci];simp,.inr (.inl ⟨by rw[hci];exact⟨by simp,by simp,by simp⟩,.qu _ _ hw hci (.call f args ats k caps _ _ ho hf (by rw[ha];exact h))⟩)⟩) hr
def Zp7 (E:Env) (own:Tmp→Bool) (o:Oper):Bool:=match Y0 E own o with| .st=>false|_=>true
theorem DrwQ.pass {ops:Array Oper} {n0 i:Nat} {o:Oper} {r:List Oper} (hw:Zf ops.toList tm o=some false) (hd:XR n o=true) (hns:Zp7 E own o=true) (hr:DrwQ E P own n ops n0 (i+1) r K (ZO tm o.dst unset) H):DrwQ E P own n ops n0 i (o::r) K tm H:=
 .stepN hd (.inl rfl) (fun ho=>⟨(by rw[Ws ho];intro h;rw[Zp7,h]at hns;cases hns),.inl fun _ _=> .pass _ hw⟩) hr
def ovr (base:TM):List (Nat×PV)→TM
 | []=>base
 |(d,v)::r=>ZO (ovr base r) (some d) v
def okL (tm:TM):List (Nat×PV)→Prop
 | []=>True
 |(d,v)::r=>tm d=v∧okL tm r
theorem Zgj:∀{l:List (Nat×PV)},okL tm l→ovr tm l=tm
 | [],_=>rfl
 |(d,v)::r,h=>by funext t;simp only[ovr,ZO];rw[Zgj h.2];split;{rename_i e;subst e;exact h.1.symm};{rfl}
def Zw2 (E:Env) (fn:Func) (r:PV) (ex:Ex) (tm:TM) (H:Heap):Prop:=match ex with
 | .exit _=>False
 |_=>∃ps,VR E tm H fn.results.toList=some ps∧frz3 0 H (one ps)=some r
structure RetQ (E:Env) (fn:Func) (r:PV) (ex:Ex) (tm:TM) (H:Heap):Prop where
 out:Zw2 E fn r ex tm H
theorem RetQ.ret {fn:Func} {r:PV} {ps:List PV} (h1:VR E tm H fn.results.toList=some ps) (h2:frz3 0 H (one ps)=some r):RetQ E fn r .ret tm H:=⟨⟨ps,h1,h2⟩⟩
theorem Zgl (h:frz1 p=some p):arg1 p=p:=by cases p<;>simp only[frz1,arg1]at h ⊢ <;> first|rfl|(cases h;rfl)|cases h
theorem Zel:∀{l:List PV},Wm l=some l→l.map arg1=l
 | [],_=>rfl
 |p::r,h=>by simp only[Wm]at h;split at h;{rename_i p' hp;split at h;{rename_i r' hr;simp only[Option.some.injEq,List.cons.injEq]at h;obtain⟨rfl,rfl⟩:=h;simp only[List.map_cons,Zgl hp,Zel hr]};{cases h}};{cases h}
theorem Zk5 (h:frzG p=some p):argV p=p:=by unfold frzG at h;split at h;{rename_i cs;split at h;{rename_i cs' hc;simp only[Option.some.injEq,PV.agg.injEq]at h;subst h;simp only[argV,Zel hc]};{cases h}};{simp[argV,arg1]};{rename_i hn _;cases p<;>simp only[argV]<;>first|exact Zgl h|exact(hn _ rfl).elim}
theorem Zf4:∀{l:List PV},ZG l=some l→l.map argV=l
 | [],_=>rfl
 |p::r,h=>by simp only[ZG]at h;split at h;{rename_i p' hp;split at h;{rename_i r' hr;simp only[Option.some.injEq,List.cons.injEq]at h;obtain⟨rfl,rfl⟩:=h;simp only[List.map_cons,Zk5 hp,Zf4 hr]};{cases h}};{cases h}
theorem ZS (hE:TOk E P) {f:FuncId} (hf:FnOk P f fn c) {args:List PV} (ha:ZG args=some args) {r:PV} (hr:frz3 0 hNil r=some r) (h:Wp E P own fn.ntmps c (RetQ E fn r) (tm0 args) hNil) (H:Heap):CallOk E P f args H r H:=by
 obtain⟨ex,tm',H',h1,⟨h2⟩⟩:=h.out;refine Xn ?_ ha hr H;have hx:∀i,ex≠ .exit i:=fun i e=>by subst e;exact h2
 obtain⟨ps,h3,h4⟩:∃ps,VR E tm' H' fn.results.toList=some ps∧frz3 0 H' (one ps)=some r:=by
  cases ex with
  | normal=>exact h2
  | ret=>exact h2
  | exit i=>exact h2.elim
 exact Zap (own:=own) hE hf (by rw[Zf4 ha];exact h1) hx h3 h4
end
def wS (w:World):Uo:=fun b o=>w.cell? ⟨b,o,none⟩
def ZfA (S:Uo) (pcs:List PV) (cs:List Value):Prop:=cs.length=pcs.length∧∀i (hi:i<pcs.length) (hj:i<cs.length),V0 S pcs[i] cs[i]
section
variable {E:Env} {P:Program} {H:Type} {enc:TypeId×Value→H} {w:World} {base:Nat} {spare:Nat→Bool} {held:Bool} {cl:List TypeId}
end
open Go.RowKit
section
variable {E:Env} {P:Program} {w:World}
def wG (w:World):Gh:={S:=wS w,σ:=fun _=>none,τ:=fun _=>none,κ:=fun _=>0,mono:=false}
theorem Zm1 (w:World):Inv (wG w) hNil w where
 st _ _ _ h:=h
 bx id es el h:=by simp[hNil]at h
 mp id es h:=by simp[hNil]at h
 sp id T cs h:=by simp[hNil]at h
 inj i j b h:=(XA h).elim
 sd _ _:=rfl
 td _ _:=rfl
 tk t b lo hi' h:=by simp[hNil]at h
 tinj t t' b lo hi' lo' hi2 h:=by simp[hNil]at h
 nd:=List.nodup_nil
 lt t h:=by simp[hNil]at h
 sz id b h:=by simp[wG]at h
 ro:=Nat.le_refl _
 rm id b c T m h:=(XA h).elim
structure GrownB (W w':World):Prop where
 kept:W.keptBut w' (fun _=>False)
 fz:∀a,a.block<W.heap.size→w'.frozen? a=W.frozen? a
 size:W.heap.size≤w'.heap.size
theorem GrownB.frame (h:GrownB W w') (may:MemPlace→Prop):W.keptBut w' may:=World.keptBut_mono (fun _ f=>f.elim) h.kept
theorem Zcl {g g':Gh} (k:Keep g hNil w g' H' w'):GrownB w w':=by
 refine⟨⟨k.so.1,k.so.2.1,fun i hi=>?_⟩,fun a ha=>?_,k.size⟩
 ·rw[k.heap i hi (WZ g i)];cases w.heap[i]? with
  | none=>trivial
  | some o=>cases o<;>simp
 {simp only[World.frozen?,k.heap a.block ha (WZ g a.block)]}
end
section
open Go.ChangeShapes Go.WideShapes
variable {P:Program} {T:Type} {enc:TypeId×Value→T}
theorem Zks {f:Func} {s:ChangeSpec} {apart fresh handsOn again:Bool} {W':World} {args:Array Value} {v:Value} {ds gs:List (DataW T)} {before pa pv:List MemPlace} (hW:DataW.Whole enc P f.params.toList s.vars apart W args.toList ds gs before) (hres:∀(b:Nat) (sp:Nat→Bool) (hd:Bool),DataW.TrodAll enc P W' b sp hd f.resultTypes.toList (v.resultList f.resultTypes.size) (s.fn T (ds++gs)).results []) (hargs:∀sp:Nat→Bool,(∀p∈before,sp p.block=true)→DataW.TrodAll enc P W' 0 sp true f.params.toList args.toList (s.fn T (ds++gs)).args pa) (hvars:∀sp:Nat→Bool,(∀p∈before,sp p.block=true)→DataW.TrodVars enc P W' sp s.vars (s.fn T (ds++gs)).vars pv) (hps:before=pa++pv) (hk:W.keptBut W' (· ∈before)) (hfz:∀a,a.block<W.heap.size→W'.frozen? a=W.frozen? a) (hok:∀(j:Nat) (t:TypeId) (r:Value),f.resultTypes[j]? = some t→(v.resultList f.resultTypes.size)[j]? = some r→Value.okWide P W' .any 0 t r):s.post enc P f apart fresh handsOn again W args v W':=by
 have hlt:=hW.lt;have hold:∀p∈before,(fun b=>decide (b<W.heap.size)) p.block=true:=fun p hp=>by simpa using hlt p hp
 refine⟨ds,gs,before,[],pa,pv,hW,hres _ _ _,hargs _ hold,hvars _ hold,World.keptBut_mono (fun p hp=>⟨hp,?_⟩) hk,fun _=>?_⟩;{rw[hps,List.mem_append]at hp;exact Or.inr hp};{obtain⟨_,_,_,_,_,hz,hn⟩:=hW;refine⟨hok,_,_,([]++pa)++pv,⟨[]++pa,pv,trodAll_append (hargs _ (fun _ _=>rfl)) (hres _ _ _),hvars _ (fun _ _=>rfl),rfl,?_,?_⟩,?_⟩;{intro b off hp;(have hb:MemPlace.cell b off∈before:=by rw[hps];simpa using hp);rw[hfz _ (show b<_ from hlt _ hb)];exact hz b off hb};{intro ha;have:=hn ha;rw[hps]at this;simpa using this};{intro p hp _;rw[hps];simpa using hp}}
end
def slV (b:Bool) (es:Nat) (el:List (List PV)):PV:=match el with
 | []=>match b with|true=> .nils|false=> .sl .none es []
 |c::r=> .sl .none es (c::r)
mutual
inductive IsV:PV→PV→Prop
 |bool (b:Bool):IsV (.bool b) (.bool b)
 |int (k:IntKind) (n:Int):IsV (.int k n) (.int k n)
 |str (s:List UInt8):IsV (.str s) (.str s)
 |nilp:IsV .nilp .nilp
 |nils:IsV .nils .nils
 |nilm:IsV .nilm .nilm
 |nilf:IsV .nilf .nilf
 |nili:IsV .nili .nili
 |ifc:IsV .ifc .ifc
 |undef:IsV .undef .undef
 |ptr (a b c d:Nat):IsV (.ptr a b c d) (.ptr a b c d)
 |fptr (cs:List PV) (o:Nat):IsV (.fptr cs o) (.fptr cs o)
 |sl (tl:Tail) (es:Nat) (el:List (List PV)):IsV (.sl tl es el) (.sl tl es el)
 |slV (b:Bool) (es:Nat) (el:List (List PV)):IsV (slV b es el) (slV b es el)
 |own (a b c d:Nat):IsV (.own a b c d) (.own a b c d)
 |map (i:Nat):IsV (.map i) (.map i)
 |fn (f:FuncId) (cs:List PV):IsV (.fn f cs) (.fn f cs)
 |agg (cs cs':List PV) (h:IsL cs cs'):IsV (.agg cs) (.agg cs')
 |tup (cs cs':List PV) (h:IsL cs cs'):IsV (.tup cs) (.tup cs')
 |any (v:PV):IsV v v
inductive IsL:List PV→List PV→Prop
 |nil:IsL [] []
 |cons (a a':PV) (l l':List PV) (h:IsV a a') (hl:IsL l l'):IsL (a::l) (a'::l')
 |any (l:List PV):IsL l l
end
theorem IsV.eq {a b:PV} (h:IsV a b):a=b:=by
 refine @IsV.rec (fun a b _=>a=b) (fun a b _=>a=b) ?_ ?_ ?_ ?_ ?_ ?_ ?_ ?_ ?_ ?_ ?_ ?_ ?_ ?_ ?_ ?_ ?_ ?_ ?_ ?_ ?_ ?_ ?_ a b h;all_goals intros
 all_goals first|rfl|(simp_all;done)
theorem IsL.eq {a b:List PV} (h:IsL a b):a=b:=by have e:=(show IsV (.agg a) (.agg b) from .agg _ _ h).eq;simpa using e
theorem IsV.ptr4 {a b c a' b' c' d':Nat} (h1:a=a') (h2:b=b') (h3:c=c') (h4:d=d'):IsV (.ptr a b c d) (.ptr a' b' c' d'):=by subst h1 h2 h3 h4;exact .ptr _ _ _ _
inductive IsLL:List (List PV)→List (List PV)→Prop
 |nil:IsLL [] []
 |cons (a a':List PV) (l l':List (List PV)) (h:IsL a a') (hl:IsLL l l'):IsLL (a::l) (a'::l')
 |any (l:List (List PV)):IsLL l l
theorem IsLL.eq {a b:List (List PV)} (h:IsLL a b):a=b:=by
 induction h with
 |nil=>rfl
 |cons a a' l l' h _ ih=>rw[h.eq,ih]
 |any=>rfl
inductive IsBL:List Box→List Box→Prop
 |nil:IsBL [] []
 |cells (es es':Nat) (el el':List (List PV)) (l l':List Box) (he:es=es') (h:IsLL el el') (hl:IsBL l l'):IsBL (.cells es el::l) (.cells es' el'::l')
 |cons (b:Box) (l l':List Box) (hl:IsBL l l'):IsBL (b::l) (b::l')
 |any (l:List Box):IsBL l l
theorem IsBL.eq {a b:List Box} (h:IsBL a b):a=b:=by
 induction h with
 |nil=>rfl
 |cells _ _ _ _ _ _ he h _ ih=>rw[he,h.eq,ih]
 |cons _ _ _ _ ih=>rw[ih]
 |any=>rfl
inductive IsH:Heap→Heap→Prop
 |mk (bx bx':List Box) (ro ro' nt nt':Nat) (lv lv':List Nat) (h:IsBL bx bx') (h1:ro=ro') (h2:lv=lv') (h3:nt=nt'):IsH ⟨bx,ro,lv,nt⟩ ⟨bx',ro',lv',nt'⟩
theorem IsH.eq {a b:Heap} (h:IsH a b):a=b:=by cases h with|mk _ _ _ _ _ _ _ _ h h1 h2 h3=>rw[h.eq,h1,h2,h3]
section
variable {E:Env} {P:Program} {own:Tmp→Bool} {n:Nat} {Q:Ex→TM→Heap→Prop} {K:TM→Heap→Prop} {tm:TM} {H:Heap}
theorem VN (hd:o.dst=some d) (hn:Nat.blt d n=true):XR n o=true:=by simp only[XR,hd,hn]
theorem RegQ.run (hw : Zf all tm o = some true) (hd : o.dst = some d) (hn : Nat.blt d n = true) (h : aOp E (own d) (Zh E tm) o.op H = some (p, H1)) (hv : IsV p p')
  (hr:RegQ E P own n all r K (ZO tm (some d) p') H1):RegQ E P own n all (o::r) K tm H:=
 .op hw (VN hd hn) (p:=p) (by rw[hd];exact h) (by rw[hd,hv.eq];exact hr)
theorem RegQ.put (hw : Zf all tm o = some true) (hd : o.dst = none) (h : aOp E (own 0) (Zh E tm) o.op H = some (p, H1))
  (hr:RegQ E P own n all r K tm H1):RegQ E P own n all (o::r) K tm H:=
 .op hw (by simp only[XR,hd]) (p:=p) (by rw[hd];exact h) (by rw[hd];exact hr)
theorem RegQ.runH (hw : Zf all tm o = some true) (hd : o.dst = some d) (hn : Nat.blt d n = true) (h : aOp E (own d) (Zh E tm) o.op H = some (p, H1)) (hv : IsV p p') (hh : IsH H1 H1')
  (hr:RegQ E P own n all r K (ZO tm (some d) p') H1'):RegQ E P own n all (o::r) K tm H:=
 .run hw hd hn h hv (by rw[hh.eq];exact hr)
theorem RegQ.putH (hw : Zf all tm o = some true) (hd : o.dst = none) (h : aOp E (own 0) (Zh E tm) o.op H = some (p, H1)) (hh : IsH H1 H1')
  (hr:RegQ E P own n all r K tm H1'):RegQ E P own n all (o::r) K tm H:=
 .put hw hd h (by rw[hh.eq];exact hr)
theorem RegQ.runB {e:Bool} (hw:Zf all tm o=some true) (hd:o.dst=some d) (hn:Nat.blt d n=true) (h:aOp E (own d) (Zh E tm) o.op H=some (.bool e,H1)) (ht:e=true→RegQ E P own n all r K (ZO tm (some d) (.bool true)) H1) (hf:e=false→RegQ E P own n all r K (ZO tm (some d) (.bool false)) H1):RegQ E P own n all (o::r) K tm H:=by
 cases e with
 |true=>exact .run hw hd hn h (.bool _) (ht rfl)
 |false=>exact .run hw hd hn h (.bool _) (hf rfl)
theorem RegQ.skip (hw:Zf all tm o=some false) (hd:o.dst=some d) (hn:Nat.blt d n=true) (hr:RegQ E P own n all r K (ZO tm (some d) unset) H):RegQ E P own n all (o::r) K tm H:=
 .pass hw (VN hd hn) (by rw[hd];exact hr)
theorem RegQ.does {k : FuncId} {al : List PV} (hw : Zf all tm o = some true) (hd : o.dst = some d) (hn : Nat.blt d n = true)
  (ho:o.op= .call {callee:= .value f,args:=args,argTypes:=ats}) (hf:Zh E tm f= .fn k caps) (ha:IsL (args.toList.map (Zh E tm)++caps) al) (h:CallOk E P k al H p H1) (hv:IsV p p')
  (hr:RegQ E P own n all r K (ZO tm (some d) p') H1):RegQ E P own n all (o::r) K tm H:=
 .call hw (VN hd hn) ho hf (show _=al from(show IsV (.agg _) (.agg al) from .agg _ _ ha).eq |> fun e=>by simpa using e) h (by rw[hd,hv.eq];exact hr)
theorem DrwQ.run (hw : Zf ops.toList tm o = some true) (hd : o.dst = some d) (hn : Nat.blt d n = true) (h : aOp E (own d) (Zh E tm) o.op H = some (p, H1)) (hv : IsV p p')
  (hk:okD E own n0 tm o H H1=true) (hr:DrwQ E P own n ops n0 (i+1) r K (ZO tm (some d) p') H1):DrwQ E P own n ops n0 i (o::r) K tm H:=
 .op hw (VN hd hn) (p:=p) (by rw[hd];exact h) hk (by rw[hd,hv.eq];exact hr)
theorem DrwQ.runH (hw : Zf ops.toList tm o = some true) (hd : o.dst = some d) (hn : Nat.blt d n = true) (h : aOp E (own d) (Zh E tm) o.op H = some (p, H1)) (hv : IsV p p') (hh : IsH H1 H1')
  (hk:okD E own n0 tm o H H1=true) (hr:DrwQ E P own n ops n0 (i+1) r K (ZO tm (some d) p') H1'):DrwQ E P own n ops n0 i (o::r) K tm H:=
 .run hw hd hn h hv hk (by rw[hh.eq];exact hr)
theorem DrwQ.runB {e:Bool} (hw:Zf ops.toList tm o=some true) (hd:o.dst=some d) (hn:Nat.blt d n=true) (h:aOp E (own d) (Zh E tm) o.op H=some (.bool e,H1)) (hk:okD E own n0 tm o H H1=true) (ht:e=true→DrwQ E P own n ops n0 (i+1) r K (ZO tm (some d) (.bool true)) H1) (hf:e=false→DrwQ E P own n ops n0 (i+1) r K (ZO tm (some d) (.bool false)) H1):DrwQ E P own n ops n0 i (o::r) K tm H:=by
 cases e with
 |true=>exact .run hw hd hn h (.bool _) hk (ht rfl)
 |false=>exact .run hw hd hn h (.bool _) hk (hf rfl)
theorem DrwQ.skip (hw:Zf ops.toList tm o=some false) (hd:o.dst=some d) (hn:Nat.blt d n=true) (hns:Zp7 E own o=true) (hr:DrwQ E P own n ops n0 (i+1) r K (ZO tm (some d) unset) H):DrwQ E P own n ops n0 i (o::r) K tm H:=
 .pass hw (VN hd hn) hns (by rw[hd];exact hr)
theorem DrwQ.does {k : FuncId} {al : List PV} (hw : Zf ops.toList tm o = some true) (hd : o.dst = some d) (hn : Nat.blt d n = true)
  (ho:o.op= .call {callee:= .value f,args:=args,argTypes:=ats}) (hf:Zh E tm f= .fn k caps) (ha:IsL (args.toList.map (Zh E tm)++caps) al) (hc:Y0 E own o= .qu) (h:CallOk E P k al H p H) (hv:IsV p p')
  (hr:DrwQ E P own n ops n0 (i+1) r K (ZO tm (some d) p') H):DrwQ E P own n ops n0 i (o::r) K tm H:=
 .call hw (VN hd hn) ho hf (show _=al from(show IsV (.agg _) (.agg al) from .agg _ _ ha).eq |> fun e=>by simpa using e) hc h (by rw[hd,hv.eq];exact hr)
def Zua (I:Nat→TM→Heap→Prop) (m:Nat) (Q:Ex→TM→Heap→Prop):Ex→TM→Heap→Prop
 | .normal=>fun tm H=>∃m',m'<m∧I m' tm H
 | .exit i=>Q (.exit i)
 | .ret=>Q .ret
structure LoopI (I:Nat→TM→Heap→Prop) (m:Nat) (Q:Ex→TM→Heap→Prop) (ex:Ex) (tm:TM) (H:Heap):Prop where
 out:Zua I m Q ex tm H
theorem LoopI.go {I:Nat→TM→Heap→Prop} (m':Nat) (hlt:m'<m) (h:I m' tm H):LoopI I m Q .normal tm H:=⟨⟨m',hlt,h⟩⟩
theorem LoopI.ret {I:Nat→TM→Heap→Prop} {m:Nat} (h:Q .ret tm H):LoopI I m Q .ret tm H:=⟨h⟩
theorem LoopI.exit {I:Nat→TM→Heap→Prop} {m i:Nat} (h:Q (.exit i) tm H):LoopI I m Q (.exit i) tm H:=⟨h⟩
theorem Wp.while (I:Nat→TM→Heap→Prop) (step:∀m tm H,I m tm H→Wp E P own n c (LoopI I m Q) tm H):∀(m:Nat) (tm:TM) (H:Heap),I m tm H→Wp E P own n (.loop c) Q tm H:=by
 intro m;induction m using Nat.strongRecOn with
 |_ m ih=>
  intro tm H h;refine .loop ?_;obtain⟨ex,tm',H',h1,⟨h2⟩⟩:=(step m tm H h).out;refine⟨ex,tm',H',h1,?_⟩;cases ex with
  | normal=>obtain⟨m',hlt,h3⟩:=h2;exact .go (ih m' hlt tm' H' h3)
  | exit i=>exact .exit h2
  | ret=>exact .ret h2
theorem ZM (b:Bool) (es:Nat) (el:List (List PV)):frz1 (slV b es el)=some (slV b es el):=by
 cases el with
 |nil=>cases b<;>rfl
 |cons c r=>rfl
theorem U2 (m:Nat) (H:Heap) (b:Bool) (es:Nat) (el:List (List PV)):frzC m H (slV b es el)=some (slV b es el):=by
 cases el with
 |nil=>cases b<;>rfl
 |cons c r=>rfl
theorem Y2 (m:Nat) (H:Heap) (l:List PV):frz3 m H (.tup l)=match X4 m H l with|some l'=>some (.tup l')|none=>none:=rfl
theorem Zcn (m:Nat) (H:Heap) (l:List PV):frz3 m H (.agg l)=match XO m H l with|some l'=>some (.agg l')|none=>none:=rfl
theorem Zf8 (m:Nat) (H:Heap) (b:Bool) (es:Nat) (el:List (List PV)):frz2 m H (slV b es el)=some (slV b es el):=by
 cases el with
 |nil=>cases b<;>rfl
 |cons c r=>rfl
theorem ZJ (m:Nat) (H:Heap) (b:Bool) (es:Nat) (el:List (List PV)):frz3 m H (slV b es el)=some (slV b es el):=by
 cases el with
 |nil=>cases b<;>rfl
 |cons c r=>rfl
theorem Xv (b:Bool) (es:Nat) (el:List (List PV)):frzG (slV b es el)=some (slV b es el):=by
 cases el with
 |nil=>cases b<;>rfl
 |cons c r=>rfl
theorem Zr (b:Bool) (es:Nat) (c:List PV) (r:List (List PV)):slV b es (c::r)= .sl .none es (c::r):=rfl
theorem Zi (es:Nat):slV true es []= .nils:=rfl
theorem ZE (es:Nat):slV false es []= .sl .none es []:=rfl
theorem Zf6 (ht:E.T t=some ti) (hk:ti.tk= .slice e) (b:Bool) (es:Nat) (el:List (List PV)) (H:Heap):Zc5 E t (slV b es el) H=some (.int .i64 (el.length:Int)):=by
 cases el with
 |nil=>cases b<;>simp[slV,Zc5,ht,hk]
 |cons c r=>simp[slV,Zc5,ht,hk]
theorem RetQ.fin {r:PV} {ps':List PV} (h1:VR E tm H fn.results.toList=some ps) (hp:IsL ps ps') (h2:frz3 0 H (one ps')=some r):RetQ E fn r .ret tm H:=
 .ret h1 (by have e:=(show IsV (.agg ps) (.agg ps') from .agg _ _ hp).eq;simp only[PV.agg.injEq]at e;rw[e];exact h2)
theorem RetQ.end {r v v':PV} (h1:VR E tm H fn.results.toList=some ps) (h2:frz3 0 H (one ps)=some v) (hv:IsV v v') (he:v'=r):RetQ E fn r .ret tm H:= .ret h1 (by rw[h2,hv.eq,he])
theorem RegQ.lenV {t ti e x ats b es el} (hw : Zf all tm o = some true) (hd : o.dst = some d) (hn : Nat.blt d n = true)
  (ho:o.op= .call {callee:= .builtin .len,args:= #[x],argTypes:=ats}) (hts:ats.toList= [t]) (ht:E.T t=some ti) (hk:ti.tk= .slice e) (hx:Zh E tm x=slV b es el)
  (hr:RegQ E P own n all r K (ZO tm (some d) (.int .i64 (el.length:Int))) H):RegQ E P own n all (o::r) K tm H:=
 .run hw hd hn (p:= .int .i64 (el.length:Int)) (by rw[ho];simp[aOp,Z8,hts,hx,Zf6 ht hk]) (.int _ _) hr
theorem DrwQ.lenV {t ti e x ats b es el} (hw : Zf ops.toList tm o = some true) (hd : o.dst = some d) (hn : Nat.blt d n = true)
  (ho:o.op= .call {callee:= .builtin .len,args:= #[x],argTypes:=ats}) (hts:ats.toList= [t]) (ht:E.T t=some ti) (hk:ti.tk= .slice e) (hx:Zh E tm x=slV b es el) (hc:okD E own n0 tm o H H=true)
  (hr:DrwQ E P own n ops n0 (i+1) r K (ZO tm (some d) (.int .i64 (el.length:Int))) H):DrwQ E P own n ops n0 i (o::r) K tm H:=
 .run hw hd hn (p:= .int .i64 (el.length:Int)) (by rw[ho];simp[aOp,Z8,hts,hx,Zf6 ht hk]) (.int _ _) hc hr
theorem Wl (ht:E.T t=some ti) (hk:ti.tk= .slice e) (he:E.T e=some ei) (hes:ei.size=es) (b:Bool) (hj:el[j]? = some cs):Zz E t (slV b es el) (.int k (j:Int))=some (.fptr cs 0):=by
 cases el with
 |nil=>simp at hj
 |cons c r=>
  have h:nth (c::r) j=some cs:=by rw[Zj];exact hj
  have hn:nat? (.int k (j:Int))=some j:=rfl;simp[slV,Zz,ht,hn,hk,he,hes,h]
theorem RegQ.idxV (hw : Zf all tm o = some true) (hd : o.dst = some d) (hn : Nat.blt d n = true)
  (ho:o.op= .indexAddr t x y) (ht:E.T t=some ti) (hk:ti.tk= .slice e) (he:E.T e=some ei) (hes:ei.size=es) (hx:Zh E tm x=slV b es el) (hy:Zh E tm y= .int k (j:Int)) (hj:el[j]? = some cs)
  (hr:RegQ E P own n all r K (ZO tm (some d) (.fptr cs 0)) H):RegQ E P own n all (o::r) K tm H:=
 .run hw hd hn (p:= .fptr cs 0) (by rw[ho];simp[aOp,hx,hy,Wl ht hk he hes b hj]) (.fptr _ _) hr
theorem DrwQ.idxV (hw : Zf ops.toList tm o = some true) (hd : o.dst = some d) (hn : Nat.blt d n = true)
  (ho:o.op= .indexAddr t x y) (ht:E.T t=some ti) (hk:ti.tk= .slice e) (he:E.T e=some ei) (hes:ei.size=es) (hx:Zh E tm x=slV b es el) (hy:Zh E tm y= .int k (j:Int)) (hj:el[j]? = some cs)
  (hr:DrwQ E P own n ops n0 (i+1) r K (ZO tm (some d) (.fptr cs 0)) H):DrwQ E P own n ops n0 i (o::r) K tm H:=
 .run hw hd hn (p:= .fptr cs 0) (by rw[ho];simp[aOp,hx,hy,Wl ht hk he hes b hj]) (.fptr _ _) (by simp[okD,Y0,ho]) hr
theorem RegQ.rOp (hw : Zf all tm ⟨some d, OP, ty, pos, aft, grd⟩ = some true) (hn : Nat.blt d n = true) (h : aOp E (own d) (Zh E tm) OP H = some (p, H1)) (hv : IsV p p')
  (hr:RegQ E P own n all r K (ZO tm (some d) p') H1):RegQ E P own n all (⟨some d,OP,ty,pos,aft,grd⟩::r) K tm H:= .run hw rfl hn h hv hr
theorem RegQ.rOpH (hw : Zf all tm ⟨some d, OP, ty, pos, aft, grd⟩ = some true) (hn : Nat.blt d n = true) (h : aOp E (own d) (Zh E tm) OP H = some (p, H1)) (hv : IsV p p') (hh : IsH H1 H1')
  (hr:RegQ E P own n all r K (ZO tm (some d) p') H1'):RegQ E P own n all (⟨some d,OP,ty,pos,aft,grd⟩::r) K tm H:= .runH hw rfl hn h hv hh hr
theorem RegQ.rB {e : Bool} (hw : Zf all tm ⟨some d, OP, ty, pos, aft, grd⟩ = some true) (hn : Nat.blt d n = true) (h : aOp E (own d) (Zh E tm) OP H = some (.bool e, H1))
  (ht:e=true→RegQ E P own n all r K (ZO tm (some d) (.bool true)) H1) (hf:e=false→RegQ E P own n all r K (ZO tm (some d) (.bool false)) H1):RegQ E P own n all (⟨some d,OP,ty,pos,aft,grd⟩::r) K tm H:= .runB hw rfl hn h ht hf
theorem RegQ.rSkip {w : Bool} (hw : Zf all tm ⟨some d, OP, ty, pos, aft, some (j, w)⟩ = some false) (hn : Nat.blt d n = true)
  (hr:RegQ E P own n all r K (ZO tm (some d) unset) H):RegQ E P own n all (⟨some d,OP,ty,pos,aft,some (j,w)⟩::r) K tm H:= .skip hw rfl hn hr
theorem ZU (b:Bool) (es:Nat) (el:List (List PV)):ZP (slV b es el)=true:=by
 cases el with
 |nil=>cases b<;>rfl
 |cons c r=>rfl
theorem RegQ.rSt {cs':List PV} (hw:Zf all tm ⟨none,.store t a v,ty,pos,aft,grd⟩=some true) (ht:E.T t=some ti) (hcs:(Zh E tm v).cells=cs) (hn:IsL cs cs') (hl:(Nat.beq cs'.length ti.size&&Nat.blt 0 ti.size)=true) (hc:cs'.all ZP=true) (hwr:H.wr (Zh E tm a) cs'=some H1) (hh:IsH H1 H1') (hr:RegQ E P own n all r K tm H1'):RegQ E P own n all (⟨none,.store t a v,ty,pos,aft,grd⟩::r) K tm H:=by have e:=hn.eq;subst e;subst hcs;simp only[Bool.and_eq_true]at hl;have h1:=Nat.eq_of_beq_eq_true hl.1;have h2:0<ti.size:=Nat.le_of_ble_eq_true hl.2;refine .putH (p:= .undef) hw rfl ?_ hh hr;simp only[aOp,ht];rw[if_pos ⟨h1,h2,hc⟩,hwr];rfl
theorem RegQ.rLen (hw : Zf all tm ⟨some d, .call { callee := .builtin .len, args := #[x], argTypes := #[t] }, ty, pos, aft, grd⟩ = some true)
  (hn:Nat.blt d n=true) (hx:Zh E tm x=slV b es el) (ht:E.T t=some ti) (hk:ti.tk= .slice e) (hr:RegQ E P own n all r K (ZO tm (some d) (.int .i64 (el.length:Int))) H) :
  RegQ E P own n all (⟨some d,.call {callee:= .builtin .len,args:= #[x],argTypes:= #[t]},ty,pos,aft,grd⟩::r) K tm H:= .lenV hw rfl hn rfl rfl ht hk hx hr
theorem RegQ.rIdx (hw : Zf all tm ⟨some d, .indexAddr t x y, ty, pos, aft, grd⟩ = some true) (hn : Nat.blt d n = true)
  (hx:Zh E tm x=slV b es el) (ht:E.T t=some ti) (hk:ti.tk= .slice e) (he:E.T e=some ei) (hes:ei.size=es) (hy:Zh E tm y= .int k (j:Int)) (hj:el[j]? = some cs)
  (hr:RegQ E P own n all r K (ZO tm (some d) (.fptr cs 0)) H):RegQ E P own n all (⟨some d,.indexAddr t x y,ty,pos,aft,grd⟩::r) K tm H:= .idxV hw rfl hn rfl ht hk he hes hx hy hj hr
theorem RegQ.rCall {k : FuncId} {al : List PV}
  (hw:Zf all tm ⟨some d,.call {callee:= .value f,args:=args,argTypes:=ats},ty,pos,aft,grd⟩=some true) (hn:Nat.blt d n=true) (hf:Zh E tm f= .fn k caps) (ha:args.toList.map (Zh E tm)++caps=al) (h:CallOk E P k al H p H1) (hv:IsV p p')
  (hr:RegQ E P own n all r K (ZO tm (some d) p') H1):RegQ E P own n all (⟨some d,.call {callee:= .value f,args:=args,argTypes:=ats},ty,pos,aft,grd⟩::r) K tm H:=
 .does hw rfl hn rfl hf (by rw[ha];exact .any _) h hv hr
theorem DrwQ.rOp (hw : Zf ops.toList tm ⟨some d, OP, ty, pos, aft, grd⟩ = some true) (hn : Nat.blt d n = true) (h : aOp E (own d) (Zh E tm) OP H = some (p, H1)) (hv : IsV p p')
  (hk:okD E own n0 tm ⟨some d,OP,ty,pos,aft,grd⟩ H H1=true) (hr:DrwQ E P own n ops n0 (i+1) r K (ZO tm (some d) p') H1):DrwQ E P own n ops n0 i (⟨some d,OP,ty,pos,aft,grd⟩::r) K tm H:= .run hw rfl hn h hv hk hr
theorem DrwQ.rOpH (hw : Zf ops.toList tm ⟨some d, OP, ty, pos, aft, grd⟩ = some true) (hn : Nat.blt d n = true) (h : aOp E (own d) (Zh E tm) OP H = some (p, H1)) (hv : IsV p p') (hh : IsH H1 H1')
  (hk:okD E own n0 tm ⟨some d,OP,ty,pos,aft,grd⟩ H H1=true) (hr:DrwQ E P own n ops n0 (i+1) r K (ZO tm (some d) p') H1'):DrwQ E P own n ops n0 i (⟨some d,OP,ty,pos,aft,grd⟩::r) K tm H:= .runH hw rfl hn h hv hh hk hr
theorem DrwQ.rB {e : Bool} (hw : Zf ops.toList tm ⟨some d, OP, ty, pos, aft, grd⟩ = some true) (hn : Nat.blt d n = true) (h : aOp E (own d) (Zh E tm) OP H = some (.bool e, H1))
  (hk:okD E own n0 tm ⟨some d,OP,ty,pos,aft,grd⟩ H H1=true) (ht:e=true→DrwQ E P own n ops n0 (i+1) r K (ZO tm (some d) (.bool true)) H1) (hf:e=false→DrwQ E P own n ops n0 (i+1) r K (ZO tm (some d) (.bool false)) H1):DrwQ E P own n ops n0 i (⟨some d,OP,ty,pos,aft,grd⟩::r) K tm H:= .runB hw rfl hn h hk ht hf
theorem DrwQ.rSkip {w : Bool} (hw : Zf ops.toList tm ⟨some d, OP, ty, pos, aft, some (j, w)⟩ = some false) (hn : Nat.blt d n = true) (hns : Zp7 E own ⟨some d, OP, ty, pos, aft, some (j, w)⟩ = true)
  (hr:DrwQ E P own n ops n0 (i+1) r K (ZO tm (some d) unset) H):DrwQ E P own n ops n0 i (⟨some d,OP,ty,pos,aft,some (j,w)⟩::r) K tm H:= .skip hw rfl hn hns hr
theorem DrwQ.rLen (hw : Zf ops.toList tm ⟨some d, .call { callee := .builtin .len, args := #[x], argTypes := #[t] }, ty, pos, aft, grd⟩ = some true)
  (hn:Nat.blt d n=true) (hx:Zh E tm x=slV b es el) (ht:E.T t=some ti) (hk:ti.tk= .slice e) (hr:DrwQ E P own n ops n0 (i+1) r K (ZO tm (some d) (.int .i64 (el.length:Int))) H) :
  DrwQ E P own n ops n0 i (⟨some d,.call {callee:= .builtin .len,args:= #[x],argTypes:= #[t]},ty,pos,aft,grd⟩::r) K tm H:= .lenV hw rfl hn rfl rfl ht hk hx (by simp[okD,Y0,Zpw,ht,hk]) hr
theorem DrwQ.rIdx (hw : Zf ops.toList tm ⟨some d, .indexAddr t x y, ty, pos, aft, grd⟩ = some true) (hn : Nat.blt d n = true)
  (hx:Zh E tm x=slV b es el) (ht:E.T t=some ti) (hk:ti.tk= .slice e) (he:E.T e=some ei) (hes:ei.size=es) (hy:Zh E tm y= .int k (j:Int)) (hj:el[j]? = some cs)
  (hr:DrwQ E P own n ops n0 (i+1) r K (ZO tm (some d) (.fptr cs 0)) H):DrwQ E P own n ops n0 i (⟨some d,.indexAddr t x y,ty,pos,aft,grd⟩::r) K tm H:= .idxV hw rfl hn rfl ht hk he hes hx hy hj hr
theorem DrwQ.rCall {k : FuncId} {al : List PV}
  (hw:Zf ops.toList tm ⟨some d,.call {callee:= .value f,args:=args,argTypes:=ats},ty,pos,aft,grd⟩=some true) (hn:Nat.blt d n=true) (hf:Zh E tm f= .fn k caps) (ha:args.toList.map (Zh E tm)++caps=al) (hc:Y0 E own ⟨some d,.call {callee:= .value f,args:=args,argTypes:=ats},ty,pos,aft,grd⟩= .qu) (h:CallOk E P k al H p H) (hv:IsV p p')
  (hr:DrwQ E P own n ops n0 (i+1) r K (ZO tm (some d) p') H):DrwQ E P own n ops n0 i (⟨some d,.call {callee:= .value f,args:=args,argTypes:=ats},ty,pos,aft,grd⟩::r) K tm H:=
 .does hw rfl hn rfl hf (by rw[ha];exact .any _) hc h hv hr
theorem RegQ.rBs {ps:Array (Nat×Operand)} (hw:Zf all tm ⟨some d,.buildSlice t m ps,ty,pos,aft,grd⟩=some true) (hn:Nat.blt d n=true) (ho:own d=false) (h:Z6 E t m (ps.toList.map fun p=>(p.1,Zh E tm p.2))=some (es,el)) (hl:IsLL el el') (hf:Yt el'=some el') (hr:RegQ E P own n all r K (ZO tm (some d) (.sl .full es el')) H):RegQ E P own n all (⟨some d,.buildSlice t m ps,ty,pos,aft,grd⟩::r) K tm H:=by have e:=hl.eq;subst e;refine .run hw rfl hn (p:= .sl .full es el) ?_ (.any _) hr;simp only[aOp,h,ho,Bool.false_eq_true,if_false,hf]
theorem RegQ.rSl (hw : Zf all tm ⟨some d, .slice t x lo hi mx, ty, pos, aft, grd⟩ = some true) (hn : Nat.blt d n = true) (hx : Zh E tm x = X) (h1 : Zcy (Zh E tm) lo = LO) (h2 : Zcy (Zh E tm) hi = HI) (h3 : Zcy (Zh E tm) mx = MX) (h : Z1 E t X LO HI MX = some p) (hv : IsV p p')
  (hr:RegQ E P own n all r K (ZO tm (some d) p') H):RegQ E P own n all (⟨some d,.slice t x lo hi mx,ty,pos,aft,grd⟩::r) K tm H:= .run hw rfl hn (p:=p) (by simp only[aOp,hx,h1,h2,h3,h,Option.map_some]) hv hr
theorem DrwQ.rSl (hw : Zf ops.toList tm ⟨some d, .slice t x lo hi mx, ty, pos, aft, grd⟩ = some true) (hn : Nat.blt d n = true) (hx : Zh E tm x = X) (h1 : Zcy (Zh E tm) lo = LO) (h2 : Zcy (Zh E tm) hi = HI) (h3 : Zcy (Zh E tm) mx = MX) (h : Z1 E t X LO HI MX = some p) (hv : IsV p p')
  (hk:okD E own n0 tm ⟨some d,.slice t x lo hi mx,ty,pos,aft,grd⟩ H H=true) (hr:DrwQ E P own n ops n0 (i+1) r K (ZO tm (some d) p') H):DrwQ E P own n ops n0 i (⟨some d,.slice t x lo hi mx,ty,pos,aft,grd⟩::r) K tm H:= .run hw rfl hn (p:=p) (by simp only[aOp,hx,h1,h2,h3,h,Option.map_some]) hv hk hr
theorem RegQ.rBi {op : BinOp} (hw : Zf all tm ⟨some d, .binOp op t x y yt, ty, pos, aft, grd⟩ = some true) (hn : Nat.blt d n = true) (hx : Zh E tm x = X) (hy : Zh E tm y = Y) (h : YS E op t X Y = some p) (hv : IsV p p')
  (hr:RegQ E P own n all r K (ZO tm (some d) p') H):RegQ E P own n all (⟨some d,.binOp op t x y yt,ty,pos,aft,grd⟩::r) K tm H:= .run hw rfl hn (p:=p) (by simp only[aOp,hx,hy,ZmE h,Option.map_some]) hv hr
theorem DrwQ.rBi {op : BinOp} (hw : Zf ops.toList tm ⟨some d, .binOp op t x y yt, ty, pos, aft, grd⟩ = some true) (hn : Nat.blt d n = true) (hx : Zh E tm x = X) (hy : Zh E tm y = Y) (h : YS E op t X Y = some p) (hv : IsV p p')
  (hk:okD E own n0 tm ⟨some d,.binOp op t x y yt,ty,pos,aft,grd⟩ H H=true) (hr:DrwQ E P own n ops n0 (i+1) r K (ZO tm (some d) p') H):DrwQ E P own n ops n0 i (⟨some d,.binOp op t x y yt,ty,pos,aft,grd⟩::r) K tm H:= .run hw rfl hn (p:=p) (by simp only[aOp,hx,hy,ZmE h,Option.map_some]) hv hk hr
theorem RegQ.rIx (hw : Zf all tm ⟨some d, .index t x y, ty, pos, aft, grd⟩ = some true) (hn : Nat.blt d n = true) (hx : Zh E tm x = X) (hy : Zh E tm y = Y) (h : Vb E t X Y = some p) (hv : IsV p p')
  (hr:RegQ E P own n all r K (ZO tm (some d) p') H):RegQ E P own n all (⟨some d,.index t x y,ty,pos,aft,grd⟩::r) K tm H:= .run hw rfl hn (p:=p) (by simp only[aOp,hx,hy,h,Option.map_some]) hv hr
theorem DrwQ.rIx (hw : Zf ops.toList tm ⟨some d, .index t x y, ty, pos, aft, grd⟩ = some true) (hn : Nat.blt d n = true) (hx : Zh E tm x = X) (hy : Zh E tm y = Y) (h : Vb E t X Y = some p) (hv : IsV p p')
  (hk:okD E own n0 tm ⟨some d,.index t x y,ty,pos,aft,grd⟩ H H=true) (hr:DrwQ E P own n ops n0 (i+1) r K (ZO tm (some d) p') H):DrwQ E P own n ops n0 i (⟨some d,.index t x y,ty,pos,aft,grd⟩::r) K tm H:= .run hw rfl hn (p:=p) (by simp only[aOp,hx,hy,h,Option.map_some]) hv hk hr
theorem RegQ.rMk {l c : Operand} (hw : Zf all tm ⟨some d, .makeSlice t l c, ty, pos, aft, grd⟩ = some true) (hn : Nat.blt d n = true) (ho : own d = true)
  (hx:Zh E tm l=X) (hy:Zh E tm c=Y) (h:Xu E t X Y H=some (p,H1)) (hr:RegQ E P own n all r K (ZO tm (some d) p) H1):RegQ E P own n all (⟨some d,.makeSlice t l c,ty,pos,aft,grd⟩::r) K tm H:=
 .run hw rfl hn (p:=p) (by simp only[aOp,ho,if_true,hx,hy,h]) (.any _) hr
theorem RegQ.rAp (hw : Zf all tm ⟨some d, .call { callee := .builtin .append, args := #[x, y], argTypes := #[t, u] }, ty, pos, aft, grd⟩ = some true) (hn : Nat.blt d n = true) (ho : own d = false)
  (hx:Zh E tm x=X) (hy:Zh E tm y=Y) (h:ZL E t u X Y H=some (p,H1)) (hr:RegQ E P own n all r K (ZO tm (some d) p) H1):RegQ E P own n all (⟨some d,.call {callee:= .builtin .append,args:= #[x,y],argTypes:= #[t,u]},ty,pos,aft,grd⟩::r) K tm H:=
 .run hw rfl hn (p:=p) (by simp[aOp,Z8,ho,hx,hy,h]) (.any _) hr
theorem DrwQ.rAp (hw : Zf ops.toList tm ⟨some d, .call { callee := .builtin .append, args := #[x, y], argTypes := #[t, u] }, ty, pos, aft, grd⟩ = some true) (hn : Nat.blt d n = true) (ho : own d = false)
  (hx:Zh E tm x=X) (hy:Zh E tm y=Y) (h:ZL E t u X Y H=some (p,H1)) (hk:okD E own n0 tm ⟨some d,.call {callee:= .builtin .append,args:= #[x,y],argTypes:= #[t,u]},ty,pos,aft,grd⟩ H H1=true)
  (hr:DrwQ E P own n ops n0 (i+1) r K (ZO tm (some d) p) H1):DrwQ E P own n ops n0 i (⟨some d,.call {callee:= .builtin .append,args:= #[x,y],argTypes:= #[t,u]},ty,pos,aft,grd⟩::r) K tm H:=
 .run hw rfl hn (p:=p) (by simp[aOp,Z8,ho,hx,hy,h]) (.any _) hk hr
theorem RegQ.rIa (hw : Zf all tm ⟨some d, .indexAddr t x y, ty, pos, aft, grd⟩ = some true) (hn : Nat.blt d n = true) (hx : Zh E tm x = X) (hy : Zh E tm y = Y) (h : Zz E t X Y = some p) (hv : IsV p p')
  (hr:RegQ E P own n all r K (ZO tm (some d) p') H):RegQ E P own n all (⟨some d,.indexAddr t x y,ty,pos,aft,grd⟩::r) K tm H:= .run hw rfl hn (p:=p) (by simp only[aOp,hx,hy,h,Option.map_some]) hv hr
theorem RegQ.rLd (hw : Zf all tm ⟨some d, .load t x, ty, pos, aft, grd⟩ = some true) (hn : Nat.blt d n = true) (hx : Zh E tm x = X) (h : Z2 E t X H = some p) (hv : IsV p p')
  (hr:RegQ E P own n all r K (ZO tm (some d) p') H):RegQ E P own n all (⟨some d,.load t x,ty,pos,aft,grd⟩::r) K tm H:= .run hw rfl hn (p:=p) (by simp only[aOp,hx,h,Option.map_some]) hv hr
theorem RegQ.rAl (hw : Zf all tm ⟨some d, .alloc t, ty, pos, aft, grd⟩ = some true) (hn : Nat.blt d n = true) (h : ∀ρ, aOp E (own d) ρ (.alloc t) H = some (p, H1))
  (hr:RegQ E P own n all r K (ZO tm (some d) p) H1):RegQ E P own n all (⟨some d,.alloc t,ty,pos,aft,grd⟩::r) K tm H:= .run hw rfl hn (p:=p) (h _) (.any _) hr
end
attribute [irreducible] slV
section
variable {E:Env} {P:Program} {own:Tmp→Bool} {n:Nat} {Q:Ex→TM→Heap→Prop} {K:TM→Heap→Prop} {tm:TM} {H:Heap}
theorem DrwQ.rIa (hw : Zf ops.toList tm ⟨some d, .indexAddr t x y, ty, pos, aft, grd⟩ = some true) (hn : Nat.blt d n = true) (hx : Zh E tm x = X) (hy : Zh E tm y = Y) (h : Zz E t X Y = some p) (hv : IsV p p')
  (hr:DrwQ E P own n ops n0 (i+1) r K (ZO tm (some d) p') H):DrwQ E P own n ops n0 i (⟨some d,.indexAddr t x y,ty,pos,aft,grd⟩::r) K tm H:= .run hw rfl hn (p:=p) (by simp only[aOp,hx,hy,h,Option.map_some]) hv (by simp[okD,Y0]) hr
theorem DrwQ.rLd (hw : Zf ops.toList tm ⟨some d, .load t x, ty, pos, aft, grd⟩ = some true) (hn : Nat.blt d n = true) (hx : Zh E tm x = X) (h : Z2 E t X H = some p) (hv : IsV p p')
  (hk:okD E own n0 tm ⟨some d,.load t x,ty,pos,aft,grd⟩ H H=true) (hr:DrwQ E P own n ops n0 (i+1) r K (ZO tm (some d) p') H):DrwQ E P own n ops n0 i (⟨some d,.load t x,ty,pos,aft,grd⟩::r) K tm H:= .run hw rfl hn (p:=p) (by simp only[aOp,hx,h,Option.map_some]) hv hk hr
theorem RegQ.rLe (hw : Zf all tm ⟨some d, .call { callee := .builtin .len, args := #[x], argTypes := #[t] }, ty, pos, aft, grd⟩ = some true)
  (hn:Nat.blt d n=true) (hx:Zh E tm x=X) (h:∀H,Zc5 E t X H=some p) (hv:IsV p p') (hr:RegQ E P own n all r K (ZO tm (some d) p') H) :
  RegQ E P own n all (⟨some d,.call {callee:= .builtin .len,args:= #[x],argTypes:= #[t]},ty,pos,aft,grd⟩::r) K tm H:=
 .run hw rfl hn (p:=p) (by simp[aOp,Z8,hx,h]) hv hr
theorem DrwQ.rLe (hw : Zf ops.toList tm ⟨some d, .call { callee := .builtin .len, args := #[x], argTypes := #[t] }, ty, pos, aft, grd⟩ = some true)
  (hn:Nat.blt d n=true) (hx:Zh E tm x=X) (h:∀H,Zc5 E t X H=some p) (hv:IsV p p') (hk:okD E own n0 tm ⟨some d,.call {callee:= .builtin .len,args:= #[x],argTypes:= #[t]},ty,pos,aft,grd⟩ H H=true)
  (hr:DrwQ E P own n ops n0 (i+1) r K (ZO tm (some d) p') H) :
  DrwQ E P own n ops n0 i (⟨some d,.call {callee:= .builtin .len,args:= #[x],argTypes:= #[t]},ty,pos,aft,grd⟩::r) K tm H:=
 .run hw rfl hn (p:=p) (by simp[aOp,Z8,hx,h]) hv hk hr
theorem DrwQ.rBs {ps:Array (Nat×Operand)} (hw:Zf ops.toList tm ⟨some d,.buildSlice t m ps,ty,pos,aft,grd⟩=some true) (hn:Nat.blt d n=true) (ho:own d=false) (h:Z6 E t m (ps.toList.map fun p=>(p.1,Zh E tm p.2))=some (es,el)) (hl:IsLL el el') (hf:Yt el'=some el') (hk:okD E own n0 tm ⟨some d,.buildSlice t m ps,ty,pos,aft,grd⟩ H H=true) (hr:DrwQ E P own n ops n0 (i+1) r K (ZO tm (some d) (.sl .full es el')) H):DrwQ E P own n ops n0 i (⟨some d,.buildSlice t m ps,ty,pos,aft,grd⟩::r) K tm H:=by have e:=hl.eq;subst e;refine .run hw rfl hn (p:= .sl .full es el) ?_ (.any _) hk hr;simp only[aOp,h,ho,Bool.false_eq_true,if_false,hf]
end
