/-
  Tables of types and functions, each entry with its proof; facts that are compute
-/
import Derived.Test.YtnghnjdabbjcnaaGreatDoorVFd
noncomputable section
namespace Go.Vm
variable {g':Gh} {H' H1 M:Heap} {w':World} {fuel i k r0:Nat} {o:Oper} {tm tm':TM} {p r:PV} {Q:Exit→Act→World→Prop} {listed:Array Bool} {b:Box} {tg:Nat→Nat} {all:List Oper} {α:Type} {ρ:Operand→PV} {c:Code} {f:FuncId} {args:List PV}
def Pre (ops:Array Oper) (l i:Nat):Prop:=∃o e,ops[i]? = some o∧e∈o.after.toList∧Region.binds .any e=true∧e.on=l
inductive Bef (ops:Array Oper):Nat→Nat→Prop
 |edge (l i:Nat) (h:Pre ops l i):Bef ops l i
 |step (l p i:Nat) (h:Bef ops l p) (h':Pre ops p i):Bef ops l i
section
variable {E:Env} {P:Program} {own:Tmp→Bool} {n:Nat} {ops:Array Oper} {n0 m:Nat} {cls:Nat→Cls} {tgt:Nat→Nat} {msk:Nat→List Nat}
inductive Run (E:Env) (P:Program) (own:Tmp→Bool) (n:Nat) (ops:Array Oper) (n0:Nat) (cls:Nat→Cls) (tgt:Nat→Nat) (msk:Nat→List Nat):List Nat→TM→Heap→TM→Heap→Prop
 |nil (tm:TM) (H:Heap):Run E P own n ops n0 cls tgt msk [] tm H tm H
 | cons (i : Nat) (r : List Nat) (o : Oper) (tm : TM) (H : Heap) (p : PV) (H1 : Heap) (tm' : TM) (H' : Heap) (ho : ops[i]? = some o) (hd : ∀t, o.dst = some t → t < n) (h : Hp E P own ops n0 cls tgt msk i o tm H p H1)
     (hr:Run E P own n ops n0 cls tgt msk r (ZN tm o.dst p) H1 tm' H'):Run E P own n ops n0 cls tgt msk (i::r) tm H tm' H'
structure Free (ops:Array Oper) (n0:Nat) (cls:Nat→Cls) (tgt:Nat→Nat) (msk:Nat→List Nat) (i j:Nat):Prop where
 ne:i≠j
 perm:perm (cls i) (cls j)=true
 mi:cls j= .al→n0+j∈msk i
 mj:cls i= .al→n0+i∈msk j
 ti:cls i= .st→tgt i∈msk j
 tj:cls j= .st→tgt j∈msk i
 apart:∀x y,ops[i]? = some x→ops[j]? = some y→x.apart ops y=true
theorem Run.front {i : Nat} {L2 : List Nat} {tm' : TM} {H' : Heap} (hin : ∀k, cls k = .al → k < m) (hld : ∀k, cls k = .ld → tgt k ≤ n0 + m) : ∀(L1 : List Nat) (tm : TM) (H : Heap), n0 + m ≤ H.bx.length → (∀l ∈ L1, Free ops n0 cls tgt msk l i) →
  Run E P own n ops n0 cls tgt msk (L1++i::L2) tm H tm' H'→Run E P own n ops n0 cls tgt msk (i::(L1++L2)) tm H tm' H'
 | [],tm,H,_,_,h=>h
 |l::L1,tm,H,hlen,hf,h=>by
  cases h with
  | cons _ _ ol _ _ p H1 _ _ ho hd hp hr=>
   have hr':=Run.front hin hld L1 _ _ (Nat.le_trans hlen hp.len) (fun x hx=>hf x (List.mem_cons_of_mem _ hx)) hr;cases hr' with
   | cons _ _ oi _ _ q H2 _ _ ho' hd' hq hrest=>have f:=hf l List.mem_cons_self;obtain⟨a1,a2,a3⟩:=Oper.apart_spec (f.apart _ _ ho ho');have hq':=hq.reset a1;obtain⟨H1',x1,x2⟩:=hp.swap hq' f.ne f.perm f.mi f.mj (fun hc=>by have:=hin i hc;omega) f.ti f.tj (fun hc=>Nat.le_trans (hld l hc) hlen) (fun hc=>Nat.le_trans (hld i hc) hlen);refine .cons i _ oi tm H q H1' _ _ ho' hd' x1 (.cons l _ ol _ _ p H2 _ _ ho hd (x2.set a3) ?_);rw[← ZjS a2];exact hrest
def Zae (n0 m:Nat) (S:Nat→Prop) (g:Gh):Prop:=∀k,k<m→S k→g.σ (n0+k)=none
theorem ZmG {g:Gh} {H:Heap} {w:World} {l:List Nat} (hm:Inv g' M w') (hk:Keep g {ZQ l H with ro:=H.bx.length} w g' M w') (hl:H.bx.length≤M.bx.length) (hro:H.ro≤H.bx.length):Inv g' {M with ro:=H.ro} w'∧Keep g (ZQ l H) w g' {M with ro:=H.ro} w'∧∀i,i<H.bx.length→M.bx[i]? = (ZQ l H).bx[i]? :=by have hb:∀i,i<H.bx.length→M.bx[i]? = (ZQ l H).bx[i]? :=fun i e=>hk.bx i e;have hsh:∀b,Shut g (ZQ l H) b→Shut g {ZQ l H with ro:=H.bx.length} b:=fun b h=>⟨fun id hi hl=>h.1 id (Nat.le_trans hro hi) hl,h.2⟩;refine⟨⟨hm.st,hm.bx,hm.mp,hm.sp,hm.inj,hm.sd,hm.td,hm.tk,hm.tinj,hm.nd,hm.lt,hm.sz,by show H.ro≤M.bx.length;omega,hm.rm⟩,⟨hk.le,fun b h1 h2=>hk.heap b h1 (hsh b h2),fun b h1 h2=>hk.store b h1 (hsh b h2),hk.size,fun id b h h'=>(hk.new id b h h').imp (fun h=>h) fun ⟨id',a,b,c⟩=>⟨id',Nat.le_trans hro a,b,c⟩,hk.tnew,rfl,hk.bxl,fun id h=>?_,hk.nt,hk.lv,hk.al,hk.ns,hk.so⟩,hb⟩;exact hk.bx id (Nat.lt_of_lt_of_le h hro)
theorem Zry (hE:TOk E P) (ho:ops[i]? = some o) {H:Heap} (h:Hp E P own ops n0 cls tgt msk i o tm H p H') (hm:∀k,k∈msk i→H.ro≤k) {g:Gh} {a:Act} {w:World} (hr:Rel E g n tm H a w) (hal:∀k,cls k= .al→k<m) (hro:H.ro≤n0) (hlen:n0+m≤H.bx.length) {S:Nat→Prop} (hSi:S i) (hs:Zae n0 m S g) {K:Act→World→Prop} (hK:∀v w' g',V g' p v→Inv g' H' w'→KeepN n0 g H w g' H' w'→Zae n0 m (fun k=>S k∧k≠i) g'→K (a.put o.dst v) w'):wpOp P ops Q i K a w:=by
 have down:∀{g':Gh} {H2:Heap} {w':World},Keep g H w g' H2 w'→KeepN n0 g H w g' H2 w':=fun k=>⟨k.le,k.heap,k.store,k.size,k.new,k.tnew,k.ro,k.bxl,k.bx,k.nt,k.lv,k.al,fun id h=>k.ns id (by omega),k.so⟩;unfold wpOp;simp only[ho];cases h with
 |pass hw=>rw[if_neg (by rw[YL hw hr];simp)];exact hK undef w g (V.unset g) hr.inv (.refl _ _ _ _) fun k hk1 hk2=>hs k hk1 hk2.1
 |sc _ hw h=>rw[if_pos (YL hw hr)];exact .inl (V8 hE (h _) hr fun v w' g' hv hi' hk=>hK v w' g' hv hi' (down hk) fun k hk1 hk2=>hk.ns _ (by omega) (hs k hk1 hk2.1))
 |qu _ hw hc h=>rw[if_pos (YL hw hr)];refine .inl (V8 hE h (UA hr _) fun v w' g' hv hi' hk=>?_);obtain⟨i1,k1⟩:=W5 hr.inv (fun k hk=>hm k hk) hk hi' (by simp[ZQ,Yr]);rw[Za9]at i1 k1;exact hK v w' g' hv i1 (down k1) fun k hk1 hk2=>k1.ns _ (by omega) (hs k hk1 hk2.1)
 |ld _ hw hc h=>rw[if_pos (YL hw hr)];refine .inl (V8 hE (h _ rfl) (UA hr _) fun v w' g' hv hi' hk=>?_);obtain⟨i1,k1⟩:=W5 hr.inv (fun k hk=>hm k hk) hk hi' (by simp[ZQ,Yr]);rw[Za9]at i1 k1;exact hK v w' g' hv i1 (down k1) fun k hk1 hk2=>k1.ns _ (by omega) (hs k hk1 hk2.1)
 |tk _ M hw hc h hl=>
  rw[if_pos (YL hw hr)];have hroI:=hr.inv.ro;have hrel:Rel E g n tm {ZQ (msk i) H with ro:=H.bx.length} a w:=by have h0:=UA hr (msk i);have hi0:=h0.inv;refine⟨h0.sz,h0.tm,⟨hi0.st,hi0.bx,hi0.mp,hi0.sp,hi0.inj,hi0.sd,hi0.td,hi0.tk,hi0.tinj,hi0.nd,hi0.lt,hi0.sz,?_,hi0.rm⟩,h0.gl,h0.df⟩;simp[ZQ,Yr]
  refine .inl (V8 hE h hrel fun v w' g' hv hi' hk=>?_);obtain⟨i0,k0,hb⟩:=ZmG hi' hk hl hroI;obtain⟨i1,k1⟩:=W5 hr.inv (fun k hk=>hm k hk) k0 i0 (by show H.bx.length≤M.bx.length;omega);have he:Xd (msk i) H {M with ro:=H.ro}=VR H M:=by refine Heap.ext' (List.ext_getElem? fun k=>?_) rfl rfl rfl;rw[Y6 _ _ _ (by show H.bx.length≤M.bx.length;exact hl)];simp only[VR];by_cases e:k<H.bx.length;{rw[List.getElem?_append_left e];by_cases e2:k∈msk i;{rw[if_pos ⟨e2,e⟩]};{rw[if_neg (fun h=>e2 h.1),hb k e,Wt,if_neg (fun h=>e2 h.1)]}};{rw[if_neg (fun h=>e h.2),List.getElem?_append_right (by omega),List.getElem?_drop];congr 1;omega}
  rw[he]at i1 k1;exact hK v w' g' hv i1 (down k1) fun k hk1 hk2=>k1.ns _ (by omega) (hs k hk1 hk2.1)
 |ef _ M hw hc h hl=>rw[if_pos (YL hw hr)];refine .inl (V8 hE h (UA hr _) fun v w' g' hv hi' hk=>?_);obtain⟨i1,k1⟩:=W5 hr.inv (fun k hk=>hm k hk) hk hi' hl;exact hK v w' g' hv i1 (down k1) fun k hk1 hk2=>k1.ns _ (by omega) (hs k hk1 hk2.1)
 |st _ b hw hc h hst=>rw[if_pos (YL hw hr)];refine .inl (V8 hE h (UA hr _) fun v w' g' hv hi' hk=>?_);obtain⟨i1,k1⟩:=W5 hr.inv (fun k hk=>hm k hk) hk hi' (by simp[Ym,ZQ,Yr]);rw[ZjK hst]at i1 k1;exact hK v w' g' hv i1 (down k1) fun k hk1 hk2=>k1.ns _ (by omega) (hs k hk1 hk2.1)
 |al e ei hw hc hop he hz hp hd=>
  rw[if_pos (YL hw hr)];left;obtain⟨inf,d,z,h1,h2,h3,rfl⟩:=hE.spec he;simp only at hz hp;have hvl:VL g (ofConst z).cells z.cells.toList:=VL.zero z (by omega);obtain⟨i1,k1⟩:=Zfi hr.inv hd (hs i (hal i hc) hSi) (by omega) (.cells z.cells e) (.cells inf.size [(ofConst z).cells]) rfl (fun es el h0=>by
   cases h0
   refine⟨_,e,rfl,fun i hi=>?_,?_,fun i hi j hj=>?_⟩
   · obtain rfl : i = 0 := by simp at hi; omega
     simpa using hz
   · have:=hvl.1;simp at this ⊢;omega
   · obtain rfl : i = 0 := by simp at hi; omega
     have hj':j<(ofConst z).cells.length:=by simpa using hj
     have hj2:j<z.cells.toList.length:=by rw[hvl.1];exact hj'
     exact⟨z.cells.toList[j],by simp,by simpa using hvl.2 j hj' hj2⟩) (fun es h=>by cases h) n0 (by omega)
  unfold Oper.wp;have hx:(execOp a.eval o).run P w= .ok (.value (.pointer (some ⟨w.heap.size,0,none⟩))) (w.alloc (.cells z.cells e)):=by obtain⟨dst,op,ty,pos,after,guard⟩:=o;simp only at hop;subst hop;simp[execOp,Instr.alloc,XD h1 h3,newVar,newRow,newObj];rfl
  rw[hx];refine hK _ _ _ ?_ i1 k1 fun k hk1 hk2=>?_;{have:=V.ptr (g:=g.link (n0+i) w.heap.size) (n0+i) inf.size 0 0 w.heap.size (by simp[Gh.link]);simpa using this};{(have:n0+i≠n0+k:=by have:=hk2.2;omega);simp only[Gh.link];rw[if_neg (Ne.symm this)];exact hs k hk1 hk2.1}
 |bo e x hw hc hop hp hd=>
  rw[if_pos (YL hw hr)];left;have hx0:=hr.eval x;have hvl:=hx0.cells hp;obtain⟨i1,k1⟩:=Zfi hr.inv hd (hs i (hal i hc) hSi) (by omega) (.cells (a.eval x).cells e) (.cells (Zh E tm x).cells.length [(Zh E tm x).cells]) rfl (fun es el h0=>by
   cases h0
   refine⟨_,e,rfl,fun i hi=>?_,?_,fun i hi j hj=>?_⟩
   · obtain rfl : i = 0 := by simp at hi; omega
     rfl
   · have:=hvl.1;simp at this ⊢;omega
   · obtain rfl : i = 0 := by simp at hi; omega
     have hj':j<(Zh E tm x).cells.length:=by simpa using hj
     have hj2:j<(a.eval x).cells.toList.length:=by rw[hvl.1];exact hj'
     exact⟨(a.eval x).cells.toList[j],by simp,by simpa using hvl.2 j hj' hj2⟩) (fun es h=>by cases h) n0 (by omega)
  unfold Oper.wp;have hx:(execOp a.eval o).run P w= .ok (.value (.pointer (some ⟨w.heap.size,0,none⟩))) (w.alloc (.cells (a.eval x).cells e)):=by obtain⟨dst,op,ty,pos,after,guard⟩:=o;simp only at hop;subst hop;simp[execOp,Instr.box,newVar,newRow,newObj];rfl
  rw[hx];refine hK _ _ _ ?_ i1 k1 fun k hk1 hk2=>?_;{have:=V.ptr (g:=g.link (n0+i) w.heap.size) (n0+i) (Zh E tm x).cells.length 0 0 w.heap.size (by simp[Gh.link]);simpa using this};{(have:n0+i≠n0+k:=by have:=hk2.2;omega);simp only[Gh.link];rw[if_neg (Ne.symm this)];exact hs k hk1 hk2.1}
theorem Zad {md:Region.Mode}:i∈Region.ready md ops listed↔i<ops.size∧listed.getD i true=false∧∃o,ops[i]? = some o∧∀e∈o.after.toList,Region.binds md e=true→listed.getD e.on false=true:=by simp only[Region.ready,List.mem_filter,List.mem_range,Bool.and_eq_true,Bool.not_eq_true'];constructor;{rintro⟨h1,h2,h3⟩;refine⟨h1,h2,?_⟩;have ho:ops[i]? = some ops[i]:=Array.getElem?_eq_getElem h1;refine⟨ops[i],ho,fun e he hb=>?_⟩;rw[ho]at h3;simp only[Option.map_some,Option.getD_some]at h3;have:=(Array.all_eq_true'.1 h3) e (by simpa using he);simpa[hb] using this};{rintro⟨h1,h2,o,ho,h3⟩;refine⟨h1,h2,?_⟩;rw[ho];simp only[Option.map_some,Option.getD_some];refine Array.all_eq_true'.2 fun e he=>?_;by_cases hb:Region.binds md e=true;{simp[hb,h3 e (by simpa using he) hb]};{simp[hb]}}
structure Sched (ops:Array Oper) (r n0 m:Nat) (cls:Nat→Cls) (tgt:Nat→Nat) (msk:Nat→List Nat):Prop where
 back:∀l i,Pre ops l i→l<i
 free:∀l i,l<i→i<ops.size→¬ Bef ops l i→Free ops n0 cls tgt msk l i
 al:∀k,cls k= .al→k<m
 ld:∀k,cls k= .ld→tgt k≤n0+m
 msk:∀i k,k∈msk i→r≤k
def ZdJ (m:Nat) (listed:Array Bool):List Nat:=(List.range m).filter fun k=> !listed.getD k true
theorem Zg0 {m:Nat} (hi:i<m) (hsz:listed.size=m) (hl:listed.getD i true=false):∃L1 L2,ZdJ m listed=L1++i::L2∧ZdJ m (listed.setIfInBounds i true)=L1++L2∧∀l∈L1,l<i∧listed.getD l true=false:=by
 have hr:List.range m=List.range i++i::(List.range (m-(i+1))).map (i+1+ ·):=by
  have:m=i+(1+(m-(i+1))):=by omega
  conv=>lhs;rw[this]
  rw[List.range_add,List.range_add];simp[Nat.add_assoc]
 refine⟨(List.range i).filter fun k=> !listed.getD k true,((List.range (m-(i+1))).map (i+1+ ·)).filter fun k=> !listed.getD k true,?_,?_,?_⟩;{unfold ZdJ;rw[hr,List.filter_append,List.filter_cons];simp[hl]}
 ·unfold ZdJ;rw[hr,List.filter_append,List.filter_cons];have hii:(listed.setIfInBounds i true).getD i true=true:=by simp[Array.getD]
  simp only[hii,Bool.not_true,Bool.false_eq_true,if_false];have hne:∀k,k≠i→(listed.setIfInBounds i true).getD k true=listed.getD k true:=fun k hk=>by simp only[Array.getD_eq_getD_getElem?,Array.getElem?_setIfInBounds];rw[if_neg (Ne.symm hk)]
  congr 1;{refine List.filter_congr fun k hk=>?_;rw[hne k (by have:=List.mem_range.1 hk;omega)]};{refine List.filter_congr fun k hk=>?_;obtain⟨x,_,rfl⟩:=List.mem_map.1 hk;rw[hne _ (by omega)]}
 {intro l hlm;obtain⟨h1,h2⟩:=List.mem_filter.1 hlm;exact⟨List.mem_range.1 h1,by simpa using h2⟩}
theorem Zk8 (hE:TOk E P) (hS:Sched ops r0 n0 m cls tgt msk) {g0:Gh} {H0:Heap} {w0:World} (hi0:Inv g0 H0 w0) (hn0:H0.bx.length=n0) (_hro0:H0.ro≤n0) (hQ:∀g a w,Rel E g n tm' H' a w→Keep g0 H0 w0 g H' w→Q .normal a w):∀(fuel:Nat) (listed:Array Bool) (tm:TM) (H:Heap) (g:Gh) (a:Act) (w:World),listed.size=ops.size→(ZdJ ops.size listed).length≤fuel→(∀i l,listed.getD i false=true→Pre ops l i→listed.getD l false=true)→Run E P own n ops n0 cls tgt msk (ZdJ ops.size listed) tm H tm' H'→Rel E g n tm H a w→H.ro=r0→H.ro≤n0→n0+m≤H.bx.length→Zae n0 m (fun k=>k∈ZdJ ops.size listed) g→Keep g0 H0 w0 g H w→wpAny P .any ops Q fuel listed a w:=by
 have empty:∀(listed:Array Bool) (tm:TM) (H:Heap) (g:Gh) (a:Act) (w:World),Run E P own n ops n0 cls tgt msk (ZdJ ops.size listed) tm H tm' H'→Rel E g n tm H a w→Keep g0 H0 w0 g H w→ZdJ ops.size listed= []→Q .normal a w:=by
  intro listed tm H g a w hrun hr hk he
  rw[he]at hrun
  cases hrun with
  | nil=>exact hQ g a w hr hk
 have noready:∀(listed:Array Bool),listed.size=ops.size→Region.ready .any ops listed= []→ZdJ ops.size listed= []:=by
  intro listed hsz hr;have:∀i,i<ops.size→listed.getD i true=true:=by
   intro i
   induction i using Nat.strongRecOn with
   | _ i ih =>
     intro hi
     cases hc:listed.getD i true with
     | true=>rfl
     | false =>
       have hm:i∈Region.ready .any ops listed:=Zad.2 ⟨hi,hc,ops[i],Array.getElem?_eq_getElem hi,fun e he hb=>by
        have hp:Pre ops e.on i:=⟨ops[i],e,Array.getElem?_eq_getElem hi,he,hb,rfl⟩
        have hlt:=hS.back _ _ hp
        have:=ih e.on hlt (by omega)
        have hsz':e.on<listed.size:=by omega
        simpa[Array.getD,hsz'] using this⟩
       rw[hr]at hm
       cases hm
  unfold ZdJ;refine List.filter_eq_nil_iff.2 fun k hk=>?_;simp[this k (List.mem_range.1 hk)]
 intro fuel;induction fuel with
 |zero=>
  intro listed tm H g a w hsz hfu hcl hrun hr hrr hro hlen hsn hk;have he:ZdJ ops.size listed= []:=by simpa using hfu
  refine⟨?_,empty listed tm H g a w hrun hr hk he⟩;cases hc:Region.ready .any ops listed with
  | nil=>rfl
  | cons i r=>(have hm:i∈Region.ready .any ops listed:=by rw[hc];exact List.mem_cons_self);obtain⟨h1,h2,_⟩:=Zad.1 hm;have:i∈ZdJ ops.size listed:=List.mem_filter.2 ⟨List.mem_range.2 h1,by simp[h2]⟩;rw[he]at this;cases this
 |succ fuel ih=>
  intro listed tm H g a w hsz hfu hcl hrun hr hrr hro hlen hsn hk;refine⟨fun he=>empty listed tm H g a w hrun hr hk (noready listed hsz he),fun i hi=>?_⟩;obtain⟨h1,h2,o,ho,h3⟩:=Zad.1 hi;obtain⟨L1,L2,e1,e2,e3⟩:=Zg0 h1 hsz h2;have hdone:∀l,listed.getD l true=false→listed.getD l false=false:=fun l h=>by by_cases hl:l<listed.size;{simpa[Array.getD,hl] using h};{simp[Array.getD,hl]at h}
  have hbef:∀l,Bef ops l i→listed.getD l false=true:=by
   have gen:∀l k,Bef ops l k→(∀p,Pre ops p k→listed.getD p false=true)→listed.getD l false=true:=by
    intro l k h
    induction h with
    | edge k h=>intro hp;exact hp l h
    | step p k _ h' ih=>intro hp;exact ih fun q hq=>hcl p q (hp p h') hq
   intro l h;refine gen l i h fun p ⟨o',e,ho',he,hb,hon⟩=>?_;rw[ho]at ho';cases ho';rw[← hon];exact h3 e he hb
  have hfree:∀l∈L1,Free ops n0 cls tgt msk l i:=fun l hl=>by obtain⟨hlt,hld⟩:=e3 l hl;refine hS.free l i hlt h1 fun hb=>?_;have:=hbef l hb;rw[hdone l hld]at this;cases this
  rw[e1]at hrun;have hrun':=Run.front hS.al hS.ld L1 tm H hlen hfree hrun;cases hrun' with
  | cons _ _ o' _ _ p H1 _ _ ho' hd hp hrest=>
   rw[ho]at ho';cases ho';refine Zry hE ho hp (fun k hk=>hrr ▸ hS.msk i k hk) hr hS.al hro hlen (S:=fun k=>k∈ZdJ ops.size listed) (by rw[e1];simp) hsn fun v w' g' hv hinv hkeep hsn'=>?_;have hput:Rel E g' n (ZN tm o.dst p) H1 (a.put o.dst v) w':=by
    have:Keep g H w g' H1 w'→_:=fun k=>hr.put hinv k hd hv;refine⟨?_,fun t=>?_,hinv,⟨fun x cs hx=>(hr.gl.1 x cs hx).mono hkeep.le.S,fun m=>hr.gl.2.1 (hkeep.le.mono.symm.trans m),fun x q hx=>let ⟨t,e,hq⟩:=hr.gl.2.2 x q hx;⟨t,hkeep.le.S _ _ _ e,hq⟩⟩,?_⟩;{have:=hr.sz;cases o.dst<;>simpa[Act.put] using this}
    ·cases hdst:o.dst with
     | none=>exact(hr.tm t).mono hkeep.le
     | some d=>have hlt:d<a.tmps.size:=Nat.lt_of_lt_of_le (hd d hdst) hr.sz;simp only[ZN,Act.put];by_cases e:t=d;{subst e;rw[if_pos rfl];simpa[Array.getD,hlt] using hv};{rw[if_neg e];have:=(hr.tm t).mono hkeep.le;(have e2:(a.tmps.setIfInBounds d v).getD t undef=a.tmps.getD t undef:=by simp only[Array.getD_eq_getD_getElem?,Array.getElem?_setIfInBounds];rw[if_neg (Ne.symm e)]);rw[e2];exact this}
    {have:=hr.df;cases o.dst<;>simpa[Act.put] using this}
   (have hgi:∀k,(listed.setIfInBounds i true).getD k false=true↔(k=i∨listed.getD k false=true):=fun k=>by by_cases e:k=i;{subst e;(have:k<listed.size:=by omega);simp[Array.getD,this]};{simp only[Array.getD_eq_getD_getElem?,Array.getElem?_setIfInBounds];rw[if_neg (Ne.symm e)];simp[e]});refine ih (listed.setIfInBounds i true) _ H1 g' _ w' (by simpa using hsz) (by rw[e2];rw[e1]at hfu;simp at hfu ⊢;omega) (fun k l hk' hp'=>?_) (by rw[e2];exact hrest) hput (by rw[hkeep.ro];exact hrr) (by rw[hkeep.ro];exact hro) (Nat.le_trans hlen hp.len) (fun k hk1 hk2=>hsn' k hk1 ?_) (KeepN.trans hi0 hk hkeep (by omega));{rw[hgi];rcases(hgi k).1 hk' with rfl|h;{right;obtain⟨o',e,ho'',he,hb,hon⟩:=hp';rw[ho]at ho'';cases ho'';rw[← hon];exact h3 e he hb};{exact .inr (hcl k l h hp')}};{rw[e2]at hk2;have hnd:(ZdJ ops.size listed).Nodup:=List.nodup_range.filter _;rw[e1]at hnd ⊢;refine⟨?_,fun e=>?_⟩;{simp only[List.mem_append,List.mem_cons]at hk2 ⊢;rcases hk2 with h|h;{exact .inl h};{exact .inr (.inr h)}};{subst e;have:=List.nodup_append.1 hnd;obtain⟨_,h2,h3⟩:=this;rcases List.mem_append.1 hk2 with h|h;{exact h3 k h k List.mem_cons_self rfl};{exact(List.nodup_cons.1 h2).1 h}}}
def ZaE (H:Heap) (m:Nat):Heap:={H with bx:=H.bx++List.replicate m .dead}
theorem QS {H:Heap} {m:Nat} (h:(ZaE H m).bx[i]? = some b) (hb:b≠ .dead):H.bx[i]? = some b:=by simp only[ZaE]at h;by_cases e:i<H.bx.length;{rwa [List.getElem?_append_left e]at h};{rw[List.getElem?_append_right (by omega),List.getElem?_replicate]at h;split at h;{simp only[Option.some.injEq]at h;exact(hb h.symm).elim};{cases h}}
theorem UL {H:Heap} {m:Nat} (h:(ZaE H m).liveAt i):H.liveAt i:=by obtain⟨b,hb,ha⟩:=h;exact⟨b,QS hb (fun e=>by subst e;exact ha),ha⟩
theorem Zm8 {g:Gh} {H:Heap} {w:World} (hi:Inv g H w) (m:Nat):Inv g (ZaE H m) w where
 st:=hi.st
 bx id es el h:=hi.bx id es el (QS h (by simp))
 mp id es h:=hi.mp id es (QS h (by simp))
 sp id T cs h:=hi.sp id T cs (QS h (by simp))
 inj i j b h1 h2:=hi.inj i j b (UL h1) (UL h2)
 sd id h:=hi.sd id (by simp[ZaE]at h;omega)
 td:=hi.td
 tk t b lo hi' h1 h2:=let ⟨a,b,c⟩:=hi.tk t b lo hi' h1 h2;⟨a,b,fun id hl=>c id (UL hl)⟩
 tinj:=hi.tinj
 nd:=hi.nd
 lt:=hi.lt
 sz:=hi.sz
 ro:=by have:=hi.ro;simp[ZaE];omega
 rm id b c T m h:=hi.rm id b c T m (UL h)
theorem Zln {g:Gh} {H:Heap} {w:World} (hi:Inv g H w) (m:Nat):Keep g H w g (ZaE H m) w where
 le:= .refl g
 heap _ _ _:=rfl
 store _ _ _ _:=rfl
 size:=Nat.le_refl _
 new id b h h':=by rw[h]at h';cases h'
 tnew t b lo hi h h':=by rw[h]at h';cases h'
 ro:=rfl
 bxl:=by simp[ZaE]
 bx id h:=by have:=hi.ro;simp only[ZaE];rw[List.getElem?_append_left (by omega)]
 nt:=Nat.le_refl _
 lv t h:= .inl h
 al _ _ _ h:=UL h
 ns _ _ h:=h
 so:= .rfls
theorem ZlS (hE:TOk E P) (hm:P.follows .mixedOrders=true) {H:Heap} (hS:Sched ops H.ro H.bx.length m cls tgt msk) (h:Run E P own n ops H.bx.length cls tgt msk (List.range ops.size) tm (ZaE H m) tm' H'):Zhn E P own n ops tm H tm' H':=by
 intro id g a w Q hr hq;refine wp_region_any hm ?_;have hall:ZdJ ops.size (Array.replicate ops.size false)=List.range ops.size:=by unfold ZdJ;refine List.filter_eq_self.2 fun k hk=>?_;have:=List.mem_range.1 hk;simp[Array.getD,this]
 have hw:Inv g H {w with drawn:=w.drawn+1}:=hr.inv.same rfl;have hk:Keep g H w g H {w with drawn:=w.drawn+1}:= .same rfl;have hke:=hk.then hr.inv (Zln hw m);refine Zk8 hE hS (Q:=Q) (tm':=tm') (H':=H') hr.inv rfl hr.inv.ro hq ops.size _ tm (ZaE H m) g a _ (by simp) (by rw[hall];simp) (fun i l hi=>?_) (by rw[hall];exact h) ⟨hr.sz,hr.tm,Zm8 hw _,hr.gl,hr.df⟩ rfl hr.inv.ro (by simp[ZaE]) (fun k hk1 _=>hr.inv.sd _ (by omega)) hke;by_cases hlt:i<ops.size;{simp[Array.getD,hlt]at hi};{simp[Array.getD,hlt]at hi}
end
inductive Tr where
 |leaf
 |node (v:PV) (l r:Tr)
variable {t:Tr} {body:Tr→Heap→Option (Ex×Tr×Heap)}
noncomputable def YZ (t:Tr):Nat→PV:=
 Tr.rec (motive:=fun _=>Nat→PV) (fun _=>unset)
  (fun v _ _ il ir n=>Nat.rec (motive:=fun _=>PV) v (fun m _=>Nat.rec (motive:=fun _=>PV) (il (m / 2)) (fun _ _=>ir (m / 2)) (m % 2)) n) t
noncomputable def Zer:Nat→Tr→Nat→PV→Tr:=fun d=>
 Nat.rec (motive:=fun _=>Tr→Nat→PV→Tr) (fun t _ _=>t) (fun _ ih t n v=>
  Tr.rec (motive:=fun _=>Tr)
   (Nat.rec (motive:=fun _=>Tr) (.node v .leaf .leaf) (fun m _=>Nat.rec (motive:=fun _=>Tr) (.node unset (ih .leaf (m / 2) v) .leaf) (fun _ _=> .node unset .leaf (ih .leaf (m / 2) v)) (m % 2)) n)
   (fun x l r _ _=>Nat.rec (motive:=fun _=>Tr) (.node v l r) (fun m _=>Nat.rec (motive:=fun _=>Tr) (.node x (ih l (m / 2) v) r) (fun _ _=> .node x l (ih r (m / 2) v)) (m % 2)) n) t) d
theorem Vk (n:Nat):YZ .leaf n=unset:=rfl
theorem Xi (v:PV) (l r:Tr) (m:Nat):YZ (.node v l r) (m+1)=if m % 2=0 then YZ l (m / 2) else YZ r (m / 2):=by
 show Nat.rec (motive:=fun _=>PV) (YZ l (m / 2)) (fun _ _=>YZ r (m / 2)) (m % 2)=_;cases m % 2 with
 |zero=>rfl
 |succ _=>rfl
theorem ZaT (d:Nat) (v:PV):Zer (d+1) .leaf 0 v= .node v .leaf .leaf:=rfl
theorem ZaO (d:Nat) (x:PV) (l r:Tr) (v:PV):Zer (d+1) (.node x l r) 0 v= .node v l r:=rfl
theorem ZaF (d m:Nat) (v:PV):Zer (d+1) .leaf (m+1) v=if m % 2=0 then .node unset (Zer d .leaf (m / 2) v) .leaf else .node unset .leaf (Zer d .leaf (m / 2) v):=by
 show Nat.rec (motive:=fun _=>Tr) (.node unset (Zer d .leaf (m / 2) v) .leaf) (fun _ _=> .node unset .leaf (Zer d .leaf (m / 2) v)) (m % 2)=_;cases m % 2 with
 |zero=>rfl
 |succ _=>rfl
theorem ZaI (d m:Nat) (x:PV) (l r:Tr) (v:PV):Zer (d+1) (.node x l r) (m+1) v=if m % 2=0 then .node x (Zer d l (m / 2) v) r else .node x l (Zer d r (m / 2) v):=by
 show Nat.rec (motive:=fun _=>Tr) (.node x (Zer d l (m / 2) v) r) (fun _ _=> .node x l (Zer d r (m / 2) v)) (m % 2)=_;cases m % 2 with
 |zero=>rfl
 |succ _=>rfl
theorem Zal:∀(d:Nat) (t:Tr) (n:Nat) (v:PV) (k:Nat),n+1<2 ^ d→YZ (Zer d t n v) k=if k=n then v else YZ t k
 |0,t,n,v,k,h=>by simp at h
 |d+1,t,n,v,k,h=>by
  have hp:2 ^ (d+1)=2*2 ^ d:=by rw[Nat.pow_succ,Nat.mul_comm]
  cases n with
  | zero=>
   cases t with
   | leaf=>
    rw[ZaT];cases k with
    | zero=>rfl
    | succ k=>rw[Xi];simp[Vk]
   | node x l r=>
    rw[ZaO];cases k with
    | zero=>rfl
    | succ k=>rw[Xi,Xi];simp
  | succ m=>
   (have hm:m / 2+1<2 ^ d:=by omega);have ih:=fun t k=>Zal d t (m / 2) v k hm;cases t with
   | leaf=>
    rw[ZaF];cases k with
    | zero=>split<;>rfl
    | succ k=>rw[Vk];by_cases hm2:m % 2=0;{rw[if_pos hm2,Xi,ih];simp only[Vk];(repeat' split)<;>first|rfl|(exfalso;omega)};{rw[if_neg hm2,Xi,ih];simp only[Vk];(repeat' split)<;>first|rfl|(exfalso;omega)}
   | node x l r=>
    rw[ZaI];cases k with
    | zero=>split<;>rfl
    | succ k=>by_cases hm2:m % 2=0;{rw[if_pos hm2,Xi,Xi,ih];(repeat' split)<;>first|rfl|(exfalso;omega)};{rw[if_neg hm2,Xi,Xi,ih];(repeat' split)<;>first|rfl|(exfalso;omega)}
def Zj0 (t:Tr) (d:Option Tmp) (v:PV):Tr:=
 match d with
 |some d=>Zer 12 t d v
 |none=>t
theorem ZjG {d:Option Tmp} {v:PV} (h:∀x,d=some x→x<4000):YZ (Zj0 t d v)=ZN (YZ t) d v:=by
 cases d with
 |none=>rfl
 |some d=>funext k;have:=h d rfl;simp only[Zj0,ZN];rw[Zal 12 t d v k (Nat.lt_of_lt_of_le (Nat.succ_lt_succ this) (by decide))]
def ZeO:List PV→Nat→Tr→Tr
 | [],_,t=>t
 |v::r,i,t=>ZeO r (i+1) (Zer 12 t i v)
theorem ZdH:∀(l:List PV) (i:Nat) (t:Tr) (k:Nat),i+l.length<4000→YZ (ZeO l i t) k=if i≤k∧k<i+l.length then l.getD (k-i) unset else YZ t k
 | [],i,t,k,_=>by simp only[ZeO,List.length_nil,Nat.add_zero];rw[if_neg (by omega)]
 |v::l,i,t,k,h=>by simp only[List.length_cons]at h;simp only[ZeO];rw[ZdH l (i+1) _ k (by omega)];by_cases h1:i+1≤k∧k<i+1+l.length;{rw[if_pos h1,if_pos (by simp only[List.length_cons];omega)];(have:k-i=(k-(i+1))+1:=by omega);rw[this];rfl};{rw[if_neg h1,Zal 12 t i v k (by omega)];by_cases e:k=i;{subst e;rw[if_pos rfl,if_pos (by simp only[List.length_cons];omega)];simp};{rw[if_neg e,if_neg (by simp only[List.length_cons];omega)]}}
theorem ZfW {l:List PV} (h:l.length<4000):YZ (ZeO l 0 .leaf)=tm0 l:=by funext k;rw[ZdH l 0 .leaf k (by omega)];simp only[tm0];by_cases hk:k<l.length;{rw[if_pos ⟨Nat.zero_le _,by omega⟩];rfl};{rw[if_neg (by omega)];simp[List.getD,List.getElem?_eq_none (Nat.le_of_not_lt hk),Vk]}
def X4 (n:Nat) (o:Oper):Bool:=
 match o.dst with
 |some d=>Nat.blt d n
 |none=>true
theorem XT {n:Nat} (h:X4 n o=true):∀t,o.dst=some t→t<n:=fun t ht=>by
 simp only[X4,ht]at h
 exact Nat.le_of_ble_eq_true h
abbrev Qa:=FuncId→List PV→Heap→Option (PV×Heap)
noncomputable def Zef (E:Env) (call:Qa) (own:Tmp→Bool) (n:Nat) (all l:List Oper):Tr→Heap→Option (Tr×Heap):=
 List.rec (motive:=fun _=>Tr→Heap→Option (Tr×Heap)) (fun t H=>some (t,H))
  (fun o _ ih t H => match X4 n o with
    | false=>none
    | true => match Zf all (YZ t) o with
      | some true => match Zoz E call own (YZ t) o H with
        | some (p,H')=>ih (Zj0 t o.dst p) H'
        | none=>none
      | some false=>ih (Zj0 t o.dst unset) H
      | none=>none) l
def Zov (E:Env) (ats:List TypeId):Bool:=match ats with
 | []=>true
 | t :: _ => match E.T t with
   | some ti => match ti.tk with
     | .map _ _=>true
     | _=>false
   | none=>true
def Y2 (E:Env) (own:Tmp→Bool) (o:Oper):Cls:=
 match o.op with
 | .alloc _=> .al
 | .box _ _=> .al
 | .store _ _ _=> .st
 | .mapUpdate _ _ _ _=> .st
 | .makeMap _ _=> .ef
 | .makeSlice _ _ _=> .tk
 | .buildSlice _ _ _=>if own (o.dst.getD 0) then .tk else .sc
 | .load _ _=> .ld
 | .lookup _ _ _ _=> .qu
 | .call { callee := .builtin b, argTypes := ats, .. } => match b with
   | .append => match own (o.dst.getD 0 + 5000) with
     | true=> .tk
     | false=> .ef
   | .len => match Zov E ats.toList with
     | true=> .qu
     | false=> .sc
   | .max=> .sc
   | .min=> .sc
   | _=> .ef
 | .call { callee := .value (.func k), .. } => match E.eff k with
   | true => match own (o.dst.getD 0 + 5000) with
     | true=> .tk
     | false => match own (o.dst.getD 0 + 6000) with
       | true=> .st
       | false=> .ef
   | false=> .qu
 | .call _=> .qu
 |_=> .sc
def Zi6 (acc:List Nat) (o:Oper):Nat:=
 o.after.toList.foldl (fun s e=>match Region.binds .any e with|true=>s ||| (2 ^ e.on ||| (nth acc e.on).getD 0)|false=>s) 0
def X1:List Oper→List Nat→List Nat
 | [],acc=>acc
 |o::r,acc=>X1 r (acc++ [Zi6 acc o])
def bef (ms:List Nat) (l i:Nat):Bool:=((nth ms i).getD 0).testBit l
def Y7 (E:Env) (own:Tmp→Bool) (ops:Array Oper) (i:Nat):Cls:=
 match nth ops.toList i with
 |some o=>Y2 E own o
 |none=> .sc
def alL (E:Env) (own:Tmp→Bool):List Oper→Nat→List Nat
 | [],_=>[]
 | o :: r, i => match Y2 E own o with
   | .al=>i::alL E own r (i+1)
   | _=>alL E own r (i+1)
def stL (E:Env) (own:Tmp→Bool):List Oper→Nat→List Nat
 | [],_=>[]
 | o :: r, i => match Y2 E own o with
   | .st=>i::stL E own r (i+1)
   | _=>stL E own r (i+1)
def Zh9 (E:Env) (N:Nat) (tm:TM) (o:Oper):Nat:=
 match o.op with
 | .load _ _=>N
 | .store _ a _ => match Zh E tm a with
   | .ptr id _ _ _=>id
   | _=>0
 | .mapUpdate _ m _ _ => match Zh E tm m with
   | .map id=>id
   | _=>0
 |_=>0
def Zow (E:Env) (N:Nat) (tm:TM) (ops:Array Oper) (i:Nat):Nat:=
 match nth ops.toList i with
 |some o=>Zh9 E N tm o
 |none=>0
def Zsy (n0:Nat) (ms al:List Nat) (i:Nat):List Nat:=(al.filter fun k=> !bef ms k i).map (n0+ ·)
def ZkD (ops:Array Oper) (ms:List Nat) (x y:Oper) (cx cy:Cls) (l i:Nat):Bool:=
 bef ms l i||(perm cx cy&&(x.apart ops y&& !bef ms i l))
def ZqG (n0:Nat) (ms al st:List Nat) (tg:Nat→Nat) (i:Nat):List Nat:=
 Zsy n0 ms al i++(st.filter fun k=> !Nat.beq k i&&(!bef ms k i&& !bef ms i k)).map tg
def ZkR (E:Env) (own:Tmp→Bool) (ops:Array Oper) (ms:List Nat) (y:Oper) (i:Nat):List Oper→Nat→Bool
 | [],_=>true
 | x :: r, l => match Nat.blt l i with
   | true=>ZkD ops ms x y (Y2 E own x) (Y2 E own y) l i&&ZkR E own ops ms y i r (l+1)
   | false=>true
def Zc2 (E:Env) (own:Tmp→Bool) (ops:Array Oper) (ms:List Nat):List Oper→Nat→Bool
 | [],_=>true
 |y::r,i=>ZkR E own ops ms y i ops.toList 0&&Zc2 E own ops ms r (i+1)
def Zdi:List Oper→Nat→Bool
 | [],_=>true
 |o::r,i=>o.after.toList.all (fun e=> !Region.binds .any e||Nat.blt e.on i)&&Zdi r (i+1)
def ZcH (E:Env) (tm:TM) (o:Oper) (s:Nat):Bool:=
 match o.op with
 | .load _ a => match Zh E tm a with
   | .ptr id _ _ _=>Nat.blt id s
   | _=>true
 |_=>true
def Zsb (E:Env) (call:Qa) (own:Tmp→Bool) (n0:Nat) (msk:List Nat) (tg:Option Nat) (t:Tr) (o:Oper) (i:Nat) (H:Heap):Option (PV×Heap):=
 match Y2 E own o with
 | .sc => match aOp E (own (o.dst.getD 0)) (Zh E (YZ t)) o.op H with
   | some (p,_)=>some (p,H)
   | none=>none
 | .qu => match o.op with
   | .call { callee := .value f, args, .. } => match Zh E (YZ t) f with
     | .fn k caps => match E.eff k with
       | true=>none
       | false => match call k (args.toList.map (Zh E (YZ t)) ++ caps) (ZQ msk H) with
         | some (p,_)=>some (p,H)
         | none=>none
     | _=>none
   | _ => match aOp E (own (o.dst.getD 0)) (Zh E (YZ t)) o.op (ZQ msk H) with
     | some (p,_)=>some (p,H)
     | none=>none
 | .al => match nth H.bx (n0 + i) with
   | some .dead => match o.op with
     | .alloc e => match E.T e with
       | some ei=>if ei.zero.cells.length=ei.size∧0<ei.size then some (.ptr (n0+i) ei.size 0 0,Ym H (n0+i) (.cells ei.size [ei.zero.cells])) else none
       | none=>none
     | .box _ x => if 0 < (Zh E (YZ t) x).cells.length then
         some (.ptr (n0+i) (Zh E (YZ t) x).cells.length 0 0,Ym H (n0+i) (.cells (Zh E (YZ t) x).cells.length [(Zh E (YZ t) x).cells])) else none
     | _=>none
   | _=>none
 | .st => match aOp E (own (o.dst.getD 0)) (Zh E (YZ t)) o.op (ZQ msk H) with
   | some (p, M) => match nth M.bx (Zh9 E 0 (YZ t) o) with
     | some b => match tg with
       | some s => match Nat.beq s (Zh9 E 0 (YZ t) o) && !msk.any (Nat.beq s) with
         | true=>some (p,Ym H s b)
         | false=>none
       | none=>some (p,Ym H (Zh9 E 0 (YZ t) o) b)
     | none=>none
   | none=>none
 | .ld => match aOp E (own (o.dst.getD 0)) (Zh E (YZ t)) o.op (ZQ msk H) with
   | some (p, _) => match tg with
     | some s => match ZcH E (YZ t) o s with
       | true=>some (p,H)
       | false=>none
     | none=>some (p,H)
   | none=>none
 | .tk => match Zoz E call own (YZ t) o { ZQ msk H with ro := H.bx.length } with
   | some (p, M) => match Nat.ble H.bx.length M.bx.length with
     | true=>some (p,VR H M)
     | false=>none
   | none=>none
 | .ef => match Zoz E call own (YZ t) o (ZQ msk H) with
   | some (p, M) => match Nat.ble H.bx.length M.bx.length with
     | true=>some (p,Xd msk H M)
     | false=>none
   | none=>none
def Ub (E:Env) (call:Qa) (own:Tmp→Bool) (n n0:Nat) (mk:Nat→List Nat) (tg:Nat→Option Nat) (all:List Oper):List Oper→Nat→Tr→Heap→Option (Tr×Heap)
 | [],_,t,H=>some (t,H)
 | o :: r, i, t, H => match X4 n o with
   | false=>none
   | true => match Zf all (YZ t) o with
     | some true => match Zsb E call own n0 (mk i) (tg i) t o i H with
       | some (p,H')=>Ub E call own n n0 mk tg all r (i+1) (Zj0 t o.dst p) H'
       | none=>none
     | some false=>Ub E call own n n0 mk tg all r (i+1) (Zj0 t o.dst unset) H
     | none=>none
def Wm (E:Env) (own:Tmp→Bool) (ops:Array Oper):Nat:=match alL E own ops.toList 0 with| []=>0|_=>ops.size
def Zfw (E:Env) (call:Qa) (own:Tmp→Bool) (n:Nat) (ops:Array Oper) (t:Tr) (H:Heap):Option (Tr×Heap):=
 match Zdi ops.toList 0&&Zc2 E own ops (X1 ops.toList []) ops.toList 0 with
 | true => match Ub E call own n H.bx.length (Zsy H.bx.length (X1 ops.toList []) (alL E own ops.toList 0)) (fun _ => none) ops.toList ops.toList 0 t (ZaE H (Wm E own ops)) with
   | some (t1, _) => match(stL E own ops.toList 0).all fun k => Nat.ble H.ro (Zow E (H.bx.length + Wm E own ops) (YZ t1) ops k) with
     | true => Ub E call own n H.bx.length (ZqG H.bx.length (X1 ops.toList []) (alL E own ops.toList 0) (stL E own ops.toList 0) (Zow E (H.bx.length + Wm E own ops) (YZ t1) ops))
         (fun i=>some (Zow E (H.bx.length+Wm E own ops) (YZ t1) ops i)) ops.toList ops.toList 0 t (ZaE H (Wm E own ops))
     | false=>none
   | none=>none
 |false=>none
noncomputable def Zbb (body:Tr→Heap→Option (Ex×Tr×Heap)) (k:Nat):Tr→Heap→Option (Ex×Tr×Heap):=
 Nat.rec (motive:=fun _=>Tr→Heap→Option (Ex×Tr×Heap)) (fun _ _=>none)
  (fun _ ih t H => match body t H with
    | some (.normal,t',H')=>ih t' H'
    | r=>r) k
noncomputable def Ut (E:Env) (call:Qa) (own:Tmp→Bool) (n fuel:Nat) (c:Code):Tr→Heap→Option (Ex×Tr×Heap):=
 Code.rec (motive:=fun _=>Tr→Heap→Option (Ex×Tr×Heap))
  (fun t H=>some (.normal,t,H))
  (fun _ ops draw t H => match draw with
    | false => match Zef E call own n ops.toList ops.toList t H with
      | some (t',H')=>some (.normal,t',H')
      | none=>none
    | true => match Zfw E call own n ops t H with
      | some (t',H')=>some (.normal,t',H')
      | none=>none)
  (fun _ _ ia ib t H => match ia t H with
    | some (.normal,t',H')=>ib t' H'
    | r=>r)
  (fun x _ _ ia ib t H => match Zh E (YZ t) x with
    | .bool true=>ia t H
    | .bool false=>ib t H
    | _=>none)
  (fun i _ ib t H => match ib t H with
    | some (.exit j,t',H')=>if j=i then some (.normal,t',H') else some (.exit j,t',H')
    | r=>r)
  (fun _ ib t H=>Zbb ib fuel t H)
  (fun _ _ _ _ _ _ _ _=>none)
  (fun i t H=>some (.exit i,t,H))
  (fun _ _ _ _=>none)
  (fun _ t H=>some (.normal,t,H))
  (fun _ _ _=>none)
  (fun t H=>some (.ret,t,H))
  (fun _ _ _=>none) c
def Zio (E:Env) (call:Qa) (fuel:Nat) (f:FuncId) (args:List PV) (H:Heap):Option (PV×Heap):=
 match E.F f with
 | some fn => match fn.body with
   | some c => match Nat.blt args.length 3000 with
     | true => match E.eff f with
       | true => match Ut E call (E.own f) fn.ntmps fuel c (ZeO args 0 .leaf) H with
         | some (ex, t, H') => match ex with
           | .exit _=>none
           | _ => match U0 E (YZ t) H' fn.results.toList with
             | some vs=>some (one vs,H')
             | none=>none
         | none=>none
       | false => match Ut E call (E.own f) fn.ntmps fuel c (ZeO (args.map argV) 0 .leaf) (ZbI H) with
         | some (ex, t, H') => match ex with
           | .exit _=>none
           | _ => match U0 E (YZ t) H' fn.results.toList with
             | some vs => match frz3 H.bx.length H' (one vs) with
               | some v=>some (v,H)
               | none=>none
             | none=>none
         | none=>none
     | false=>none
   | none=>none
 |none=>E.Z f args H
noncomputable def ev (E:Env) (fuel:Nat) (k:Nat):Qa:=
 Nat.rec (motive:=fun _=>Qa) (fun _ _ _=>none) (fun _ ih f args H=>Zio E ih fuel f args H) k
section
variable {E:Env} {P:Program} {call:Qa} {own:Tmp→Bool} {n:Nat} {ops:Array Oper}
theorem Zgp (acc : List Nat) (l : Nat) : ∀(es : List Edge) (s : Nat),
  (es.foldl (fun s e=>match Region.binds .any e with|true=>s ||| (2 ^ e.on ||| (nth acc e.on).getD 0)|false=>s) s).testBit l=true→
  s.testBit l=true∨∃e∈es,Region.binds .any e=true∧(e.on=l∨((nth acc e.on).getD 0).testBit l=true)
 | [],s,h=> .inl h
 |e::es,s,h=>by simp only[List.foldl_cons]at h;rcases Zgp acc l es _ h with h1|⟨e',he',hb,hx⟩;{split at h1;{rename_i hb;simp only[Nat.testBit_or,Bool.or_eq_true,Nat.testBit_two_pow,decide_eq_true_eq]at h1;rcases h1 with h1|h1|h1;{exact .inl h1};{exact .inr ⟨e,List.mem_cons_self,hb,.inl h1⟩};{exact .inr ⟨e,List.mem_cons_self,hb,.inr h1⟩}};{exact .inl h1}};{exact .inr ⟨e',List.mem_cons_of_mem _ he',hb,hx⟩}
theorem Zf9:∀(r:List Oper) (acc:List Nat),r=ops.toList.drop acc.length→(∀j l,((nth acc j).getD 0).testBit l=true→Bef ops l j)→∀j l,((nth (X1 r acc) j).getD 0).testBit l=true→Bef ops l j
 | [],acc,_,h=>h
 | o :: r, acc, hr, h => by
   simp only[X1]
   have ho:ops[acc.length]? = some o:=by
    have:=congrArg List.head? hr
    simp[List.head?_drop]at this
    exact this.symm
   refine Zf9 r _ ?_ fun j l hb=>?_
   · have := congrArg List.tail hr
     simpa using this
   · rw[Zm]at hb
     by_cases e:j<acc.length
     · rw[List.getElem?_append_left e, ← Zm]at hb
       exact h j l hb
     · by_cases e2 : j = acc.length
       · subst e2
         rw[List.getElem?_append_right (Nat.le_refl _)]at hb
         simp only[Nat.sub_self,List.getElem?_cons_zero,Option.getD_some,Zi6]at hb
         rcases Zgp acc l _ _ hb with h1|⟨x,hx,hbi,h1|h1⟩
         · simp at h1
         · exact .edge _ _ ⟨o,x,ho,hx,hbi,h1⟩
         · exact .step _ x.on _ (h _ _ h1) ⟨o,x,ho,hx,hbi,rfl⟩
       · rw[List.getElem?_append_right (by omega)]at hb
         have:([Zi6 acc o]:List Nat)[j-acc.length]? = none:=by
          rw[List.getElem?_eq_none];simp;omega
         rw[this]at hb
         simp at hb
theorem Zo9 {l:Nat} (h:bef (X1 ops.toList []) l i=true):Bef ops l i:=
 Zf9 ops.toList [] (by simp) (fun j l h=>by simp[Zm]at h) i l h
theorem Zgn:∀(r:List Oper) (k:Nat),r=ops.toList.drop k→Zdi r k=true→∀l i,k≤i→Pre ops l i→l<i
 | [], k, hr, _, l, i, hk, ⟨o, e, ho, _⟩ => by
   have h1:ops.size≤k:=by
    rcases Nat.lt_or_ge k ops.size with h|h
    · have:=congrArg List.length hr;simp at this;omega
    · exact h
   have h2:ops[i]? = none:=Array.getElem?_eq_none (by omega)
   rw[h2]at ho;cases ho
 | o' :: r, k, hr, h, l, i, hk, hp => by
   simp only[Zdi,Bool.and_eq_true]at h
   by_cases e:i=k
   · subst e
     obtain⟨o,x,ho,hx,hb,rfl⟩:=hp
     have ho':ops[i]? = some o':=by
      have:=congrArg List.head? hr
      simp[List.head?_drop]at this
      exact this.symm
     rw[ho]at ho'
     cases ho'
     have:=List.all_eq_true.1 h.1 x hx
     simp only[hb,Bool.not_true,Bool.false_or]at this
     exact Nat.le_of_ble_eq_true this
   · exact Zgn r (k+1) (by have:=congrArg List.tail hr;simpa using this) h.2 l i (by omega) hp
theorem Zcm:∀(r:List Oper) (k i:Nat),i∈alL E own r k↔∃o,k≤i∧r[i-k]? = some o∧Y2 E own o= .al
 | [],k,i=>by simp[alL]
 | o :: r, k, i => by
   have ih:=Zcm r (k+1) i
   have split1:(∃o',k≤i∧(o::r)[i-k]? = some o'∧Y2 E own o'= .al)↔(i=k∧Y2 E own o= .al)∨∃o',k+1≤i∧r[i-(k+1)]? = some o'∧Y2 E own o'= .al:=by
    constructor
    · rintro⟨o', h1, h2, h3⟩
      by_cases e:i=k
      · subst e
        simp at h2
        subst h2
        exact .inl ⟨rfl,h3⟩
      · have : i - k = (i - (k + 1)) + 1 := by omega
        rw[this,List.getElem?_cons_succ]at h2
        exact .inr ⟨o',by omega,h2,h3⟩
    · rintro(⟨rfl, h⟩ | ⟨o', h1, h2, h3⟩)
      · exact⟨o,Nat.le_refl _,by simp,h⟩
      · have : i - k = (i - (k + 1)) + 1 := by omega
        exact⟨o',by omega,by rw[this,List.getElem?_cons_succ];exact h2,h3⟩
   rw[split1, ← ih]
   simp only[alL]
   split
   · rename_i h
     simp[h]
   · rename_i h
     have:¬ Y2 E own o= .al:=h
     simp[this]
theorem Ze0:∀(r:List Oper) (k i:Nat),i∈stL E own r k↔∃o,k≤i∧r[i-k]? = some o∧Y2 E own o= .st
 | [],k,i=>by simp[stL]
 | o :: r, k, i => by
   have ih:=Ze0 r (k+1) i
   have split1:(∃o',k≤i∧(o::r)[i-k]? = some o'∧Y2 E own o'= .st)↔(i=k∧Y2 E own o= .st)∨∃o',k+1≤i∧r[i-(k+1)]? = some o'∧Y2 E own o'= .st:=by
    constructor
    · rintro⟨o', h1, h2, h3⟩
      by_cases e:i=k
      · subst e
        simp at h2
        subst h2
        exact .inl ⟨rfl,h3⟩
      · have : i - k = (i - (k + 1)) + 1 := by omega
        rw[this,List.getElem?_cons_succ]at h2
        exact .inr ⟨o',by omega,h2,h3⟩
    · rintro(⟨rfl, h⟩ | ⟨o', h1, h2, h3⟩)
      · exact⟨o,Nat.le_refl _,by simp,h⟩
      · have : i - k = (i - (k + 1)) + 1 := by omega
        exact⟨o',by omega,by rw[this,List.getElem?_cons_succ];exact h2,h3⟩
   rw[split1, ← ih]
   simp only[stL]
   split
   · rename_i h
     simp[h]
   · rename_i h
     have:¬ Y2 E own o= .st:=h
     simp[this]
theorem Qc:Y7 E own ops k= .al↔k∈alL E own ops.toList 0:=by
 rw[Zcm];simp only[Y7,Zm,Nat.zero_le,true_and,Nat.sub_zero];cases h:ops.toList[k]? with
 |none=>simp
 |some o=>simp
theorem QW:Y7 E own ops k= .st↔k∈stL E own ops.toList 0:=by
 rw[Ze0];simp only[Y7,Zm,Nat.zero_le,true_and,Nat.sub_zero];cases h:ops.toList[k]? with
 |none=>simp
 |some o=>simp
theorem ZfF {ms:List Nat} {y:Oper} {i:Nat}:∀(r:List Oper) (k:Nat),r=ops.toList.drop k→ZkR E own ops ms y i r k=true→∀l x,k≤l→l<i→ops[l]? = some x→ZkD ops ms x y (Y2 E own x) (Y2 E own y) l i=true
 | [], k, hr, _, l, x, hk, _, hx => by
   have h1:ops.size≤k:=by
    rcases Nat.lt_or_ge k ops.size with h|h
    · have:=congrArg List.length hr;simp at this;omega
    · exact h
   have h2:ops[l]? = none:=Array.getElem?_eq_none (by omega)
   rw[h2]at hx;cases hx
 | o' :: r, k, hr, h, l, x, hk, hl, hx => by
   simp only[ZkR]at h
   split at h
   · rename_i hlt
     simp only[Bool.and_eq_true]at h
     by_cases e:l=k
     · subst e
       have ho':ops[l]? = some o':=by
        have:=congrArg List.head? hr
        simp[List.head?_drop]at this
        exact this.symm
       rw[hx]at ho'
       cases ho'
       exact h.1
     · exact ZfF r (k+1) (by have:=congrArg List.tail hr;simpa using this) h.2 l x (by omega) hl hx
   · rename_i hlt
     have:¬ k<i:=fun hki=>by
      have:Nat.blt k i=true:=Nat.ble_eq_true_of_le hki
      rw[this]at hlt;cases hlt
     omega
theorem ZfK {ms:List Nat}:∀(r:List Oper) (k:Nat),r=ops.toList.drop k→Zc2 E own ops ms r k=true→∀i y,k≤i→ops[i]? = some y→∀l x,l<i→ops[l]? = some x→ZkD ops ms x y (Y2 E own x) (Y2 E own y) l i=true
 | [], k, hr, _, i, y, hk, hy => by
   have h1:ops.size≤k:=by
    rcases Nat.lt_or_ge k ops.size with h|h
    · have:=congrArg List.length hr;simp at this;omega
    · exact h
   have h2:ops[i]? = none:=Array.getElem?_eq_none (by omega)
   rw[h2]at hy;cases hy
 | o' :: r, k, hr, h, i, y, hk, hy => by
   simp only[Zc2,Bool.and_eq_true]at h
   by_cases e:i=k
   · subst e
     have ho':ops[i]? = some o':=by
      have:=congrArg List.head? hr
      simp[List.head?_drop]at this
      exact this.symm
     rw[hy]at ho'
     cases ho'
     exact fun l x hl hx=>ZfF ops.toList 0 (by simp) h.1 l x (Nat.zero_le _) hl hx
   · exact ZfK r (k+1) (by have:=congrArg List.tail hr;simpa using this) h.2 i y (by omega) hy
theorem ZfC {n0 : Nat} (hr0 : r0 ≤ n0) (hb : Zdi ops.toList 0 = true) (hf : Zc2 E own ops (X1 ops.toList []) ops.toList 0 = true) (htg : ∀k ∈ stL E own ops.toList 0, r0 ≤ tg k) (hld : ∀k, Y7 E own ops k = .ld → tg k ≤ n0 + Wm E own ops) :
  Sched ops r0 n0 (Wm E own ops) (Y7 E own ops) tg (ZqG n0 (X1 ops.toList []) (alL E own ops.toList 0) (stL E own ops.toList 0) tg) where
 back l i h:=Zgn ops.toList 0 (by simp) hb l i (Nat.zero_le _) h
 free l i hl hi hn:=by
  have hy:ops[i]? = some ops[i]:=Array.getElem?_eq_getElem hi
  have hx:ops[l]? = some ops[l]:=Array.getElem?_eq_getElem (by omega)
  have h:=ZfK ops.toList 0 (by simp) hf i _ (Nat.zero_le _) hy l _ hl hx
  have hbl:bef (X1 ops.toList []) l i=false:=by
   cases hc:bef (X1 ops.toList []) l i with
   | false=>rfl
   | true=>exact(hn (Zo9 hc)).elim
  have ci:Y7 E own ops i=Y2 E own ops[i]:=by simp[Y7,Zm,hi]
  have cl:Y7 E own ops l=Y2 E own ops[l]:=by
   have:l<ops.size:=by omega
   simp[Y7,Zm,this]
  simp only[ZkD,hbl,Bool.false_or,Bool.and_eq_true]at h
  have hbi:bef (X1 ops.toList []) i l=false:=by simpa using h.2.2
  have b1:Nat.beq l i=false:=by
   cases e:Nat.beq l i with
   | false=>rfl
   | true=>have:=Nat.eq_of_beq_eq_true e;omega
  have b2:Nat.beq i l=false:=by
   cases e:Nat.beq i l with
   | false=>rfl
   | true=>have:=Nat.eq_of_beq_eq_true e;omega
  refine⟨by omega,by rw[ci,cl];exact h.1,fun hc=>?_,fun hc=>?_,fun hc=>?_,fun hc=>?_,fun x y hx' hy'=>?_⟩
  · exact List.mem_append_left _ (List.mem_map.2 ⟨i,List.mem_filter.2 ⟨Qc.1 hc,by rw[hbi];rfl⟩,rfl⟩)
  · exact List.mem_append_left _ (List.mem_map.2 ⟨l,List.mem_filter.2 ⟨Qc.1 hc,by rw[hbl];rfl⟩,rfl⟩)
  · exact List.mem_append_right _ (List.mem_map.2 ⟨l,List.mem_filter.2 ⟨QW.1 hc,by rw[b1,hbl,hbi];rfl⟩,rfl⟩)
  · exact List.mem_append_right _ (List.mem_map.2 ⟨i,List.mem_filter.2 ⟨QW.1 hc,by rw[b2,hbi,hbl];rfl⟩,rfl⟩)
  · rw[hx]at hx'; cases hx'
    rw[hy]at hy';cases hy'
    exact h.2.1
 al k h:=by
  have hal:=Qc.1 h
  have hk:k<ops.size:=by
   obtain⟨o,_,h2,_⟩:=(Zcm _ _ _).1 hal
   have:=Zz h2
   simpa using this
  unfold Wm
  split
  · rename_i e;rw[e]at hal;cases hal
  · exact hk
 ld:=hld
 msk i k h:=by
  rcases List.mem_append.1 h with h|h
  · obtain⟨x, _, rfl⟩ := List.mem_map.1 h
    omega
  · obtain⟨x, hx, rfl⟩ := List.mem_map.1 h
    exact htg x (List.mem_filter.1 hx).1
end
def FOk (E:Env) (P:Program):Prop:=∀f fn c,E.F f=some fn→fn.body=some c→FnOk P f fn c∧fn.ntmps≤4000
def YF (E:Env) (P:Program) (call:Qa):Prop:=∀f args H p H',call f args H=some (p,H')→CallOk E P f args H p H'∧(E.eff f=false→H'=H)
section
variable {E:Env} {P:Program} {call:Qa} {own:Tmp→Bool} {n:Nat}
theorem ZeH (hc:YF E P call) {H:Heap} (h:Zoz E call own tm o H=some (p,H')):OpTo E P own tm o H p H':=by obtain⟨dst,op,ty,pos,after,guard⟩:=o;unfold Zoz at h;simp only at h;split at h;{rename_i f args ats;split at h;{rename_i k caps hf;exact .call f args _ k caps p H' rfl hf (hc _ _ _ _ _ h).1};{cases h}};{exact .op p H' h}
theorem ZjO {H:Heap}:Zef E call own n all [] t H=some (t,H):=rfl
theorem Zgy {r : List Oper} {H : Heap} : Zef E call own n all (o :: r) t H = match X4 n o with
      | false=>none
      | true => match Zf all (YZ t) o with
        | some true => match Zoz E call own (YZ t) o H with
          | some (p,H')=>Zef E call own n all r (Zj0 t o.dst p) H'
          | none=>none
        | some false=>Zef E call own n all r (Zj0 t o.dst unset) H
        | none=>none:=rfl
theorem Zcu (hc:YF E P call) (hn:n≤4000) {all:List Oper}:∀{l:List Oper} {t:Tr} {H:Heap} {t':Tr} {H':Heap},Zef E call own n all l t H=some (t',H')→RegTo E P own n all l (YZ t) H (YZ t') H'
 | [],t,H,t',H',h=>by rw[ZjO]at h;cases h;exact .nil _ _
 |o::r,t,H,t',H',h=>by rw[Zgy]at h;split at h;{cases h};{rename_i hd;have hd:=XT hd;have hset:∀v,YZ (Zj0 t o.dst v)=ZN (YZ t) o.dst v:=fun v=>ZjG fun x hx=>Nat.lt_of_lt_of_le (hd x hx) hn;split at h;{rename_i hw;split at h;{rename_i p H1 ho;have:=Zcu hc hn h;rw[hset]at this;exact .op o r _ H p H1 _ _ hw (ZeH hc ho) hd this};{cases h}};{rename_i hw;have:=Zcu hc hn h;rw[hset]at this;exact .pass o r _ H _ _ hw hd this};{cases h}}
theorem Zex {H:Heap}:Zbb body 0 t H=none:=rfl
theorem Zee {H : Heap} : Zbb body (k + 1) t H = match body t H with
      | some (.normal,t',H')=>Zbb body k t' H'
      | r=>r:=rfl
theorem Zdg {c : Code} {body : Tr → Heap → Option (Ex × Tr × Heap)} (hb : ∀{t H ex t' H'}, body t H = some (ex, t', H') → CodeTo E P own n c (YZ t) H ex (YZ t') H') :
  ∀{k:Nat} {t:Tr} {H:Heap} {ex:Ex} {t':Tr} {H':Heap},Zbb body k t H=some (ex,t',H')→CodeTo E P own n (.loop c) (YZ t) H ex (YZ t') H'
 |0,t,H,ex,t',H',h=>by rw[Zex]at h;cases h
 |k+1,t,H,ex,t',H',h=>by rw[Zee]at h;split at h;{rename_i t1 H1 h1;exact .loop c _ _ _ _ _ _ _ (hb h1) (Zdg hb h)};{rename_i hx;refine .loopOut c _ _ _ _ _ (hb h) fun e=>?_;subst e;exact hx _ _ h}
end
section
variable {E:Env} {P:Program} {call:Qa} {own:Tmp→Bool} {n:Nat} {ops:Array Oper}
theorem X6 {x:Option α} {H:Heap} {p:α} (h:x.map (·,H)=some (p,H1)):x=some p∧H1=H:=by
 cases x with
 |none=>cases h
 |some y=>simp at h;exact⟨by rw[h.1],h.2.symm⟩
theorem Zog {t:TypeId} {ts:List TypeId} (hm:Zov E (t::ts)=false) {x:PV} {H:Heap} (h:Zc0 E t x H=some p) (M:Heap):Zc0 E t x M=some p:=by
 unfold Zc0 at h ⊢;unfold Zov at hm;cases hT:E.T t with
 |none=>simp only[hT]at h;cases h
 |some ti=>simp only[hT]at h hm ⊢;cases hk:ti.tk<;>simp only[hk]at h hm ⊢ <;> first|exact h|(cases hm;done)|(cases x<;>exact h)
theorem Zfz (hc:Y2 E own o= .sc) {H:Heap} (h:aOp E (own (o.dst.getD 0)) ρ o.op H=some (p,H1)) (M:Heap):aOp E (own (o.dst.getD 0)) ρ o.op M=some (p,M):=by
 obtain⟨dst,op,ty,pos,after,guard⟩:=o;simp only at h ⊢;cases op;case call c=>
  obtain⟨cl,args,ats⟩:=c
  cases cl
  case builtin b=>
   by_cases hb:b= .len
   · subst hb
     simp only[Y2]at hc
     have hm:Zov E ats.toList=false:=by
      cases hm:Zov E ats.toList with
      | true=>rw[hm]at hc;cases hc
      | false=>rfl
     simp only[aOp]at h ⊢
     generalize ats.toList=tl at h hm ⊢
     generalize args.toList.map ρ=al at h ⊢
     match tl,al with
     | [t], [x] =>
       simp only[Z9]at h ⊢
       obtain⟨e2,rfl⟩:=X6 h
       rw[Zog hm e2 M]
       rfl
     | [],_=>simp only[Z9]at h;cases h
     | _::_::_,_=>simp only[Z9]at h;cases h
     | [_],[]=>simp only[Z9]at h;cases h
     | [_],_::_::_=>simp only[Z9]at h;cases h
   cases b<;>simp only[Y2]at hc<;>(try cases hc)<;>(try (split at hc<;>cases hc))<;>try exact absurd rfl hb
   all_goals
    cases e:args.toList.map ρ with
    | nil=>simp only[aOp,Z9,e]at h;cases h
    | cons x r =>
      simp only[aOp,Z9,e]at h ⊢
      obtain⟨e2,rfl⟩:=X6 h
      rw[e2]
      rfl
  all_goals
   simp only[aOp]at h
   cases h
 case pick c x y=>
  simp only[aOp]at h ⊢
  cases e:ρ c<;>simp only[e]at h ⊢ <;> first|(cases h;rfl)|cases h
 case nilCheck x=>
  simp only[aOp]at h ⊢
  cases e:ρ x<;>simp only[e]at h ⊢ <;> first|(cases h;rfl)|cases h
 case extract x i=>
  simp only[aOp]at h ⊢
  cases e:ρ x<;>simp only[e]at h ⊢ <;> first|cases h|(obtain⟨e,rfl⟩:=X6 h;rw[e];rfl)
 case makeFunc f fi ca=>
  simp only[aOp]at h ⊢
  cases f<;>simp only at h ⊢ <;> first|cases h|skip
  split at h
  · rename_i hi
    simp only[hi,if_true]at h ⊢
    cases h
    rfl
  · cases h
 case buildSlice t len parts=>
  have hc:(if own (dst.getD 0)=true then Cls.tk else Cls.sc)=Cls.sc:=hc
  split at hc
  · cases hc
  · rename_i hw
    simp only[aOp,hw]at h ⊢
    split at h
    · simp only[Bool.false_eq_true, if_false]at h ⊢
      split at h
      · cases h;rfl
      · cases h
    · cases h
 all_goals simp only[Y2]at hc
 all_goals first|cases hc|skip
 all_goals simp only[aOp]at h ⊢
 all_goals first|cases h|skip
 all_goals first|rfl|(obtain⟨e,rfl⟩:=X6 h;rw[e];rfl)
theorem Zfv {s:Nat} (hc:Y2 E own o= .ld) {H K:Heap} (h:aOp E (own (o.dst.getD 0)) (Zh E tm) o.op H=some (p,H1)) (hs:ZcH E tm o s=true) (hK:K.bx.take s=H.bx.take s):aOp E (own (o.dst.getD 0)) (Zh E tm) o.op K=some (p,K):=by
 obtain⟨dst,op,ty,pos,after,guard⟩:=o;simp only at h ⊢;cases op;case load t a=>
  simp only[aOp]at h ⊢
  obtain⟨e,rfl⟩:=X6 h
  have e2:ZZ E t (Zh E tm a) K=ZZ E t (Zh E tm a) H1:=by
   unfold ZZ Heap.rd
   simp only[ZcH]at hs
   cases ha:Zh E tm a<;>simp only
   rename_i id es ix off
   rw[ha]at hs
   have hid:id<s:=Nat.le_of_ble_eq_true hs
   have:=congrArg (fun l=>l[id]?) hK
   simp only[List.getElem?_take,hid,if_true]at this
   rw[Zm,Zm,this]
  rw[e2,e]
  rfl
 case call c=>
  obtain⟨cl,args,ats⟩:=c
  cases cl
  case builtin b=>cases b<;>(simp only[Y2]at hc;first|cases hc|(split at hc<;>cases hc))
  all_goals
   simp only[aOp]at h
   cases h
 case buildSlice t len parts=>
  have hc:(if own (dst.getD 0)=true then Cls.tk else Cls.sc)=Cls.ld:=hc
  split at hc<;>cases hc
 all_goals simp only[Y2]at hc
 all_goals cases hc
theorem Zhc (hc:Y2 E own o= .qu) {H:Heap} (h:aOp E (own (o.dst.getD 0)) ρ o.op H=some (p,H1)):H1=H:=by
 obtain⟨dst,op,ty,pos,after,guard⟩:=o;simp only at h;cases op;case lookup t x i ok=>
  simp only[aOp]at h
  exact(X6 h).2
 case call c=>
  obtain⟨cl,args,ats⟩:=c
  cases cl
  case builtin b=>
   cases b<;>simp only[Y2]at hc<;>(try cases hc)<;>try (split at hc<;>cases hc)
   simp only[aOp,Z9]at h
   split at h<;>first|cases h|skip
   all_goals first|exact(X6 h).2|(rename_i hh _ _;cases hh)
  all_goals
   simp only[aOp]at h
   cases h
 case buildSlice t len parts=>
  have hc:(if own (dst.getD 0)=true then Cls.tk else Cls.sc)=Cls.qu:=hc
  split at hc<;>cases hc
 all_goals simp only[Y2]at hc
 all_goals cases hc
theorem ZlR (hc:Y2 E own o= .st) {H:Heap} (h:aOp E (own (o.dst.getD 0)) (Zh E tm) o.op H=some (p,M)) (hb:nth M.bx (Zh9 E 0 tm o)=some b):M=Ym H (Zh9 E 0 tm o) b:=by
 have put:∀{id:Nat} {x:Box} {M:Heap},H.put id x=some M→∀b,nth M.bx id=some b→M=Ym H id b:=fun {id x M} h b hb=>by unfold Heap.put at h;split at h;{cases h};{cases h;rw[Zm]at hb;have hl:=Zz hb;simp only[List.length_set]at hl;rw[List.getElem?_set_self hl]at hb;cases hb;rfl}
 obtain⟨dst,op,ty,pos,after,guard⟩:=o;simp only at h;cases op;case store t a v=>
  simp only[aOp]at h
  split at h
  · split at h
    · cases hw : H.wr (Zh E tm a) (Zh E tm v).cells with
      | none=>rw[hw]at h;cases h
      | some M' =>
        rw[hw]at h
        cases h
        unfold Heap.wr at hw
        cases ha:Zh E tm a<;>rw[ha]at hw<;>simp only at hw<;>first|cases hw|skip
        simp only[Zh9,ha]at hb ⊢
        split at hw
        · split at hw
          · split at hw
            · split at hw
              · exact put hw b hb
              · cases hw
            · cases hw
          · cases hw
        · split at hw
          · exact put hw b hb
          · cases hw
        · cases hw
    · cases h
  · cases h
 case mapUpdate t m k v=>
  simp only[aOp]at h
  cases hw:Yj E t (Zh E tm m) (Zh E tm k) (Zh E tm v) H with
  | none=>rw[hw]at h;cases h
  | some M' =>
    rw[hw]at h
    cases h
    unfold Yj at hw
    split at hw
    · split at hw
      · rename_i id _ hm
        simp only[Zh9,hm]at hb ⊢
        split at hw
        · split at hw
          · split at hw
            · exact put hw b hb
            · exact put hw b hb
            · cases hw
          · cases hw
        · cases hw
      · cases hw
    · cases hw
 case call c=>
  obtain⟨cl,args,ats⟩:=c
  cases cl
  case builtin b=>cases b<;>(simp only[Y2]at hc;first|cases hc|(split at hc<;>cases hc))
  all_goals
   simp only[aOp]at h
   cases h
 case buildSlice t len parts=>
  have hc:(if own (dst.getD 0)=true then Cls.tk else Cls.sc)=Cls.st:=hc
  split at hc<;>cases hc
 all_goals simp only[Y2]at hc
 all_goals cases hc
theorem WR (ho:ops[i]? = some o):Y7 E own ops i=Y2 E own o:=by simp[Y7,Zm,ho]
theorem Zni (hc:YF E P call) {n0:Nat} {msk:Nat→List Nat} {H:Heap} (ho:ops[i]? = some o) (hw:Zf ops.toList (YZ t) o=some true) (h:Zsb E call own n0 (msk i) (some (tg i)) t o i H=some (p,H')):Hp E P own ops n0 (Y7 E own ops) tg msk i o (YZ t) H p H':=by
 have hci:=WR (E:=E) (own:=own) ho;unfold Zsb at h;cases hcl:Y2 E own o with
 |sc=>rw[hcl]at h;simp only at h;split at h;{rename_i p1 H1 h1;cases h;exact .sc _ _ hw fun M=> .op _ _ (Zfz hcl h1 M)};{cases h}
 |qu=>
  rw[hcl]at h hci;simp only at h;have gen:(match aOp E (own (o.dst.getD 0)) (Zh E (YZ t)) o.op (ZQ (msk i) H) with
   | some (p,_)=>some (p,H)
   | none=>none)=some (p,H')→Hp E P own ops n0 (Y7 E own ops) tg msk i o (YZ t) H p H':=fun h=>by
   split at h
   · rename_i p1 H1 h1
     cases h
     have e:=Zhc hcl h1
     subst e
     exact .qu _ _ hw hci (.op _ _ h1)
   · cases h
  split at h;{rename_i f args ats hop;split at h;{rename_i k caps hf;split at h;{cases h};{rename_i he;split at h;{rename_i p1 H1 h1;cases h;obtain⟨c1,c2⟩:=hc _ _ _ _ _ h1;have e:=c2 he;subst e;exact .qu _ _ hw hci (.call f args _ k caps _ _ hop hf c1)};{cases h}}};{cases h}};{exact gen h}
 |ld=>rw[hcl]at h hci;simp only at h;split at h;{rename_i p1 H1 h1;split at h;{rename_i hs;cases h;exact .ld _ _ hw hci fun K hK=> .op _ _ (Zfv hcl h1 hs hK)};{cases h}};{cases h}
 |tk=>rw[hcl]at h hci;simp only at h;split at h;{rename_i p1 M h1;split at h;{rename_i hl;cases h;exact .tk _ _ M hw hci (ZeH hc h1) (Nat.le_of_ble_eq_true hl)};{cases h}};{cases h}
 |ef=>rw[hcl]at h hci;simp only at h;split at h;{rename_i p1 M h1;split at h;{rename_i hl;cases h;exact .ef _ _ M hw hci (ZeH hc h1) (Nat.le_of_ble_eq_true hl)};{cases h}};{cases h}
 |al=>rw[hcl]at h hci;simp only at h;split at h;{rename_i hd;rw[Zm]at hd;split at h;{rename_i e hop;split at h;{rename_i ei he;split at h;{rename_i hz;cases h;exact .al _ e ei hw hci hop he hz.1 hz.2 hd};{cases h}};{cases h}};{rename_i e x hop;split at h;{rename_i hp;cases h;exact .bo _ e x hw hci hop hp hd};{cases h}};{cases h}};{cases h}
 |st=>rw[hcl]at h hci;simp only at h;split at h;{rename_i p1 M h1;split at h;{rename_i b hb;split at h;{rename_i hs;cases h;simp only[Bool.and_eq_true,Bool.not_eq_true']at hs;have e1:=Nat.eq_of_beq_eq_true hs.1;(have hM:M=Ym (ZQ (msk i) H) (tg i) b:=by rw[e1];exact ZlR hcl h1 hb);rw[hM]at h1;refine .st _ _ b hw hci (.op _ _ h1) fun hm=>?_;have:=List.any_eq_false.1 hs.2 _ hm;simp at this};{cases h}};{cases h}};{cases h}
end
section
variable {E:Env} {P:Program} {call:Qa} {own:Tmp→Bool} {n:Nat}
theorem ZmV {own:Tmp→Bool} {N:Nat} (hc:Y2 E own o= .ld):Zh9 E N tm o=N:=by
 obtain⟨dst,op,ty,pos,after,guard⟩:=o;cases op;case load t a=>rfl
 case call c=>
  obtain⟨cl,args,ats⟩:=c
  cases cl
  case builtin b=>cases b<;>(simp only[Y2]at hc;first|cases hc|(split at hc<;>cases hc))
  case value x=>
   cases x
   case func k=>
    simp only[Y2]at hc
    split at hc
    · split at hc
      · cases hc
      · split at hc<;>cases hc
    · cases hc
   all_goals
    simp only[Y2]at hc
    cases hc
  all_goals
   simp only[Y2]at hc
   cases hc
 case buildSlice t len parts=>
  have hc:(if own (dst.getD 0)=true then Cls.tk else Cls.sc)=Cls.ld:=hc
  split at hc<;>cases hc
 all_goals simp only[Y2]at hc
 all_goals cases hc
theorem U4 (hc : YF E P call) (hn : n ≤ 4000) {ops : Array Oper} {n0 : Nat} {tg : Nat → Nat} {msk : Nat → List Nat} : ∀(r : List Oper) (i : Nat) {t : Tr} {H : Heap} {t' : Tr} {H' : Heap}, r = ops.toList.drop i →
  Ub E call own n n0 msk (fun i=>some (tg i)) ops.toList r i t H=some (t',H')→Run E P own n ops n0 (Y7 E own ops) tg msk ((List.range ops.size).drop i) (YZ t) H (YZ t') H'
 | [], i, t, H, t', H', hr, h => by
   simp only[Ub]at h
   cases h
   have h1:ops.size≤i:=by
    rcases Nat.lt_or_ge i ops.size with h|h
    · have:=congrArg List.length hr;simp at this;omega
    · exact h
   rw[List.drop_eq_nil_of_le (by simpa using h1)]
   exact .nil _ _
 | o :: r, i, t, H, t', H', hr, h => by
   have ho:ops[i]? = some o:=by
    have:=congrArg List.head? hr
    simp[List.head?_drop]at this
    exact this.symm
   have hi:i<ops.size:=by
    rcases Nat.lt_or_ge i ops.size with h|h
    · exact h
    · rw[Array.getElem?_eq_none h]at ho;cases ho
   have hr':r=ops.toList.drop (i+1):=by
    have:=congrArg List.tail hr
    simpa using this
   have hd:(List.range ops.size).drop i=i::(List.range ops.size).drop (i+1):=by
    rw[List.drop_eq_getElem_cons (by simpa using hi)]
    simp
   rw[hd]
   simp only[Ub]at h
   split at h
   · cases h
   · rename_i hds
     have hds:=XT hds
     have hset:∀v,YZ (Zj0 t o.dst v)=ZN (YZ t) o.dst v:=fun v=>ZjG fun x hx=>Nat.lt_of_lt_of_le (hds x hx) hn
     split at h
     · rename_i hw
       split at h
       · rename_i p H1 hp
         have ih:=U4 hc hn r (i+1) hr' h
         rw[hset]at ih
         exact .cons i _ o _ _ p H1 _ _ ho hds (Zni hc ho hw hp) ih
       · cases h
     · rename_i hw
       have ih:=U4 hc hn r (i+1) hr' h
       rw[hset]at ih
       exact .cons i _ o _ _ unset H _ _ ho hds (.pass _ hw) ih
     · cases h
theorem Zh0 (hE:TOk E P) (hm:P.follows .mixedOrders=true) (hc:YF E P call) (hn:n≤4000) {ops:Array Oper} {H:Heap} {t':Tr} (h:Zfw E call own n ops t H=some (t',H')):Zhn E P own n ops (YZ t) H (YZ t') H':=by
 unfold Zfw at h;split at h
 ·rename_i hb;simp only[Bool.and_eq_true]at hb;split at h
  ·rename_i t1 _ _;split at h
   ·rename_i hst;have htg:∀k∈stL E own ops.toList 0,H.ro≤Zow E (H.bx.length+Wm E own ops) (YZ t1) ops k:=fun k hk=>Nat.le_of_ble_eq_true (List.all_eq_true.1 hst k hk);have hld:∀k,Y7 E own ops k= .ld→Zow E (H.bx.length+Wm E own ops) (YZ t1) ops k≤H.bx.length+Wm E own ops:=fun k hk=>by
     cases ho:nth ops.toList k with
     | none=>simp only[Y7,ho]at hk;cases hk
     | some o =>
       simp only[Y7,ho]at hk
       simp only[Zow,ho]
       rw[ZmV hk]
       exact Nat.le_refl _
    exact fun id g a w Q hr hq=>ZlS hE hm (ZfC hr.inv.ro hb.1 hb.2 htg hld) (U4 hc hn ops.toList 0 (by simp) h) id g a w Q hr hq
   {cases h}
  {cases h}
 {cases h}
theorem Zdw (hE:TOk E P) (hm:P.follows .mixedOrders=true) (hc:YF E P call) (hn:n≤4000):∀{t:Tr} {H:Heap} {ex:Ex} {t':Tr} {H':Heap},Ut E call own n fuel c t H=some (ex,t',H')→CodeTo E P own n c (YZ t) H ex (YZ t') H':=by
 induction c with
 |skip=>intro t H ex t' H' h;cases h;exact .skip _ _
 |region id ops draw=>
  intro t H ex t' H' h;cases draw with
  | false=>
   change(match Zef E call own n ops.toList ops.toList t H with
    | some (t',H')=>some (Ex.normal,t',H')
    | none=>none)=_ at h
   split at h;{rename_i t1 H1 h1;cases h;exact .region id ops _ _ _ _ (Zcu hc hn h1)};{cases h}
  | true=>
   change(match Zfw E call own n ops t H with
    | some (t',H')=>some (Ex.normal,t',H')
    | none=>none)=_ at h
   split at h;{rename_i t1 H1 h1;cases h;exact .draw id ops _ _ _ _ (Zh0 hE hm hc hn h1)};{cases h}
 |seq a b iha ihb=>
  intro t H ex t' H' h;change(match Ut E call own n fuel a t H with
   | some (.normal,t',H')=>Ut E call own n fuel b t' H'
   | r=>r)=_ at h
  split at h;{rename_i t1 H1 h1;exact .seq a b _ _ _ _ _ _ _ (iha h1) (ihb h)};{rename_i hx;refine .seqOut a b _ _ _ _ _ (iha h) fun e=>?_;subst e;exact hx _ _ h}
 |cond x a b iha ihb=>
  intro t H ex t' H' h;change(match Zh E (YZ t) x with
   | .bool true=>Ut E call own n fuel a t H
   | .bool false=>Ut E call own n fuel b t H
   | _=>none)=_ at h
  split at h;{rename_i hx;exact .cond x a b true _ _ _ _ _ hx (by simpa using iha h)};{rename_i hx;exact .cond x a b false _ _ _ _ _ hx (by simpa using ihb h)};{cases h}
 |block i a iha=>
  intro t H ex t' H' h;change(match Ut E call own n fuel a t H with
   | some (.exit j,t',H')=>if j=i then some (Ex.normal,t',H') else some (.exit j,t',H')
   | r=>r)=_ at h
  split at h;{rename_i j t1 H1 h1;split at h;{rename_i e;subst e;cases h;exact .blockOut _ a _ _ _ _ (iha h1)};{rename_i e;cases h;exact .block i a _ _ _ _ _ (iha h1) fun e'=>e (by cases e';rfl)}};{rename_i hx;refine .block i a _ _ _ _ _ (iha h) fun e=>?_;subst e;exact hx _ _ _ h}
 |loop a iha=>intro t H ex t' H' h;change Zbb (Ut E call own n fuel a) fuel t H=_ at h;exact Zdg iha h
 |rangeFunc f params assign body ih1 ih2=>intro t H ex t' H' h;cases h
 |exit i=>intro t H ex t' H' h;cases h;exact .exit i _ _
 |scope a iha=>intro t H ex t' H' h;cases h
 |label l=>intro t H ex t' H' h;cases h;exact .label l _ _
 |goto l=>intro t H ex t' H' h;cases h
 |ret=>intro t H ex t' H' h;cases h;exact .ret _ _
 |refuse w=>intro t H ex t' H' h;cases h
theorem Zjt (hE:TOk E P) (hm:P.follows .mixedOrders=true) (hF:FOk E P) (hZ:YF E P E.Z) (hc:YF E P call):YF E P (Zio E call fuel):=by intro f args H p H' h;unfold Zio at h;split at h;{rename_i fn hf;split at h;{rename_i c hb;obtain⟨hfn,hn⟩:=hF f fn c hf hb;split at h;{rename_i hlen;(have hlen:args.length<4000:=by have:=Nat.le_of_ble_eq_true hlen;omega);split at h;{rename_i heff;split at h;{rename_i ex t H1 hcode;have hcode:=Zdw hE hm hc hn hcode;rw[ZfW hlen]at hcode;split at h;{cases h};{rename_i hx;split at h;{rename_i vs hres;cases h;refine⟨WN hE hfn hcode (fun i e=>hx i e) hres,fun e=>?_⟩;rw[heff]at e;cases e};{cases h}}};{cases h}};{split at h;{rename_i ex t H1 hcode;have hcode:=Zdw hE hm hc hn hcode;rw[ZfW (by simpa using hlen)]at hcode;split at h;{cases h};{rename_i hx;split at h;{rename_i vs hres;split at h;{rename_i v hfr;cases h;exact⟨Q2 hE hfn hcode (fun i e=>hx i e) hres hfr,fun _=>rfl⟩};{cases h}};{cases h}}};{cases h}}};{cases h}};{cases h}};{exact hZ _ _ _ _ _ h}
theorem ZpF (hE:TOk E P) (hm:P.follows .mixedOrders=true) (hF:FOk E P) (hZ:YF E P E.Z) {fuel:Nat}:∀k,YF E P (ev E fuel k)
 |0=>fun f args H p H' h=>by cases h
 |k+1=>Zjt (call:=ev E fuel k) hE hm hF hZ (ZpF hE hm hF hZ k)
end
def hNil:Heap:={bx:=[],ro:=0,live:=[],nt:=0}
def Zof (g:Gh):Gh:={S:=g.S,σ:=fun _=>none,τ:=fun _=>none,κ:=fun _=>0,mono:=g.mono}
section
variable {E:Env} {P:Program} {g:Gh} {H:Heap} {w:World}
theorem Xy {id:Nat} (h:hNil.liveAt id):False:=by obtain⟨b,hb,_⟩:=h;simp[hNil]at hb
theorem WL (g:Gh) (b:Nat):Shut g hNil b:=⟨fun _ _ h=>(Xy h).elim,fun t lo hi h=>by simp[hNil]at h⟩
theorem Zla (hi:Inv g H w):Inv (Zof g) hNil w where
 st:=hi.st
 bx id es el h:=by simp[hNil]at h
 mp id es h:=by simp[hNil]at h
 sp id T cs h:=by simp[hNil]at h
 inj i j b h:=(Xy h).elim
 sd _ _:=rfl
 td _ _:=rfl
 tk t b lo hi' h:=by simp[hNil]at h
 tinj t t' b lo hi' lo' hi2 h:=by simp[hNil]at h
 nd:=List.nodup_nil
 lt t h:=by simp[hNil]at h
 sz id b h:=by simp[Zof]at h
 ro:=Nat.le_refl _
 rm id b c T m h:=(Xy h).elim
theorem Zes (hi:Inv g H w) (k:Keep (Zof g) hNil w g' H' w'):Inv (WW g w w') H w'∧Keep g H w (WW g w w') H w'∧∀b o v,g'.S b o=some v→w'.cell? ⟨b,o,none⟩=some v→(WW g w w').S b o=some v:=by
 have hh:∀b,b<w.heap.size→w'.heap[b]? = w.heap[b]? :=fun b hb=>k.heap b hb (WL _ b);have hS:∀b o,b<w.heap.size→(WW g w w').S b o=g.S b o:=fun b o hb=>by simp[WW,hb]
 have hle:g.Le (WW g w w'):=⟨fun b o v h=>by rw[hS b o (hi.S_lt h)];exact h,fun _ _ h=>h,fun _ _ h=>h,fun _ _ _=>rfl,rfl⟩;refine⟨⟨?_,?_,?_,?_,hi.inj,hi.sd,hi.td,?_,hi.tinj,hi.nd,hi.lt,?_,hi.ro,fun id b c T m h1 h2 h3=>hi.rm id b c T m h1 h2 (by rw[← hh b (hi.sz _ _ h2)];exact h3)⟩,⟨hle,fun b hb _=>hh b hb,fun b hb _ o=>hS b o hb,k.size,?_,?_,rfl,Nat.le_refl _,fun _ _=>rfl,Nat.le_refl _,fun _ h=> .inl h,fun _ _ _ h=>h,fun _ _ h=>h,k.so⟩,?_⟩;{intro b o v h;by_cases hb:b<w.heap.size;{rw[hS b o hb]at h;rw[cell_of_heap (hh b hb)];exact hi.st _ _ _ h};{simpa[WW,hb] using h}};{intro id es el h;obtain⟨b,c,T,h1,h2,h3,h4,h5,h6⟩:=hi.bx id es el h;have hb:=hi.sz _ _ h1;exact⟨b,c,T,h1,by rw[hh b hb];exact h2,h3,h4,fun i hi' j hj=>let ⟨v,e,x⟩:=h5 i hi' j hj;⟨v,e,x.mono hle⟩,fun o=>by rw[hS b o hb];exact h6 o⟩};{intro id es h;obtain⟨b,c,T,h1,h2,h3,h4,h5⟩:=hi.mp id es h;have hb:=hi.sz _ _ h1;exact⟨b,c,T,h1,by rw[hh b hb];exact h2,h3,fun i hi'=>let ⟨e,a,x,y⟩:=h4 i hi';⟨e,a,x.mono hle,y.mono hle⟩,fun o=>by rw[hS b o hb];exact h5 o⟩};{intro id T cs h;obtain⟨b,c,h1,h2,h3,h4,h5⟩:=hi.sp id T cs h;have hb:=hi.sz _ _ h1;exact⟨b,c,h1,by rw[hh b hb];exact h2,h3,fun j hj=>let ⟨v,e,x⟩:=h4 j hj;⟨v,e,x.mono hle⟩,fun o=>by rw[hS b o hb];exact h5 o⟩}
 ·intro t b lo hi' h1 h2;obtain⟨⟨c,T,h3,h4⟩,h5,h6⟩:=hi.tk t b lo hi' h1 h2;have hb:b<w.heap.size:=by rcases Nat.lt_or_ge b w.heap.size with h|h;{exact h};{simp[Array.getElem?_eq_none h]at h3}
  exact⟨⟨c,T,by rw[hh b hb];exact h3,h4⟩,fun o ho=>by rw[hS b o hb];exact h5 o ho,h6⟩
 {intro id b h;exact Nat.lt_of_lt_of_le (hi.sz _ _ h) k.size};{intro id b h h';rw[show(WW g w w').σ id=g.σ id from rfl,h]at h';cases h'};{intro t b lo hi' h h';rw[show(WW g w w').τ t=g.τ t from rfl,h]at h';cases h'};{intro b o v h h';by_cases hb:b<w.heap.size;{have:=k.store b hb (WL _ b) o;rw[hS b o hb,show g.S b o=(Zof g).S b o from rfl, ← this];exact h};{simpa[WW,hb] using h'}}
def frzG:PV→Option PV
 | .agg cs=>match Vn cs with|some cs'=>some (.agg cs')|none=>none
 | .fn f []=>some (.fn f [])
 |v=>frz1 v
def ZH:List PV→Option (List PV)
 | []=>some []
 | v :: r => match frzG v with
   | some v' => match ZH r with
     | some r'=>some (v'::r')
     | none=>none
   | none=>none
theorem Zao {p':PV} {v:Value} (h:V g p v) (hf:frzG p=some p'):V0 g.S p' v:=by
 unfold frzG at hf;split at hf;{rename_i cs;split at hf;{rename_i cs' hc;cases hf;obtain⟨vs,hl,rfl,hv⟩:=h.agg_inv;obtain⟨h1,h2⟩:=ZaA hc;exact .agg _ _ (by omega) fun i hi=>Ul (hv i (by omega)) (h2 i (by omega) hi)};{cases hf}}
 ·cases hf;cases h with
  | pure _ _ h=>exact h
  | fn _ _ vs hl _=>have:vs= #[]:=Array.size_eq_zero_iff.1 hl;subst this;exact .fn _ _ _ rfl fun i hi=>absurd hi (by simp)
 {exact Ul h hf}
theorem X8:∀{ps ps':List PV},ZH ps=some ps'→ps'.length=ps.length∧∀i (hi:i<ps.length) (hi':i<ps'.length),frzG ps[i]=some ps'[i]
 | [],ps',h=>by simp only[ZH,Option.some.injEq]at h;subst h;exact⟨rfl,fun i hi=>absurd hi (by simp)⟩
 |p::ps,ps',h=>by
  simp only[ZH]at h;split at h
  ·rename_i p' hp;split at h
   ·rename_i r hr;cases h;obtain⟨h1,h2⟩:=X8 hr;refine⟨by simp[h1],fun i hi hi'=>?_⟩;cases i with
    | zero=>exact hp
    | succ i=>exact h2 i (by simpa using hi) (by simpa using hi')
   {cases h}
  {cases h}
theorem Xs {args':List PV} {r':PV} (h:CallOk E P f args' hNil r H') (ha:ZH args=some args') (hf:frz3 0 H' r=some r') (H:Heap):CallOk E P f args H r' H:=by
 intro g w vals hi hg hv;obtain⟨l1,l2⟩:=X8 ha;have hv':VL (Zof g) args' vals.toList:=⟨by rw[l1];exact hv.1,fun i h1 h2=>V.pure (g:=Zof g) _ _ (show V0 g.S _ _ from Zao (hv.2 i (by omega) h2) (l2 i (by omega) h1))⟩;refine UponCall.mono (fun v w' ⟨g',hp,hi',k⟩=>?_) (h (Zof g) w vals (Zla hi) hg hv');obtain⟨i1,k1,hS⟩:=Zes hi k;have hq:V0 (WW g w w').S r' v:=Zjv hi' (fun b o v h=>hS b o v h (hi'.st _ _ _ h)) (fun id b o v _ hσ hcell=>by
  have hb:w.heap.size≤b:=(k.new id b rfl hσ).elim (fun h=>h) fun ⟨_,_,a,_⟩=>(Xy a).elim
  simp[WW,Nat.not_lt.2 hb,hcell]) hp hf
 exact⟨WW g w w',.pure _ _ hq,i1,k1⟩
theorem CallOk.env {E':Env} (hG:E'.G=E.G) (hI:E'.I=E.I:=by exact rfl) (hm:E'.mono=true→E.mono=true:=by exact fun h=>h) {H:Heap} (h:CallOk E P f args H r H'):CallOk E' P f args H r H':=
 fun g w vals hi hg hv=>h g w vals hi ⟨fun k cs e=>hg.1 k cs (by rw[hG];exact e),fun m=>hm (hg.2.1 m),fun k q hk=>hg.2.2 k q (by rw[hI];exact hk)⟩ hv
end
mutual
def eqP:PV→PV→Bool
 | .bool a,.bool b=>match a,b with|true,true=>true|false,false=>true|_,_=>false
 | .int k n,.int k' m=>decide (k=k')&&decide (n=m)
 | .str s,.str t=>decide (s=t)
 | .nilp,.nilp=>true
 | .nils,.nils=>true
 | .nilm,.nilm=>true
 | .nilf,.nilf=>true
 | .nili,.nili=>true
 | .ifc,.ifc=>true
 | .sl .none es el,.sl .none es' el'=>Nat.beq es es'&&ZgD el el'
 | .agg cs,.agg cs'=>Zg7 cs cs'
 | .tup cs,.tup cs'=>Zg7 cs cs'
 |_,_=>false
def Zg7:List PV→List PV→Bool
 | [],[]=>true
 |a::r,b::s=>eqP a b&&Zg7 r s
 |_,_=>false
def ZgD:List (List PV)→List (List PV)→Bool
 | [],[]=>true
 |a::r,b::s=>Zg7 a b&&ZgD r s
 |_,_=>false
end
theorem Zmf (a:PV):∀b,eqP a b=true→a=b:=by
 refine @PV.rec (fun a=>∀b,eqP a b=true→a=b) (fun l=>∀m,Zg7 l m=true→l=m) (fun l=>∀m,ZgD l m=true→l=m) ?bool ?int ?str ?nilp ?ptr ?fptr ?nils ?sl ?own ?nilm ?map ?nilf ?nili ?ifc ?fn ?agg ?tup ?undef ?n2 ?c2 ?n3 ?c3 a;case bool=>intro x b h;cases b<;>simp[eqP]at h;rename_i y;cases x<;>cases y<;>simp at h ⊢
 case int=>intro k n b h;cases b<;>simp[eqP]at h;simp[h]
 case str=>intro t b h;cases b<;>simp[eqP]at h;simp[h]
 case nilp=>intro b h;cases b<;>first|rfl|simp[eqP]at h
 case nils=>intro b h;cases b<;>first|rfl|simp[eqP]at h
 case nilm=>intro b h;cases b<;>first|rfl|simp[eqP]at h
 case nilf=>intro b h;cases b<;>first|rfl|simp[eqP]at h
 case nili=>intro b h;cases b<;>first|rfl|simp[eqP]at h
 case ifc=>intro b h;cases b<;>first|rfl|simp[eqP]at h
 case sl=>
  intro t es el ih b h
  cases b with
  | sl t' es' el' =>
    cases t<;>cases t'<;>simp only[eqP,Bool.false_eq_true]at h
    simp only[Bool.and_eq_true]at h
    rw[Nat.eq_of_beq_eq_true h.1,ih el' h.2]
  | _=>cases t<;>simp[eqP]at h
 case agg=>
  intro cs ih b h
  cases b with
  | agg cs' =>
    simp only[eqP]at h
    rw[ih cs' h]
  | _=>simp[eqP]at h
 case tup=>
  intro cs ih b h
  cases b with
  | tup cs' =>
    simp only[eqP]at h
    rw[ih cs' h]
  | _=>simp[eqP]at h
 case n2=>intro b h;cases b<;>first|rfl|simp[Zg7]at h
 case c2=>
  intro x r i1 i2 b h
  cases b with
  | nil=>simp[Zg7]at h
  | cons y s =>
    simp only[Zg7,Bool.and_eq_true]at h
    rw[i1 y h.1,i2 s h.2]
 case n3=>intro b h;cases b<;>first|rfl|simp[ZgD]at h
 case c3=>
  intro x r i1 i2 b h
  cases b with
  | nil=>simp[ZgD]at h
  | cons y s =>
    simp only[ZgD,Bool.and_eq_true]at h
    rw[i1 y h.1,i2 s h.2]
 all_goals intros;rename_i h;simp[eqP]at h
structure Fact where
 f:FuncId
 args:List PV
 r:PV
def Zh4 (E:Env) (fuel k:Nat) (f:FuncId) (args:List PV):Option PV:=
 match ZH args with
 | some args' => match ev E fuel k f args' hNil with
   | some (r,H')=>frz3 0 H' r
   | none=>none
 |none=>none
section
variable {E:Env} {P:Program}
def FactOk (E:Env) (P:Program) (x:Fact):Prop:=∀H,CallOk E P x.f x.args H x.r H
theorem Znh (hE:TOk E P) (hm:P.follows .mixedOrders=true) (hF:FOk E P) (hZ:YF E P E.Z) (h:Zh4 E fuel k f args=some r):FactOk E P ⟨f,args,r⟩:=by unfold Zh4 at h;split at h;{rename_i args' ha;split at h;{rename_i r0 H' hev;exact Xs (ZpF hE hm hF hZ k _ _ _ _ _ hev).1 ha h};{cases h}};{cases h}
theorem FactOk.env {E':Env} (hG:E'.G=E.G) (hI:E'.I=E.I:=by exact rfl) (hm:E'.mono=true→E.mono=true:=by exact fun h=>h) {x:Fact} (h:FactOk E P x):FactOk E' P x:=fun H=>(h H).env hG hI hm
end
inductive Tri (α:Type) where
 |leaf
 |node (v:Option α) (l r:Tri α)
noncomputable def Tri.get (t:Tri α):Nat→Option α:=
 Tri.rec (motive:=fun _=>Nat→Option α) (fun _=>none)
  (fun v _ _ il ir n=>Nat.rec (motive:=fun _=>Option α) v (fun m _=>Nat.rec (motive:=fun _=>Option α) (il (m / 2)) (fun _ _=>ir (m / 2)) (m % 2)) n) t
structure FnE (P:Program) where
 f:FuncId
 fn:Func
 c:Code
 ok:FnOk P f fn c
 n:Nat.ble fn.ntmps 4000=true
structure TiE (P:Program) where
 t:TypeId
 ti:TI
 ok:Zpl P t=some ti
section
variable {P:Program}
def Zs5 (t:Tri (FnE P)) (f:FuncId):Option Func:=match t.get f with
 |some e=>match Nat.beq e.f f with|true=>some e.fn|false=>none
 |none=>none
def ZrB (t:Tri (TiE P)) (f:TypeId):Option TI:=match t.get f with
 |some e=>match Nat.beq e.t f with|true=>some e.ti|false=>none
 |none=>none
theorem ZmY {t:Tri (FnE P)} {fn:Func} (h:Zs5 t f=some fn) (hb:fn.body=some c):FnOk P f fn c∧fn.ntmps≤4000:=by unfold Zs5 at h;split at h;{rename_i e _;split at h;{rename_i he;cases h;have:=Nat.eq_of_beq_eq_true he;subst this;have hc:=e.ok.body;rw[hb]at hc;cases hc;exact⟨e.ok,Nat.le_of_ble_eq_true e.n⟩};{cases h}};{cases h}
theorem Zd4 {t:Tri (TiE P)} {f:TypeId} {ti:TI} (h:ZrB t f=some ti):Zpl P f=some ti:=by unfold ZrB at h;split at h;{rename_i e _;split at h;{rename_i he;cases h;have:=Nat.eq_of_beq_eq_true he;subst this;exact e.ok};{cases h}};{cases h}
def VY (E:Env) (fuel k:Nat) (x:Fact):Bool:=match Zh4 E fuel k x.f x.args with
 |some r=>eqP r x.r
 |none=>false
theorem XB {E:Env} (hE:TOk E P) (hm:P.follows .mixedOrders=true) (hF:FOk E P) (hZ:YF E P E.Z) {x:Fact} (h:VY E fuel k x=true):FactOk E P x:=by unfold VY at h;split at h;{rename_i r hr;have:=Zmf _ _ h;subst this;exact Znh hE hm hF hZ hr};{cases h}
end
