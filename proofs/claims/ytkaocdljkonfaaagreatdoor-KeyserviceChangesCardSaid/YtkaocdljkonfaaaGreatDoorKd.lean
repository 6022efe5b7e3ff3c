/-
  Copies of all terms of a list: the program's slice under construction. A service with one more entry, the program's way. A service with one more entry
-/
import Derived.Test.YtkaocdljkonfaaaGreatDoorJk
import Derived.Test.YtkaocdljkonfaaaGreatDoorFk
set_option maxHeartbeats 64000000
set_option maxRecDepth 100000
namespace Go.Vm.Seat
variable {f:FuncId} {args:List PV} {H H':Heap} {out r:PV} {es nt:Nat} {L:List (List PV)} {lv:List Nat} {s:Sv} {name:Bs} {key:Tm} {u:Int}
open Go.Proofs
noncomputable def E6:Env:={E0 with eff:=fun f=>E0.eff f||Nat.beq f 122}
theorem Zn4:TOk E6 Tryz.prog:=⟨fun _ _ h=>ZcC h⟩
theorem ZmW (h:CallOk E0 Tryz.prog f args H r H'):CallOk E6 Tryz.prog f args H r H':=h.env rfl
theorem ZvE (h:CallOk E6 Tryz.prog f args H r H'):CallOk E0 Tryz.prog f args H r H':=h.env rfl
theorem ZhH {b:Bool} {n:Nat} (h:ApV b es L out lv nt):under n out=true:=by cases h<;>rfl
theorem Zu3 {l:List Tm} (hl:∀ t,t∈l→t.Ok∧t.size≤100000) (hll:l.length≤1000) (b:Bool) (lv:List Nat) (nt:Nat):∃ out H',CallOk E6 Tryz.prog 122 [slV b 4 (Za l)] ⟨[],0,lv,nt⟩ out H'∧∃ lv' nt',H'=⟨[],0,lv',nt'⟩∧ApV true 4 (Za (clL l)) out lv' nt':=by
 have hln:=Zb l
 refine ZW (own:=fun _=>false) Zn4 fe122.ok ?_
 refine Wp.seq ?_
 repeat' first|refine Jl ?_|refine Jo ?_|fail
 refine Wp.while (fun m tm H => ∃ (i : Nat) (base : TM) (out : PV) (lv : List Nat) (nt : Nat), i + m = l.length ∧ ApV true 4 (Za (clL (l.take i))) out lv nt ∧
   tm=ovr base [(3,out),(6,slV b 4 (Za l)),(7,.int .i64 (l.length:Int)),(8,.int .i64 (i:Int))]∧H=⟨[],0,lv,nt⟩)
  (fun m tm H hI=>Wp.drop ?_) l.length _ _ ⟨0,_,_,_,_,by omega,.nil _ _ rfl,Zi ⟨rfl,rfl,Zh (by rw [hln]),rfl,trivial⟩,rfl⟩
 obtain ⟨i,base,out,lv,nt,hi,hA,rfl,rfl⟩:=hI
 by_cases hlt:i<l.length
 · obtain ⟨t', ht'⟩ : ∃ t', l[i]? = some t' := ⟨l[i], by simp⟩
   have hm:=hl t' (List.mem_of_getElem? ht')
   have hs:=QS ht'
   have hc:=fun H=>ZmW (c33 hm.1 hm.2 H)
   have hlen1:(clL (l.take i)).length≤l.length:=by
    rw [Vj,List.length_take];omega
   obtain ⟨out',lv',nt',hap,hA', -⟩:=hA.app (E:=E6) (t:=22) (u:=22) (by_:=56) ⟨_,_,_,_,_,rfl,rfl,rfl,rfl,rfl,rfl,rfl,by decide,rfl⟩ (.sl .full 4 (Za [t'.cl])) (Zs _) (ZZ (by simp only [Zb,List.length_cons,List.length_nil];omega) (by decide)) (ZB _)
   rw [← Zl, ← hs] at hA'
   obtain ⟨kc,nc,sc,bc,lc,ec⟩:∃ kc nc sc bc lc,t'.cl= .mk kc nc sc bc lc:=by
    obtain ⟨k',nm',s',b',kids'⟩:=t'
    exact ⟨_,_,_,_,_,rfl⟩
   rw [ec] at hc hap
   rw [XT] at hap
   obtain ⟨kt,rfl⟩:=W7 hA' (by rw [hs,Zl,ZT];simp)
   obtain ⟨k',nm',s',b',kids'⟩:=t'
   have hj:=Zk ht'
   repeat' first|refine Jc (hc _) ?_|refine Js ?_|refine JA ?_|refine Jx ?_|refine Jz ?_ ?_|refine Jo ?_|intro hb
   · exact DropQ.go [(3, .sl (.tok kt) 4 (Za (clL (l.take (i + 1))))), (6, slV b 4 (Za l)), (7, .int .i64 (l.length : Int)), (8, .int .i64 ((i + 1 : Nat) : Int))] ⟨rfl, rfl, rfl, Zh (Ze (n := i + 1) (by omega)), trivial⟩
       (by simp [Zm,under]) rfl rfl (LoopI.go (m-1) (by omega) ⟨i+1,_,_,lv',nt',by omega,hA',rfl,rfl⟩)
   · exfalso;simp at hb;omega
 · have e : i = l.length := by omega
   subst e
   rw [List.take_length] at hA
   repeat' first|refine Jz ?_ ?_|refine Jo ?_|intro hb
   · exfalso;simp at hb
   · exact RetR.ret rfl ⟨_,_,rfl,hA⟩
open Go.Proofs
def cpE (e:En):En:=⟨e.name,e.key.cl,e.idx⟩
def Zhj (s:Sv) (name:Bs) (key t:Tm) (u:Int):Sv:=⟨s.name,s.key.cl,false,clL s.log++ [t],false,if u=0 then (s.keys.map cpE).filter (Yd name) else UN (s.keys.map cpE) name key s.log.length⟩
def Za5 (s:Sv) (name:Bs) (key:Tm) (u:Int):Sv×Int:=if ((Zj name key s.log.length u).issue s.key).2≠0 then (svZero,3) else
 if svP (Zhj s name key ((Zj name key s.log.length u).issue s.key).1 u)≠0 then (svZero,3) else (Zhj s name key ((Zj name key s.log.length u).issue s.key).1 u,0)
theorem Zoy {S:Nat} {L:List En} (h:Wz S L):Wz S (L.map cpE):=fun e he=>by
 obtain ⟨a,ha,rfl⟩:=List.mem_map.1 he
 obtain ⟨⟨q1,q2⟩,q3⟩:=h a ha
 exact ⟨⟨Vi q1,by show a.key.cl.size≤S;rw [YK];exact q2⟩,q3⟩
theorem ZeC {L:List En} (h:Vo L):Vo (L.map cpE):=fun i j a b hij ha hb=>by
 rw [List.getElem?_map] at ha hb
 cases h1:L[i]? with
 |none=>rw [h1] at ha;cases ha
 | some x =>
   cases h2:L[j]? with
   | none=>rw [h2] at hb;cases hb
   | some y =>
     rw [h1] at ha
     rw [h2] at hb
     cases ha
     cases hb
     exact h i j x y hij h1 h2
theorem ZhZ (h:SvOk s) (hl:s.log.length≤32) {t:Tm} (hn:name.length≤1000) (hk:key.Ok) (hks:key.size≤900) (ht:t.Ok) (hts:t.size≤900) (hel:s.keys.length≤900):SvOk (Zhj s name key t u):=by
 have hm:∀ v,v∈clL s.log++ [t]→v.Ok∧v.size≤900:=fun v hv=>by
  simp only [List.mem_append,List.mem_singleton] at hv
  rcases hv with hv|rfl
  · rw [Zaa] at hv
    obtain ⟨a,ha,rfl⟩:=List.mem_map.1 hv
    exact ⟨Vi (h.l a ha),by rw [YK];exact h.ls a ha⟩
  · exact ⟨ht,hts⟩
 have hE:Wz 900 (s.keys.map cpE):=Zoy h.e
 have hlen:(clL s.log++ [t]).length=s.log.length+1:=by simp [Vj]
 refine ⟨h.n,Vi h.k,by show s.key.cl.size≤_;rw [YK];exact h.ks,fun v hv=>(hm v hv).1,fun v hv=>(hm v hv).2,by show (clL s.log++ [t]).length≤40;omega,?_,?_⟩
 · show Wz 900 (if u = 0 then _ else _)
   split
   · exact QG hE _
   · exact ZdI hE hn hk hks _
 · show (if u = 0 then _ else _ : List En).length ≤ 1000
   split
   · have := List.length_filter_le (Yd name) (s.keys.map cpE)
     rw [List.length_map] at this
     omega
   · have := Zi4 (s.keys.map cpE) name key s.log.length
     rw [List.length_map] at this
     omega
theorem Zor (s:Sv) (name:Bs) (t:Tm) (u:Int):ZC [.agg s.cells,.str name,.agg t.cells,.int .i64 u]=some [.agg s.cells,.str name,.agg t.cells,.int .i64 u]:=by
 obtain ⟨sn,⟨k,nm,z,b,kids⟩,lb,log,kb,keys⟩:=s
 obtain ⟨k2,nm2,z2,b2,kids2⟩:=t
 simp only [Sv.cells,Tm.cells,List.cons_append,List.nil_append,ZC,frzG,Xm,Zu]
 rfl
theorem Zgg (h:ApV true es L out lv nt) {rest:List PV} (hr:ZC rest=some rest) (hc:∀ b,∀ H,CallOk E6 Tryz.prog f (slV b es L::rest) H r H):∀ H,CallOk E6 Tryz.prog f (out::rest) H r H:=by
 cases h with
 |nil _ _ _=>exact fun H=>by have:=hc true H;rw [Zq] at this;exact this
 |full _ _ _ h=>cases h
 | tok L k =>
   intro H
   have:=hc false H
   rw [Z1] at this
   refine Z9 this ?_
   simp only [ZC] at hr ⊢
   rw [hr]
   rfl
open Go.Proofs
theorem ZkM (h:ApV true 6 L out lv nt) (hL:L≠ []):∃ k,out= .sl (.tok k) 6 L:=by
 cases h with
 |nil=>exact absurd rfl hL
 |full _ _ _ h=>cases h
 |tok L k=>exact ⟨k,rfl⟩
theorem Zql (h:∀ H,CallOk E6 Tryz.prog f args H r H):∀ H,CallOk E0 Tryz.prog f args H r H:=fun H=>ZvE (h H)
theorem c71 (h:SvOk s) (hl:s.log.length≤32) (hel:s.keys.length≤800) (hO:Vo s.keys) (hn:name.length≤1000) (hk:key.Ok) (hks:key.size≤700) (hs2:s.key.size≤50) (hu:u=0→s.keys≠ []):∀ H,CallOk E0 Tryz.prog 71 [.agg s.cells,.str name,.agg key.cells,.int .i64 u] H (.tup [.agg (Za5 s name key u).1.cells,.int .i64 (Za5 s name key u).2]) H:=by
 have ci:=fun H=>ZmW (c58 (name:=name) (key:=s.key) (pub:=key) hn h.k (by have:=h.ks;omega) hk (by omega) (s.log.length:Int) u H)
 have hio:=Yv (x:=Zj name key s.log.length u) (key:=s.key) hk h.k
 have hio2:((Zj name key s.log.length u).issue s.key).1.size≤900:=by
  have:=hio.2
  simp only [Zj] at this ⊢
  omega
 have hOk:=ZhZ h hl (u:=u) hn hk (by omega) hio.1 hio2 (by omega)
 have cv:=fun H=>ZmW (c13 hOk H)
 have cc:=fun H=>ZmW (c33 h.k (by have:=h.ks;omega) H)
 have cE:=fun (e:En) (he:e∈s.keys) (H:Heap)=>ZmW (c33 (h.e e he).1.1 (by have:=(h.e e he).1.2;omega) H)
 obtain ⟨o1,H1,ca,lv1,nt1,rfl,A1⟩:=Zu3 (l:=s.log) (fun t ht=>⟨h.l t ht,by have:=h.ls t ht;omega⟩) (by omega) s.lb [] 0
 have ca:=fun bx=>ca.over (by simp [ZH,Zm]) bx bx.length
 have hlc:(clL s.log).length=s.log.length:=Vj _
 obtain ⟨o2,lv2,nt2,a2,A2, -⟩:=A1.app (E:=E6) (t:=22) (u:=22) (by_:=56) ⟨_,_,_,_,_,rfl,rfl,rfl,rfl,rfl,rfl,rfl,by decide,rfl⟩ (.sl .full 4 (Za [((Zj name key s.log.length u).issue s.key).1])) (Zs _) (ZZ (by simp only [Zb,List.length_cons,List.length_nil];omega) (by decide)) (ZB _)
 rw [← Zl] at A2
 obtain ⟨kt,rfl⟩:=W7 A2 (by rw [Zl,ZT];simp)
 rw [ZT] at a2
 have hu2:∀ n,under n o1=true:=fun n=>ZhH A1
 have hbd:XZ E6 27 [(0,.str s.name),(1,.agg s.key.cl.cells),(2,.sl (.tok kt) 4 (Za (clL s.log++ [((Zj name key s.log.length u).issue s.key).1])))]=some (.agg (.str s.name::(s.key.cl.cells++ [.sl (.tok kt) 4 (Za (clL s.log++ [((Zj name key s.log.length u).issue s.key).1])),.nils]))):=Zfp s.name s.key.cl _ rfl
 have hfz:=Zor s name key u
 have hln:=Zb s.log
 have e1:ZV E6 .neq 32 (.int .i64 ((Zj name key s.log.length u).issue s.key).2) (.int .i64 0)=some (.bool (decide (((Zj name key s.log.length u).issue s.key).2≠0))):=Ye _
 have hR:Za5 s name key u=if ((Zj name key s.log.length u).issue s.key).2≠0 then (svZero,3) else if svP (Zhj s name key ((Zj name key s.log.length u).issue s.key).1 u)≠0 then (svZero,3) else (Zhj s name key ((Zj name key s.log.length u).issue s.key).1 u,0):=rfl
 have hfr:=Yp 0 hNil (Za5 s name key u).1 (Za5 s name key u).2
 generalize Za5 s name key u=R at hR hfr ⊢
 generalize (Zj name key s.log.length u).issue s.key=I at ci cv a2 hbd e1 hR A2 hio hio2 hOk
 rw [← hln] at ci
 obtain ⟨T,ie⟩:=I
 simp only [] at ci cv a2 hbd e1 hR A2 hOk
 have hcx:(Zhj s name key T u).cells= .str s.name::(s.key.cl.cells++ [.sl .none 4 (Za (clL s.log++ [T])),.sl .none 6 (enC (if u=0 then (s.keys.map cpE).filter (Yd name) else UN (s.keys.map cpE) name key s.log.length))]):=by
  simp only [Zhj,Sv.cells,Z1]
 have hx:=hcx
 have e5:ZV E6 .neq 32 (.int .i64 (svP (Zhj s name key T u))) (.int .i64 0)=some (.bool (decide (svP (Zhj s name key T u)≠0))):=Ye _
 rw [hcx] at cv
 generalize svP (Zhj s name key T u)=V at cv e5 hR
 refine Zql ?_
 by_cases he:ie=0
 · rw [decide_eq_false (not_not_intro he)] at e1
   rw [if_neg (not_not_intro he)] at hR
   have hcc:∀ e,e∈s.keys→e.key.Ok:=fun e he=>(h.e e he).1.1
   clear hio hio2 h hs2
   generalize hXO:Zhj s name key T u=XO at hR hx hOk hcx
   generalize hKC:s.key.cl=KC at cc hbd cv hx hcx
   obtain ⟨k2,nm2,z2,bk2,kids2⟩:=key
   obtain ⟨sn,⟨k,nm,z,bk,kids⟩,lb,log,kb,keys⟩:=s
   obtain ⟨k3,nm3,z3,bk3,kids3⟩:=KC
   obtain ⟨k4,nm4,z4,bk4,kids4⟩:=T
   simp only [Sv.cells,Tm.cells,List.cons_append,List.nil_append] at ci cc ca a2 hbd hfz cv ⊢
   simp only [Tm.cells,List.cons_append,List.nil_append] at hx
   refine Zr (own:=(fun d=>[5039,5042,5062,30013].any (Nat.beq d))) Zn4 fe71.ok hfz hfr ?_
   refine Wp.seq ?_
   generalize Za (clL log++ [Tm.mk k4 nm4 z4 bk4 kids4])=LC at a2 hbd A2 cv hx
   repeat' first|refine Jc (ci _) ?_|refine Ji ?_|refine Jl ?_|refine Jo ?_|refine Jd (cc _) ?_|(apply dCt;rfl;rfl;rfl;rfl;rfl;exact (ca _))|(apply dAl;rfl;rfl;rfl;rfl;exact IsV.ptrM;exact IsH.mkN)|refine JB ?_|(apply dAq;rfl;rfl;rfl;rfl;rfl;rfl;(first|assumption|solve_by_elim))|(apply dBd;rfl;rfl;rfl;assumption;exact IsV.aggN;rfl)|refine Jh ?_|(apply dWB Zn4 follows;rfl;kernel_rfl;rfl;exact IsH.mkN)|fail
   have hen:=Z6 keys
   simp only [] at hln hel hcc hO hu hOk cE
   refine Wp.while (fun m tm H => ∃ (i : Nat) (base : TM) (out : PV) (lv : List Nat) (nt : Nat), i + m = keys.length ∧ ApV true 6 (enC ((keys.take i).map cpE)) out lv nt ∧
     tm=ovr base [(1,.str name),(3,.int .i64 u),(6,.ptr 1 4 0 0),(8,.ptr 2 7 0 0),(10,.int .i64 (log.length:Int)),(13,.ptr 16 7 0 0),(45,slV kb 6 (enC keys)),(46,.int .i64 (keys.length:Int)),(47,.int .i64 (i:Int))]∧H=⟨[.cells 7 [[.str sn,.int .i64 k,.str nm,.int .i64 z,slV bk 4 (Za kids),slV lb 4 (Za log),slV kb 6 (enC keys)]],.cells 4 [[.int .i64 k2,.str nm2,.int .i64 z2,slV bk2 4 (Za kids2)]],.cells 7 [[.str [],.int .i64 0,.str [],.int .i64 0,.nils,.nils,.nils]],.cells 4 [[.int .i64 k4,.str nm4,.int .i64 z4,slV bk4 4 (Za kids4)]],.dead,.dead,.dead,.dead,.dead,.dead,.dead,.dead,.dead,.dead,.dead,.dead,.cells 7 [[.str sn,.int .i64 k3,.str nm3,.int .i64 z3,slV bk3 4 (Za kids3),.sl (.tok kt) 4 LC,out]],.dead],0,lv,nt⟩)
    (fun m tm H hI=>Wp.drop ?_) keys.length _ _ ⟨0,_,.nils,lv2,nt2,by omega,.nil _ _ rfl,Zi ⟨rfl,rfl,rfl,rfl,Zh (by rw [hln]),rfl,rfl,Zh (by rw [hen]),rfl,trivial⟩,rfl⟩
   obtain ⟨i,base,out,lv,nt,hi,hA,rfl,rfl⟩:=hI
   by_cases hlt:i<keys.length
   · have hlx : ZV E6 .lss 3 (.int .i64 (i : Int)) (.int .i64 (keys.length : Int)) = some (.bool true) := We (by omega)
     obtain ⟨e,he⟩:∃ e,keys[i]? = some e:=⟨keys[i],by simp⟩
     have hce:=cE e (List.mem_of_getElem? he)
     have hj:=Xv he
     have hbe:XZ E6 60 [(0,.str e.name),(1,.agg e.key.cl.cells),(2,.int .i64 e.idx)]=some (.agg (cpE e).cells):=Zew e.name e.key.cl e.idx
     have hlen1:((keys.take i).map cpE).length≤keys.length:=by rw [List.length_map,List.length_take];omega
     obtain ⟨out',lv',nt',hap,hA', -⟩:=hA.app (E:=E6) (t:=25) (u:=25) (by_:=80) ⟨_,_,_,_,_,rfl,rfl,rfl,rfl,rfl,rfl,rfl,by decide,rfl⟩ (.sl .full 6 (enC [cpE e])) (Qp _) (ZZ (by simp only [Z6,List.length_cons,List.length_nil];omega) (by decide)) (Zcr _)
     have hs:(keys.take i).map cpE++ [cpE e]=(keys.take (i+1)).map cpE:=by simp [List.take_add_one,he]
     rw [← Uc,hs] at hA'
     obtain ⟨ke,rfl⟩:=ZkM hA' (by rw [← hs,Uc];simp [enC])
     have hone:enC [cpE e]= [(cpE e).cells]:=rfl
     rw [hone] at hap
     have hcpe:(cpE e).cells= .str e.name::(e.key.cl.cells++ [.int .i64 e.idx]):=rfl
     rw [hcpe] at hap hbe
     have hcel:(En.mk e.name e.key e.idx).cells= .str e.name::(e.key.cells++ [.int .i64 e.idx]):=rfl
     have hj:(enC keys)[i]? = some (.str e.name::(e.key.cells++ [.int .i64 e.idx])):=hj
     generalize e.key.cl=X at hce hbe hap
     obtain ⟨en,⟨k5,nm5,z5,bk5,kids5⟩,ei⟩:=e
     obtain ⟨k6,nm6,z6,bk6,kids6⟩:=X
     simp only [Tm.cells,List.cons_append,List.nil_append] at hce hbe hap hj
     have hlz:i<(enC keys).length:=by omega
     repeat' first|refine Ji ?_|refine Jx ?_|refine Jo ?_|refine Jd (hce _) ?_|refine JB ?_|(apply dAq;rfl;rfl;rfl;rfl;rfl;rfl;(first|assumption|solve_by_elim))|(apply dBd;rfl;rfl;rfl;assumption;exact IsV.aggN;rfl)|refine Jh ?_|(apply Wp.switch (fun d=>[5062].any (Nat.beq d));apply dWS Zn4 follows;rfl;kernel_rfl;rfl)|fail
     exact DropQ.go [(1,.str name),(3,.int .i64 u),(6,.ptr 1 4 0 0),(8,.ptr 2 7 0 0),(10,.int .i64 (log.length:Int)),(13,.ptr 16 7 0 0),(45,slV kb 6 (enC keys)),(46,.int .i64 (keys.length:Int)),(47,.int .i64 ((i+1:Nat):Int))] ⟨rfl,rfl,rfl,rfl,rfl,rfl,rfl,rfl,Zh (Ze (n:=i+1) (by omega)),trivial⟩
      (by simp [Zm,under]) rfl (by simp [YA,ZH,under,Zm]) (LoopI.go (m-1) (by omega) ⟨i+1,_,_,lv',nt',by omega,hA',rfl,rfl⟩)
   · have e : i = keys.length := by omega
     subst e
     rw [List.take_length] at hA
     have hlx:ZV E6 .lss 3 (.int .i64 (keys.length:Int)) (.int .i64 (keys.length:Int))=some (.bool false):=XS (by omega)
     have hml:(keys.map cpE).length≤800:=by rw [List.length_map];exact hel
     have e3:ZV E6 .eql 3 (.int .i64 u) (.int .i64 0)=some (.bool (decide (u=0))):=Zqv u 0
     by_cases hu0:u=0
     · rw [decide_eq_true hu0] at e3
       have cu:=Zgg hA (rest:=[.str name]) rfl (fun b H=>ZmW (Zlg (L:=keys.map cpE) (by simp [hu hu0]) (by omega) b name H))
       rw [if_pos hu0] at cv hx
       generalize hKe:enC _=KE at cu cv hx
       clear hKe
       have cvf:∀ H,CallOk E6 Tryz.prog 13 [.agg [.str sn,.int .i64 k3,.str nm3,.int .i64 z3,slV bk3 4 (Za kids3),.sl (.tok kt) 4 LC,.sl .none 6 KE]] H (.int .i64 V) H:=fun H=>Z9 (cv H) (by simp only [ZC,frzG,Xm,Zu];rfl)
       clear cv
       by_cases hv:V=0
       · rw [decide_eq_false (not_not_intro hv)] at e5
         have hR1:R.1.cells= [.str sn,.int .i64 k3,.str nm3,.int .i64 z3,slV bk3 4 (Za kids3),slV false 4 LC,.sl .none 6 KE]:=by rw [hR,if_neg (not_not_intro hv),Z1];exact hx
         have hR2:R.2=0:=by rw [hR,if_neg (not_not_intro hv)]
         repeat' first|refine Jc (cu _) ?_|refine Jc (cvf _) ?_|refine Ji ?_|refine Jo ?_|fail
         all_goals (show frz3 _ _ _=some (.tup [.agg R.1.cells,.int .i64 R.2]);rw [hR1,hR2];exact QT _ _ (.inr rfl))
       · rw [decide_eq_true hv] at e5
         have hR1:R.1.cells= [.str [],.int .i64 0,.str [],.int .i64 0,.nils,.nils,.nils]:=by rw [hR,if_pos hv];exact Zt
         have hR2:R.2=3:=by rw [hR,if_pos hv]
         repeat' first|refine Jc (cu _) ?_|refine Jc (cvf _) ?_|refine Ji ?_|refine Jo ?_|fail
         all_goals (show frz3 _ _ _=some (.tup [.agg R.1.cells,.int .i64 R.2]);rw [hR1,hR2];rfl)
     · rw [decide_eq_false hu0] at e3
       have cu:=Zgg hA (rest:=[.str name,.agg (Tm.mk k2 nm2 z2 bk2 kids2).cells,.int .i64 (log.length:Int)]) (by simp only [Tm.cells,ZC,frzG,Xm,Zu];rfl) (fun b H=>ZmW (c86 (L:=keys.map cpE) (by omega) (Wa (ZeC hO) _) hk (by omega) (log.length:Int) b H))
       simp only [Tm.cells] at cu
       rw [if_neg hu0] at cv hx
       generalize hKe:enC _=KE at cu cv hx
       clear hKe
       have cvf:∀ H,CallOk E6 Tryz.prog 13 [.agg [.str sn,.int .i64 k3,.str nm3,.int .i64 z3,slV bk3 4 (Za kids3),.sl (.tok kt) 4 LC,.sl .none 6 KE]] H (.int .i64 V) H:=fun H=>Z9 (cv H) (by simp only [ZC,frzG,Xm,Zu];rfl)
       clear cv
       by_cases hv:V=0
       · rw [decide_eq_false (not_not_intro hv)] at e5
         have hR1:R.1.cells= [.str sn,.int .i64 k3,.str nm3,.int .i64 z3,slV bk3 4 (Za kids3),slV false 4 LC,.sl .none 6 KE]:=by rw [hR,if_neg (not_not_intro hv),Z1];exact hx
         have hR2:R.2=0:=by rw [hR,if_neg (not_not_intro hv)]
         repeat' first|refine Jc (cu _) ?_|refine Jc (cvf _) ?_|refine Ji ?_|refine Jo ?_|fail
         all_goals (show frz3 _ _ _=some (.tup [.agg R.1.cells,.int .i64 R.2]);rw [hR1,hR2];exact QT _ _ (.inr rfl))
       · rw [decide_eq_true hv] at e5
         have hR1:R.1.cells= [.str [],.int .i64 0,.str [],.int .i64 0,.nils,.nils,.nils]:=by rw [hR,if_pos hv];exact Zt
         have hR2:R.2=3:=by rw [hR,if_pos hv]
         repeat' first|refine Jc (cu _) ?_|refine Jc (cvf _) ?_|refine Ji ?_|refine Jo ?_|fail
         all_goals (show frz3 _ _ _=some (.tup [.agg R.1.cells,.int .i64 R.2]);rw [hR1,hR2];rfl)
 · rw [decide_eq_true he] at e1
   rw [if_pos he] at hR
   have hR1:R.1.cells= [.str [],.int .i64 0,.str [],.int .i64 0,.nils,.nils,.nils]:=by rw [hR];exact Zt
   have hR2:R.2=3:=by rw [hR]
   clear hio hio2 h hks hs2 hOk cv A1 A2 ca hR cE hO hcx hx
   rw [hR1,hR2] at hfr ⊢
   obtain ⟨k2,nm2,z2,bk2,kids2⟩:=key
   obtain ⟨sn,⟨k,nm,z,bk,kids⟩,lb,log,kb,keys⟩:=s
   obtain ⟨k4,nm4,z4,bk4,kids4⟩:=T
   simp only [Sv.cells,Tm.cells,List.cons_append,List.nil_append] at ci hfz ⊢
   refine Zr (own:=(fun d=>[5039,5042,30013].any (Nat.beq d))) Zn4 fe71.ok hfz hfr ?_
   refine Wp.seq ?_
   repeat' first|refine Jc (ci _) ?_|refine Ji ?_|refine Jl ?_|refine Jo ?_|fail
   all_goals rfl
open Go.Proofs
theorem Zaw:∀ {L M:List En},enB L M=true→L.map En.name=M.map En.name
 | [],[],_=>rfl
 | [],_::_,h=>by simp [enB] at h
 |_::_,[],h=>by simp [enB] at h
 | a :: r, b :: s, h => by
   simp only [enB,Bool.and_eq_true,decide_eq_true_eq] at h
   rw [List.map_cons,List.map_cons,h.1,Zaw (L:=r) (M:=s) (by simp [h.2])]
theorem Zhu {L M:List En} (h:L.map En.name=M.map En.name) (hL:Vo L):Vo M:=fun i j a b hij ha hb=>by
 have q:∀ k,(L[k]?).map En.name=(M[k]?).map En.name:=fun k=>by rw [← List.getElem?_map, ← List.getElem?_map,h]
 have qa:=q i
 have qb:=q j
 rw [ha] at qa
 rw [hb] at qb
 cases h1:L[i]? with
 |none=>rw [h1] at qa;cases qa
 | some x =>
   cases h2:L[j]? with
   | none=>rw [h2] at qb;cases qb
   | some y =>
     rw [h1] at qa
     rw [h2] at qb
     simp only [Option.map_some,Option.some.injEq] at qa qb
     rw [← qa, ← qb]
     exact hL i j x y hij h1 h2
theorem Zcd (h:svV s=0):Vo s.keys:=Zhu (Zaw (ZcP h)) (XF s.log s.log.length (Nat.le_refl _)).2
theorem U0 (h:svV s=0):s.log.length≤32∧s.keys.length≤s.log.length:=by
 have h1:=Zaw (ZcP h)
 have h2:=congrArg List.length h1
 simp only [List.length_map] at h2
 have h3:=Vs s.log s.log.length
 unfold svV at h
 split at h; · cases h
 split at h; · cases h
 split at h; · cases h
 exact ⟨by omega,by omega⟩
theorem Zb6 (h:svV s=0) (hn:s.name.length≤1000):s.key.size≤50:=by
 unfold svV at h
 split at h; · cases h
 split at h; · cases h
 rename_i hk
 have hk:=Z0.1 (Classical.not_not.1 hk)
 have:=(Ua (name:=s.name) hn).2
 have e:s.key.cl.size=(skT s.name).cl.size:=by rw [hk]
 rw [YK,YK] at e
 omega
def Zbl (s:Sv) (name:Bs) (key:Tm) (new:Bool):Sv×Int:=if svP s≠0 then (svZero,svP s) else if (Zj name key s.log.length 9999).valid≠0 then (svZero,(Zj name key s.log.length 9999).valid) else
 if (new&&(ZI name s.keys).isSome)=true then (svZero,5) else if (!new&& !(ZI name s.keys).isSome)=true then (svZero,4) else
 if ((ZI name s.keys).isSome&&decide (((ZI name s.keys).getD enZero).key.cmp key=0))=true then (svZero,5) else Za5 s name key 9999
theorem ZmF (s:Sv) (name:Bs) (t:Tm) (b:Bool):ZC [.agg s.cells,.str name,.agg t.cells,.bool b]=some [.agg s.cells,.str name,.agg t.cells,.bool b]:=by
 obtain ⟨sn,⟨k,nm,z,b,kids⟩,lb,log,kb,keys⟩:=s
 obtain ⟨k2,nm2,z2,b2,kids2⟩:=t
 simp only [Sv.cells,Tm.cells,List.cons_append,List.nil_append,ZC,frzG,Xm,Zu]
 rfl
theorem c67 (h:SvOk s) (hn:name.length≤1000) (hk:key.Ok) (hks:key.size≤700) (new:Bool):∀ H,CallOk E0 Tryz.prog 67 [.agg s.cells,.str name,.agg key.cells,.bool new] H (.tup [.agg (Zbl s name key new).1.cells,.int .i64 (Zbl s name key new).2]) H:=by
 have cv:=c13 h
 have cc:=Zrz (Zj name key s.log.length 9999) (by simp only [Zj];omega) hk (by simp only [Zj];omega) (by simp [Zj]) (by simp [Zj]) (by simp [Zj]) (by simp [Zj])
 have cf:=c50 (L:=s.keys) (by have:=h.el;omega) s.kb name
 have hfk:=Zfs h.e name
 have cs:=c39 hfk.1 hk (by have:=hfk.2;omega) (by omega)
 have ca:svP s=0→∀ H,CallOk E0 Tryz.prog 71 [.agg s.cells,.str name,.agg key.cells,.int .i64 9999] H (.tup [.agg (Za5 s name key 9999).1.cells,.int .i64 (Za5 s name key 9999).2]) H:=fun e=>by
  rw [XV] at e
  exact c71 h (U0 e).1 (by have:=U0 e;omega) (Zcd e) hn hk hks (Zb6 e h.n) (fun e=>absurd e (by decide))
 have hfz:=ZmF s name key new
 have hfr:=fun m H=>Yp m H
 have hln:=Zb s.log
 have e1:=ZdC (svP s)
 have e2:=ZdC (Zj name key s.log.length 9999).valid
 unfold Zbl
 clear h hn hk hks hfk
 generalize svP s=V at cv e1 ca ⊢
 generalize (Zj name key s.log.length 9999).valid=W at cc e2 ⊢
 generalize Za5 s name key 9999=A at ca ⊢
 rw [Yy] at cc
 rw [← hln] at cc
 generalize (ZI name s.keys).getD enZero=F at cf cs ⊢
 generalize (ZI name s.keys).isSome=ok at cf ⊢
 generalize decide (F.key.cmp key=0)=D at cs ⊢
 obtain ⟨⟨an,⟨ak,anm,az,ab,akids⟩,alb,alog,akb,akeys⟩,ae⟩:=A
 obtain ⟨sn,⟨k,nm,z,b,kids⟩,lb,log,kb,keys⟩:=s
 obtain ⟨fn,⟨k1,nm1,s1,b1,kids1⟩,fi⟩:=F
 obtain ⟨k2,nm2,s2,b2,kids2⟩:=key
 simp only [] at cf hfr ⊢
 simp only [Sv.cells,En.cells,Tm.cells,List.cons_append,List.nil_append] at cv cc cf cs ca hfz
 rcases e1 with ⟨q1,e1⟩|⟨q1,e1⟩
 · rw [if_neg (not_not_intro q1)]
   have ca:=ca q1
   rcases e2 with ⟨q2,e2⟩|⟨q2,e2⟩
   · rw [if_neg (not_not_intro q2)]
     by_cases r1:(new&&ok)=true
     · rw [if_pos r1]
       simp only [Bool.and_eq_true] at r1
       obtain ⟨rfl,rfl⟩:=r1
       have hf:=fun m H=>hfr m H svZero 5
       simp only [Zt] at hf ⊢
       simp only [Sv.cells,Tm.cells,List.cons_append,List.nil_append]
       refine Jw tOk fe67.ok (hf 0 hNil) ?_ hfz
       repeat' first|(apply qCl;rfl;rfl;rfl;rfl;first|exact cv _|exact cc _|exact cf _)|refine Ji ?_|refine Jl ?_|refine Jt ?_|refine Jo ?_|fail
       all_goals exact hf _ _
     · rw [if_neg r1]
       by_cases r2:(!new&& !ok)=true
       · rw [if_pos r2]
         simp only [Bool.and_eq_true,Bool.not_eq_true'] at r2
         obtain ⟨rfl,rfl⟩:=r2
         have hf:=fun m H=>hfr m H svZero 4
         simp only [Zt] at hf ⊢
         simp only [Sv.cells,Tm.cells,List.cons_append,List.nil_append]
         refine Jw tOk fe67.ok (hf 0 hNil) ?_ hfz
         repeat' first|refine Jk ?_|(apply qCl;rfl;rfl;rfl;rfl;first|exact cv _|exact cc _|exact cf _)|refine Ji ?_|refine Jl ?_|refine Jt ?_|refine Jo ?_|fail
         all_goals exact hf _ _
       · rw [if_neg r2]
         by_cases r3:(ok&&D)=true
         · rw [if_pos r3]
           simp only [Bool.and_eq_true] at r3
           obtain ⟨rfl,rfl⟩:=r3
           obtain rfl:new=false:=by simpa using r1
           have hf:=fun m H=>hfr m H svZero 5
           simp only [Zt] at hf ⊢
           simp only [Sv.cells,Tm.cells,List.cons_append,List.nil_append]
           refine Jw tOk fe67.ok (hf 0 hNil) ?_ hfz
           repeat' first|refine Jk ?_|(apply qCl;rfl;rfl;rfl;rfl;first|exact cv _|exact cc _|exact cf _|exact cs _)|refine Ji ?_|refine Jl ?_|refine Jt ?_|refine Jo ?_|fail
           all_goals exact hf _ _
         · rw [if_neg r3]
           have hf:=fun m H=>hfr m H ⟨an,.mk ak anm az ab akids,alb,alog,akb,akeys⟩ ae
           simp only [Sv.cells,Tm.cells,List.cons_append,List.nil_append] at hf ⊢
           have hO:(new=true∧ok=false)∨(new=false∧ok=true∧D=false):=by
            revert r1 r2 r3
            cases new<;>cases ok<;>cases D<;>simp
           clear r1 r2 r3
           rcases hO with ⟨rfl,rfl⟩|⟨rfl,rfl,rfl⟩
           all_goals
            refine Jw tOk fe67.ok (hf 0 hNil) ?_ hfz
            repeat' first|refine Jk ?_|(apply qCl;rfl;rfl;rfl;rfl;first|exact cv _|exact cc _|exact cf _|exact cs _|exact ca _)|refine Ji ?_|refine Jl ?_|refine Jt ?_|refine Jo ?_|fail
           all_goals exact hf _ _
   · rw [if_pos q2]
     have hf:=fun m H=>hfr m H svZero W
     simp only [Zt] at hf ⊢
     simp only [Sv.cells,Tm.cells,List.cons_append,List.nil_append]
     refine Jw tOk fe67.ok (hf 0 hNil) ?_ hfz
     repeat' first|refine Jc (cv _) ?_|refine Jc (cc _) ?_|refine Ji ?_|refine Jl ?_|refine Jo ?_|fail
     all_goals exact hf _ _
 · rw [if_pos q1]
   have hf:=fun m H=>hfr m H svZero V
   simp only [Zt] at hf ⊢
   simp only [Sv.cells,Tm.cells,List.cons_append,List.nil_append]
   refine Jw tOk fe67.ok (hf 0 hNil) ?_ hfz
   repeat' first|refine Jc (cv _) ?_|refine Ji ?_|refine Jo ?_|fail
   all_goals exact hf _ _
end Go.Vm.Seat
