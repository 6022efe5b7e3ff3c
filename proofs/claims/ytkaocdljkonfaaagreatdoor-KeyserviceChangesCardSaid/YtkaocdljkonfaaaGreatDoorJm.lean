/-
  Register, Rotate and Revoke, the program's functions. Services that are the same but for nil-ness are valid alike; the changes of the program and of t
-/
import Derived.Test.YtkaocdljkonfaaaGreatDoorKd
import Derived.Test.YtkaocdljkonfaaaGreatDoorJs
set_option maxHeartbeats 64000000
set_option maxRecDepth 100000
namespace Go.Vm.Seat
variable {s:Sv} {name:Bs} {k k' key key' t t':Tm} {l m:List Tm} {u:Int}
open Go.Proofs
theorem c26 (h:SvOk s) (hn:name.length≤1000) (hk:key.Ok) (hks:key.size≤700):∀ H,CallOk E0 Tryz.prog 26 [.agg s.cells,.str name,.agg key.cells] H (.tup [.agg (Zbl s name key true).1.cells,.int .i64 (Zbl s name key true).2]) H:=by
 have ca:=c67 h hn hk hks true
 have hfz:=Zf8 s name key
 have hf:=fun m H=>Yp m H (Zbl s name key true).1 (Zbl s name key true).2
 generalize Zbl s name key true=A at ca hf ⊢
 clear h hn hk hks
 obtain ⟨⟨an,⟨ak,anm,az,ab,akids⟩,alb,alog,akb,akeys⟩,ae⟩:=A
 obtain ⟨sn,⟨k,nm,z,b,kids⟩,lb,log,kb,keys⟩:=s
 obtain ⟨k2,nm2,s2,b2,kids2⟩:=key
 simp only [Sv.cells,Tm.cells,List.cons_append,List.nil_append] at ca hfz hf ⊢
 refine Jw tOk fe26.ok (hf 0 hNil) ?_ hfz
 repeat' first|refine Jc (ca _) ?_|refine Jo ?_|fail
 all_goals exact hf _ _
theorem c28 (h:SvOk s) (hn:name.length≤1000) (hk:key.Ok) (hks:key.size≤700):∀ H,CallOk E0 Tryz.prog 28 [.agg s.cells,.str name,.agg key.cells] H (.tup [.agg (Zbl s name key false).1.cells,.int .i64 (Zbl s name key false).2]) H:=by
 have ca:=c67 h hn hk hks false
 have hfz:=Zf8 s name key
 have hf:=fun m H=>Yp m H (Zbl s name key false).1 (Zbl s name key false).2
 generalize Zbl s name key false=A at ca hf ⊢
 clear h hn hk hks
 obtain ⟨⟨an,⟨ak,anm,az,ab,akids⟩,alb,alog,akb,akeys⟩,ae⟩:=A
 obtain ⟨sn,⟨k,nm,z,b,kids⟩,lb,log,kb,keys⟩:=s
 obtain ⟨k2,nm2,s2,b2,kids2⟩:=key
 simp only [Sv.cells,Tm.cells,List.cons_append,List.nil_append] at ca hfz hf ⊢
 refine Jw tOk fe28.ok (hf 0 hNil) ?_ hfz
 repeat' first|refine Jc (ca _) ?_|refine Jo ?_|fail
 all_goals exact hf _ _
def Zlp (s:Sv) (name:Bs):Sv×Int:=if svP s≠0 then (svZero,svP s) else if (ZI name s.keys).isSome=false then (svZero,4) else Za5 s name ((ZI name s.keys).getD enZero).key 0
theorem c30 (h:SvOk s) (hn:name.length≤1000) (hs:∀ e,e∈s.keys→e.key.size≤700):∀ H,CallOk E0 Tryz.prog 30 [.agg s.cells,.str name] H (.tup [.agg (Zlp s name).1.cells,.int .i64 (Zlp s name).2]) H:=by
 have cv:=c13 h
 have cf:=c50 (L:=s.keys) (by have:=h.el;omega) s.kb name
 have ca:svP s=0→(ZI name s.keys).isSome=true→∀ H,CallOk E0 Tryz.prog 71 [.agg s.cells,.str name,.agg ((ZI name s.keys).getD enZero).key.cells,.int .i64 0] H (.tup [.agg (Za5 s name ((ZI name s.keys).getD enZero).key 0).1.cells,.int .i64 (Za5 s name ((ZI name s.keys).getD enZero).key 0).2]) H:=fun e e2=>by
  rw [XV] at e
  obtain ⟨u,hu⟩:=Option.isSome_iff_exists.1 e2
  have hm:=Q0 hu
  rw [hu]
  exact c71 h (U0 e).1 (by have:=U0 e;omega) (Zcd e) hn (h.e u hm).1.1 (hs u hm) (Zb6 e h.n) (fun _ e3=>by rw [e3] at hm;simp at hm)
 have hfz:=ZlD s name
 have hfr:=fun m H=>Yp m H
 have e1:=ZdC (svP s)
 unfold Zlp
 clear h hn hs
 generalize svP s=V at cv e1 ca ⊢
 generalize (ZI name s.keys).isSome=ok at cf ca ⊢
 generalize (ZI name s.keys).getD enZero=F at cf ca ⊢
 generalize Za5 s name F.key 0=A at ca ⊢
 obtain ⟨⟨an,⟨ak,anm,az,ab,akids⟩,alb,alog,akb,akeys⟩,ae⟩:=A
 obtain ⟨sn,⟨k,nm,z,b,kids⟩,lb,log,kb,keys⟩:=s
 obtain ⟨fn,⟨k1,nm1,s1,b1,kids1⟩,fi⟩:=F
 simp only [] at cf hfr ⊢
 simp only [Sv.cells,En.cells,Tm.cells,List.cons_append,List.nil_append] at cv cf ca hfz
 rcases e1 with ⟨q1,e1⟩|⟨q1,e1⟩
 · rw [if_neg (not_not_intro q1)]
   have ca:=ca q1
   cases ok with
   | false =>
     rw [if_pos rfl]
     have hf:=fun m H=>hfr m H svZero 4
     simp only [Zt] at hf ⊢
     simp only [Sv.cells,Tm.cells,List.cons_append,List.nil_append]
     refine Jw tOk fe30.ok (hf 0 hNil) ?_ hfz
     repeat' first|refine Jc (cv _) ?_|refine Jc (cf _) ?_|refine Ji ?_|refine Jt ?_|refine Jo ?_|fail
     all_goals exact hf _ _
   | true =>
     rw [if_neg (by simp)]
     have ca:=ca rfl
     have hf:=fun m H=>hfr m H ⟨an,.mk ak anm az ab akids,alb,alog,akb,akeys⟩ ae
     simp only [Sv.cells,Tm.cells,List.cons_append,List.nil_append] at hf ⊢
     refine Jw tOk fe30.ok (hf 0 hNil) ?_ hfz
     repeat' first|(apply qCl;rfl;rfl;rfl;rfl;first|exact cv _|exact cf _|exact ca _)|refine Ji ?_|refine Jt ?_|refine Jo ?_|fail
     all_goals exact hf _ _
 · rw [if_pos q1]
   have hf:=fun m H=>hfr m H svZero V
   simp only [Zt] at hf ⊢
   simp only [Sv.cells,Tm.cells,List.cons_append,List.nil_append]
   refine Jw tOk fe30.ok (hf 0 hNil) ?_ hfz
   repeat' first|refine Jc (cv _) ?_|refine Ji ?_|refine Jo ?_|fail
   all_goals exact hf _ _
open Go.Proofs
theorem Zel {name:Bs}:∀ {l m:List Tm},l.map Tm.cl=m.map Tm.cl→(Zx name l).1.cl=(Zx name m).1.cl∧(Zx name l).2=(Zx name m).2
 | [],[],_=>⟨rfl,rfl⟩
 | [],_::_,h=>by simp at h
 |_::_,[],h=>by simp at h
 | t :: r, u :: q, h => by
   rw [List.map_cons,List.map_cons] at h
   injection h with h1 h2
   obtain ⟨r1,r2⟩:=Zhy h1
   have hl:r.length=q.length:=by simpa using congrArg List.length h2
   simp only [Zx,r1,r2.sub,r2.till,hl]
   split
   · exact ⟨r2.key,rfl⟩
   · exact Zel h2
theorem ZmD (h:l.map Tm.cl=m.map Tm.cl) (ht:t.cl=t'.cl) (hk:k.cl=k'.cl):Za3 l t k=Za3 m t' k':=by
 obtain ⟨r1,r2⟩:=Zhy ht
 have hl:l.length=m.length:=by simpa using congrArg List.length h
 have hr:l.reverse.map Tm.cl=m.reverse.map Tm.cl:=by rw [List.map_reverse,List.map_reverse,h]
 obtain ⟨a,b⟩:=Zel (name:=(Zf t').1.sub) hr
 have hc:CrEq (Zj (Zf t').1.sub (Zf t).1.key m.length (Zf t').1.till) (Zj (Zf t').1.sub (Zf t').1.key m.length (Zf t').1.till):=⟨rfl,r2.key,rfl,rfl,rfl,rfl,rfl,rfl⟩
 have hi:=Zco hc hk
 unfold Za3
 rw [r1,r2.sub,r2.till,hl,hi.1,b]
 have e1:decide (t.cmp ((Zj (Zf t').1.sub (Zf t).1.key m.length (Zf t').1.till).issue k).1=0)=decide (t'.cmp ((Zj (Zf t').1.sub (Zf t').1.key m.length (Zf t').1.till).issue k').1=0):=by rw [decide_eq_decide,Z0,Z0,ht,hi.2]
 have e2:decide ((Zx (Zf t').1.sub l.reverse).1.cmp (Zf t).1.key=0)=decide ((Zx (Zf t').1.sub m.reverse).1.cmp (Zf t').1.key=0):=by rw [decide_eq_decide,Z0,Z0,a,r2.key]
 rw [e1,e2]
theorem Ziz {l m:List Tm} (h:l.map Tm.cl=m.map Tm.cl) {k k':Tm} (hk:k.cl=k'.cl):∀ n i,ZhD l k i n=ZhD m k' i n
 |0,i=>rfl
 | n + 1, i => by
   have q:(l[i]?).map Tm.cl=(m[i]?).map Tm.cl:=by rw [← List.getElem?_map, ← List.getElem?_map,h]
   have ht:(l.take i).map Tm.cl=(m.take i).map Tm.cl:=by rw [List.map_take,List.map_take,h]
   simp only [ZhD]
   cases h1:l[i]? with
   | none =>
     cases h2:m[i]? with
     | none=>rfl
     | some u=>rw [h1,h2] at q;cases q
   | some t =>
     cases h2:m[i]? with
     | none=>rw [h1,h2] at q;cases q
     | some u =>
       rw [h1,h2] at q
       simp only [Option.map_some,Option.some.injEq] at q
       simp only []
       rw [ZmD ht q hk,Ziz h hk n (i+1)]
theorem Zis:∀ {l m:List Tm},l.map Tm.cl=m.map Tm.cl→Zhs l=Zhs m
 | [],[],_=>rfl
 | [],_::_,h=>by simp at h
 |_::_,[],h=>by simp at h
 | t :: r, u :: q, h => by
   rw [List.map_cons,List.map_cons] at h
   injection h with h1 h2
   simp only [Zhs,YL h1,Zis h2]
theorem Zcc:∀ (f:Nat) {l m:List Tm},l.map Tm.cl=m.map Tm.cl→(Z5 f l).cl=(Z5 f m).cl
 |0,_,_,_=>rfl
 |f+1,[],[],_=>rfl
 |f+1,[],_::_,h=>by simp at h
 |f+1,_::_,[],h=>by simp at h
 | f + 1, [t], [u], h => by
   have h:t.cl=u.cl:=by simpa using h
   show (XC t).cl=(XC u).cl
   simp only [XC,Tm.cl,clL,h]
 |f+1,[t],_::_::_,h=>by simp at h
 |f+1,_::_::_,[u],h=>by simp at h
 | f + 1, a :: b :: r, c :: d :: q, h => by
   have hl:r.length=q.length:=by simpa using congrArg List.length h
   have e1:∀ n,((a::b::r).take n).map Tm.cl=((c::d::q).take n).map Tm.cl:=fun n=>by rw [List.map_take,List.map_take,h]
   have e2:∀ n,((a::b::r).drop n).map Tm.cl=((c::d::q).drop n).map Tm.cl:=fun n=>by rw [List.map_drop,List.map_drop,h]
   show (YQ (Z5 f ((a::b::r).take (Zo (r.length+2)))) (Z5 f ((a::b::r).drop (Zo (r.length+2))))).cl=(YQ (Z5 f ((c::d::q).take (Zo (q.length+2)))) (Z5 f ((c::d::q).drop (Zo (q.length+2))))).cl
   rw [hl]
   simp only [YQ,Tm.cl,clL,Zcc f (e1 _),Zcc f (e2 _)]
theorem ZgE (h:l.map Tm.cl=m.map Tm.cl):(ZS l).1.cl=(ZS m).1.cl∧(ZS l).2=(ZS m).2:=by
 have hl:l.length=m.length:=by simpa using congrArg List.length h
 have he:ZbS l=ZbS m:=by simp only [ZbS,hl,Zis h]
 have ht:=Zcc 33 h
 unfold ZS
 rw [he,YL ht]
 split; · exact ⟨rfl,rfl⟩
 split; · exact ⟨rfl,rfl⟩
 exact ⟨ht,rfl⟩
theorem Ze3 {x y:Tm} (hx:x.cl=y.cl) (hk:k.cl=k'.cl) (n:Int):(Yw id x n k).2=(Yw id y n k').2∧(Yw id x n k).1.cl=(Yw id y n k').1.cl:=by
 have e:(Wm x n k).cl=(Wm y n k').cl:=by simp only [Wm,Qa,Qi,Tm.cl,clL,hx,hk]
 unfold Yw
 simp only [id,YL e,YL hx,YL hk]
 split; · exact ⟨rfl,rfl⟩
 split; · exact ⟨rfl,rfl⟩
 split; · exact ⟨rfl,rfl⟩
 split; · exact ⟨rfl,rfl⟩
 exact ⟨rfl,e⟩
theorem ZkO (h:l.map Tm.cl=m.map Tm.cl) (hk:k.cl=k'.cl):(Wv l k).2.2=(Wv m k').2.2∧(Wv l k).1.cl=(Wv m k').1.cl∧(Wv l k).2.1.cl=(Wv m k').2.1.cl:=by
 have hl:l.length=m.length:=by simpa using congrArg List.length h
 obtain ⟨a,b⟩:=ZgE h
 have s:=Ze3 a hk (m.length:Int)
 unfold Wv
 rw [b,hl]
 split
 · exact ⟨rfl,rfl,rfl⟩
 · refine ⟨?_, a, s.2⟩
   show decide _=decide _
   rw [s.1]
theorem Zaj:∀ {L M:List En},enB L M=true↔L.map enK=M.map enK
 | [],[]=>by simp [enB]
 | [],_::_=>by simp [enB]
 |_::_,[]=>by simp [enB]
 | a :: r, b :: s => by
   simp only [enB,List.map_cons,List.cons.injEq,Bool.and_eq_true,decide_eq_true_eq,Zaj (L:=r) (M:=s),enK,Prod.mk.injEq,Z0]
   constructor
   · rintro ⟨h1,h2,h3,h4⟩;exact ⟨⟨h1,h3,h2⟩,h4⟩
   · rintro ⟨⟨h1,h3,h2⟩,h4⟩;exact ⟨h1,h2,h3,h4⟩
theorem Zgh (h:l.map Tm.cl=m.map Tm.cl):(YF l l.length).map enK=(YF m m.length).map enK:=by
 have hl:l.length=m.length:=by simpa using congrArg List.length h
 have hr:l.reverse.map Tm.cl=m.reverse.map Tm.cl:=by rw [List.map_reverse,List.map_reverse,h]
 obtain ⟨f1,o1⟩:=XF l l.length (Nat.le_refl _)
 obtain ⟨f2,o2⟩:=XF m m.length (Nat.le_refl _)
 refine QM o1 o2 fun name=>?_
 obtain ⟨a,b⟩:=Zel (name:=name) hr
 rw [f1 name,f2 name,b,hl]
 split
 · simp only [Option.map_some,enK,a]
 · rfl
theorem ZlP {a b:Sv} (h:SvEq a b):svV a=svV b:=by
 have hl:a.log.length=b.log.length:=by simpa using congrArg List.length h.log
 have e1:(a.key.cmp (skT b.name)=0)=(b.key.cmp (skT b.name)=0):=propext (by rw [Z0,Z0,h.key])
 have e2:enB (YF a.log a.log.length) a.keys=enB (YF b.log b.log.length) b.keys:=by
  rw [Bool.eq_iff_iff,Zaj,Zaj,Zgh h.log,h.keys]
 unfold svV
 simp only [ne_eq,e1,h.name,hl,Ziz h.log h.key,(ZkO h.log h.key).1]
 rw [hl] at e2
 rw [e2]
theorem SvEq.trans {a b c:Sv} (h:SvEq a b) (k:SvEq b c):SvEq a c:=⟨h.name.trans k.name,h.key.trans k.key,h.log.trans k.log,h.keys.trans k.keys⟩
theorem ZcV {name:Bs}:∀ {L M:List En},L.map enK=M.map enK→(ZI name L).map enK=(ZI name M).map enK
 | [],[],_=>rfl
 | [],_::_,h=>by simp at h
 |_::_,[],h=>by simp at h
 | a :: r, b :: s, h => by
   rw [List.map_cons,List.map_cons] at h
   injection h with h1 h2
   have hn:a.name=b.name:=by simp only [enK,Prod.mk.injEq] at h1;exact h1.1
   rw [Yo,Yo,hn]
   split
   · simp only [Option.map_some,h1]
   · exact ZcV h2
theorem Ze7 (name:Bs):∀ L:List En,ZI name (L.map cpE)=(ZI name L).map cpE
 | []=>rfl
 | a :: r => by
   rw [List.map_cons,Yo,Yo]
   show (if a.name=name then _ else _)=_
   split
   · rfl
   · exact Ze7 name r
def unK (x:Bs×Tm×Int):En:=⟨x.1,x.2.1,x.2.2⟩
theorem ZoL (o:Option En):o.map cpE=(o.map enK).map unK:=by cases o<;>rfl
theorem ZhT (h:svV s=0):Agr s.log (s.keys.map cpE):=fun name=>by
 obtain ⟨f1, -⟩:=XF s.log s.log.length (Nat.le_refl _)
 have e:=ZcV (name:=name) (Zaj.1 (ZcP h))
 rw [Ze7,ZoL, ← e,f1 name]
 by_cases q:(Zx name s.log.reverse).2.2=true
 · obtain ⟨t, ht, -⟩ := WH q
   have:=ZN ht
   rw [List.reverse_reverse] at ht
   rw [if_pos q,if_pos ⟨q,ZN ht⟩]
   rfl
 · rw [if_neg q, if_neg (fun e => q e.1)]
   rfl
theorem Znd (h : svV s = 0) (hi : ((Zj name key s.log.length u).issue s.key).2 = 0) :
  Agr (s.log++ [((Zj name key s.log.length u).issue s.key).1]) (if u=0 then (s.keys.map cpE).filter (Yd name) else UN (s.keys.map cpE) name key s.log.length):=fun nm=>by
 have hA:=ZhT h
 have hr:=ZbO hi
 have ls:=Zao nm s.log ((Zj name key s.log.length u).issue s.key).1
 rw [hr] at ls
 simp only [Zj,true_and] at ls
 by_cases hu:u=0
 · rw [if_pos hu, Wd, hA nm]
   by_cases hs:name=nm
   · rw [if_pos hs] at ls
     rw [if_pos hs.symm]
     have ls2:(Zx nm (s.log++ [((Zj name key s.log.length u).issue s.key).1]).reverse).2.2=false:=by
      show (Zx nm (s.log++ [(Cred.issue ⟨name,key,false,true,[],true,[],s.log.length,0,u⟩ s.key).1]).reverse).2.2=false
      rw [ls]
      simp [hu]
     rw [ls2]
     simp
   · rw [if_neg hs] at ls
     rw [if_neg (fun e=>hs e.symm)]
     have ls2:Zx nm (s.log++ [((Zj name key s.log.length u).issue s.key).1]).reverse=Zx nm s.log.reverse:=ls
     rw [ls2]
 · rw [if_neg hu]
   have fi:=ZcB (name:=nm) (M:=(s.keys.map cpE).filter (Yd name)) (p:=Wy name ((s.keys.map cpE).filter (Yd name))) (e:=⟨name,key.cl,(s.log.length:Int)⟩) ZeT
   unfold UN
   rw [fi,Wd,hA nm]
   by_cases hs:name=nm
   · rw [if_pos hs] at ls
     have ls2:Zx nm (s.log++ [((Zj name key s.log.length u).issue s.key).1]).reverse=(key,s.log.length,decide (u≠0)):=ls
     rw [if_pos hs.symm,ls2,hs]
     simp [hu]
   · rw [if_neg hs] at ls
     have ls2:Zx nm (s.log++ [((Zj name key s.log.length u).issue s.key).1]).reverse=Zx nm s.log.reverse:=ls
     rw [if_neg (fun e=>hs e.symm),if_neg (fun e=>hs e.symm),ls2]
theorem Zk2 (h : svV s = 0) (hi : ((Zj name key s.log.length u).issue s.key).2 = 0) :
  (if u=0 then (s.keys.map cpE).filter (Yd name) else UN (s.keys.map cpE) name key s.log.length).map enK=(YF (s.log++ [((Zj name key s.log.length u).issue s.key).1]) (s.log++ [((Zj name key s.log.length u).issue s.key).1]).length).map enK:=by
 have hO:Vo (if u=0 then (s.keys.map cpE).filter (Yd name) else UN (s.keys.map cpE) name key s.log.length):=by
  split
  · exact Wa (ZeC (Zcd h)) _
  · exact ZeF (ZeC (Zcd h)) _ _ _
 have hA:=Znd h hi
 obtain ⟨f2,o2⟩:=XF (s.log++ [((Zj name key s.log.length u).issue s.key).1]) _ (Nat.le_refl _)
 refine QM hO o2 fun nm=>?_
 rw [hA nm,f2 nm]
 by_cases q:(Zx nm (s.log++ [((Zj name key s.log.length u).issue s.key).1]).reverse).2.2=true
 · obtain ⟨t, ht, -⟩ := WH q
   rw [List.reverse_reverse] at ht
   rw [if_pos q,if_pos ⟨q,ZN ht⟩]
   simp only [Option.map_some,enK,Zbh]
 · rw [if_neg q,if_neg (fun e=>q e.1)]
theorem ZnK (h : svV s = 0) (hi : ((Zj name key s.log.length u).issue s.key).2 = 0) :
  SvEq (Zhj s name key ((Zj name key s.log.length u).issue s.key).1 u) (ZjS s ((Zj name key s.log.length u).issue s.key).1):=
 ⟨rfl, Zbh _, by
   show (clL s.log++ [_]).map Tm.cl=(s.log++ [_]).map Tm.cl
   rw [List.map_append,List.map_append,Zaa,List.map_map]
   congr 1
   exact List.map_congr_left fun t _=>Zbh t,Zk2 h hi⟩
theorem Zng (h:t.cl=t'.cl):SvEq (ZjS s t) (ZjS s t'):=by
 have e:(s.log++ [t]).map Tm.cl=(s.log++ [t']).map Tm.cl:=by rw [List.map_append,List.map_append,List.map_cons,List.map_cons,h]
 exact ⟨rfl,rfl,e,Zgh e⟩
theorem ZiW (h:svV s=0) (hk:key.cl=key'.cl):(Za5 s name key u).2=(Zbj s (Zj name key' s.log.length u)).2∧SvEq (Za5 s name key u).1 (Zbj s (Zj name key' s.log.length u)).1∧((Za5 s name key u).2=0→svP (Za5 s name key u).1=0):=by
 have hc:CrEq (Zj name key s.log.length u) (Zj name key' s.log.length u):=⟨rfl,hk,rfl,rfl,rfl,rfl,rfl,rfl⟩
 obtain ⟨i1,i2⟩:=Zco hc (rfl:s.key.cl=s.key.cl)
 unfold Za5 Zbj
 rw [← i1]
 by_cases hi:((Zj name key s.log.length u).issue s.key).2=0
 · have e := (ZnK h hi).trans (Zng (s := s) i2)
   rw [if_neg (not_not_intro hi),if_neg (not_not_intro hi),XV,ZlP e]
   by_cases hv:svV (ZjS s ((Zj name key' s.log.length u).issue s.key).1)=0
   · rw [if_neg (not_not_intro hv), if_neg (not_not_intro hv)]
     exact ⟨rfl,e,fun _=>by rw [XV,ZlP e];exact hv⟩
   · rw [if_pos hv, if_pos hv]
     exact ⟨rfl,.rfl' _,fun e=>by cases e⟩
 · rw [if_pos hi, if_pos hi]
   exact ⟨rfl,.rfl' _,fun e=>by cases e⟩
open Go.Proofs
theorem ZcG (h:svV s=0) (name:Bs):(ZI name s.keys).isSome=(Zx name s.log.reverse).2.2∧((Zx name s.log.reverse).2.2=true→((ZI name s.keys).getD enZero).key.cl=(Zx name s.log.reverse).1.cl∧((ZI name s.keys).getD enZero).idx=(Zx name s.log.reverse).2.1):=by
 have a:=ZhT h name
 rw [Ze7] at a
 by_cases q:(Zx name s.log.reverse).2.2=true
 · rw [if_pos q] at a
   cases hf:ZI name s.keys with
   | none=>rw [hf] at a;cases a
   | some e =>
     rw [hf] at a
     simp only [Option.map_some,Option.some.injEq,cpE,En.mk.injEq] at a
     rw [q]
     exact ⟨rfl,fun _=>⟨a.2.1,a.2.2⟩⟩
 · rw [if_neg q] at a
   cases hf:ZI name s.keys with
   | none =>
     refine ⟨?_,fun e=>absurd e q⟩
     rw [Bool.eq_false_iff.2 q]
     rfl
   | some e=>rw [hf] at a;cases a
structure ChEq (P R:Sv×Int):Prop where
 err:P.2=R.2
 sv:SvEq P.1 R.1
 ok:P.2=0→svP P.1=0
theorem ChEq.same {e:Int} (h:e≠0):ChEq (svZero,e) (svZero,e):=⟨rfl,.rfl' _,fun q=>absurd q h⟩
theorem ZhR (h:svV s=0) (hk:key.cl=key'.cl):ChEq (Za5 s name key u) (Zbj s (Zj name key' s.log.length u)):=by
 obtain ⟨a,b,c⟩:=ZiW h (name:=name) (u:=u) hk
 exact ⟨a,b,c⟩
theorem ZoD (s:Sv) (name:Bs) (key:Tm):ChEq (Zbl s name key true) (Zfi s name key):=by
 unfold Zbl Zfi
 rw [XV]
 by_cases hv:svV s=0
 · obtain ⟨f1, -⟩ := ZcG hv name
   rw [if_neg (not_not_intro hv),if_neg (not_not_intro hv),f1]
   by_cases hc:(Zj name key s.log.length 9999).valid=0
   · rw [if_neg (not_not_intro hc), if_neg (not_not_intro hc)]
     by_cases q:(Zx name s.log.reverse).2.2=true
     · rw [if_pos (by rw [q]; rfl), if_pos q]
       exact .same (by decide)
     · have q' := Bool.eq_false_iff.2 q
       rw [if_neg (by rw [q'];simp),if_neg (by rw [q'];simp),if_neg (by rw [q'];simp),if_neg q]
       exact ZhR hv rfl
   · rw [if_pos hc, if_pos hc]
     exact .same hc
 · rw [if_pos hv, if_pos hv]
   exact .same hv
theorem ZoY (s:Sv) (name:Bs) (key:Tm):ChEq (Zbl s name key false) (Zgd s name key):=by
 unfold Zbl Zgd
 rw [XV]
 by_cases hv:svV s=0
 · obtain ⟨f1, f2⟩ := ZcG hv name
   rw [if_neg (not_not_intro hv),if_neg (not_not_intro hv),f1]
   by_cases hc:(Zj name key s.log.length 9999).valid=0
   · rw [if_neg (not_not_intro hc), if_neg (not_not_intro hc)]
     by_cases q:(Zx name s.log.reverse).2.2=true
     · rw [q]
       simp only [Bool.false_and,Bool.not_true,Bool.and_false,Bool.true_and,Bool.false_eq_true,if_false,Bool.true_eq_false]
       have e:(((ZI name s.keys).getD enZero).key.cmp key=0)=((Zx name s.log.reverse).1.cmp key=0):=propext (by rw [Z0,Z0,(f2 q).1])
       by_cases hk:(Zx name s.log.reverse).1.cmp key=0
       · rw [if_pos (decide_eq_true (by rw [e]; exact hk)), if_pos hk]
         exact .same (by decide)
       · rw [if_neg (by rw [decide_eq_true_eq, e]; exact hk), if_neg hk]
         exact ZhR hv rfl
     · have q' := Bool.eq_false_iff.2 q
       rw [q']
       simp only [Bool.false_and,Bool.not_false,Bool.and_true,Bool.false_eq_true,if_false,if_true]
       exact .same (by decide)
   · rw [if_pos hc, if_pos hc]
     exact .same hc
 · rw [if_pos hv, if_pos hv]
   exact .same hv
theorem Zod (s:Sv) (name:Bs):ChEq (Zlp s name) (Zga s name):=by
 unfold Zlp Zga
 rw [XV]
 by_cases hv:svV s=0
 · obtain ⟨f1, f2⟩ := ZcG hv name
   rw [if_neg (not_not_intro hv),if_neg (not_not_intro hv),f1]
   by_cases q:(Zx name s.log.reverse).2.2=true
   · rw [if_neg (by rw [q]; simp), if_neg (by rw [q]; simp)]
     exact ZhR hv (f2 q).1
   · have q' := Bool.eq_false_iff.2 q
     rw [if_pos q',if_pos q']
     exact .same (by decide)
 · rw [if_pos hv, if_pos hv]
   exact .same hv
open Go.Proofs
theorem Zjq (h:SvOk s) (hl:s.log.length≤32) (hel:s.keys.length≤900) (hn:name.length≤1000) (hk:key.Ok) (hks:key.size≤700) (hs2:s.key.size≤50):SvOk (Za5 s name key u).1:=by
 have hio:=Yv (x:=Zj name key s.log.length u) (key:=s.key) hk h.k
 have hio2:((Zj name key s.log.length u).issue s.key).1.size≤900:=by
  have:=hio.2
  simp only [Zj] at this ⊢
  omega
 unfold Za5
 split
 · exact Y9
 · split
   · exact Y9
   · exact ZhZ h hl hn hk (by omega) hio.1 hio2 hel
theorem ZiY (h:SvOk s) (hn:name.length≤1000) (hk:key.Ok) (hks:key.size≤700) (b:Bool):SvOk (Zbl s name key b).1:=by
 unfold Zbl
 split
 · exact Y9
 · rename_i hv
   have hv:=Classical.not_not.1 hv
   rw [XV] at hv
   have v:=U0 hv
   split; · exact Y9
   split; · exact Y9
   split; · exact Y9
   split; · exact Y9
   exact Zjq h v.1 (by omega) hn hk hks (Zb6 hv h.n)
theorem Zmb (h:SvOk s) (hn:name.length≤1000) (hs:∀ e,e∈s.keys→e.key.size≤700):SvOk (Zlp s name).1:=by
 unfold Zlp
 split
 · exact Y9
 · rename_i hv
   have hv:=Classical.not_not.1 hv
   rw [XV] at hv
   have v:=U0 hv
   split
   · exact Y9
   · rename_i hf
     cases e:ZI name s.keys with
     | none=>rw [e] at hf;simp at hf
     | some u =>
       have hm:=Q0 e
       exact Zjq h v.1 (by omega) hn (h.e u hm).1.1 (hs u hm) (Zb6 hv h.n)
theorem Zei (h:SvOk s) (hl:s.log.length≤32) {i t:Int} (hk:key.Ok) (hks:key.size≤700) (hs2:s.key.size≤50):SvOk (Zbj s (Zj name key i t)).1:=by
 have hio:=Yv (x:=Zj name key i t) (key:=s.key) hk h.k
 have hio2:((Zj name key i t).issue s.key).1.size≤900:=by
  have:=hio.2
  simp only [Zj] at this ⊢
  omega
 unfold Zbj
 split; · exact Y9
 split; · exact Y9
 exact ZeG h hl hio.1 hio2
theorem Zl2 (h:SvOk s) (hl:s.log.length≤32) (hk:key.Ok) (hks:key.size≤700) (hs2:s.key.size≤50):SvOk (Zfi s name key).1:=by
 unfold Zfi
 split; · exact Y9
 split; · exact Y9
 split; · exact Y9
 exact Zei h hl hk hks hs2
theorem Zmv (h:SvOk s) (hl:s.log.length≤32) (hk:key.Ok) (hks:key.size≤700) (hs2:s.key.size≤50):SvOk (Zgd s name key).1:=by
 unfold Zgd
 split; · exact Y9
 split; · exact Y9
 split; · exact Y9
 split; · exact Y9
 exact Zei h hl hk hks hs2
theorem Zme (h:SvOk s) (hl:s.log.length≤32) (hk:(Zx name s.log.reverse).1.Ok) (hks:(Zx name s.log.reverse).1.size≤700) (hs2:s.key.size≤50):SvOk (Zga s name).1:=by
 unfold Zga
 split; · exact Y9
 split; · exact Y9
 exact Zei h hl hk hks hs2
theorem Zim {n:Nat} (h:Mad n s) (hv:svV s=0):∀ e,e∈s.keys→e.key.size≤700:=fun e he=>by
 have q:=Zaj.1 (ZcP hv)
 have hm:enK e∈(YF s.log s.log.length).map enK:=by rw [q];exact List.mem_map_of_mem he
 obtain ⟨u,hu,hue⟩:=List.mem_map.1 hm
 have hlog:∀ t,t∈s.log→t.Ok∧t.size≤150:=fun t ht=>⟨h.ok.l t ht,h.sz t ht⟩
 have hu2:=(QY (S:=150) (by omega) hlog s.log.length u hu).1.2
 simp only [enK,Prod.mk.injEq] at hue
 have:u.key.cl.size=e.key.cl.size:=by rw [hue.2.1]
 rw [YK,YK] at this
 omega
theorem erN {a b:Int} (h:a=b):ZV E0 .neq 32 (.int .i64 a) (.int .i64 b)=some (.bool false):=by
 show some (PV.bool (!(a==b)))=_
 rw [h,beq_self_eq_true]
 rfl
theorem ZoM (b:Bool) (L:List (List PV)) (name:Bs) (t:Tm):ZC [slV b 3 L,.str name,.agg t.cells]=some [slV b 3 L,.str name,.agg t.cells]:=by
 obtain ⟨k2,nm2,z2,b2,kids2⟩:=t
 simp only [Tm.cells,ZC,Yl]
 simp only [frzG,Xm,Zu]
 rfl
theorem c6 {l:List Opp} (hl:∀ o,o∈l→o.ok) (bl:Bool) (hk:key.Ok):∀ H,CallOk E0 Tryz.prog 6 [slV bl 3 (opC l),.str name,.agg key.cells] H (.bool true) H:=by
 have haw:=ZaD
 have cfw:=ZsQ hk 60 (by decide) (by decide)
 have c3:=c17 hl bl
 have hfz:=ZoM bl (opC l) name key
 generalize opC l=OC at c3 hfz ⊢
 by_cases hn:name.length≤100
 · have e0 : ZV E0 .gtr 3 (.int .i64 (name.length : Int)) (.int .i64 100) = some (.bool false) := Zhb (by omega)
   cases hF:QL [key] 1 60 with
   | false =>
     rw [hF] at cfw
     clear hF c3
     obtain ⟨k,nm,z,b,kids⟩:=key
     simp only [Tm.cells] at cfw hfz ⊢
     refine Jw tOk fe6.ok rfl ?_ hfz
     repeat' first|refine Jc (haw _) ?_|refine Jc (cfw _) ?_|refine Js ?_|refine Ji ?_|refine Jt ?_|refine Jo ?_|fail
     all_goals rfl
   | true =>
     rw [hF] at cfw
     have hks:=ZcW hF
     have hM:=UD l (i:=min l.length 10) (by omega)
     have hv:=Zb4 l (min l.length 10)
     generalize Xf l (min l.length 10)=S at c3 hM hv
     have hl32:S.log.length≤32:=by have:=hM.len;omega
     have hlk:=hM.look name
     have r1:=c26 hM.ok (name:=name) (by omega) hk (by omega)
     have r2:=c27 hM.ok hl32 (name:=name) (by omega) hk (by omega) hM.ks
     have r3:=c28 hM.ok (name:=name) (by omega) hk (by omega)
     have r4:=c29 hM.ok hl32 (name:=name) (by omega) hk (by omega) hM.ks
     have r5:=c30 hM.ok (name:=name) (by omega) (Zim hM hv)
     have r6:=c31 hM.ok hl32 (name:=name) (by omega) (by have:=hlk.2;omega) hM.ks
     have o1:=ZiY hM.ok (name:=name) (key:=key) (by omega) hk (by omega) true
     have o2:=Zl2 hM.ok hl32 (name:=name) hk (by omega) hM.ks
     have o3:=ZiY hM.ok (name:=name) (key:=key) (by omega) hk (by omega) false
     have o4:=Zmv hM.ok hl32 (name:=name) hk (by omega) hM.ks
     have o5:=Zmb hM.ok (name:=name) (by omega) (Zim hM hv)
     have o6:=Zme hM.ok hl32 (name:=name) hlk.1 (by omega) hM.ks
     obtain ⟨a1,b1,d1⟩:=ZoD S name key
     obtain ⟨a2,b2,d2⟩:=ZoY S name key
     obtain ⟨a3,b3,d3⟩:=Zod S name
     have s1:=c16 b1 o1 o2
     have s2:=c16 b2 o3 o4
     have s3:=c16 b3 o5 o6
     have v1:=c13 o1
     have v2:=c13 o3
     have v3:=c13 o5
     have n1:=erN a1
     have n2:=erN a2
     have n3:=erN a3
     clear b1 b2 b3 a1 a2 a3 o1 o2 o3 o4 o5 o6 hlk hl32 hM hv hks hF hk
     generalize Zbl S name key true=P1 at r1 s1 v1 n1 d1
     generalize Zfi S name key=R1 at r2 s1 n1
     generalize Zbl S name key false=P2 at r3 s2 v2 n2 d2
     generalize Zgd S name key=R2 at r4 s2 n2
     generalize Zlp S name=P3 at r5 s3 v3 n3 d3
     generalize Zga S name=R3 at r6 s3 n3
     have w1:=Ye P1.2
     have w2:=Ye P2.2
     have w3:=Ye P3.2
     have d1:P1.2=0→∀ H,CallOk E0 Tryz.prog 13 [.agg P1.1.cells] H (.int .i64 0) H:=fun e=>by rw [← d1 e];exact v1
     have d2:P2.2=0→∀ H,CallOk E0 Tryz.prog 13 [.agg P2.1.cells] H (.int .i64 0) H:=fun e=>by rw [← d2 e];exact v2
     have d3:P3.2=0→∀ H,CallOk E0 Tryz.prog 13 [.agg P3.1.cells] H (.int .i64 0) H:=fun e=>by rw [← d3 e];exact v3
     clear v1 v2 v3
     have hO:∀ P:Sv×Int,(P.2=0→∀ H,CallOk E0 Tryz.prog 13 [.agg P.1.cells] H (.int .i64 0) H)→(decide (P.2≠0)=true∨(decide (P.2≠0)=false∧∀ H,CallOk E0 Tryz.prog 13 [.agg P.1.cells] H (.int .i64 0) H)):=fun P d=>by
      by_cases e:P.2=0
      · exact .inr ⟨decide_eq_false (not_not_intro e),d e⟩
      · exact .inl (decide_eq_true e)
     have d1:=hO P1 d1
     have d2:=hO P2 d2
     have d3:=hO P3 d3
     clear hO
     generalize decide (P1.2≠0)=B1 at w1 d1
     generalize decide (P2.2≠0)=B2 at w2 d2
     generalize decide (P3.2≠0)=B3 at w3 d3
     obtain ⟨⟨n11,⟨k11,m11,z11,t11,i11⟩,lb11,lg11,kb11,ks11⟩,e11⟩:=P1
     obtain ⟨⟨n12,⟨k12,m12,z12,t12,i12⟩,lb12,lg12,kb12,ks12⟩,e12⟩:=R1
     obtain ⟨⟨n21,⟨k21,m21,z21,t21,i21⟩,lb21,lg21,kb21,ks21⟩,e21⟩:=P2
     obtain ⟨⟨n22,⟨k22,m22,z22,t22,i22⟩,lb22,lg22,kb22,ks22⟩,e22⟩:=R2
     obtain ⟨⟨n31,⟨k31,m31,z31,t31,i31⟩,lb31,lg31,kb31,ks31⟩,e31⟩:=P3
     obtain ⟨⟨n32,⟨k32,m32,z32,t32,i32⟩,lb32,lg32,kb32,ks32⟩,e32⟩:=R3
     obtain ⟨sn,⟨sk,sm,sz,st,si⟩,slb,slg,skb,sks⟩:=S
     obtain ⟨k,nm,z,b,kids⟩:=key
     simp only [Sv.cells,Tm.cells,List.cons_append,List.nil_append] at cfw c3 hfz r1 r2 r3 r4 r5 r6 s1 s2 s3 d1 d2 d3 n1 n2 n3 w1 w2 w3 ⊢
     rcases d1 with rfl|⟨rfl,d1⟩<;>rcases d2 with rfl|⟨rfl,d2⟩<;>rcases d3 with rfl|⟨rfl,d3⟩
     all_goals
      refine Jw tOk fe6.ok rfl ?_ hfz
      repeat' first|refine Jk ?_|(apply qCl;rfl;rfl;rfl;rfl;first|exact haw _|exact cfw _|exact c3 _|exact r1 _|exact r2 _|exact r3 _|exact r4 _|exact r5 _|exact r6 _|exact s1 _|exact s2 _|exact s3 _|exact d1 _|exact d2 _|exact d3 _)|refine Js ?_|refine Ji ?_|refine Jt ?_|refine Jo ?_|fail
     all_goals rfl
 · have e0 : ZV E0 .gtr 3 (.int .i64 (name.length : Int)) (.int .i64 100) = some (.bool true) := ZgZ (by omega)
   generalize QL [key] 1 60=B at cfw
   clear c3
   obtain ⟨k,nm,z,b,kids⟩:=key
   simp only [Tm.cells] at cfw hfz ⊢
   refine Jw tOk fe6.ok rfl ?_ hfz
   repeat' first|refine Jk ?_|refine Jc (haw _) ?_|refine Ji ?_|refine Jt ?_|refine Jo ?_|fail
   all_goals rfl
end Go.Vm.Seat
