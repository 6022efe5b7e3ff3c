/-
  Asking for a cookie: the program's text.
-/
import Derived.Test.YtgnklbkmfeafaaaGreatDoorXa
import Derived.Test.YtgnklbkmfeafaaaGreatDoorWn
set_option maxHeartbeats 0
set_option maxRecDepth 100000
namespace Go.Vm
variable {n:Na} {x:Sp} {L:Nat} {k:Zg}
def Na.cookW (n:Na) (x:Sp) (r k:Zg):Na:={(n.with r).freshen ⟨x.to,k,3⟩ with sn:=false,steps:=⟨x.frm,x.to,atT r,0⟩::⟨x.to,x.frm,ckT k x.frm,0⟩::{x with msg:=apT ZN [ckT k x.frm,x.msg]}::n.steps.drop 1}
theorem Zbz (h:n.chk.2≠0):n.cookF=(.none,n.chk.2):=if_pos h
theorem Zbj (h:n.chk.2=0) (hx:n.steps[0]? = some x):n.cookF=(n.cookW x (nnF n.nms ZcT) (nnF (n.with (nnF n.nms ZcT)).nms wCk)).chkd:=by
 rw [Na.cookF,if_neg (by omega),hx]
 rfl
theorem XI {N:List Zg} {w:Zg} (h:∀ s,s∈N→s.length≤L) (hw:w.length≤L+1):(nnF N w).length≤L+1:=Uc N L h _ w hw
theorem Qb {t:Zg} (h:∀ s,s∈n.nms→s.length≤L) (ht:t.length≤L):∀ s,s∈(n.with t).nms→s.length≤L:=fun s hs=>by
 simp only [Na.nms,Na.with,List.mem_append,List.mem_singleton] at hs
 rcases hs with h1|h1|h1|rfl
 · exact h s (by simp only [Na.nms,List.mem_append];exact .inl h1)
 · exact h s (by simp only [Na.nms,List.mem_append];exact .inr (.inl h1))
 · exact h s (by simp only [Na.nms,List.mem_append];exact .inr (.inr h1))
 · exact ht
theorem ZfM {a:Zg} (hk:k.length≤1048600) (ha:a.length≤1048600):(ckT k a).Ok:=by
 refine X2 (by decide) (by simp) fun t ht=>?_
 rw [List.mem_singleton.1 ht]
 refine X2 (by decide) (by simp) fun t ht=>?_
 rcases List.mem_cons.1 ht with rfl|ht
 · exact Qd hk
 · rw [List.mem_singleton.1 ht];exact Qd ha
theorem Zcj (k a:Zg):(ckT k a).size=4:=by simp only [ckT,apT,atT,Tm.size,ZW]
theorem Qc (h:n.Ti) (hx:x∈n.steps) {r:Zg} (hr:r.length≤100) (hk:k.length≤100):(n.cookW x r k).Sm:=by
 have hs:=h.sm.ss x hx
 have hm:=h.ms x hx
 have f1:=h.fl
 have t1:=h.tl
 have s1:=h.sl
 refine ⟨h.sm.nm,h.sm.rl,?_,?_,?_,h.sm.gl,h.sm.rs,fun f hf=>?_,fun s hs=>?_,fun s hs2=>?_,h.sm.gs⟩
 · simp only [Na.cookW,Na.freshen,Na.with,List.length_append,List.length_cons,List.length_nil];omega
 · simp only [Na.cookW,Na.freshen,Na.with,List.length_append,List.length_cons,List.length_nil];omega
 · simp only [Na.cookW,List.length_cons,List.length_drop];omega
 · simp only [Na.cookW, Na.freshen, Na.with, List.mem_append, List.mem_singleton] at hf
   rcases hf with hf|rfl
   · exact h.sm.fs f hf
   · exact ⟨hs.2.1,by show k.length≤_;omega⟩
 · simp only [Na.cookW, Na.freshen, Na.with, List.mem_append, List.mem_singleton] at hs
   rcases hs with hs|rfl
   · exact h.sm.ts s hs
   · omega
 · simp only [Na.cookW, List.mem_cons] at hs2
   rcases hs2 with rfl|rfl|rfl|hs2
   · exact ⟨hs.1,hs.2.1,Qd (by omega),by simp [atT,Tm.size,ZW]⟩
   · exact ⟨hs.2.1,hs.1,ZfM (by omega) hs.1,by rw [Zcj];omega⟩
   · refine ⟨hs.1, hs.2.1, X2 (by decide) (by simp) fun t ht => ?_, ?_⟩
     · rcases List.mem_cons.1 ht with rfl | ht
       · exact ZfM (by omega) hs.1
       · rw [List.mem_singleton.1 ht];exact hs.2.2.1
     · have := Zcj k x.frm
       simp only [apT,Tm.size,ZW,this];omega
   · exact h.sm.ss s (List.mem_of_mem_drop hs2)
theorem ZfS {l:List Fr} (h:l≠ []) (b:Bool):slV b 3 (frC l)= .sl .none 3 (frC l):=by
 cases l with
 |nil=>exact absurd rfl h
 |cons x r=>exact Zx _ _ _ _
theorem Za8 {oF oT gv : PV} {lv : List Nat} {nt : Nat} {H : Heap} {id : Nat} {fn tn : Bool} (hF : ApV fn 3 (frC n.fresh) oF lv nt) (hFn : fn = n.fn ∨ n.fresh ≠ []) (hT : ApV tn 1 (Zi n.tags) oT lv nt) (hTn : tn = n.tn ∨ n.tags ≠ []) (hS : nth H.bx id = some (.cells 7 (spC n.steps))) (hne : n.steps ≠ [])
  (hG:(n.goals= []∧gv=slV n.gn 5 (glC n.goals))∨(n.goals≠ []∧gv= .own 5 5 0 (glC n.goals).length∧nth H.bx 5=some (.cells 5 (glC n.goals)))) :
  Z1 0 H [.str n.name,slV n.rn 1 (Zi n.roles),oF,oT,.own id 7 0 (spC n.steps).length,gv]=some n.cells:=by
 have hs:=VN hS (Qt n.steps)
 have hg:frzC 0 H gv=some (slV n.gn 5 (glC n.goals)):=by
  rcases hG with ⟨_,rfl⟩|⟨h1,rfl,h2⟩
  · exact Ye _ _ _ _ _
  · rw [VN h2 (QJ n.goals),Zdr h1]
 have ht:frzC 0 H oT=some (slV n.tn 1 (Zi n.tags)):=by
  rw [hT.frzC]
  rcases hTn with rfl|h
  · rfl
  · rw [Qh h,Qh h]
 have hf:frzC 0 H oF=some (slV n.fn 3 (frC n.fresh)):=by
  rw [hF.frzC]
  rcases hFn with rfl|h
  · rfl
  · rw [ZfS h,ZfS h]
 simp only [Z1,Ye,hf,ht,hs,hg,Na.cells,ZbT hne]
 rfl
theorem ZgG (n:Nat) (l:List Sp):ZO n (.cells 7 (spC l))=true:=by
 simp only [ZO,spC,List.all_map,List.all_eq_true]
 intro x _
 obtain ⟨f,t,⟨k,m,s,b,kz⟩,ln⟩:=x
 simp [Sp.cells,Tm.cells,Zo,Ze,under]
theorem Zgq (n:Nat) (l:List Gl):ZO n (.cells 5 (glC l))=true:=by
 simp only [ZO,glC,List.all_map,List.all_eq_true]
 intro x _
 obtain ⟨k,r,w,b,d,ln⟩:=x
 simp [Gl.cells,Zo,Ze,under]
end Go.Vm
namespace Go.Vm.Seat
variable {n:Na} {B0 B1 B2 B3 B4 B5 B6:Box}
open Go.Proofs
theorem Zh5 (h : n.Sm) {oF oT sv gv : PV} {B7 B8 B9 BA : Box} {lv : List Nat} {nt : Nat} (hok : [PV.str n.name, slV n.rn 1 (Zi n.roles), oF, oT, sv, gv].all Zp = true)
  (hf:∀ ex,Z1 0 ⟨[B0,B1,B2,B3,B4,B5,B6,B7,B8,B9,BA]++ex,0,lv,nt⟩ [.str n.name,slV n.rn 1 (Zi n.roles),oF,oT,sv,gv]=some n.cells) :
  CallOk E0 Tryz.prog 31 [.agg [.str n.name,slV n.rn 1 (Zi n.roles),oF,oT,sv,gv]] ⟨[B0,B1,B2,B3,B4,B5,B6,B7,B8,B9,BA],0,lv,nt⟩
   (if n.chk.2=0 then .tup [.agg [.str n.name,slV n.rn 1 (Zi n.roles),oF,oT,sv,gv],.int .i64 0] else .tup [.agg Na.none.cells,.int .i64 n.chk.2])
   ⟨[B0,B1,B2,B3,B4,B5,B6,B7,B8,B9,BA,cpB n.name (slV n.rn 1 (Zi n.roles)) oF oT sv gv,if n.chk.2=0 then cpB n.name (slV n.rn 1 (Zi n.roles)) oF oT sv gv else zB],0,lv,nt⟩:=by
 have hck:=YD (c25 h hNil) (Uf (hf [cpB n.name (slV n.rn 1 (Zi n.roles)) oF oT sv gv,zB])) rfl
 rw [Zu]
 clear hf h
 have n1:=ZK n.chk.2 0
 generalize n.chk.2=e at hck n1 ⊢
 generalize n.chk.1=ln at hck
 generalize slV n.rn 1 (Zi n.roles)=R at hok hck ⊢
 by_cases c:e=0
 · rw [decide_eq_true c] at n1
   subst c
   rw [if_pos rfl,if_pos rfl]
   refine Zs (own:=fun _=>false) tOk fe31.ok ?_
   refine Wp.seq ?_
   repeat' first|refine Jc hck ?_|refine Ji ?_|refine Jt ?_|refine Jb ?_ ?_|refine Jo ?_|intro hb
   all_goals exact RetE.ret rfl rfl rfl
 · rw [decide_eq_false c] at n1
   rw [if_neg c,if_neg c]
   refine Zs (own:=fun _=>false) tOk fe31.ok ?_
   refine Wp.seq ?_
   repeat' first|refine Jc hck ?_|refine Ji ?_|refine Jt ?_|refine Jb ?_ ?_|refine Jo ?_|intro hb
   all_goals exact RetE.ret rfl rfl rfl
theorem ZhD {A B C D F G I J:Box} {l:List Sp} {i:Nat} {x:Sp} (h:l[i]? = some x) (m:Tm) (lv:List Nat) (nt:Nat):Heap.wr ⟨[A,B,C,D,.cells 7 (spC l),F,G,I,J],0,lv,nt⟩ (.ptr 4 7 i 2) m.cells=some ⟨[A,B,C,D,.cells 7 (spC (l.set i {x with msg:=m})),F,G,I,J],0,lv,nt⟩:=by
 have hn:=(Zr _ _).trans (ZX h)
 rw [Ze4 (H:=⟨[A,B,C,D,.cells 7 (spC l),F,G,I,J],0,lv,nt⟩) (el:=spC l) rfl hn (by
  obtain ⟨f,t,⟨k,m1,s,b,kz⟩,ln⟩:=x
  obtain ⟨k',m',s',b',kz'⟩:=m
  simp [Sp.cells,Tm.cells]) (Nat.zero_le _)]
 have e:x.cells.take 2++(m.cells++x.cells.drop (2+m.cells.length))=({x with msg:=m}:Sp).cells:=by
  obtain ⟨f,t,⟨k,m1,s,b,kz⟩,ln⟩:=x
  obtain ⟨k',m',s',b',kz'⟩:=m
  rfl
 rw [e,ZbG]
 rfl
theorem Zbp (el:List (List PV)) (y z:List PV):YZ el 0 y z=y::z::el:=by simp [YZ]
abbrev ckC (k a:Zg):List PV:=[.int .i64 3,.str WA,.int .i64 0,.sl .none 4 [[.int .i64 3,.str ZN,.int .i64 0,.sl .none 4 [[.int .i64 2,.str k,.int .i64 0,.nils],[.int .i64 2,.str a,.int .i64 0,.nils]]]]]
theorem Zku (f t : Zg) (msg : List PV) (l : PV) (hm : Zo 9 msg = true) (hl : under 9 l = true) (hb : [B0, B1, B2, B3, B4, B5, B6].all (ZO 9) = true) (k : Zg) (lv : List Nat) (nt : Nat) : CallOk E0 Tryz.prog 39 [.ptr 8 1 0 0, .ptr 7 7 0 0] ⟨[B0, B1, B2, B3, B4, B5, B6, .cells 7 [.str f :: .str t :: (msg ++ [l])], .cells 1 [[.str k]]], 0, lv, nt⟩
  (.agg (ckC k f)) ⟨[B0,B1,B2,B3,B4,B5,B6,.cells 7 [.str f:: .str t::(msg++ [l])],.cells 1 [[.str k]]],0,lv,nt⟩:=by
 have a1:=c30 k
 have a2:=c30 f
 have p2:=Zhd ZN (atT k) (atT f)
 have p1:=Zix WA (apT ZN [atT k,atT f])
 simp only [apT,atT,Tm.cells,Zb,Zx,Zq] at a1 a2 p2 p1
 have key:CallOk E0 Tryz.prog 39 [.ptr 8 1 0 0,.ptr 7 7 0 0] ⟨[B0,B1,B2,B3,B4,B5,B6,.cells 7 [.str f:: .str t::(msg++ [l])],.cells 1 [[.str k]]],0,lv,nt⟩
  (.agg (ckC k f)) ⟨[B0,B1,B2,B3,B4,B5,B6,.cells 7 [.str f:: .str t::(msg++ [l])],.cells 1 [[.str k]],.cells 4 [ckC k f]],0,lv,nt⟩:=by
  refine Zs (own:=fun _=>false) tOk fe39.ok ?_
  refine Wp.seq ?_
  repeat' first|(apply qCl;rfl;rfl;rfl;rfl;first|exact a1 _|exact a2 _|exact p2 _|exact p1 _)|refine Js ?_|refine Jo ?_|(apply dCl;rfl;rfl;rfl;rfl;rfl;first|exact a1 _|exact a2 _|exact p2 _|exact p1 _)|refine JB ?_|refine Jh ?_|(apply Wp.drawS tOk follows;kernel_rfl;rfl)|intro hb
  all_goals exact RetE.ret rfl rfl rfl
 have hu:Zo 9 (.str f:: .str t::(msg++ [l]))=true:=by
  have e:∀ m:List PV,Zo 9 m=true→Zo 9 (m++ [l])=true:=fun m hm=>by
   induction m with
   | nil=>show (under 9 l&&true)=true;rw [hl];rfl
   | cons a r ih =>
     have hm2:(under 9 a&&Zo 9 r)=true:=hm
     rw [Bool.and_eq_true] at hm2
     show (under 9 a&&Zo 9 (r++ [l]))=true
     rw [hm2.1,ih hm2.2];rfl
  show (under 9 (.str f)&&(under 9 (.str t)&&Zo 9 (msg++ [l])))=true
  rw [e msg hm];rfl
 refine key.shed (Nat.le_of_ble_eq_true rfl) (Nat.zero_le _) rfl ?_
 simp only [List.all_cons,List.all_nil,Bool.and_eq_true,and_true] at hb
 obtain ⟨x0,x1,x2,x3,x4,x5,x6⟩:=hb
 have x7:ZO 9 (.cells 7 [.str f:: .str t::(msg++ [l])])=true:=by
  simp only [ZO,List.all_cons,List.all_nil,hu];rfl
 simp only [List.length_cons,List.length_nil,List.take_succ_cons,List.take_zero,List.all_cons,List.all_nil,x0,x1,x2,x3,x4,x5,x6,x7]
 rfl
theorem c9 (h:n.Ti):∀ H,CallOk E0 Tryz.prog 9 [.agg n.cells] H (.tup [.agg n.cookF.1.cells,.int .i64 n.cookF.2]) H:=by
 have cS:=c25 h.sm
 have n1:=ZK n.chk.2 0
 by_cases c:n.chk.2=0
 case neg=>
  rw [Zbz c]
  rw [decide_eq_false c] at n1
  simp only [Zu]
  generalize n.chk.2=e at cS n1 ⊢
  generalize n.chk.1=ln at cS
  clear h c
  obtain ⟨nm,rn,rs,fn,fr,tn,ts,sn,ss,gn,gs⟩:=n
  simp only [Na.cells] at cS ⊢
  refine Jw tOk fe9.ok rfl ?_ (by simp only [Zt,Zj])
  repeat' first|refine Jc (cS _) ?_|refine Js ?_|refine JA ?_|refine Ji ?_|refine JJ ?_|refine Jx ?_|refine Jt ?_|refine Jb ?_ ?_|refine Jo ?_|refine Jd (cS _) ?_|refine JB ?_|(apply dAq;rfl;rfl;rfl;rfl;rfl;rfl;(first|assumption|solve_by_elim))|(apply dAp;rfl;rfl;rfl;rfl;rfl;(first|assumption|solve_by_elim);rfl)|refine JD ?_|refine JK ?_|refine JI ?_|(apply dT (ty:=4);rfl;rfl;rfl;rfl)|(apply dF (ty:=4);rfl;rfl;rfl;rfl)|(apply dB (ty:=4);rfl;rfl;rfl;rfl)|refine Jh ?_|(apply Wp.drawS tOk follows;kernel_rfl;rfl)|intro hb
  all_goals rfl
 have hne:=(XB c).1
 obtain ⟨x,rest,hxr⟩:∃ x rest,n.steps=x::rest:=List.exists_cons_of_ne_nil hne
 have hs:n.steps[0]? = some x:=by rw [hxr];rfl
 have hxm:x∈n.steps:=by rw [hxr];simp
 rw [Zbj c hs,XN]
 have hnm:=Xg c
 have cN1:=c27 h.sm (fun s hs=>by have:=hnm s hs;omega) (w:=ZcT) (by decide)
 have hl1:=XI (w:=ZcT) hnm (by decide)
 generalize nnF n.nms ZcT=rq at cN1 hl1 ⊢
 have hnm2:=Qb (fun s hs=>Nat.le_trans (hnm s hs) (by decide:24≤25)) hl1
 have hws:=Vl h.sm (Nat.le_trans h.tl (by decide)) (t:=rq) (by omega)
 have cN2:=c27 hws (fun s hs=>by have:=hnm2 s hs;omega) (w:=wCk) (by decide)
 have hl2:=XI (w:=wCk) hnm2 (by decide)
 generalize nnF (n.with rq).nms wCk=key at cN2 hl2 ⊢
 obtain ⟨B0,hB0⟩:∃ B0,B0=naB n.name n.rn n.roles n.fn n.fresh n.tn n.tags n.sn n.steps n.gn n.goals:=⟨_,rfl⟩
 obtain ⟨oF,oT,gv,GB,lv,nt,cC,hV⟩:=c26 h.sm hne B0 zB
 obtain ⟨oT1,lv1,nt1,hap1,hT1,hK⟩:=hV.hT.app XW (.sl .full 1 [[.str rq]]) (YJ [rq]) (ZH (by rw [ZC];have:=h.tl;simp;omega) (by decide)) (Yz [rq])
 rw [show Zi n.tags++ [[.str rq]]=Zi (n.tags++ [rq]) by simp [Zi]] at hT1
 obtain ⟨hF1,hE1⟩:=hK _ _ _ _ hV.hF hV.ne
 clear hK
 obtain ⟨oF2,lv2,nt2,hap2,hF2,hK⟩:=hF1.app ZaK (.sl .full 3 [Fr.cells ⟨x.to,key,3⟩]) (Qm [⟨x.to,key,3⟩]) (ZH (by rw [YI];have:=h.fl;simp;omega) (by decide)) (Uw [⟨x.to,key,3⟩])
 rw [show frC n.fresh++ [Fr.cells ⟨x.to,key,3⟩]=frC (n.fresh++ [⟨x.to,key,3⟩]) by simp [frC]] at hF2
 obtain ⟨hT2, -⟩:=hK _ _ _ _ hT1 (Zbu hE1)
 clear hK
 obtain ⟨N,hN⟩:∃ N,N=n.cookW x rq key:=⟨_,rfl⟩
 have hNs:N.Sm:=by rw [hN];exact Qc h hxm (by omega) (by omega)
 rw [← hN]
 obtain ⟨q1,q2⟩:=Zk n.rn 1 (Zi n.roles)
 obtain ⟨q3,q4⟩:=Yw hV.hF
 obtain ⟨q7,q8⟩:=Yw hV.hT
 obtain ⟨q5,q6⟩:=Yw hT1
 obtain ⟨q9,q0⟩:=Yw hF2
 have qg:[gv].all Zp=true:=by
  rcases hV.gl with ⟨_,rfl,_⟩|⟨_,rfl,_⟩
  · exact (Zk _ _ _).2
  · rfl
 have qa:=UH n.name q2 q4 q8 (show [PV.own 4 7 0 (spC n.steps).length].all Zp=true from rfl) qg
 have qb:=UH n.name q2 q0 q6 (show [PV.own 10 7 0 ((spC n.steps).length+2)].all Zp=true from rfl) qg
 have hGx:∀ H:Heap,nth H.bx 5=some GB→(n.goals= []∧gv=slV n.gn 5 (glC n.goals))∨(n.goals≠ []∧gv= .own 5 5 0 (glC n.goals).length∧nth H.bx 5=some (.cells 5 (glC n.goals))):=fun H hH=>by
  rcases hV.gl with ⟨a,b,c⟩|⟨a,b,c⟩
  · exact .inl ⟨a,b⟩
  · exact .inr ⟨a,b,by rw [hH,c]⟩
 have uF:=fun n=>hV.hF.under n
 have uT:=fun n=>hV.hT.under n
 have uF2:=fun n=>hF2.under n
 have uT1:=fun n=>hT1.under n
 have ugv:under 9 gv=true:=by
  rcases hV.gl with ⟨_,rfl,_⟩|⟨_,rfl,_⟩
  · exact Ze _ _ _ _
  · rfl
 have uGB:ZO 9 GB=true:=by
  rcases hV.gl with ⟨_,_,rfl⟩|⟨_,_,rfl⟩
  · rfl
  · exact Zgq _ _
 have hf1:∀ (b0 b1 b2 b3:Box) ex,Z1 0 ⟨[b0,b1,b2,b3,.cells 7 (spC n.steps),GB]++ex,0,lv,nt⟩ [.str n.name,slV n.rn 1 (Zi n.roles),oF,oT,.own 4 7 0 (spC n.steps).length,gv]=some n.cells:=fun b0 b1 b2 b3 ex=>
  Za8 (fn:=n.fn) (tn:=n.tn) hV.hF (.inl rfl) hV.hT (.inl rfl) rfl hne (hGx _ rfl)
 have hf2:∀ (b0 b1 b2 b3:Box) ex,Z1 0 ⟨[b0,b1,b2,b3,.cells 7 (spC n.steps),GB]++ex,0,lv1,nt1⟩ [.str n.name,slV n.rn 1 (Zi n.roles),oF,oT1,.own 4 7 0 (spC n.steps).length,gv]=some (n.with rq).cells:=fun b0 b1 b2 b3 ex=>
  Za8 (n:=n.with rq) (fn:=n.fn) (tn:=n.tn) hF1 (.inl rfl) hT1 (.inr (by simp [Na.with])) rfl hne (hGx _ rfl)
 have hNst:spC N.steps=Sp.cells ⟨x.frm,x.to,atT rq,0⟩::Sp.cells ⟨x.to,x.frm,ckT key x.frm,0⟩::spC (n.steps.set 0 {x with msg:=apT ZN [ckT key x.frm,x.msg]}):=by
  rw [hN,hxr]
  simp [Na.cookW,spC,hxr]
 have hNl:(spC N.steps).length=(spC n.steps).length+2:=by rw [hNst];simp [spC]
 have hf3:∀ (b0 b1 b2 b3 b4 b6 b7 b8 b9:Box) ex,Z1 0 ⟨[b0,b1,b2,b3,b4,GB,b6,b7,b8,b9,.cells 7 (spC N.steps)]++ex,0,lv2,nt2⟩ [.str N.name,slV N.rn 1 (Zi N.roles),oF2,oT1,.own 10 7 0 (spC N.steps).length,gv]=some N.cells:=fun b0 b1 b2 b3 b4 b6 b7 b8 b9 ex=>by
  refine Za8 (fn:=n.fn) (tn:=n.tn) (lv:=lv2) (nt:=nt2) (by rw [hN];exact hF2) (.inr (by rw [hN];simp [Na.cookW,Na.freshen])) (by rw [hN];exact hT2) (.inr (by rw [hN];simp [Na.cookW,Na.freshen,Na.with])) rfl (by rw [hN];simp [Na.cookW]) ?_
  rw [hN]
  exact hGx _ rfl
 have e1:N.name=n.name:=by rw [hN];rfl
 have e2:N.rn=n.rn:=by rw [hN];rfl
 have e3:N.roles=n.roles:=by rw [hN];rfl
 have cK:=fun (b0 b1 b2 b3 b4 b6 b7 b8 b9:Box)=>Zh5 hNs (oF:=oF2) (oT:=oT1) (sv:= .own 10 7 0 (spC N.steps).length) (gv:=gv) (B0:=b0) (B1:=b1) (B2:=b2) (B3:=b3) (B4:=b4) (B5:=GB) (B6:=b6) (B7:=b7) (B8:=b8) (B9:=b9) (BA:= .cells 7 (spC N.steps)) (lv:=lv2) (nt:=nt2) (by rw [e1,e2,e3,hNl];exact qb) (hf3 b0 b1 b2 b3 b4 b6 b7 b8 b9)
 have fin:=fun (b0 b1 b2 b3 b4 b6 b7 b8 b9:Box) ex=>Vr (e:=0) (hf3 b0 b1 b2 b3 b4 b6 b7 b8 b9 ex)
 rw [e1,e2,e3,hNl,hNst] at cK fin
 have cN1:=fun (b0 b1 b2 b3:Box) ex=>YD (cN1 hNil) (Qz (w:=ZcT) (hf1 b0 b1 b2 b3 ex)) rfl
 have cN2:=fun (b0 b1 b2 b3:Box) ex=>YD (cN2 hNil) (Qz (w:=wCk) (hf2 b0 b1 b2 b3 ex)) rfl
 have hnl:n.steps.length≤20:=h.sl
 have hln:(spC n.steps).length=n.steps.length:=ZI _
 have hpos:0<(spC n.steps).length:=by rw [hln,hxr];simp
 have okS:=fun m=>Qy (n.steps.set 0 {x with msg:=m})
 have hsl:=fun m=>(ZI (n.steps.set 0 {x with msg:=m})).trans (List.length_set ..)
 have hat:=c30 rq
 have hp2:=Zhd ZN (ckT key x.frm) x.msg
 have hgx:=ZX hs
 have hia:ZP E0 24 (.own 4 7 0 (spC n.steps).length) (.int .i64 0)=some (.ptr 4 7 0 0):=ZeH (i:=0) hpos
 obtain ⟨r,hr⟩:∃ r,r=PV.tup [.agg (if N.chk.2=0 then (N,(0:Int)) else (.none,N.chk.2)).1.cells,.int .i64 (if N.chk.2=0 then (N,(0:Int)) else (.none,N.chk.2)).2]:=⟨_,rfl⟩
 rw [← hr]
 have hfr:frz3 0 hNil r=some r:=by rw [hr];exact Vh _ _
 rw [decide_eq_true c] at n1
 rw [c] at cS n1
 generalize n.chk.1=ln at cS
 simp only [Zu] at cK
 subst hB0
 clear h c hV hF1 hE1 hT1 hF2 hT2 hNs hN hNst hNl q1 q2 q3 q4 q7 q8 qg e1 e2 e3 hGx hf1 hf2 hf3 hnm hnm2 hws hl1 hl2 hxm hne
 obtain ⟨nm,rn,rs,fn,fr,tn,ts,sn,ss,gn,gs⟩:=n
 simp only [Na.cells] at cS cC cN1 cN2 cK fin hs hxr hgx hia qa qb hnl hln hpos okS hsl ⊢
 obtain ⟨sf,st,⟨Yk,Ym,Ys,Yb,Yl⟩,sln⟩:=x
 have hwr:=fun (A B C D F G I J:Box)=>ZhD (A:=A) (B:=B) (C:=C) (D:=D) (F:=F) (G:=G) (I:=I) (J:=J) hs (apT ZN [ckT key sf,.mk Yk Ym Ys Yb Yl]) lv2 nt2
 simp only at okS hsl
 have okS:=okS (apT ZN [ckT key sf,.mk Yk Ym Ys Yb Yl])
 have hsl:=hsl (apT ZN [ckT key sf,.mk Yk Ym Ys Yb Yl])
 generalize ss.set 0 {frm:=sf,to:=st,msg:=apT ZN [ckT key sf,.mk Yk Ym Ys Yb Yl],line:=sln}=SS at hwr okS hsl cK fin
 rw [← hln] at hsl
 clear hs hxr
 simp only [Sp.cells,ckT,atT,apT,Tm.cells,Zb,Zx,Zq,List.cons_append,List.nil_append] at hgx hwr hat hp2 cK fin
 obtain ⟨CP,hCP⟩:∃ CP,CP=cpB nm (slV rn 1 (Zi rs)) oF oT (.own 4 7 0 (spC ss).length) gv:=⟨_,rfl⟩
 have cN1:=cN1 (naB nm rn rs fn fr tn ts sn ss gn gs) zB CP CP [CP,.cells 7 [[.str sf,.str st,.int .i64 Yk,.str Ym,.int .i64 Ys,slV Yb 4 (Zb Yl),.int .i64 sln]]]
 have cN2:=cN2 (naB nm rn rs fn fr tn ts sn ss gn gs) zB CP CP [cpB nm (slV rn 1 (Zi rs)) oF oT1 (.own 4 7 0 (spC ss).length) gv,.cells 7 [[.str sf,.str st,.int .i64 Yk,.str Ym,.int .i64 Ys,slV Yb 4 (Zb Yl),.int .i64 sln]]]
 have hwr:=hwr (naB nm rn rs fn fr tn ts sn ss gn gs) zB CP CP GB (cpB nm (slV rn 1 (Zi rs)) oF2 oT1 (.own 4 7 0 (spC ss).length) gv) (.cells 7 [[.str sf,.str st,.int .i64 Yk,.str Ym,.int .i64 Ys,slV Yb 4 (Zb Yl),.int .i64 sln]]) (.cells 1 [[.str key]])
 have cCl:=fun (l:List Sp)=>Zku (B0:=naB nm rn rs fn fr tn ts sn ss gn gs) (B1:=zB) (B2:=CP) (B3:=CP) (B4:= .cells 7 (spC l)) (B5:=GB) (B6:=cpB nm (slV rn 1 (Zi rs)) oF2 oT1 (.own 4 7 0 (spC ss).length) gv) sf st [.int .i64 Yk,.str Ym,.int .i64 Ys,slV Yb 4 (Zb Yl)] (.int .i64 sln)
  (by simp [Zo, under, Ze]) rfl (by
    simp only [List.all_cons,List.all_nil,X0,ZgG,uGB,Bool.and_true,Bool.true_and]
    rw [hCP]
    simp [ZO,Zo,under,Ze,uF,uT,uF2,uT1,ugv]) key lv2 nt2
 simp only [ckC,List.cons_append,List.nil_append] at cCl
 have cI:=Zde (H:=⟨[naB nm rn rs fn fr tn ts sn ss gn gs,zB,CP,CP,.cells 7 (spC SS),GB,cpB nm (slV rn 1 (Zi rs)) oF2 oT1 (.own 4 7 0 (spC ss).length) gv,.cells 7 [[.str sf,.str st,.int .i64 Yk,.str Ym,.int .i64 Ys,slV Yb 4 (Zb Yl),.int .i64 sln]],.cells 1 [[.str key]],
  .cells 7 [[.str sf,.str st,.int .i64 2,.str rq,.int .i64 0,.nils,.int .i64 0],[.str st,.str sf,.int .i64 3,.str WA,.int .i64 0,.sl .none 4 [[.int .i64 3,.str ZN,.int .i64 0,.sl .none 4 [[.int .i64 2,.str key,.int .i64 0,.nils],[.int .i64 2,.str sf,.int .i64 0,.nils]]]],.int .i64 0]]],0,lv2,nt2⟩)
  (id:=4) (id2:=9) (n:=(spC ss).length) (i:=0) (el:=spC SS) rfl rfl (Nat.zero_le _) (by decide) hsl hpos (by omega) okS rfl rfl
 rw [Zbp] at cI
 simp only [List.set_cons_zero,List.set_cons_succ,List.length_cons,List.length_nil,List.cons_append,List.nil_append] at cI
 rw [hCP] at cN1 cN2 cI hwr cCl
 clear okS hsl hln hnl
 refine Xh (own:=(fun d=>[72].any (Nat.beq d))) tOk fe9.ok (by simp only [Zt,Zj]) hfr ?_
 refine Wp.seq ?_
 have cK:=cK (naB nm rn rs fn fr tn ts sn ss gn gs) zB CP CP .dead (cpB nm (slV rn 1 (Zi rs)) oF2 oT1 (.own 10 7 0 ((spC ss).length+2)) gv) (.cells 7 [[.str sf,.str st,.int .i64 Yk,.str Ym,.int .i64 Ys,slV Yb 4 (Zb Yl),.int .i64 sln]]) (.cells 1 [[.str key]])
  (.cells 7 [[.str sf,.str st,.int .i64 2,.str rq,.int .i64 0,.nils,.int .i64 0],[.str st,.str sf,.int .i64 3,.str WA,.int .i64 0,.sl .none 4 [[.int .i64 3,.str ZN,.int .i64 0,.sl .none 4 [[.int .i64 2,.str key,.int .i64 0,.nils],[.int .i64 2,.str sf,.int .i64 0,.nils]]]],.int .i64 0]])
 rw [hCP] at cK
 clear hCP
 repeat' first|(apply qCl;rfl;rfl;rfl;rfl;first|exact cS _|exact cC|exact cN1|exact cN2|exact hat _|exact hp2 _|exact cCl _)|refine Js ?_|refine JA ?_|refine Ji ?_|refine JJ ?_|(apply qLd;rfl;rfl;rfl;assumption;exact IsV.any _)|refine Jx ?_|refine Jt ?_|refine Jb ?_ ?_|refine Jo ?_|(apply qSt;rfl;rfl;assumption;exact IsL.n;rfl;assumption;(first|rfl|assumption);exact IsH.mkN)|(apply dCl;rfl;rfl;rfl;rfl;rfl;first|exact cS _|exact cC|exact cN1|exact cN2|exact hat _|exact hp2 _|exact cCl _)|refine JB ?_|(apply dAq;rfl;rfl;rfl;rfl;rfl;rfl;(first|assumption|solve_by_elim))|(apply dAp;rfl;rfl;rfl;rfl;rfl;(first|assumption|solve_by_elim);rfl)|refine JD ?_|refine JK ?_|(apply dLd;rfl;rfl;rfl;assumption;exact IsV.any _;(first|rfl|(show Nat.blt _ _=true;first|assumption|(simp [Nat.blt];done))))|refine JI ?_|(apply dT (ty:=4);rfl;rfl;rfl;rfl)|(apply dF (ty:=4);rfl;rfl;rfl;rfl)|(apply dB (ty:=4);rfl;rfl;rfl;rfl)|(apply dSt;rfl;rfl;rfl;assumption;exact IsL.n;rfl;assumption;(first|rfl|assumption);exact IsH.mkN;(first|rfl|(simp [Zr];done));rfl;rfl)|(apply dSt;rfl;rfl;rfl;rfl;exact IsL.n;rfl;(first|rfl|assumption|(simp only [List.all_cons,List.all_nil,Z4,Bool.and_true];rfl));assumption;exact IsH.mkN;assumption;assumption;rfl)|refine Jh ?_|(apply Wp.drawS tOk follows;kernel_rfl;rfl)|intro hb
 refine ZjF rfl rfl rfl rfl ?_
 refine dCe rfl rfl rfl rfl rfl cI (Nat.le_of_ble_eq_true rfl) ?_
 clear cS cC cN1 cN2 cI hgx
 by_cases cc:N.chk.2=0
 · rw [if_pos cc] at hr
   simp only [if_pos cc] at cK
   subst hr
   repeat' first|refine Jc cK ?_|refine Js ?_|refine JA ?_|refine Ji ?_|refine JJ ?_|refine Jx ?_|refine Jt ?_|refine Jb ?_ ?_|refine Jo ?_|(apply qSt;rfl;rfl;assumption;exact IsL.n;rfl;assumption;(first|rfl|assumption);exact IsH.mkN)|refine Jd cK ?_|refine JB ?_|(apply dAq;rfl;rfl;rfl;rfl;rfl;rfl;(first|assumption|solve_by_elim))|(apply dAp;rfl;rfl;rfl;rfl;rfl;(first|assumption|solve_by_elim);rfl)|refine JD ?_|refine JK ?_|refine JI ?_|(apply dT (ty:=4);rfl;rfl;rfl;rfl)|(apply dF (ty:=4);rfl;rfl;rfl;rfl)|(apply dB (ty:=4);rfl;rfl;rfl;rfl)|(apply dSt;rfl;rfl;rfl;assumption;exact IsL.n;rfl;assumption;(first|rfl|assumption);exact IsH.mkN;(first|rfl|(simp [Zr];done));rfl;rfl)|refine Jh ?_|(apply Wp.drawS tOk follows;kernel_rfl;rfl)|intro hb
   exact fin _ _ _ _ _ _ _ _ _ [_,_]
 · rw [if_neg cc] at hr
   simp only [if_neg cc,Zu] at cK hr
   subst hr
   generalize N.chk.2=e at cK
   repeat' first|refine Jc cK ?_|refine Js ?_|refine JA ?_|refine Ji ?_|refine JJ ?_|refine Jx ?_|refine Jt ?_|refine Jb ?_ ?_|refine Jo ?_|(apply qSt;rfl;rfl;assumption;exact IsL.n;rfl;assumption;(first|rfl|assumption);exact IsH.mkN)|refine Jd cK ?_|refine JB ?_|(apply dAq;rfl;rfl;rfl;rfl;rfl;rfl;(first|assumption|solve_by_elim))|(apply dAp;rfl;rfl;rfl;rfl;rfl;(first|assumption|solve_by_elim);rfl)|refine JD ?_|refine JK ?_|refine JI ?_|(apply dT (ty:=4);rfl;rfl;rfl;rfl)|(apply dF (ty:=4);rfl;rfl;rfl;rfl)|(apply dB (ty:=4);rfl;rfl;rfl;rfl)|(apply dSt;rfl;rfl;rfl;assumption;exact IsL.n;rfl;assumption;(first|rfl|assumption);exact IsH.mkN;(first|rfl|(simp [Zr];done));rfl;rfl)|refine Jh ?_|(apply Wp.drawS tOk follows;kernel_rfl;rfl)|intro hb
   all_goals rfl
