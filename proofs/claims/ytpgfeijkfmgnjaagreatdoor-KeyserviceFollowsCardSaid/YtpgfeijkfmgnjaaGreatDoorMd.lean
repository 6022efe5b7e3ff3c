/-
  Answers of a service behind changes are small; the reader behind an answer follo
-/
import Derived.Test.YtpgfeijkfmgnjaaGreatDoorLf
set_option maxHeartbeats 0
set_option maxRecDepth 100000
namespace Go.Vm.Seat
variable {a b h h' k k' t:Tm} {s:Sv} {log:List Tm} {c:Rd} {name:Bs}
open Go.Proofs
theorem Znq (h:a.cl=b.cl):Zhi a=Zhi b:=by
 have e1:pkB a=pkB b:=by
  obtain ⟨k,nm,s,bb,kz⟩:=a
  obtain ⟨k',nm',s',bb',kz'⟩:=b
  simp only [Tm.cl,Tm.mk.injEq] at h
  simp only [pkB,h.1,h.2.1]
 have e2:a.valid=b.valid:=YJ h
 have e3:a.th=b.th:=by rw [← ZjX a,h,ZjX]
 have e4:a.fre=b.fre:=by rw [← Zgp a,h,Zgp]
 have e5:a.ground=b.ground:=by rw [← ZaK a,h,ZaK]
 unfold Zhi
 rw [e1,e2,e3,e4,e5]
theorem Zcu (n:Int) (hh:h.cl=h'.cl) (hk:k.cl=k'.cl):(Z5 id h n k).2=(Z5 id h' n k').2∧(Z5 id h n k).1.cl=(Z5 id h' n k').1.cl:=by
 have e:(Xn h n k).cl=(Xn h' n k').cl:=by simp only [Xn,Ur,Uz,Tm.cl,clL,hh,hk]
 have v:=YJ e
 unfold Z5
 simp only [id,YJ hh,YJ hk,v]
 split; · exact ⟨rfl,rfl⟩
 split; · exact ⟨rfl,rfl⟩
 split; · exact ⟨rfl,rfl⟩
 split; · exact ⟨rfl,rfl⟩
 exact ⟨rfl,e⟩
theorem ZkK (n:Int) (hh:h.cl=h'.cl) (hk:k.cl=k'.cl):(Z5 Tm.cl h n k).2=(Z5 Tm.cl h' n k').2∧(Z5 Tm.cl h n k).1.cl=(Z5 Tm.cl h' n k').1.cl:=by
 have a:=UV h n k
 have b:=UV h' n k'
 have c:=Zcu n hh hk
 exact ⟨a.1.trans (c.1.trans b.1.symm),a.2.trans (c.2.trans b.2.symm)⟩
theorem ZfC (h:a.cl=b.cl):QV a=QV b:=by
 obtain ⟨k,nm,s,bb,kz⟩:=a
 obtain ⟨k',nm',s',bb',kz'⟩:=b
 simp only [Tm.cl,Tm.mk.injEq] at h
 obtain ⟨rfl,rfl,rfl, -,h⟩:=h
 have:kz.isEmpty=kz'.isEmpty:=by cases kz<;>cases kz'<;>simp [clL] at h ⊢
 simp only [QV,this]
structure RdEq (a b:Rd):Prop where
 svc:a.svc.cl=b.svc.cl
 size:a.size=b.size
 head:a.head.cl=b.head.cl
 signed:a.signed.cl=b.signed.cl
theorem Zmq {a b:Rd} (h:RdEq a b):VI id a=VI id b:=by
 have e:=Zcu a.size h.head (Zez h.svc)
 have hc:((Z5 id a.head a.size (YB a.svc)).1.cmp a.signed=0)=((Z5 id b.head b.size (YB b.svc)).1.cmp b.signed=0):=by
  rw [← h.size]
  exact propext (by rw [ZU,ZU,e.2,h.signed])
 unfold VI
 rw [Znq h.svc,ZfC h.head,ZfC h.signed]
 simp only [← h.size] at hc ⊢
 rw [e.1]
 simp only [hc]
theorem Zio {name:Bs}:∀ {l:List Tm},(Zt name l).2.2=true→∃ t,l.reverse[(Zt name l).2.1]? = some t∧(Zf t).2=0∧(Zf t).1.sub=name∧(Zf t).1.key=(Zt name l).1∧(Zf t).1.till≠0
 | [],h=>by simp [Zt] at h
 | t :: r, h => by
   simp only [Zt] at h ⊢
   by_cases hc:(Zf t).2=0∧(Zf t).1.sub=name
   · rw [if_pos hc] at h ⊢
     refine ⟨t,?_,hc.1,hc.2,rfl,by simpa using h⟩
     rw [List.reverse_cons,List.getElem?_append_right (by simp)]
     simp
   · rw [if_neg hc] at h ⊢
     obtain ⟨u,h1,h2⟩:=Zio h
     refine ⟨u,?_,h2⟩
     rw [List.reverse_cons,List.getElem?_append_left (ZK h1)]
     exact h1
theorem ZhR {log:List Tm} {k:Tm}:∀ {n i:Nat},Zjk log k i n=true→∀ j t,i≤j→j<i+n→log[j]? = some t→Zbk (log.take j) t k=true
 |0,i,_,j,t,h1,h2,_=>by omega
 | n + 1, i, h, j, t, h1, h2, ht => by
   simp only [Zjk] at h
   by_cases e:j=i
   · subst e
     rw [ht] at h
     simp only [Bool.and_eq_true] at h
     exact h.1
   · cases hi : log[i]? with
     | none=>rw [List.getElem?_eq_none_iff] at hi;have:=ZK ht;omega
     | some u =>
       rw [hi] at h
       simp only [Bool.and_eq_true] at h
       exact ZhR h.2 j t (by omega) (by omega) ht
theorem ZlR (h:svV s=0):Zjk s.log s.key 0 s.log.length=true∧(Wf s.log s.key).2.2=true∧s.log.length≤32:=by
 unfold svV at h
 split at h; · cases h
 split at h; · cases h
 split at h; · cases h
 split at h; · cases h
 split at h; · cases h
 rename_i h1 h2 h3 h4 h5
 exact ⟨by simpa using h4,by simpa using h5,by omega⟩
theorem Zeq (h : svV s = 0) {i : Nat} (ht : s.log[i]? = some t) (ht0 : (Zf t).1.till ≠ 0) :
  ((Zv (Zf t).1.sub (Zf t).1.key i 9999).issue s.key).2=0∧t.cl=((Zv (Zf t).1.sub (Zf t).1.key i 9999).issue s.key).1.cl:=by
 have hi:=ZK ht
 have hf:=ZhR (ZlR h).1 i t (Nat.zero_le _) (by omega) ht
 have hl:(s.log.take i).length=i:=by rw [List.length_take];omega
 unfold Zbk ZjV at hf
 rw [hl] at hf
 split at hf; · cases hf
 split at hf; · cases hf
 rename_i h1 h2
 simp only [not_or,decide_eq_true_eq,decide_eq_false_iff_not,Bool.and_eq_true,not_and,Classical.not_not] at h2
 obtain ⟨a,b,c⟩:=h2
 have e:=c ht0
 rw [e] at a b
 exact ⟨a,ZU.1 b⟩
theorem ZnT:∀ a b:Fin 33,Lib.itoa ((a:Nat):Int)=Lib.itoa ((b:Nat):Int)→a=b:=by decide +kernel
theorem ZoM {n m:Int} (h0:0≤n) (h1:n≤32) (h2:0≤m) (h3:m≤32) (h:(Ub n).cl=(Ub m).cl):n=m:=by
 obtain ⟨a,rfl⟩:=Int.eq_ofNat_of_zero_le h0
 obtain ⟨b,rfl⟩:=Int.eq_ofNat_of_zero_le h2
 simp only [Ub,Yn,Tm.cl,Tm.mk.injEq,List.cons.injEq,true_and] at h
 have:=ZnT ⟨a,by omega⟩ ⟨b,by omega⟩ h.1
 have:=congrArg Fin.val this
 simp only at this
 omega
structure Fl (c:Rd) (log:List Tm):Prop where
 svc:c.svc.cl=(pkT (skT Za4)).cl
 cs:(c.size=0∧c.signed= .zero)∨(0<c.size∧c.size≤(log.length:Int)∧c.head.cl=(Zr 33 (log.take c.size.toNat)).cl)
 key:VI id c=true
theorem Zm6 {a b:Rd} (ha:Fl a log) (hb:VI id b=true) (hv:a.svc.cl=b.svc.cl) (hs:b.size=(log.length:Int)) (hp:0<b.size) (h32:log.length≤32) (hh:b.head.cl=(Zr 33 log).cl):ZcI a.signed b.signed (YB a.svc)=false:=by
 rcases ha.cs with ⟨-,hz⟩|⟨p1,p2,p3⟩
 · rw [hz]
   rfl
 · by_cases he : a.size = b.size
   · rw [ZgR ha.key hb p1 he hv]
     have e:log.take a.size.toNat=log:=by rw [he,hs,Int.toNat_natCast,List.take_length]
     rw [e] at p3
     rw [decide_eq_true (ZU.2 (p3.trans hh.symm))]
     rfl
   · have e1 := VV ha.key p1
     have e2:=VV hb hp
     obtain ⟨x1,x2,x3⟩:=ZfB e1
     obtain ⟨y1,y2,y3⟩:=ZfB e2
     have hn:¬ (YB (Ue (YB a.signed))).cmp (YB (Ue (YB b.signed)))=0:=fun e=>by
      have:=ZU.1 e
      rw [x2,y2] at this
      exact he (ZoM (by omega) (by omega) (by omega) (by omega) this)
     simp only [ZcI,decide_eq_false hn,Bool.false_and,Bool.and_false]
theorem Zms (h:t.cl=(pkT k).cl):(YB t).cl=k.cl:=by
 rw [Zez h]
 rfl
theorem Zn5 (hs : Mad 10 s) (hv : svV s = 0) (hc : Fl c s.log) (hk : (Zt name s.log.reverse).2.2 = true) :
  ∃ x key,ZjO c (anY s name c.size.toNat)=(x,key,0)∧Fl x s.log∧x.size=(s.log.length:Int)∧key.cl=(Zt name s.log.reverse).1.cl∧Znx c x=(false,0):=by
 obtain ⟨q1,q2,q3⟩:=ZlR hv
 obtain ⟨t,ht,r0,r1,r2,r3⟩:=Zio hk
 rw [List.reverse_reverse] at ht
 have hi:=ZK ht
 obtain ⟨i1,i2⟩:=Zeq hv ht r3
 obtain ⟨d1,d2⟩:=Zl6 (t:=t.cl) (t':=t) (XR t)
 have hRH:(Zy s.log).1=Zr 33 s.log:=by
  have:=ZbF (Zci hv)
  unfold Zy
  rw [if_neg (not_not_intro this.1),if_neg (not_not_intro this.2)]
 have hkk:(YB c.svc).cl=s.key.cl:=by rw [hs.key];exact Zms hc.svc
 have hA:anY s name c.size.toNat=⟨name,t.cl,((Zt name s.log.reverse).2.1:Int),(s.log.length:Int),(Zr 33 s.log).cl,(Z5 Tm.cl (Zr 33 s.log).cl s.log.length s.key).1,true,clL (WX 32 s.log (Zt name s.log.reverse).2.1),true,if c.size.toNat=0 then [] else clL (Wa 32 s.log c.size.toNat true)⟩:=by
  unfold anY
  rw [ht,hRH]
  rfl
 generalize hix:(Zt name s.log.reverse).2.1=ix at ht hi i1 i2 hA
 rw [hA]
 have hcr:CrEq (Zv name (Zf t.cl).1.key (ix:Int) 9999) (Zv (Zf t).1.sub (Zf t).1.key (ix:Int) 9999):=⟨r1.symm,d2.key,rfl,rfl,rfl,rfl,rfl,rfl⟩
 have his:=Zfy hcr hkk
 have e2:¬ (((Zv name (Zf t.cl).1.key (ix:Int) 9999).issue (YB c.svc)).2≠0∨((Zv name (Zf t.cl).1.key (ix:Int) 9999).issue (YB c.svc)).1.cmp t.cl≠0):=by
  rintro (h|h)
  · exact h (his.1.trans i1)
  · exact h (ZU.2 (by rw [his.2,XR,i2]))
 have hsg:=ZkK (s.log.length:Int) (rfl:(Zr 33 s.log).cl.cl=(Zr 33 s.log).cl.cl) hkk
 have hsig:(Z5 id (Zr 33 s.log) s.log.length s.key).2=0:=by
  rw [Zfz hv,hRH] at q2
  simpa using q2
 have hsg2:(Z5 Tm.cl (Zr 33 s.log).cl s.log.length (YB c.svc)).2=0:=by rw [hsg.1,Qo,hsig]
 have hcl:∀ l:List Tm,(clL l).map Tm.cl=l.map Tm.cl:=Zmg
 obtain ⟨c1,c2⟩:=Za1 32 ix s.log (clL (WX 32 s.log ix)) [] t.cl t q3 q3 ht (XR t) (hcl _)
 rw [List.append_nil] at c1 c2
 have hinc:Vv (Zr 33 s.log).cl (s.log.length:Int) (ix:Int) t.cl (clL (WX 32 s.log ix))=true:=by
  rw [ZgW]
  unfold Zjw
  have hil:=QZ 32 s.log ix
  rw [if_neg (by rw [We];omega),Int.toNat_natCast,Int.toNat_natCast,c1]
  simp only [List.isEmpty_nil,Bool.true_and,decide_eq_true_eq]
  exact ZU.2 (by rw [c2,XR])
 have hext:¬ (0<c.size∧V8 c.head c.size (Zr 33 s.log).cl (s.log.length:Int) (if c.size.toNat=0 then [] else clL (Wa 32 s.log c.size.toNat true))=false):=by
  rintro ⟨p,h⟩
  rcases hc.cs with ⟨h0, -⟩|⟨p1,p2,p3⟩
  · omega
  · obtain ⟨n, hn⟩ := Int.eq_ofNat_of_zero_le (show 0 ≤ c.size by omega)
    rw [hn] at h p2 p3 p1
    rw [Int.toNat_natCast] at h p3
    rw [if_neg (by omega)] at h
    obtain ⟨g1,g2,g3⟩:=ZcF 32 n true s.log (clL (Wa 32 s.log n true)) [] c.head q3 q3 (by omega) (by omega) (fun _=>p3) (hcl _)
    rw [List.append_nil] at g1 g2 g3
    rw [ZgH] at h
    unfold Zih at h
    have hxl:=VT 32 s.log n true
    rw [if_neg (by rw [We];omega),Int.toNat_natCast,Int.toNat_natCast,g1] at h
    simp only [List.isEmpty_nil,Bool.true_and,decide_eq_true (ZU.2 (g2.trans p3.symm)),decide_eq_true (ZU.2 (g3.trans (XR _).symm))] at h
    cases h
 have hsz:¬ ((s.log.length:Int)<c.size):=by
  rcases hc.cs with ⟨h0, -⟩|⟨p1,p2, -⟩<;>omega
 have hacc : ZjO c ⟨name, t.cl, (ix : Int), (s.log.length : Int), (Zr 33 s.log).cl, (Z5 Tm.cl (Zr 33 s.log).cl s.log.length s.key).1, true, clL (WX 32 s.log ix), true, if c.size.toNat = 0 then [] else clL (Wa 32 s.log c.size.toNat true)⟩ =
   (⟨c.svc.cl,(s.log.length:Int),(Zr 33 s.log).cl.cl,(Z5 Tm.cl (Zr 33 s.log).cl s.log.length s.key).1.cl⟩,(Zf t.cl).1.key.cl,0):=by
  unfold ZjO
  simp only []
  rw [Zcz,hc.key,if_neg (by simp),if_neg (by rw [d1,r0];simp),if_neg e2,if_neg hsz,if_neg]
  rintro (h|h|h|h)
  · exact h hsg2
  · exact h (ZU.2 hsg.2)
  · rw [hinc] at h;cases h
  · exact hext h
 have hk1:Zhi c.svc=true:=by
  have:=hc.key
  unfold VI at this
  simp only [Bool.and_eq_true] at this
  exact this.1
 have hx:VI id ⟨c.svc.cl,(s.log.length:Int),(Zr 33 s.log).cl.cl,(Z5 Tm.cl (Zr 33 s.log).cl s.log.length s.key).1.cl⟩=true:=by
  rw [Zmq (a:=⟨c.svc.cl,(s.log.length:Int),(Zr 33 s.log).cl.cl,(Z5 Tm.cl (Zr 33 s.log).cl s.log.length s.key).1.cl⟩) (b:=⟨c.svc,(s.log.length:Int),Zr 33 s.log,(Z5 id (Zr 33 s.log) s.log.length s.key).1⟩) ⟨XR _,rfl,by rw [XR,XR],by rw [XR];exact ZbS _ _ _⟩]
  have hg:=Zcu (s.log.length:Int) (rfl:(Zr 33 s.log).cl=(Zr 33 s.log).cl) hkk
  unfold VI
  simp only [hk1,Bool.true_and]
  rw [if_neg (by omega),if_neg (by omega),decide_eq_true (hg.1.trans hsig),decide_eq_true (ZU.2 hg.2)]
  rfl
 refine ⟨_,_,hacc,⟨?_,.inr ⟨?_,?_,?_⟩,?_⟩,rfl,?_,?_⟩
 · exact (XR _).trans hc.svc
 · show (0 : Int) < (s.log.length : Int)
   omega
 · exact Int.le_refl _
 · show (Zr 33 s.log).cl.cl.cl = (Zr 33 (s.log.take ((s.log.length : Int)).toNat)).cl
   rw [Int.toNat_natCast,List.take_length,XR,XR]
 · exact hx
 · rw [XR,d2.key,r2]
 · unfold Znx
   rw [hc.key,hx,if_neg (by simp),if_neg (not_not_intro (ZU.2 (XR _).symm))]
   rw [Zm6 hc hx (XR _).symm rfl (show (0:Int)<(s.log.length:Int) by omega) q3 (by rw [XR,XR])]
theorem Zcs {x:Cred} (he:(ZcQ s x).2=0):∃ r,(ZcQ s x).1.log=s.log++r:=by
 unfold ZcQ at he ⊢
 split at he; · cases he
 split at he; · cases he
 rename_i h1 h2
 rw [if_neg h1,if_neg h2]
 exact ⟨_,rfl⟩
theorem Zm4 {o:Opp} (he:(doF s o).2=0):∃ r,(doF s o).1.log=s.log++r:=by
 unfold doF at he ⊢
 split at he
 · rename_i h
   rw [if_pos h]
   unfold ZjP at he ⊢
   split at he; · contradiction
   split at he; · contradiction
   split at he; · cases he
   rename_i h1 h2 h3
   rw [if_neg h1,if_neg h2,if_neg h3]
   exact Zcs he
 · split at he
   · rename_i h h'
     rw [if_neg h,if_pos h']
     unfold ZjR at he ⊢
     split at he; · contradiction
     split at he; · contradiction
     split at he; · cases he
     split at he; · cases he
     rename_i h1 h2 h3 h4
     rw [if_neg h1,if_neg h2,if_neg h3,if_neg h4]
     exact Zcs he
   · rename_i h h'
     rw [if_neg h,if_neg h']
     unfold ZjT at he ⊢
     split at he; · contradiction
     split at he; · cases he
     rename_i h1 h2
     rw [if_neg h1,if_neg h2]
     exact Zcs he
theorem ZkQ (l:List Opp) (i:Nat):∃ r,(Ys l (i+1)).log=(Ys l i).log++r:=by
 simp only [Ys]
 cases l[i]? with
 |none=>exact ⟨[],(List.append_nil _).symm⟩
 | some o =>
   show ∃ r,(ZdY (Ys l i) o).log=_
   unfold ZdY
   split
   · exact Zm4 (by assumption)
   · exact ⟨[],(List.append_nil _).symm⟩
theorem ZdL (l:List Opp) (k:Nat):∀ j,j≤k→Ys (l.take k) j=Ys l j
 |0,_=>rfl
 | j + 1, h => by
   have e:(l.take k)[j]? = l[j]? :=List.getElem?_take_of_lt (by omega)
   simp only [Ys,e,ZdL l k j (by omega)]
theorem Fl.mono (h:Fl c log) (r:List Tm):Fl c (log++r):=by
 refine ⟨h.svc,?_,h.key⟩
 rcases h.cs with h0|⟨p1,p2,p3⟩
 · exact .inl h0
 · refine .inr ⟨p1, by rw [List.length_append]; omega, ?_⟩
   rw [List.take_append_of_le_length (by omega)]
   exact p3
theorem ZkE (n:Nat):ZB (Wk n)=true:=by
 unfold Wk
 have h:n % 6<6:=Nat.mod_lt _ (by omega)
 generalize n % 6=m at h
 have hall:((List.range 6).all fun m=>ZB ((ZoW[m]?).getD []))=true:=by kernel_rfl
 exact List.all_eq_true.1 hall m (List.mem_range.2 h)
theorem Zmm (hs : s.log.length ≤ 32) (hd : ZB name = true) {z : Int} (h0 : 0 ≤ z) (hz : z ≤ (s.log.length : Int)) :
  ((Zt name s.log.reverse).2.2=false∧(Zbf s.log name).2=4∧Znt s name z=(An.zero,4))∨
  ((Zt name s.log.reverse).2.2=true∧(Zbf s.log name).2=0∧(Zbf s.log name).1=(Zt name s.log.reverse).1.cl∧Znt s name z=(anY s name z.toNat,0)):=by
 have hc : Znc s.log name = match UJ name s.log.reverse with
   | none=>(.zero,4)
   | some (k,e)=>if e=0 then (.zero,4) else (k,0):=by
  unfold Znc
  rw [if_neg (by omega),if_neg (by rw [hd];simp)]
  cases UJ name s.log.reverse<;>rfl
 unfold Zbf
 rw [hc]
 unfold Znt
 rcases Zjm name s.log.reverse with ⟨h1,h2⟩|⟨k,e,h1,h2,h3⟩
 · rw [h1, h2]
   exact .inl ⟨rfl,rfl,if_pos rfl⟩
 · rw [h1]
   by_cases he:e=0
   · rw [he] at h3
     simp only [ne_eq,not_true_eq_false,decide_false] at h3
     rw [h3]
     simp only [he,if_true]
     exact .inl ⟨trivial,trivial,trivial⟩
   · rw [decide_eq_true he] at h3
     refine .inr ⟨h3,?_,?_,?_⟩
     · simp only [if_neg he]
     · simp only [if_neg he,h2]
     · rw [h3,if_neg (by simp),if_neg (by omega)]
theorem Zo4 (h:Mad 10 s) (hv:svV s=0) (hn:name.length≤100) (z:Nat):AnSm (anY s name z) 2000:=by
 have hh:=Zj3 h
 rw [Zfz hv] at hh
 have hl:=h.len
 have hi:=Zep (S:=150) 32 (l:=s.log) (Zt name s.log.reverse).2.1 (by omega) h.lg
 have hx:=Ze8 (S:=150) 32 (l:=s.log) z true (by omega) h.lg
 have hil:=QZ 32 s.log (Zt name s.log.reverse).2.1
 have hxl:=VT 32 s.log z true
 have hlk:=(W6 (name:=name) (S:=900) (by omega) (l:=s.log.reverse) fun u hu=>⟨h.ok.l u (List.mem_reverse.1 hu),h.ok.ls u (List.mem_reverse.1 hu)⟩).2.2
 rw [List.length_reverse] at hlk
 have he:((s.log[(Zt name s.log.reverse).2.1]?).getD .zero).Ok∧((s.log[(Zt name s.log.reverse).2.1]?).getD .zero).size≤2000:=by
  cases e:s.log[(Zt name s.log.reverse).2.1]? with
  | none=>exact ⟨Tm.ok_zero,by show Tm.zero.size≤_;have:Tm.zero.size=1:=rfl;omega⟩
  | some t=>exact ⟨h.ok.l t (List.mem_of_getElem? e),by have:=h.sz t (List.mem_of_getElem? e);show t.size≤_;omega⟩
 have wf:∀ k:Nat,k≤100→(Lit.int .i64 (k:Int)).wf=true:=fun k hk=>by
  have:∀ m:Fin 101,(Lit.int .i64 ((m:Nat):Int)).wf=true:=by decide
  exact this ⟨k,by omega⟩
 have hS:(Z5 Tm.cl (Zy s.log).1.cl s.log.length s.key).1.Ok∧(Z5 Tm.cl (Zy s.log).1.cl s.log.length s.key).1.size≤2000:=by
  refine ⟨(ZcO Tm.cl (fun t ht=>⟨Wi ht,YN t⟩) (s.log.length:Int) (Wi hh.1.1) h.ok.k).1,?_⟩
  rw [← YN,ZbS,YN]
  exact hh.2.2
 have hcl:∀ (l:List Tm) (S:Nat),(∀ t,t∈l→t.Ok∧t.size≤S)→∀ t,t∈clL l→t.Ok∧t.size≤S:=fun l S hl t ht=>by
  rw [XE] at ht
  obtain ⟨u,hu,rfl⟩:=List.mem_map.1 ht
  exact ⟨Wi (hl u hu).1,by rw [YN];exact (hl u hu).2⟩
 have hI:=hcl _ _ hi
 have hX:∀ t,t∈(if z=0 then [] else clL (Wa 32 s.log z true))→t.Ok∧t.size≤12*(150+11):=fun t ht=>by
  split at ht
  · simp at ht
  · exact hcl _ _ hx t ht
 have hXl:(if z=0 then ([]:List Tm) else clL (Wa 32 s.log z true)).length≤32:=by
  split
  · simp
  · rw [We];exact hxl
 exact ⟨⟨Wi he.1,Wi hh.1.1,hS.1,fun t ht=>(hI t ht).1,fun t ht=>(hX t ht).1,(by show (clL _).length≤maxLen;rw [We];unfold maxLen;omega),(by show (if z=0 then ([]:List Tm) else clL (Wa 32 s.log z true)).length≤maxLen;unfold maxLen;omega)⟩,hn,
  by show (Tm.cl _).size≤_;rw [YN];exact he.2,by show (Tm.cl _).size≤_;rw [YN];exact Nat.le_trans hh.1.2 (by omega),hS.2,fun t ht=>by have:=(hI t ht).2;omega,fun t ht=>by have:=(hX t ht).2;omega,wf _ (by omega),wf _ (by omega)⟩
theorem Zoo:Fl ⟨pkT (skT Za4).cl,0,.zero,.zero⟩ (WW Za4).log:=
 ⟨by simp only [pkT,Tm.cl,clL,XR],.inl ⟨rfl,rfl⟩,by kernel_rfl⟩
