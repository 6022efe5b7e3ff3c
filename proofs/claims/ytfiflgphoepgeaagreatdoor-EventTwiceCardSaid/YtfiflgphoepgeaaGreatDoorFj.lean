/-
  What the listed variables hold; the call of a statement's function where the cod
-/
import Derived.Test.YtfiflgphoepgeaaGreatDoorFi
import Derived.LaidByTextLater
namespace Go.Vm
variable {nm p:Bs} {f s:Int} {t x y:Tm} {b:List Nat} {d:UInt8} {c i:Nat} {kz:List Tm}
theorem Zk2 (h:Znb nm=true):(Yo nm).kind≠3∧nm≠Zai∧Zab 3 nm=false∧nm≠YE:=by
 simp only [Znb,Zrw,Bool.and_eq_true,Bool.not_eq_true',Bool.or_eq_false_iff,decide_eq_true_eq,beq_eq_false_iff_ne,ne_eq] at h
 obtain ⟨⟨⟨⟨⟨⟨h1,h2⟩,h3⟩,h4⟩,h5⟩,h6⟩,h7⟩:=h
 refine ⟨h7,h1,?_,h3⟩
 unfold Zab
 rw [decide_eq_false (show ¬ nm=Vi from h4),decide_eq_false (show ¬ nm=WJ from h5),decide_eq_false (show ¬ nm=VF from h6)]
 rfl
theorem Zj3 {n:Nat} (h:Yw 3 nm s n=0):s=0:=by
 unfold Yw at h
 split at h
 · cases h
 · rename_i h1
   by_cases e:s=0
   · exact e
   · exact absurd (.inr (.inr (.inr (.inl ⟨rfl,e⟩)))) h1
mutual
theorem Zfd (c:Bool):∀ t:Tm,t.fre=true→t.nodes=0→(t.nrm c).2=0∧(t.nrm c).1.cl=t.cl
 | .mk k nm s b kz, hf, hn => by
   simp only [Tm.fre,Bool.and_eq_true] at hf
   simp only [Tm.nodes] at hn
   simp only [Tm.nrm]
   by_cases hk:k≠3
   · rw [if_pos hk];exact ⟨rfl,rfl⟩
   rw [if_neg hk]
   have hk:k=3:=Classical.not_not.1 hk
   subst hk
   rw [if_pos rfl] at hf
   have hnf:Yw 3 nm s kz.length=0:=by
    by_cases e:Yw 3 nm s kz.length=0
    · exact e
    · rw [if_pos e] at hn;exact hn
   rw [if_neg (by omega)] at hn
   obtain ⟨e1,e2⟩:=ZcX c kz hf.2 hn
   rw [if_neg (by omega)]
   obtain ⟨a1,a2,a3,a4⟩:=Zk2 hf.1
   obtain rfl:=Zj3 hnf
   unfold YL
   rw [if_neg a1,if_neg a2,if_neg (by rw [a3];simp),if_neg a4]
   exact ⟨rfl,by simp only [Tm.cl,YR,e2]⟩
theorem ZcX (c:Bool):∀ l:List Tm,Zev l=true→Yd l=0→(nrmL c l).2=0∧(nrmL c l).1.map Tm.cl=l.map Tm.cl
 | [],_,_=>⟨rfl,rfl⟩
 | t :: r, hf, hn => by
   simp only [Zev,Bool.and_eq_true] at hf
   simp only [Yd] at hn
   have h1:t.nodes=0:=by
    by_cases e:t.nodes=0
    · exact e
    · rw [if_pos e] at hn;exact hn
   rw [if_neg (by omega)] at hn
   obtain ⟨a1,a2⟩:=Zfd c t hf.1 h1
   obtain ⟨b1,b2⟩:=ZcX c r hf.2 hn
   simp only [nrmL]
   rw [if_neg (by omega),if_neg (by omega)]
   exact ⟨rfl,by simp only [List.map_cons,a2,b2]⟩
end
structure Tm.Fr (t:Tm):Prop where
 v:t.valid=0
 h:t.th=0
 g:t.ground=true
 f:t.fre=true
theorem ZhK (h:t.valid=0):t.nodes=0:=by
 unfold Tm.valid at h
 by_cases e:t.nodes=0
 · exact e
 · rw [if_pos e] at h;exact h
theorem Zba (c:Bool) (h:t.Fr):(t.nf c).2=0∧(t.nf c).1.cl=t.cl:=by
 obtain ⟨e1,e2⟩:=Zfd c t h.f (ZhK h.v)
 unfold Tm.nf
 have e3:(t.nrm c).1.valid=0:=by rw [YV e2];exact h.v
 rw [if_neg (by rw [h.v];simp),if_neg (by rw [h.h];simp),if_neg (by rw [e1];simp),if_neg (by rw [e3];simp)]
 exact ⟨rfl,e2⟩
theorem Zm0 (h:t.fre=true):t.dsB=true:=by
 rw [Tm.fre_all,List.all_eq_true] at h
 unfold Tm.dsB
 rw [List.all_eq_true]
 intro x hx
 have:=h x hx
 obtain ⟨k,nm,s,b,kz⟩:=x
 simp only [Tm.fre1] at this
 by_cases hk:k=3
 · rw [if_pos hk] at this
   have h3:=(Zk2 this).1
   simp [hk,h3]
 · simp [hk]
theorem ZaM (c:Bool) (h:t.Fr):t.plainB c=true:=by
 obtain ⟨e1,e2⟩:=Zba c h
 unfold Tm.plainB
 rw [Zm0 h.f,decide_eq_true e1,decide_eq_true (XF.2 e2)]
 rfl
mutual
theorem ZhT:∀ t:Tm,t.cl.fre=t.fre
 | .mk k nm s b kz=>by simp only [Tm.cl,Tm.fre,Zhl kz]
theorem Zhl:∀ l:List Tm,Zev (clL l)=Zev l
 | []=>rfl
 |t::r=>by simp only [clL,Zev,ZhT t,Zhl r]
end
mutual
theorem Zec:∀ t:Tm,t.cl.all.map Tm.knd=t.all.map Tm.knd
 | .mk k nm s b kz=>by simp only [Tm.cl,Tm.all,List.map_cons,ZfF kz,Tm.knd]
theorem ZfF:∀ l:List Tm,(VG (clL l)).map Tm.knd=(VG l).map Tm.knd
 | []=>rfl
 |t::r=>by simp only [clL,VG,List.map_append,Zec t,ZfF r]
end
theorem Wg (t:Tm):t.ground=(t.all.map Tm.knd).all fun k=> !decide (k=1):=by
 unfold Tm.ground Zdn
 rw [Bool.eq_iff_iff,List.isEmpty_iff,List.filter_eq_nil_iff,List.all_eq_true]
 simp
theorem ZoZ {u:Tm} (h:t.cl=u.cl) (hu:u.Fr):t.Fr where
 v:=by rw [YV h];exact hu.v
 h:=by rw [← Zh9,h,Zh9];exact hu.h
 g:=by rw [Wg, ← Zec,h,Zec, ← Wg];exact hu.g
 f:=by rw [← ZhT,h,ZhT];exact hu.f
mutual
def Tm.xs (g:Int→Bs→Bs):Tm→Tm
 | .mk k nm s _ kz=> .mk k (if k=2 then g s nm else nm) s true (xsL g kz)
def xsL (g:Int→Bs→Bs):List Tm→List Tm
 | []=>[]
 |t::r=>t.xs g::xsL g r
end
mutual
theorem ZoK (g:Bs→Bs):∀ t:Tm,t.xt g=t.xs fun _=>g
 | .mk k nm s b kz=>by simp only [Tm.xt,Tm.xs,Zll g kz]
theorem Zll (g:Bs→Bs):∀ l:List Tm,xtL g l=xsL (fun _=>g) l
 | []=>rfl
 |t::r=>by simp only [xtL,xsL,ZoK g t,Zll g r]
end
mutual
def Tm.nmA (p:Bs→Bool):Tm→Bool
 | .mk _ nm _ _ kz=>p nm&&Zax p kz
def Zax (p:Bs→Bool):List Tm→Bool
 | []=>true
 |t::r=>t.nmA p&&Zax p r
end
mutual
theorem ZeE {p:Bs→Bool} (h:∀ s,p s=true):∀ t:Tm,t.nmA p=true
 | .mk k nm s b kz=>by rw [Tm.nmA,h,ZcL h kz];rfl
theorem ZcL {p:Bs→Bool} (h:∀ s,p s=true):∀ l:List Tm,Zax p l=true
 | []=>rfl
 |t::r=>by rw [Zax,ZeE h t,ZcL h r];rfl
end
variable {g:Int→Bs→Bs}
theorem QC:∀ l:List Tm,xsL g l=l.map (·.xs g)
 | []=>rfl
 |t::r=>by simp only [xsL,List.map_cons,QC r]
theorem Q4 (l:List Tm):(xsL g l).length=l.length:=by rw [QC,List.length_map]
mutual
theorem Zk6:∀ t:Tm,(t.xs g).fre=t.fre
 | .mk k nm s b kz => by
   simp only [Tm.xs,Tm.fre,ZgE kz]
   by_cases hk:k=3
   · simp [hk]
   · simp [hk]
theorem ZgE:∀ l:List Tm,Zev (xsL g l)=Zev l
 | []=>rfl
 |t::r=>by simp only [xsL,Zev,Zk6 t,ZgE r]
end
mutual
theorem Zlq:∀ t:Tm,(t.xs g).all.map Tm.knd=t.all.map Tm.knd
 | .mk k nm s b kz=>by simp only [Tm.xs,Tm.all,List.map_cons,Ziv kz,Tm.knd]
theorem Ziv:∀ l:List Tm,(VG (xsL g l)).map Tm.knd=(VG l).map Tm.knd
 | []=>rfl
 |t::r=>by simp only [xsL,VG,List.map_append,Zlq t,Ziv r]
end
theorem ZlS (n:Bs) (kz:List Tm):X9 n (xsL g kz)=X9 n kz:=by
 unfold X9
 by_cases h:n= [110,101,119]
 · rw [if_pos h, if_pos h]
   cases kz with
   | nil=>rfl
   | cons a r=>cases a;rfl
 · rw [if_neg h, if_neg h, QC, List.all_map]
   congr 1
   funext x
   cases x;rfl
mutual
theorem Zn6:∀ t:Tm,(t.xs g).th=t.th
 | .mk k nm s b kz => by
   by_cases hk:k=2
   · subst hk
     simp only [Tm.xs,Tm.th,Q4,Zhx kz]
     simp
   · simp only [Tm.xs,Tm.th,if_neg hk,Q4,ZlS,Zhx kz]
theorem Zhx:∀ l:List Tm,thL (xsL g l)=thL l
 | []=>rfl
 |t::r=>by simp only [xsL,thL,Zn6 t,Zhx r]
end
mutual
theorem Zfp {p:Bs→Bool} (hg:∀ s nm,p nm=true→Z8 (g s nm)=Z8 nm):∀ t:Tm,t.nmA p=true→(t.xs g).nodes=t.nodes
 | .mk k nm s b kz, h => by
   rw [Tm.nmA,Bool.and_eq_true] at h
   have e:Yw k (if k=2 then g s nm else nm) s (xsL g kz).length=Yw k nm s kz.length:=by
    rw [Q4]
    unfold Yw
    split
    · rfl
    · by_cases hk : k = 2
      · rw [if_pos hk,hg s nm h.1]
      · rw [if_neg hk]
   simp only [Tm.xs,Tm.nodes,e,Zc3 hg kz h.2]
theorem Zc3 {p:Bs→Bool} (hg:∀ s nm,p nm=true→Z8 (g s nm)=Z8 nm):∀ l:List Tm,Zax p l=true→Yd (xsL g l)=Yd l
 | [],_=>rfl
 | t :: r, h => by
   rw [Zax,Bool.and_eq_true] at h
   simp only [xsL,Yd,Zfp hg t h.1,Zc3 hg r h.2]
end
mutual
theorem ZeZ:∀ t:Tm,(t.xs g).depth=t.depth
 | .mk k nm s b kz=>by simp only [Tm.xs,Tm.depth,Zdc kz]
theorem Zdc:∀ l:List Tm,Ya (xsL g l)=Ya l
 | []=>rfl
 |t::r=>by simp only [xsL,Ya,ZeZ t,Zdc r]
end
mutual
theorem ZlZ:∀ t:Tm,(t.xs g).size=t.size
 | .mk k nm s b kz=>by simp only [Tm.xs,Tm.size,ZkJ kz]
theorem ZkJ:∀ l:List Tm,Zl (xsL g l)=Zl l
 | []=>rfl
 |t::r=>by simp only [xsL,Zl,ZlZ t,ZkJ r]
end
theorem ZoX {p:Bs→Bool} (hg:∀ s nm,p nm=true→Z8 (g s nm)=Z8 nm) (hp:t.nmA p=true) (h:t.Fr):(t.xs g).Fr where
 v:=by
  have:=h.v
  unfold Tm.valid at this ⊢
  rwa [Zfp hg t hp,ZlZ,ZeZ]
 h:=by rw [Zn6];exact h.h
 g:=by rw [Wg,Zlq, ← Wg];exact h.g
 f:=by rw [Zk6];exact h.f
mutual
theorem Zol (hg:∀ s nm,nm.length≤1000→(g s nm).length≤2000):∀ t:Tm,t.nmA (fun s=>decide (s.length≤1000))=true→t.Ok→(t.xs g).Ok
 | .mk k nm s b kz, hp, h => by
   rw [Tm.nmA,Bool.and_eq_true,decide_eq_true_eq] at hp
   cases h with
   | mk hk hs hn hl ho =>
     refine .mk hk hs ?_ (by rw [Q4];exact hl) (Zlr hg kz hp.2 ho)
     split
     · have := hg s nm hp.1
       unfold maxLen;omega
     · exact hn
theorem Zlr (hg:∀ s nm,nm.length≤1000→(g s nm).length≤2000):∀ l:List Tm,Zax (fun s=>decide (s.length≤1000)) l=true→(∀ t,t∈l→t.Ok)→∀ t,t∈xsL g l→t.Ok
 | [],_,_,t,ht=>by cases ht
 | a :: r, hp, h, t, ht => by
   rw [Zax,Bool.and_eq_true] at hp
   rcases List.mem_cons.1 ht with rfl|ht
   · exact Zol hg a hp.1 (h a List.mem_cons_self)
   · exact Zlr hg r hp.2 (fun t ht=>h t (List.mem_cons_of_mem _ ht)) t ht
end
mutual
theorem Zeq {p q:Bs→Bool} (h:∀ s,p s=true→q s=true):∀ t:Tm,t.nmA p=true→t.nmA q=true
 | .mk k nm s b kz, hp => by
   rw [Tm.nmA,Bool.and_eq_true] at hp ⊢
   exact ⟨h _ hp.1,Zcj h kz hp.2⟩
theorem Zcj {p q:Bs→Bool} (h:∀ s,p s=true→q s=true):∀ l:List Tm,Zax p l=true→Zax q l=true
 | [],_=>rfl
 | t :: r, hp => by
   rw [Zax,Bool.and_eq_true] at hp ⊢
   exact ⟨Zeq h t hp.1,Zcj h r hp.2⟩
end
mutual
theorem Zoo {p q:Bs→Bool} (h:∀ s nm,p nm=true→q (g s nm)=true) (h2:∀ nm,p nm=true→q nm=true):∀ t:Tm,t.nmA p=true→(t.xs g).nmA q=true
 | .mk k nm s b kz, hp => by
   rw [Tm.nmA,Bool.and_eq_true] at hp
   rw [Tm.xs,Tm.nmA,ZiJ h h2 kz hp.2,Bool.and_true]
   split
   · exact h _ _ hp.1
   · exact h2 _ hp.1
theorem ZiJ {p q:Bs→Bool} (h:∀ s nm,p nm=true→q (g s nm)=true) (h2:∀ nm,p nm=true→q nm=true):∀ l:List Tm,Zax p l=true→Zax q (xsL g l)=true
 | [],_=>rfl
 | t :: r, hp => by
   rw [Zax,Bool.and_eq_true] at hp
   rw [xsL,Zax,Zoo h h2 t hp.1,ZiJ h h2 r hp.2];rfl
end
mutual
theorem Zno {p:Bs→Bool}:∀ t:Tm,t.cl.nmA p=t.nmA p
 | .mk k nm s b kz=>by simp only [Tm.cl,Tm.nmA,ZhN kz]
theorem ZhN {p:Bs→Bool}:∀ l:List Tm,Zax p (clL l)=Zax p l
 | []=>rfl
 |t::r=>by simp only [clL,Zax,Zno t,ZhN r]
end
theorem Znv {g:Bs→Bs} (hg:∀ s,Z8 (g s)=Z8 s) (h:t.Fr):(t.xt g).Fr:=by
 rw [ZoK]
 exact ZoX (p:=fun _=>true) (fun _ nm _=>hg nm) (ZeE (fun _=>rfl) t) h
theorem Zms {g:Bs→Bs} (hg:∀ s,Z8 (g s)=Z8 s) (c:Bool) (h:t.Fr):(t.rn g c).cl=(t.xt g).cl:=by
 unfold Tm.rn
 split
 · exact (Zba c (Znv hg h)).2
 · rfl
theorem ZoT {g:Bs→Bs} (hg:∀ s,Z8 (g s)=Z8 s) (c:Bool) (h:t.Fr):(t.rn g c).Fr:=ZoZ (Zms hg c h) (Znv hg h)
mutual
theorem ZmM (g:Bs→Bs):∀ t:Tm,(t.cl.xt g).cl=(t.xt g).cl
 | .mk k nm s b kz=>by simp only [Tm.cl,Tm.xt,Zle g kz]
theorem Zle (g:Bs→Bs):∀ l:List Tm,clL (xtL g (clL l))=clL (xtL g l)
 | []=>rfl
 |t::r=>by simp only [clL,xtL,ZmM g t,Zle g r]
end
mutual
theorem Zla {g:Bs→Bs} (hg:∀ s,g (g s)=s):∀ t:Tm,((t.xt g).xt g).cl=t.cl
 | .mk k nm s b kz => by
   simp only [Tm.xt,Tm.cl,ZhW hg kz]
   by_cases hk:k=2
   · simp only [if_pos hk,hg]
   · simp only [if_neg hk]
theorem ZhW {g:Bs→Bs} (hg:∀ s,g (g s)=s):∀ l:List Tm,clL (xtL g (xtL g l))=clL l
 | []=>rfl
 |t::r=>by simp only [xtL,clL,Zla hg t,ZhW hg r]
end
theorem Zjr {g:Bs→Bs} (hg:∀ s,Z8 (g s)=Z8 s) (hi:∀ s,g (g s)=s) (c:Bool) (h:t.Fr):((t.rn g c).rn g c).cl=t.cl:=by
 rw [Zms hg c (ZoT hg c h), ← ZmM,Zms hg c h,ZmM,Zla hi]
theorem Ua (f t n:Int):Yb f t (Yb f t n)=n:=by
 unfold Yb
 by_cases h1:n=f
 · rw [if_pos h1]
   by_cases h2:t=f
   · rw [if_pos h2,h1,h2]
   · rw [if_neg h2,if_pos rfl,h1]
 · rw [if_neg h1]
   by_cases h2:n=t
   · rw [if_pos h2,if_pos rfl,h2]
   · rw [if_neg h2,if_neg h1,if_neg h2]
theorem ZjV {t a b:Int} (h:Yb f t a=Yb f t b):a=b:=by rw [← Ua f t a,h,Ua]
theorem Zfr (f t:Int) (s:Bs):nmR f t s=s∨∃ p d,s=p++ [35,d]∧48≤d.toNat∧d.toNat≤57∧Zb1 s=false∧nmR f t s=p++ [35]++Lib.itoa (Yb f t ((d.toNat:Int)-48)):=by
 by_cases h:s.length<2∨Zb1 s=true∨s.getD (s.length-2) 0≠35∨(s.getD (s.length-1) 0).toNat<48∨57<(s.getD (s.length-1) 0).toNat
 · left;unfold nmR;rw [if_pos h]
 · right
   have e:nmR f t s=s.take (s.length-1)++Lib.itoa (Yb f t (((s.getD (s.length-1) 0).toNat:Int)-48)):=by unfold nmR;rw [if_neg h]
   simp only [not_or,Nat.not_lt,ne_eq,Classical.not_not] at h
   obtain ⟨n1,n0,n2,n3,n4⟩:=h
   obtain ⟨p,a,c,es⟩:=Zea s n1
   subst es
   obtain ⟨e1,e2,e3,e4⟩:=ZbT p a c
   rw [e2] at n2
   rw [e3] at n3 n4
   subst n2
   rw [e4,e3] at e
   exact ⟨p,c,rfl,n3,n4,by simpa using n0,e⟩
theorem Za3 {n:Int} (h0:0≤n) (h1:n≤9):∃ d:UInt8,Lib.itoa n= [d]∧48≤d.toNat∧d.toNat≤57∧(d.toNat:Int)-48=n:=by
 have e:=WV h0 h1
 have e2:(UInt8.ofNat (48+n.toNat)).toNat=48+n.toNat:=by
  simp only [UInt8.toNat_ofNat']
  omega
 exact ⟨_,e,by omega,by omega,by omega⟩
theorem ZmR {t:Int} (hd:48≤d.toNat∧d.toNat≤57) (ho:Zb1 (p++ [35,d])=false):nmR f t (p++ [35,d])=p++ [35]++Lib.itoa (Yb f t ((d.toNat:Int)-48)):=by
 obtain ⟨e1,e2,e3,e4⟩:=ZbT p 35 d
 unfold nmR
 rw [if_neg,e4,e3]
 rw [e2,e3,e1,ho]
 simp
 omega
theorem Zm3 {e:UInt8} (ho:Zb1 (p++ [35,d])=false):Zb1 (p++ [35,e])=false:=by
 match p with
 | [] =>
   have h:Zb1 ([]++ [35,e])=(decide ((35:UInt8)=101)&&decide (e=35)):=rfl
   rw [h];rfl
 | [x]=>exact ho
 |x::y::r=>exact ho
theorem ZmN {t:Int} (hf:0≤f∧f≤9) (ht:0≤t∧t≤9) (s:Bs):nmR f t (nmR f t s)=s:=by
 rcases Zfr f t s with h|⟨p,d,rfl,h1,h2,ho,h⟩
 · rw [h,h]
 · rw [h]
   obtain ⟨s1,s2⟩:=Uz hf ht (n:=(d.toNat:Int)-48) (by omega)
   obtain ⟨e,e1,e2,e3,e4⟩:=Za3 s1 s2
   rw [e1,List.append_assoc]
   show nmR f t (p++ [35,e])=_
   rw [ZmR ⟨e2,e3⟩ (Zm3 ho),e4,Ua]
   obtain ⟨d2,g1,g2,g3,g4⟩:=Za3 (n:=(d.toNat:Int)-48) (by omega) (by omega)
   rw [g1]
   have:d2=d:=UInt8.toNat_inj.1 (by omega)
   rw [this,List.append_assoc]
   rfl
theorem ZeP (h:48≤d.toNat∧d.toNat≤57):Xo d=true:=by
 unfold Xo Zb9 Zlo
 have:decide (48≤Int.ofNat d.toNat)=true∧decide (Int.ofNat d.toNat≤57)=true:=⟨decide_eq_true (by have:=h.1;simp;omega),decide_eq_true (by have:=h.2;simp;omega)⟩
 rw [this.1,this.2]
 simp
theorem Zf1 (p:Bs) (d e:UInt8) (hd:Xo d=Xo e):Z8 (p++ [35,d])=Z8 (p++ [35,e]):=by
 cases p with
 |nil=>rfl
 | cons x r =>
   simp only [Z8,List.cons_append,List.length_cons,List.length_append,List.length_nil,List.all_cons,List.all_append,List.all_nil,hd]
theorem Zja {t:Int} (hf:0≤f∧f≤9) (ht:0≤t∧t≤9) (s:Bs):Z8 (nmR f t s)=Z8 s:=by
 rcases Zfr f t s with h|⟨p,d,rfl,h1,h2,ho,h⟩
 · rw [h]
 · rw [h]
   obtain ⟨s1,s2⟩:=Uz hf ht (n:=(d.toNat:Int)-48) (by omega)
   obtain ⟨e,e1,e2,e3,e4⟩:=Za3 s1 s2
   rw [e1,List.append_assoc]
   exact Zf1 p e d (by rw [ZeP ⟨e2,e3⟩,ZeP ⟨h1,h2⟩])
def lvs:List Tm:=[.mk 2 [110,97] 2 true [],.mk 2 [110,98] 2 true [],.mk 2 [107] 3 true [],.mk 2 [108] 3 true [],.mk 2 [103] 4 true [],.mk 2 [97] 1 true [],.mk 2 [104,105] 5 true [],.mk 2 [100] 0 true [],
 .mk 3 [115,107] 0 true [.mk 2 [97] 1 true []],.mk 3 [115,104,107] 0 true [.mk 2 [97] 1 true [],.mk 2 [98] 1 true []]]
def lvT (n:Nat):Tm:=lvs.getD (n % 10) (.mk 2 [110,97] 2 true [])
def byC (b:List Nat):List (List PV):=b.map fun (n:Nat)=>[PV.int .u8 (n:Int)]
def ZlB (k:Nat) (x y:Tm):Tm:=if k=3∨k=4 then .mk 3 Zbc 0 true [x,y] else if k=5 then .mk 3 Wa 0 true [x,.mk 3 pkN 0 true [y]] else if k=6 then .mk 3 YT 0 true [x,y] else .mk 3 Y0 0 true [x,y]
def grT (b:List Nat):Nat→Nat→Tm×Nat
 |0,i=>(lvT (b.getD i 0 / 3),i+1)
 | f + 1, i => if b.getD i 0 % 3 = 0 then (lvT (b.getD i 0 / 3), i + 1) else
   if b.getD i 0 / 3 % 11=0 then (.mk 3 Zf9 0 true [(grT b f (i+1)).1],(grT b f (i+1)).2) else
   if b.getD i 0 / 3 % 11=1 then (.mk 3 pkN 0 true [(grT b f (i+1)).1],(grT b f (i+1)).2) else
   (ZlB (b.getD i 0 / 3 % 11) (grT b f (i+1)).1 (grT b f (grT b f (i+1)).2).1,(grT b f (grT b f (i+1)).2).2)
theorem Zey {f:Nat} (hc:b.getD i 0=c) (h:f=0∨c % 3=0):grT b f i=(lvT (c / 3),i+1):=by
 cases f with
 |zero=>rw [grT,hc]
 |succ f=>rw [grT,hc,if_pos (by omega)]
theorem ZpU {f:Nat} (hc:b.getD i 0=c) (h:¬ c % 3=0) (h0:c / 3 % 11=0):grT b (f+1) i=(.mk 3 Zf9 0 true [(grT b f (i+1)).1],(grT b f (i+1)).2):=by
 rw [grT,hc,if_neg h,if_pos h0]
theorem ZpB {f:Nat} (hc:b.getD i 0=c) (h:¬ c % 3=0) (h0:c / 3 % 11=1):grT b (f+1) i=(.mk 3 pkN 0 true [(grT b f (i+1)).1],(grT b f (i+1)).2):=by
 rw [grT,hc,if_neg h,if_neg (by omega),if_pos h0]
theorem ZqY {f:Nat} (hc:b.getD i 0=c) (h:¬ c % 3=0) (h0:¬ c / 3 % 11=0) (h1:¬ c / 3 % 11=1):grT b (f+1) i=(ZlB (c / 3 % 11) (grT b f (i+1)).1 (grT b f (grT b f (i+1)).2).1,(grT b f (grT b f (i+1)).2).2):=by
 rw [grT,hc,if_neg h,if_neg h0,if_neg h1]
theorem Zgs (b:List Nat):∀ f i,(grT b f i).2+1≤i+2 ^ (f+1)
 |0,i=>by simp only [grT];omega
 | f + 1, i => by
   have h1:=Zgs b f (i+1)
   have h2:=Zgs b f (grT b f (i+1)).2
   have hp:2 ^ (f+1) ≥ 2:=by
    have:=Nat.one_le_two_pow (n:=f)
    rw [Nat.pow_succ];omega
   have e:2 ^ (f+1+1)=2 ^ (f+1)*2:=Nat.pow_succ ..
   rw [grT]
   split
   · simp only;omega
   split
   · simp only;omega
   split
   · simp only;omega
   · simp only;omega
def apN:List (Bs×Nat):=[(Zf9,1),(pkN,1),(Zbc,2),(Wa,2),(YT,2),(Y0,2)]
def pvN:List (Bs×Nat):=[([115,107],1),([115,104,107],2)]
def atN:List (Bs×Int):=[([110,97],2),([110,98],2),([107],3),([108],3),([103],4),([97],1),([98],1),([104,105],5),([100],0)]
def nmG (s:Bs):Bool:=((apN++pvN).map Prod.fst++atN.map Prod.fst).contains s
mutual
def Tm.gr:Tm→Bool
 | .mk k nm s _ kz=>if k=3 then decide (s=0)&&((apN.contains (nm,kz.length)||(pvN.contains (nm,kz.length)&&X9 nm kz))&&grL kz) else decide (k=2)&&(atN.contains (nm,s)&&kz.isEmpty)
def grL:List Tm→Bool
 | []=>true
 |t::r=>t.gr&&grL r
end
def Zrh (x:Bs×Nat):Bool:=Znb x.1&&(decide (Yw 3 x.1 0 x.2=0)&&(decide ((Yo x.1).kind≠0)&&(decide (¬ ((x.2:Int)<(Yo x.1).least∨(Yo x.1).most<(x.2:Int)))&&(nmG x.1&&decide (x.1≠ [103]∧x.2≤2∧x.1.length≤4)))))
theorem ZjZ:(apN++pvN).all Zrh=true:=by decide +kernel
theorem Zju:apN.all (fun x=>decide ((Yo x.1).kind≠2))=true:=by decide +kernel
theorem Zkf:atN.all (fun x=>decide (Yw 2 x.1 x.2 0=0)&&(nmG x.1&&decide (x.1.length≤4∧0≤x.2∧x.2≤5)))=true:=by decide +kernel
structure ApG (nm:Bs) (kz:List Tm):Prop where
 f:Znb nm=true
 n:Yw 3 nm 0 kz.length=0
 k:(Yo nm).kind≠0
 a:¬ ((kz.length:Int)<(Yo nm).least∨(Yo nm).most<(kz.length:Int))
 g:nmG nm=true
 ne:nm≠ [103]
 l:kz.length≤2
 nl:nm.length≤4
 p:¬ ((Yo nm).kind=2∧X9 nm kz=false)
theorem QR {b:Bool} (h:(Tm.mk 3 nm s b kz).gr=true):s=0∧ApG nm kz∧grL kz=true:=by
 rw [Tm.gr,if_pos rfl] at h
 simp only [Bool.and_eq_true,decide_eq_true_eq,Bool.or_eq_true,List.contains_iff_mem] at h
 obtain ⟨h1,h2,h3⟩:=h
 have hm:(nm,kz.length)∈apN++pvN:=by
  rw [List.mem_append]
  rcases h2 with h2|h2
  · exact .inl h2
  · exact .inr h2.1
 have hc:=List.all_eq_true.1 ZjZ _ hm
 simp only [Zrh,Bool.and_eq_true,decide_eq_true_eq] at hc
 obtain ⟨c1,c2,c3,c4,c5,c6,c7,c8⟩:=hc
 refine ⟨h1,⟨c1,c2,c3,c4,c5,c6,c7,c8,?_⟩,h3⟩
 rcases h2 with h2|h2
 · have := List.all_eq_true.1 Zju _ h2
   rw [decide_eq_true_eq] at this
   exact fun h=>this h.1
 · exact fun h=>by rw [h2.2] at h;cases h.2
theorem ZfR {k:Int} {b:Bool} (hk:k≠3) (h:(Tm.mk k nm s b kz).gr=true):k=2∧kz= []∧(nm,s)∈atN∧Yw 2 nm s 0=0∧nmG nm=true∧nm.length≤4∧0≤s∧s≤5:=by
 rw [Tm.gr,if_neg hk] at h
 simp only [Bool.and_eq_true,decide_eq_true_eq,List.contains_iff_mem,List.isEmpty_iff] at h
 have hc:=List.all_eq_true.1 Zkf _ h.2.1
 simp only [Bool.and_eq_true,decide_eq_true_eq] at hc
 exact ⟨h.1,h.2.2,h.2.1,hc.1,hc.2.1,hc.2.2⟩
mutual
theorem Zfq:∀ t:Tm,t.gr=true→t.nodes=0
 | .mk k nm s b kz, h => by
   rw [Tm.nodes]
   by_cases hk:k=3
   · subst hk
     obtain ⟨rfl,ha,hl⟩:=QR h
     rw [if_neg (by rw [ha.n];simp)]
     exact ZcP kz hl
   · obtain ⟨rfl, rfl, -, h0, -⟩ := ZfR hk h
     rw [if_neg (by rw [List.length_nil,h0];simp)]
     rfl
theorem ZcP:∀ l:List Tm,grL l=true→Yd l=0
 | [],_=>rfl
 | t :: r, h => by
   rw [grL,Bool.and_eq_true] at h
   rw [Yd,if_neg (by rw [Zfq t h.1];simp),ZcP r h.2]
end
mutual
theorem Znj:∀ t:Tm,t.gr=true→t.th=0
 | .mk k nm s b kz, h => by
   rw [Tm.th]
   by_cases hk:k=3
   · subst hk
     obtain ⟨rfl,ha,hl⟩:=QR h
     rw [if_neg (by simp),if_neg ha.k,if_neg ha.a,if_neg ha.p]
     exact ZlF kz hl
   · rw [if_pos hk]
theorem ZlF:∀ l:List Tm,grL l=true→thL l=0
 | [],_=>rfl
 | t :: r, h => by
   rw [grL,Bool.and_eq_true] at h
   rw [thL,if_neg (by rw [Znj t h.1];simp),ZlF r h.2]
end
mutual
theorem ZlA:∀ t:Tm,t.gr=true→t.fre=true
 | .mk k nm s b kz, h => by
   rw [Tm.fre]
   by_cases hk:k=3
   · subst hk
     obtain ⟨rfl,ha,hl⟩:=QR h
     rw [if_pos rfl,ha.f,ZgH kz hl];rfl
   · obtain ⟨rfl, rfl, -⟩ := ZfR hk h
     rw [if_neg hk];rfl
theorem ZgH:∀ l:List Tm,grL l=true→Zev l=true
 | [],_=>rfl
 | t :: r, h => by
   rw [grL,Bool.and_eq_true] at h
   rw [Zev,ZlA t h.1,ZgH r h.2];rfl
end
mutual
theorem ZlU:∀ t:Tm,t.gr=true→t.nmA nmG=true
 | .mk k nm s b kz, h => by
   rw [Tm.nmA]
   by_cases hk:k=3
   · subst hk
     obtain ⟨rfl,ha,hl⟩:=QR h
     rw [ha.g,ZkZ kz hl];rfl
   · obtain ⟨rfl, rfl, -, -, hg, -⟩ := ZfR hk h
     rw [hg];rfl
theorem ZkZ:∀ l:List Tm,grL l=true→Zax nmG l=true
 | [],_=>rfl
 | t :: r, h => by
   rw [grL,Bool.and_eq_true] at h
   rw [Zax,ZlU t h.1,ZkZ r h.2];rfl
end
mutual
theorem ZlG:∀ t:Tm,t.gr=true→((t.all.map Tm.knd).all fun k=> !decide (k=1))=true
 | .mk k nm s b kz, h => by
   rw [Tm.all,List.map_cons,List.all_cons]
   by_cases hk:k=3
   · subst hk
     obtain ⟨rfl,ha,hl⟩:=QR h
     rw [Zic kz hl];rfl
   · obtain ⟨rfl, rfl, -⟩ := ZfR hk h
     rfl
theorem Zic:∀ l:List Tm,grL l=true→(((VG l).map Tm.knd).all fun k=> !decide (k=1))=true
 | [],_=>rfl
 | t :: r, h => by
   rw [grL,Bool.and_eq_true] at h
   rw [VG,List.map_append,List.all_append,ZlG t h.1,Zic r h.2];rfl
end
mutual
theorem Zi1:∀ t:Tm,t.gr=true→t.Ok
 | .mk k nm s b kz, h => by
   by_cases hk:k=3
   · subst hk
     obtain ⟨rfl,ha,hl⟩:=QR h
     exact .mk (by decide) (by decide) (Nat.le_trans ha.nl (by decide)) (Nat.le_trans ha.l (by decide)) (Zk1 kz hl)
   · obtain ⟨rfl, rfl, -, -, -, hn, h1, h2⟩ := ZfR hk h
     refine .mk (by decide) ?_ (Nat.le_trans hn (by decide)) (Nat.zero_le _) (fun _ h=>by cases h)
     have:s=0∨s=1∨s=2∨s=3∨s=4∨s=5:=by omega
     rcases this with rfl|rfl|rfl|rfl|rfl|rfl<;>decide
theorem Zk1:∀ l:List Tm,grL l=true→∀ t,t∈l→t.Ok
 | [],_,t,ht=>by cases ht
 | a :: r, h, t, ht => by
   rw [grL,Bool.and_eq_true] at h
   rcases List.mem_cons.1 ht with e|ht
   · rw [e];exact Zi1 a h.1
   · exact Zk1 r h.2 t ht
end
theorem Zma (l:List Tm):(clL l).isEmpty=l.isEmpty:=by cases l<;>rfl
theorem ZjX (n:Bs) (kz:List Tm):X9 n (clL kz)=X9 n kz:=by
 unfold X9
 by_cases h:n= [110,101,119]
 · rw [if_pos h, if_pos h]
   cases kz with
   | nil=>rfl
   | cons a r=>cases a;rfl
 · rw [if_neg h, if_neg h, YR, List.all_map]
   congr 1
   funext x
   cases x;rfl
mutual
theorem ZmX:∀ t:Tm,t.cl.gr=t.gr
 | .mk k nm s b kz=>by rw [Tm.cl,Tm.gr,Tm.gr,Zli kz,Zma,ZjX,YR,List.length_map]
theorem Zli:∀ l:List Tm,grL (clL l)=grL l
 | []=>rfl
 |t::r=>by rw [clL,grL,grL,ZmX t,Zli r]
end
theorem ZpE (h:t.gr=true) (hs:t.size≤400) (hd:t.depth≤40):t.Fr where
 v:=by
  unfold Tm.valid
  rw [if_neg (by rw [Zfq t h];simp),if_neg (by omega)]
 h:=Znj t h
 g:=by rw [Wg];exact ZlG t h
 f:=ZlA t h
theorem Zox (n:Nat):(lvT n).gr=true∧(lvT n).size≤3∧(lvT n).depth≤2:=by
 have h:n % 10<10:=Nat.mod_lt _ (by omega)
 unfold lvT
 generalize n % 10=k at h ⊢
 have:k=0∨k=1∨k=2∨k=3∨k=4∨k=5∨k=6∨k=7∨k=8∨k=9:=by omega
 rcases this with rfl|rfl|rfl|rfl|rfl|rfl|rfl|rfl|rfl|rfl<;>decide +kernel
theorem gr1 (h:apN.contains (nm,1)=true) (hx:x.gr=true) (b:Bool):(Tm.mk 3 nm 0 b [x]).gr=true:=by
 simp only [Tm.gr,if_pos,grL,hx,List.length_cons,List.length_nil,h,decide_true,Bool.true_or,Bool.and_self]
theorem gr2 (h:apN.contains (nm,2)=true) (hx:x.gr=true) (hy:y.gr=true) (b:Bool):(Tm.mk 3 nm 0 b [x,y]).gr=true:=by
 simp only [Tm.gr,if_pos,grL,hx,hy,List.length_cons,List.length_nil,h,decide_true,Bool.true_or,Bool.and_self]
theorem Zo4 (k:Nat) (hx:x.gr=true) (hy:y.gr=true):(ZlB k x y).gr=true:=by
 unfold ZlB
 split
 · exact gr2 (by decide +kernel) hx hy _
 split
 · exact gr2 (by decide +kernel) hx (gr1 (by decide +kernel) hy _) _
 split
 · exact gr2 (by decide +kernel) hx hy _
 · exact gr2 (by decide +kernel) hx hy _
theorem Zn0 (k:Nat) (x y:Tm):(ZlB k x y).size≤x.size+y.size+2∧(ZlB k x y).depth≤max x.depth y.depth+2:=by
 unfold ZlB
 split
 · simp only [Tm.size,Zl,Tm.depth,Ya];omega
 split
 · simp only [Tm.size,Zl,Tm.depth,Ya];omega
 split
 · simp only [Tm.size,Zl,Tm.depth,Ya];omega
 · simp only [Tm.size,Zl,Tm.depth,Ya];omega
theorem ZaX (b:List Nat):∀ f i,(grT b f i).1.gr=true∧(grT b f i).1.size+2≤5*2 ^ f∧(grT b f i).1.depth≤2*f+2
 | 0, i => by
   have:=Zox (b.getD i 0 / 3)
   simp only [grT]
   exact ⟨this.1,by omega,by omega⟩
 | f + 1, i => by
   obtain ⟨a1,a2,a3⟩:=ZaX b f (i+1)
   obtain ⟨b1,b2,b3⟩:=ZaX b f (grT b f (i+1)).2
   have e:2 ^ (f+1)=2 ^ f*2:=Nat.pow_succ ..
   have e1:=Nat.one_le_two_pow (n:=f)
   rw [grT]
   split
   · have := Zox (b.getD i 0 / 3)
     exact ⟨this.1,by simp only;omega,by simp only;omega⟩
   split
   · exact ⟨gr1 (by decide +kernel) a1 _,by simp only [Tm.size,Zl];omega,by simp only [Tm.depth,Ya];omega⟩
   split
   · exact ⟨gr1 (by decide +kernel) a1 _,by simp only [Tm.size,Zl];omega,by simp only [Tm.depth,Ya];omega⟩
   · have := Zn0 (b.getD i 0 / 3 % 11) (grT b f (i + 1)).1 (grT b f (grT b f (i + 1)).2).1
     exact ⟨Zo4 _ a1 b1,by simp only;omega,by simp only;omega⟩
def Zi5 (b:List Nat):Tm:=((grT b 3 0).1.nf false).1
theorem ZgK (b:List Nat):(grT b 3 0).1.Fr:=by
 obtain ⟨h1,h2,h3⟩:=ZaX b 3 0
 exact ZpE h1 (by omega) (by omega)
theorem Zgx (b:List Nat):(Zi5 b).cl=(grT b 3 0).1.cl:=(Zba false (ZgK b)).2
theorem Zc1 (b:List Nat):(Zi5 b).gr=true:=by rw [← ZmX,Zgx,ZmX];exact (ZaX b 3 0).1
theorem Zlh (b:List Nat):(Zi5 b).Fr:=ZoZ (Zgx b) (ZgK b)
theorem Zk7 (b:List Nat):(Zi5 b).size≤40:=by
 rw [← Za1,Zgx,Za1]
 have:=(ZaX b 3 0).2.1
 omega
def Zi8 (d:Nat) (s:Int) (nm:Bs):Bs:=if s≠1∧s≠5∧¬ (nm= [103]∧s=4) then nm++ [35,UInt8.ofNat (48+d)] else nm
theorem ZoS {d:Nat} (h:d<10):Xo (UInt8.ofNat (48+d))=true:=by
 have:d=0∨d=1∨d=2∨d=3∨d=4∨d=5∨d=6∨d=7∨d=8∨d=9:=by omega
 rcases this with rfl|rfl|rfl|rfl|rfl|rfl|rfl|rfl|rfl|rfl<;>decide +kernel
theorem ZjB {d:Nat} (hd:d<10) (s:Int) (nm:Bs) (h:nmG nm=true):Z8 (Zi8 d s nm)=Z8 nm:=by
 unfold Zi8
 split
 · have hp := ZoS hd
   generalize UInt8.ofNat (48+d)=c at hp ⊢
   simp only [nmG,List.contains_iff_mem] at h
   have hall:(((apN++pvN).map Prod.fst++atN.map Prod.fst).all fun x=>Z8 x&&decide (x.length≤4))=true:=by decide +kernel
   have h1:=List.all_eq_true.1 hall _ h
   rw [Bool.and_eq_true,decide_eq_true_eq] at h1
   rw [h1.1]
   cases nm with
   | nil=>simp [Z8] at h1
   | cons x r =>
     have h2:=h1.2
     have h1:=h1.1
     simp only [Z8,List.length_cons,List.all_cons,Bool.and_eq_true,decide_eq_true_eq] at h1
     simp only [List.length_cons] at h2
     have e35:Xo 35=true:=by decide +kernel
     simp only [Z8,List.cons_append,List.length_cons,List.length_append,List.length_nil,List.all_cons,List.all_append,List.all_nil,hp,e35,h1.2.1,h1.2.2.1,h1.2.2.2]
     simp;omega
 · rfl
def Vh (b:List Nat) (d:Nat):Tm:=(Zi5 b).xs (Zi8 d)
theorem Zor (b:List Nat) {d:Nat} (hd:d<10):(Vh b d).Fr:=ZoX (ZjB hd) (ZlU _ (Zc1 b)) (Zlh b)
theorem Zlk (b : List Nat) (d : Nat) : (Vh b d).Ok := Zol (fun s nm h => by
  unfold Zi8
  split
  · simp;omega
  · omega) _ (Zeq (fun s h => by
    have hall:(((apN++pvN).map Prod.fst++atN.map Prod.fst).all fun x=>decide (x.length≤1000))=true:=by decide +kernel
    simp only [nmG,List.contains_iff_mem] at h
    exact List.all_eq_true.1 hall _ h) _ (ZlU _ (Zc1 b))) (Zi1 _ (Zc1 b))
theorem ZnF (b:List Nat) (d:Nat):(Vh b d).size≤40:=by rw [Vh,ZlZ];exact Zk7 b
open Go.RowKit
section
variable {E:Env} {P:Program} {w:World}
theorem Zg1 {f : FuncId} {fn : Func} {c : Code} (hf : FnOk P f fn c) (hG : GOk E (wG w)) {args : List PV} {r : PV} (h : CallOk E P f args hNil r hNil) {vals : Array Value} (hv : Vx (wS w) args vals.toList) :
  Calls P f vals w fun e w'=>∃ v,e= .returned v∧(∃ g',V g' r v)∧GrownB w w'∧∀ k,k<w.heap.size→w'.heap[k]? = w.heap[k]? :=by
 have hu:=h (wG w) w vals (ZnM w) hG ⟨hv.1,fun i h1 h2=> .pure _ _ (hv.2 i h1 h2)⟩
 rw [ZH hf] at hu
 exact Calls.mono hu fun e w' ⟨v,e1,g',hp,_,k⟩=>⟨v,e1,⟨g',hp⟩,Za4 k,fun i hi=>k.heap i hi (VQ _ i)⟩
end
section
variable {P:Program} {H:Type} {enc:TypeId×Value→H} {w:World} {base:Nat} {spare:Nat→Bool} {held:Bool}
theorem Zjm {t e : TypeId} (ht : P.underlying t = some (.slice e)) (he : P.underlying e = some .string) (hs : P.cellsOf e = 1) (l : List (List UInt8)) (h0 : 0 < l.length) {fuel : Nat} {cs : List Value} {p : List MemPlace}
  (h:DataW.trod enc P w base spare held (fuel+1) t cs=some (.slice (l.map fun s=> .lit (.string s)) [],p)):Vx (wS w) [.sl .none 1 (l.map fun s=>[.str s])] cs:=by
 rcases DataW.trod_slice ht h with ⟨rfl,hx⟩|⟨a,len,cap,elems,rest,m,hm,rfl,hx,hb,hl,hcap,hlen,hel, -, -⟩
 · simp at hx
 · cases hm
   simp only [Prod.mk.injEq,DataW.slice.injEq] at hx
   obtain ⟨⟨hx, -⟩, -⟩:=hx
   have hle:l.length=elems.length:=by
    have:=congrArg List.length hx
    simpa using this
   have hcell:∀ i (hi:i<l.length),∃ s:ByteArray,w.cell? (a.add i)=some (.string s)∧s.data.toList=l[i]:=fun i hi=>by
    have hy:=hel i (by omega)
    have hz:elems[i]? = some (elems[i]'(by omega)):=List.getElem?_eq_getElem (by omega)
    rw [hz,Option.bind_eq_some_iff] at hy
    obtain ⟨cs',hc1,hc2⟩:=hy
    rw [hs] at hc1
    cases fuel with
    | zero=>simp [DataW.trod] at hc2
    | succ n =>
      obtain ⟨s,rfl,he2, -⟩:=DataW.trod_string he hc2
      have:=(World.cells?_some hc1).2.2 0 (by omega)
      refine ⟨s,?_,?_⟩
      · simpa [Addr.add] using this
      · have e1 : (l.map fun s => DataW.lit (H := H) (.string s))[i]? = some (.lit (.string l[i])) := by simp [hi]
        rw [hx,List.getElem?_map,hz] at e1
        simp only [Option.map_some,he2,Option.some.injEq,DataW.lit.injEq,Lit.string.injEq] at e1
        exact e1
   have hspot:a=⟨a.block,a.off,none⟩:=by
    obtain ⟨s,h1, -⟩:=hcell 0 h0
    simp only [Addr.add,if_true] at h1
    obtain ⟨ab,ao,asp⟩:=a
    cases asp with
    | none=>rfl
    | some z =>
      simp only [World.cell?] at h1
      split at h1
      · simp at h1
      · cases h1
   have hll:(l.map fun s=>[PV.str s]).length=len:=by simp;omega
   refine ⟨rfl,fun k hi hj=>?_⟩
   obtain rfl:k=0:=by simp at hi;omega
   simp only [List.getElem_cons_zero]
   have key:V0 (wS w) (.sl .none 1 (l.map fun s=>[.str s])) (.slice (some a) (l.map fun s=>[PV.str s]).length cap):=by
    refine .sl .none 1 _ a a.block a.off cap (fun i _=>(w.cell? (a.add i)).getD undef) (fun _=>hspot) (.inl rfl) (by omega) (fun i hi=>by simp) (fun i j hi hj=>?_) (fun i hi j hj=>?_)
    · obtain rfl : j = 0 := by omega
      obtain ⟨s,h1, -⟩:=hcell i (by simpa using hi)
      simp only [wS]
      have e:a.add i=⟨a.block,a.off+i*1+0,none⟩:=by
       have e0:∀ A:Addr,A=⟨a.block,a.off,none⟩→A.add i=⟨a.block,a.off+i*1+0,none⟩:=fun A hA=>by rw [hA,ZP];simp
       exact e0 a hspot
      rw [← e,h1]
      rfl
    · obtain rfl : j = 0 := by simp at hj; omega
      obtain ⟨s,h1,h2⟩:=hcell i (by simpa using hi)
      rw [h1]
      simp only [Option.getD_some,List.getElem_map,List.getElem_cons_zero]
      exact .str _ _ h2
   rwa [hll] at key
end
