/- Any text: the program's Parse answers as the document's. -/
import Derived.Test.YtjfjigknkhgkdaaTv03zm
import Derived.Test.YtjfjigknkhgkdaaTv03zam
namespace Go.Proofs.Ytjfjigknkhgkdaa.T
open Go Go.Tv Go.Proofs
def Dep:Nat→Tree→Prop
 | 0,_=>False
 | n+1,.node _ _ ks=>ks.length≤20000∧∀k∈ks,Dep n k
theorem Dep.succ:∀ {n:Nat} {x:Tree},Dep n x→Dep (n+1) x
 | 0,_,h=>h.elim
 | _+1,.node _ _ _,h=>⟨h.1,fun k hk=>(h.2 k hk).succ⟩
theorem Dep.le{n:Nat}{x:Tree}(h:Dep n x):∀ {m:Nat},n≤m→Dep m x
 | m,hm=>by
  induction m with
  | zero=>cases Nat.le_zero.mp hm;exact h
  | succ m ih =>
   rcases Nat.lt_or_ge m n with h1 | h1
   ·have:n=m+1:=by omega
    rw[←this];exact h
   ·exact(ih h1).succ
theorem Dep.leaf{o s:Int}{n:Nat}:Dep (n+1) (.node o s []):=⟨by simp,fun k hk=>by cases hk⟩
theorem Dep.one{o s:Int}{n:Nat}{x:Tree}(h:Dep n x):Dep (n+1) (.node o s [x]):=⟨by simp,fun k hk=>by cases List.mem_singleton.mp hk;exact h⟩
theorem sS:∀(n:Nat) (x:Tree),Dep n x→eE n x.op x.set x.kids x.op x.set x.kids=some true
 | 0,_,h=>h.elim
 | n+1,.node o s ks,⟨h1,h2⟩=>by
  show gH (eE n) o s ks o s ks=some true
  unfold gH
  simp only[bne_self_eq_false,Bool.false_eq_true,if_false,Option.bind_some]
  have hi:iter (eP ks ks (eE n)) ((0:Nat):Int)=some (.inl ()):=by
   refine cC (fun k:Nat=>(k:Int)) ks.length (fun k hk=> ?_) ?_
   ·have:=sS n (ks.getD k (Tree.node 0 0 [])) (h2 _ (lW hk))
    unfold eP
    rw[if_pos (by simp;omega),if_pos ⟨by omega,by omega⟩,if_pos ⟨by omega,by omega⟩,Int.toNat_natCast,this,aP (by omega) (by omega)]
    rfl
   ·unfold eP
    rw[if_neg (by simp)]
  rw[show iter (eP ks ks (eE n)) 0=_ from hi]
  rfl
theorem S0(l:List Int)(h:l.length≤20000):jC l l=some true:=by
 unfold jC
 rw[if_neg (by simp)]
 have hi:iter (eT l l) ((0:Nat):Int)=some (.inl ()):=by
  refine cC (fun k:Nat=>(k:Int)) l.length (fun k hk=> ?_) ?_
  ·unfold eT
   rw[if_pos (by simp;omega),if_pos ⟨by omega,by omega⟩,if_pos ⟨by omega,by omega⟩,if_neg (by simp),aP (by omega) (by omega)]
   rfl
  ·unfold eT
   rw[if_neg (by simp)]
 rw[show iter (eT l l) 0=_ from hi]
 rfl
theorem u6(c:List (List UInt8))(j a:Int)(tr:List Int)(l:RL)(h1:c.length≤24)(h2:tr.length≤24)(h3:l.length≤24)(h4:∀x∈l,Dep 1000 x.2.1∧Dep 1000 x.2.2):iC c j a tr l c j a tr l=some true:=by
 unfold iC
 simp only[bne_self_eq_false,Bool.false_eq_true,if_false,Option.bind_some,S0 tr (by omega),Bool.not_true]
 have hi:iter (dY c c) ((0:Nat):Int)=some (.inl ()):=by
  refine cC (fun k:Nat=>(k:Int)) c.length (fun k hk=> ?_) ?_
  ·unfold dY
   rw[if_pos (by simp;omega),if_pos ⟨by omega,by omega⟩,if_pos ⟨by omega,by omega⟩,if_neg (by simp),aP (by omega) (by omega)]
   rfl
  ·unfold dY
   rw[if_neg (by simp)]
 have hj:iter (dW l l) ((0:Nat):Int)=some (.inl ()):=by
  refine cC (fun k:Nat=>(k:Int)) l.length (fun k hk=> ?_) ?_
  ·have h5:=h4 _ (lW (d:=((0:Int),((Tree.node 0 0 []),(Tree.node 0 0 [])))) hk)
   unfold dW
   have c2:0≤(k:Int)∧(k:Int)<(l.length:Int):=⟨by omega,by omega⟩
   rw[if_pos (by simp;omega),if_pos c2,if_pos c2,if_neg (by simp),if_pos c2,if_pos c2,Int.toNat_natCast,sS 1000 _ h5.1]
   simp only[Option.bind_some,Bool.not_true,Bool.false_eq_true,if_false]
   rw[if_pos c2,if_pos c2,sS 1000 _ h5.2,aP (by omega) (by omega)]
   rfl
  ·unfold dW
   rw[if_neg (by simp)]
 rw[show iter (dY c c) 0=_ from hi]
 simp only[Option.bind_some]
 rw[show iter (dW l l) 0=_ from hj]
 rfl
def R2(E:Option (Int→Toks→TR))(k:Nat):Prop:=∀f,E=some f→∀pl ts x r pl1,ts.size≤10000→f pl ts = .inl (x,r,pl1)→Dep k x
section
variable{E:Option (Int→Toks→TR)}{wh:Int}{sets:iF}{k:Nat}
theorem I3(hE:R2 E (k+1)){pl:Int}{ts:Toks}{x r pl1}(hz:ts.size≤10000)(h:hX E wh sets pl ts = .inl (x,r,pl1)):Dep (k+1) x:=by
 cases ts with
 | bad n=>cases h
 | eof n=>cases h
 | wd w n r' =>
  simp only[hX]at h
  split at h
  ·cases h
  ·split at h <;> cases h
   exact Dep.leaf
 | sg d n r' =>
  simp only[Toks.size]at hz
  simp only[hX]at h
  split at h
  ·split at h
   ·cases h
   ·split at h
    ·cases h
    ·rename_i h1
     split at h
     ·cases h
     ·cases h
      exact hE _ rfl _ _ _ _ _ (by omega) h1
  ·split at h
   ·cases h
   ·split at h
    ·cases h;exact Dep.leaf
    ·split at h
     ·cases h
     ·split at h
      ·cases h
      ·cases h;exact Dep.leaf
theorem K0(hE:R2 E (k+1)){pl:Int}{ts:Toks}{x r pl1}(hz:ts.size≤10000)(h:lH E wh sets pl ts = .inl (x,r,pl1)):Dep (k+2) x:=by
 unfold lH at h
 split at h
 ·cases h
 ·rename_i h1
  have a:=I3 hE hz h1
  split at h
  ·cases h
  ·split at h
   ·cases h;exact a.one
   ·split at h
    ·cases h;exact a.one
    ·split at h <;> cases h
     ·exact a.one
     ·exact a.succ
  ·cases h;exact a.succ
  ·cases h;exact a.succ
theorem E4(hL:lQ E)(hE:R2 E (k+1)):∀ {f:Nat} {ts:Toks} {pl acc l r pl1},ts.size≤10000→(∀y∈acc,Dep (k+2) y)→rT E wh sets f ts pl acc = .inl (l,r,pl1)→(∀y∈l,Dep (k+2) y)∧l.length≤acc.length+f
 | 0,ts,pl,acc,l,r,pl1,hz,ha,h=>by cases h;exact⟨ha,by omega⟩
 | f+1,ts,pl,acc,l,r,pl1,hz,ha,h=>by
  simp only[rT]at h
  split at h
  ·cases h
  ·split at h
   ·split at h
    ·cases h
    ·rename_i h1
     have a:=K0 hE hz h1
     have z:=nQ hL h1
     have b:=E4 hL hE (by omega) (fun y hy=>by
      rcases List.mem_append.mp hy with h2 | h2
      ·exact ha y h2
      ·cases List.mem_singleton.mp h2;exact a) h
     refine⟨b.1,?_⟩
     have:=b.2
     simp only[List.length_append,List.length_singleton]at this
     omega
   ·cases h;exact⟨ha,by omega⟩
theorem A2(hL:lQ E)(hE:R2 E (k+1)){pl ts x r pl1}(hz:ts.size≤10000)(h:qP E wh sets pl ts = .inl (x,r,pl1)):Dep (k+3) x:=by
 unfold qP at h
 split at h
 ·cases h
 ·rename_i l r' pl' h1
  cases h
  have a:=E4 hL hE hz (fun y hy=>by cases hy) h1
  match l,a with
  | [],_=>exact Dep.leaf
  | [y],a=>exact(a.1 y (by simp)).succ
  | y::z::l,a=>exact⟨by have:=a.2;simp only[List.length_nil]at this;omega,a.1⟩
theorem F4(hL:lQ E)(hE:R2 E (k+1)):∀ {f:Nat} {ts:Toks} {pl acc l r pl1},ts.size≤10000→(∀y∈acc,Dep (k+3) y)→xP E wh sets f ts pl acc = .inl (l,r,pl1)→(∀y∈l,Dep (k+3) y)∧l.length≤acc.length+f
 | 0,ts,pl,acc,l,r,pl1,hz,ha,h=>by cases h;exact⟨ha,by omega⟩
 | f+1,ts,pl,acc,l,r,pl1,hz,ha,h=>by
  simp only[xP]at h
  split at h
  ·cases h
  ·cases h;exact⟨ha,by omega⟩
  ·rename_i h0
   have z0:=eF h0
   simp only[if_true]at z0
   split at h
   ·cases h
   ·rename_i h1
    have a:=A2 hL hE (by omega) h1
    have z:=gZ hL h1
    have b:=F4 hL hE (by omega) (fun y hy=>by
     rcases List.mem_append.mp hy with h2 | h2
     ·exact ha y h2
     ·cases List.mem_singleton.mp h2;exact a) h
    refine⟨b.1,?_⟩
    have:=b.2
    simp only[List.length_append,List.length_singleton]at this
    omega
theorem x6(hL:lQ E)(hE:R2 E (k+1)){pl ts x r pl1}(hz:ts.size≤10000)(h:mV E wh sets pl ts = .inl (x,r,pl1)):Dep (k+4) x:=by
 unfold mV at h
 split at h
 ·cases h
 ·rename_i h0
  have a0:=A2 hL hE hz h0
  have z0:=gZ hL h0
  split at h
  ·cases h
  ·rename_i l r' pl' h1
   cases h
   have a:=F4 hL hE (by omega) (fun y hy=>by cases List.mem_singleton.mp hy;exact a0) h1
   match l,a with
   | [],_=>exact Dep.leaf
   | [y],a=>exact(a.1 y (by simp)).succ
   | y::z::l,a=>exact⟨by have:=a.2;simp only[List.length_singleton]at this;omega,a.1⟩
end
theorem oA{wh:Int}{sets:iF}:∀ {d:Nat} {pl ts x r pl1},ts.size≤10000→iY wh sets d pl ts = .inl (x,r,pl1)→Dep (3*d+4) x
 | 0,_,_,_,_,_,hz,h=>x6 (k:=0) oV (fun f hf=>by cases hf) hz h
 | d+1,_,_,_,_,_,hz,h=>x6 (k:=3*d+3) sG (fun f hf pl ts x r pl1 hz h=>by cases hf;exact oA hz h) hz h
def U5(l:RL):Prop:=∀x∈l,Dep 1000 x.2.1∧Dep 1000 x.2.2
theorem Q3{s s1:PS}{w n r}(hz:r.size≤10000)(hl:U5 s.list)(h:lR s w n r = .inl s1):U5 s1.list:=by
 unfold lR at h
 split at h
 ·split at h
  ·cases h
  ·cases h;exact hl
 ·split at h
  ·split at h
   ·cases h
   ·cases h;exact hl
  ·split at h
   ·split at h
    ·cases h
    ·cases h;exact hl
   ·split at h
    ·split at h
     ·cases h
     ·cases h;exact hl
    ·split at h
     ·cases h
     ·split at h
      ·cases h
      ·rename_i h1
       cases h
       unfold nL at h1
       split at h1
       ·cases h1
       ·split at h1
        ·cases h1
        ·rename_i h2
         split at h1
         ·cases h1
         ·rename_i h3
          split at h1
          ·cases h1
          ·rename_i h4
           split at h1
           ·cases h1
           ·cases h1
            have:=dL h2
            have:=cK h3
            intro y hy
            rcases List.mem_append.mp hy with h6 | h6
            ·exact hl y h6
            ·cases List.mem_singleton.mp h6
             exact⟨(oA hz h2).le (by omega),(oA (by omega) h4).le (by omega)⟩
theorem E6:∀ {f:Nat} {s s1:PS},s.ts.size≤10000→U5 s.list→xI f s = .inl s1→U5 s1.list
 | 0,s,s1,hz,hl,h=>by cases h;exact hl
 | f+1,s,s1,hz,hl,h=>by
  simp only[xI]at h
  cases hts:s.ts with
  | bad n=>rw[hts]at h;cases h
  | eof n=>rw[hts]at h;cases h;exact hl
  | sg c n r=>rw[hts]at h;cases h
  | wd w n r =>
   rw[hts]at h hz
   simp only[Toks.size]at h hz
   cases hls:lR s w n r with
   | inr e=>rw[hls]at h;cases h
   | inl s2 =>
    rw[hls]at h
    have:=qN hls
    exact E6 (by omega) (Q3 (by omega) hl hls) h
theorem G1{t:List UInt8}{x}(h:qJ t = .inl x):x.1.length≤24∧x.2.2.2.1.length=x.1.length∧x.2.2.2.2.length≤24∧U5 x.2.2.2.2:=by
 unfold qJ at h
 split at h
 ·cases h
 ·rename_i hl
  split at h
  ·cases h
  ·rename_i s hs
   cases h
   have hz:=qK (t:=t) _ 0 (Nat.le_refl _) (by omega)
   have hp:=yW (t:=t) (by omega) (t.length+1) (J8 (T t 0)) 0 (at0 t) (by show(T t 0).size<_;omega) (aBh _)
   rw[hs]at hp
   obtain⟨_,_,_,_,h4⟩:=hp
   exact⟨h4.hc,h4.htr,h4.hl,E6 (by show(T t 0).size≤_;omega) (fun x hx=>by cases hx) hs⟩
theorem V9(t:List UInt8):rU t=some true:=by
 unfold rU
 rw[aA2,aA3]
 simp only[Option.bind_some,BEq.rfl,if_true]
 cases hp:qJ t with
 | inr e =>
  simp only[yY]
  rw[u6 [] 0 0 [] [] (by simp) (by simp) (by simp) (fun x hx=>by cases hx)]
  rfl
 | inl x =>
  obtain⟨h1,h2,h3,h4⟩:=G1 hp
  simp only[yY]
  rw[u6 x.1 x.2.1 x.2.2.1 x.2.2.2.1 x.2.2.2.2 h1 (by omega) h3 h4]
  rfl
end Go.Proofs.Ytjfjigknkhgkdaa.T
